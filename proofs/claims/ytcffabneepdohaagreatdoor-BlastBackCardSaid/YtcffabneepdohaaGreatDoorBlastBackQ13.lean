import Derived.Test.YtcffabneepdohaaGreatDoorBlastBackQ7
import Derived.Test.YtcffabneepdohaaGreatDoorBlastBackQ12
set_option linter.all false
namespace Go.Aev.Gen
open Go Go.Aev Go.IntKind
def pB(s:Int):Bool:=s==1
def pN(s:Int):Bool:=s==2 || s==3
def pI(s:Int):Bool:=s==2
theorem UO(n:Int):Or (.call 98) [I n] []=some [tb (pB n)]:=by refine ai ?_;rw [PA];rfl
theorem Ts(n:Int):Or (.call 114) [I n,AV.t (T.ptr [T.cV 98])] []=some [tb (!pB n)]:=by have k:=UO n;refine ai ?_;rw [Nz];simp only [ao,k]
theorem R7{e:Bool}{l:List Int}(hl:l.length<=1000):∀(r:List Int) (i:Nat),l.drop i=r->
  ∃z:Int,Or fK [aa e l,AV.fn 114 [] [AV.t (T.ptr [T.cV 98])],I (l.length:Int),I (i:Int)] []=some [ti z]/\decide (z>=0)= !r.all pB:=by
 intro r;induction r with
 | nil=>
  intro i g;have a:¬(i:Int) < (l.length:Int):=by have:=bu g;omega
  refine⟨-1,ai ?_,by simp⟩;rw [BM];simp only [ao,↓reduceIte,a]
 | cons d r f=>
  intro i g;obtain⟨g1,m,c⟩:=bt g;have a:(i:Int) < (l.length:Int):=by omega
  have h0: 0<=(i:Int):=by omega
  have k:=Ts d;cases b:pB d with
  | false=>rw [b] at k;refine⟨(i:Int),ai ?_,by simp [b]⟩;rw [BM];simp only [ao,↓reduceIte,a,h0,and_self,aE,bR g1,k]
  | true=>rw [b] at k;obtain⟨z,h,j⟩:=f (i+1) c;refine⟨z,ai ?_,by rw [j];simp [b]⟩;rw [BM];simp only [ao,↓reduceIte,a,h0,and_self,aE,bR g1,k,next i (by omega)];exact h
theorem Ae{e:Bool}{l:List Int}(hl:l.length<=1000):Or (.call 97) [aa e l,AV.fn 98 [] []] []=some [tb (l.all pB)]:=by
 obtain⟨z,c,f⟩:=R7 (e:=e) hl l 0 rfl;have b:Or (.call 74) [aa e l,AV.fn 114 [] [AV.t (T.ptr [T.cV 98])]] []=some [ti z]:=by refine ai ?_;rw [Ph];simp only [aE];exact c
 have a:Or (.call 31) [aa e l,AV.fn 114 [] [AV.t (T.ptr [T.cV 98])]] []=some [tb (!l.all pB)]:=by refine ai ?_;rw [N4];simp only [ao,b,f]
 refine ai ?_;rw [Px];simp only [ao,a,aai]
theorem KA(n:Int):Or (.call 99) [I n] []=some [tb (pN n)]:=by refine ai ?_;rw [PB];unfold pN;cases h:n==2 <;> simp
theorem Tt(n:Int):Or (.call 114) [I n,AV.t (T.ptr [T.cV 99])] []=some [tb (!pN n)]:=by have k:=KA n;refine ai ?_;rw [NA];simp only [ao,k]
theorem R8{e:Bool}{l:List Int}(hl:l.length<=1000):∀(r:List Int) (i:Nat),l.drop i=r->
  ∃z:Int,Or fK [aa e l,AV.fn 114 [] [AV.t (T.ptr [T.cV 99])],I (l.length:Int),I (i:Int)] []=some [ti z]/\decide (z>=0)= !r.all pN:=by
 intro r;induction r with
 | nil=>
  intro i g;have a:¬(i:Int) < (l.length:Int):=by have:=bu g;omega
  refine⟨-1,ai ?_,by simp⟩;rw [BN];simp only [ao,↓reduceIte,a]
 | cons d r f=>
  intro i g;obtain⟨g1,m,c⟩:=bt g;have a:(i:Int) < (l.length:Int):=by omega
  have h0: 0<=(i:Int):=by omega
  have k:=Tt d;cases b:pN d with
  | false=>rw [b] at k;refine⟨(i:Int),ai ?_,by simp [b]⟩;rw [BN];simp only [ao,↓reduceIte,a,h0,and_self,aE,bR g1,k]
  | true=>rw [b] at k;obtain⟨z,h,j⟩:=f (i+1) c;refine⟨z,ai ?_,by rw [j];simp [b]⟩;rw [BN];simp only [ao,↓reduceIte,a,h0,and_self,aE,bR g1,k,next i (by omega)];exact h
theorem Af{e:Bool}{l:List Int}(hl:l.length<=1000):Or (.call 97) [aa e l,AV.fn 99 [] []] []=some [tb (l.all pN)]:=by
 obtain⟨z,c,f⟩:=R8 (e:=e) hl l 0 rfl;have b:Or (.call 74) [aa e l,AV.fn 114 [] [AV.t (T.ptr [T.cV 99])]] []=some [ti z]:=by refine ai ?_;rw [Pj];simp only [aE];exact c
 have a:Or (.call 31) [aa e l,AV.fn 114 [] [AV.t (T.ptr [T.cV 99])]] []=some [tb (!l.all pN)]:=by refine ai ?_;rw [N5];simp only [ao,b,f]
 refine ai ?_;rw [Py];simp only [ao,a,aai]
theorem To(n:Int):Or (.call 101) [I n] []=some [tb (pI n)]:=by refine ai ?_;rw [Nw];rfl
theorem Tq(n:Int):Or (.call 114) [I n,AV.t (T.ptr [T.cV 101])] []=some [tb (!pI n)]:=by have k:=To n;refine ai ?_;rw [NB];simp only [ao,k]
theorem R6{e:Bool}{l:List Int}(hl:l.length<=1000):∀(r:List Int) (i:Nat),l.drop i=r->
  ∃z:Int,Or fK [aa e l,AV.fn 114 [] [AV.t (T.ptr [T.cV 101])],I (l.length:Int),I (i:Int)] []=some [ti z]/\decide (z>=0)= !r.all pI:=by
 intro r;induction r with
 | nil=>
  intro i g;have a:¬(i:Int) < (l.length:Int):=by have:=bu g;omega
  refine⟨-1,ai ?_,by simp⟩;rw [BK];simp only [ao,↓reduceIte,a]
 | cons d r f=>
  intro i g;obtain⟨g1,m,c⟩:=bt g;have a:(i:Int) < (l.length:Int):=by omega
  have h0: 0<=(i:Int):=by omega
  have k:=Tq d;cases b:pI d with
  | false=>rw [b] at k;refine⟨(i:Int),ai ?_,by simp [b]⟩;rw [BK];simp only [ao,↓reduceIte,a,h0,and_self,aE,bR g1,k]
  | true=>rw [b] at k;obtain⟨z,h,j⟩:=f (i+1) c;refine⟨z,ai ?_,by rw [j];simp [b]⟩;rw [BK];simp only [ao,↓reduceIte,a,h0,and_self,aE,bR g1,k,next i (by omega)];exact h
theorem UN{e:Bool}{l:List Int}(hl:l.length<=1000):Or (.call 97) [aa e l,AV.fn 101 [] []] []=some [tb (l.all pI)]:=by
 obtain⟨z,c,f⟩:=R6 (e:=e) hl l 0 rfl;have b:Or (.call 74) [aa e l,AV.fn 114 [] [AV.t (T.ptr [T.cV 101])]] []=some [ti z]:=by refine ai ?_;rw [Pg];simp only [aE];exact c
 have a:Or (.call 31) [aa e l,AV.fn 114 [] [AV.t (T.ptr [T.cV 101])]] []=some [tb (!l.all pI)]:=by refine ai ?_;rw [N3];simp only [ao,b,f]
 refine ai ?_;rw [Pz];simp only [ao,a,aai]
theorem RI{e e':Bool}{a b:List Int}(u:a.length=b.length)(hl:a.length<=1000):∀(g c:List Int) (i:Nat),a.drop i=g->b.drop i=c->Or xH [aa e a,aa e' b,I (a.length:Int),I (i:Int)] []=some [tb (decide (g=c))]:=by
 intro g;induction g with
 | nil=>
  intro c i l h;have j:¬(i:Int) < (a.length:Int):=by have:=bu l;omega
  have:c= []:=by rw [<-h];exact Y7 (by omega)
  subst this;refine ai ?_;rw [Bw];simp only [ao,↓reduceIte,j,decide_true]
 | cons x g t=>
  intro c i l h;obtain⟨g1,v,q⟩:=bt l;cases c with
  | nil=>exact absurd (bu h) (by omega)
  | cons y c=>
   obtain⟨m,w,r⟩:=bt h;have j:(i:Int) < (a.length:Int):=by omega
   have o:(i:Int) < (b.length:Int):=by omega
   have h0: 0<=(i:Int):=by omega
   by_cases f:x=y
   .have s:=t c (i+1) q r;have k:decide (x::g=y::c)=decide (g=c):=by simp [f]
    rw [k];refine ai ?_;rw [Bw];simp only [ao,↓reduceIte,j,o,h0,and_self,aE,bR g1,bR m,f,next i (by omega)];exact s
   .have k:decide (x::g=y::c)=false:=by simp [f]
    have p:(x==y)=false:=by simpa using f
    rw [k];refine ai ?_;rw [Bw];simp only [ao,↓reduceIte,j,o,h0,and_self,aE,bR g1,bR m,f]
theorem z6{e e':Bool}{a b:List Int}(hl:a.length<=1000):Or (.call 59) [aa e a,aa e' b] []=some [tb (decide (a=b))]:=by
 by_cases c:a.length=b.length
 .have i:=RI (e:=e) (e':=e') c hl a b 0 rfl rfl;have h:(a.length:Int)= (b.length:Int):=by omega
  refine ai ?_;rw [Gl];simp only [ao,aE,h];rw [<-h];exact i
 .have h:¬(a.length:Int)= (b.length:Int):=by omega
  have g:((a.length:Int)== (b.length:Int))=false:=by simpa using h
  have f:decide (a=b)=false:=by rw [decide_eq_false_iff_not];rintro rfl;exact c rfl
  rw [f];refine ai ?_;rw [Gl];simp only [ao,aE,g]
theorem Dx{e e':Bool}{l da:List Int}(hl:l.length<=1000):Or (.call 96) [aa e da,AV.t (T.ptr [T.aa 1 e' (enc l)])] []=some [tb (decide (l=da))]:=by have k:=z6 (e:=e') (e':=e) (b:=da) hl;refine ai ?_;rw [Pw];simp only [ao,k]
theorem ph(b:Bool):Or (.call 100) [B b] []=some [ti (if b then 2 else 3)]:=by refine ai ?_;rw [PC];cases b <;> rfl
def be(op d:Int)(l da:List Int)(so:Int):Int:=
 if op=1\/op=2 then 1
 else if op=3\/op=4\/op=5\/op=6 then(if l.all pB then 1 else 0)
 else if op=7 then(if l.getD 0 0=1/\l.getD 1 0=l.getD 2 0/\l.getD 1 0≠5 then l.getD 1 0 else 0)
 else if op=8 then(if l.all pN=true\/(l.getD 0 0=l.getD 1 0/\(l.getD 0 0=4\/aG (l.getD 0 0)=true)) then 1 else 0)
 else if op=9 then(if l=da then so else 0)
 else if op=10 then(if d=1 then 2 else 3)
 else if op=11 then(if l.all pN then(if l.all pI then 2 else 3) else 0)
 else if op=12 then(if pN (l.getD 0 0) then(if l.getD 0 0=2/\d=1 then 2 else 3) else 0)
 else if op=13\/op=14 then(if l.all pN then 1 else 0)
 else if op=15 then 10+d
 else if op=16\/op=23 then(if aG (l.getD 0 0) then l.getD 0 0 else 0)
 else if op=22 then(if l.getD 0 0=l.getD 1 0/\aG (l.getD 0 0)=true then 1 else 0)
 else if op=24 then(if l= [5,4] then 4 else 0)
 else if op=25 then(if l= [5,4,4] then 5 else 0)
 else(if l.getD 0 0=l.getD 1 0/\aG (l.getD 0 0)=true then l.getD 0 0 else 0)
abbrev SA(op:Int)(ek:Bool)(ks:List (List T))(n d:Int)(nm:ByteArray)(es:Bool)(l:List Int)(dn:ByteArray)(ea:Bool)(da:List Int)(so:Int):List AV:=
 [AV.agg [I op,AV.t (T.aa 1 ek ks),I n,I d,AV.t (T.str nm)],aa es l,AV.agg [AV.t (T.str dn),aa ea da,I so]]
section
variable {ek:Bool} {ks:List (List T)} {n d:Int} {nm:ByteArray} {es:Bool} {dn:ByteArray} {ea:Bool} {da:List Int} {so:Int}
theorem ct:(0:Int)<=0/\(0:Int) < 2:=by decide
theorem cv:(0:Int)<=1/\(1:Int) < 2:=by decide
theorem cr:(0:Int)<=0/\(0:Int) < 1:=by decide
theorem cu:(0:Int)<=0/\(0:Int) < 3:=by decide
theorem cw:(0:Int)<=1/\(1:Int) < 3:=by decide
theorem bK:(0:Int)<=2/\(2:Int) < 3:=by decide
theorem L0:((([]:List Int).length:Nat):Int)=0:=rfl
theorem L1(a:Int):((([a]:List Int).length:Nat):Int)=1:=rfl
theorem L2(a b:Int):((([a,b]:List Int).length:Nat):Int)=2:=rfl
theorem L3(a b c:Int):((([a,b,c]:List Int).length:Nat):Int)=3:=rfl
theorem E1(a:Int):(enc [a])[0]? =some [ti a]:=rfl
theorem cf(a b:Int):(enc [a,b])[0]? =some [ti a]:=rfl
theorem cg(a b:Int):(enc [a,b])[1]? =some [ti b]:=rfl
theorem cj(a b c:Int):(enc [a,b,c])[0]? =some [ti a]:=rfl
theorem cm(a b c:Int):(enc [a,b,c])[1]? =some [ti b]:=rfl
theorem cn(a b c:Int):(enc [a,b,c])[2]? =some [ti c]:=rfl
theorem Uf:Or (.call 73) (SA 1 ek ks n d nm es [] dn ea da so) []=some [ti (be 1 d [] da so)]:=by refine ai ?_;rw [OP];simp only [bI,Int.reduceBEq,aE,L0,cu,cw];rfl
theorem Ur:Or (.call 73) (SA 2 ek ks n d nm es [] dn ea da so) []=some [ti (be 2 d [] da so)]:=by refine ai ?_;rw [OX];simp only [bI,Int.reduceBEq,aE,L0,cu,cw];rfl
theorem Uy{l:List Int}(hl:l.length<=1000):Or (.call 73) (SA 3 ek ks n d nm es l dn ea da so) []=some [ti (be 3 d l da so)]:=by
 have k:=Ae (e:=es) hl;unfold be;by_cases f:l.length=2
 .obtain⟨a,b,rfl⟩:∃a b,l= [a,b]:=by
   match l,f with
   | [a,b],_=>exact⟨a,b,rfl⟩
  cases c:List.all [a,b] pB <;> rw [c] at k <;>
  .refine ai ?_;rw [GJ];simp only [ao,↓reduceIte,Int.reduceEq,aE,L2,cf,cg,ct,cv,cu,cw,and_self,k];rfl
 .have g:((l.length:Int)==2)=false:=by simp;omega
  have h:¬(l.length:Int)=2:=by omega
  cases c:l.all pB <;> rw [c] at k <;>
  .refine ai ?_;rw [GJ];simp only [bI,ao,↓reduceIte,Int.reduceEq,aE,cu,cw,g,k];rfl
theorem Uz{l:List Int}(hl:l.length<=1000):Or (.call 73) (SA 4 ek ks n d nm es l dn ea da so) []=some [ti (be 4 d l da so)]:=by
 have k:=Ae (e:=es) hl;unfold be;by_cases f:l.length=2
 .obtain⟨a,b,rfl⟩:∃a b,l= [a,b]:=by
   match l,f with
   | [a,b],_=>exact⟨a,b,rfl⟩
  cases c:List.all [a,b] pB <;> rw [c] at k <;>
  .refine ai ?_;rw [GL];simp only [ao,↓reduceIte,Int.reduceEq,aE,L2,cf,cg,ct,cv,cu,cw,and_self,k];rfl
 .have g:((l.length:Int)==2)=false:=by simp;omega
  have h:¬(l.length:Int)=2:=by omega
  cases c:l.all pB <;> rw [c] at k <;>
  .refine ai ?_;rw [GL];simp only [bI,ao,↓reduceIte,Int.reduceEq,aE,cu,cw,g,k];rfl
theorem UA{l:List Int}(hl:l.length<=1000):Or (.call 73) (SA 5 ek ks n d nm es l dn ea da so) []=some [ti (be 5 d l da so)]:=by
 have k:=Ae (e:=es) hl;unfold be;by_cases f:l.length=2
 .obtain⟨a,b,rfl⟩:∃a b,l= [a,b]:=by
   match l,f with
   | [a,b],_=>exact⟨a,b,rfl⟩
  cases c:List.all [a,b] pB <;> rw [c] at k <;>
  .refine ai ?_;rw [GM];simp only [ao,↓reduceIte,Int.reduceEq,aE,L2,cf,cg,ct,cv,cu,cw,and_self,k];rfl
 .have g:((l.length:Int)==2)=false:=by simp;omega
  have h:¬(l.length:Int)=2:=by omega
  cases c:l.all pB <;> rw [c] at k <;>
  .refine ai ?_;rw [GM];simp only [bI,ao,↓reduceIte,Int.reduceEq,aE,cu,cw,g,k];rfl
theorem UB{l:List Int}(hl:l.length<=1000):Or (.call 73) (SA 6 ek ks n d nm es l dn ea da so) []=some [ti (be 6 d l da so)]:=by
 have k:=Ae (e:=es) hl;unfold be;by_cases f:l.length=2
 .obtain⟨a,b,rfl⟩:∃a b,l= [a,b]:=by
   match l,f with
   | [a,b],_=>exact⟨a,b,rfl⟩
  cases c:List.all [a,b] pB <;> rw [c] at k <;>
  .refine ai ?_;rw [GN];simp only [ao,↓reduceIte,Int.reduceEq,aE,L2,cf,cg,ct,cv,cu,cw,and_self,k];rfl
 .have g:((l.length:Int)==2)=false:=by simp;omega
  have h:¬(l.length:Int)=2:=by omega
  cases c:l.all pB <;> rw [c] at k <;>
  .refine ai ?_;rw [GN];simp only [bI,ao,↓reduceIte,Int.reduceEq,aE,cu,cw,g,k];rfl
theorem Uj{l:List Int}(hl:l.length<=1000):Or (.call 73) (SA 13 ek ks n d nm es l dn ea da so) []=some [ti (be 13 d l da so)]:=by
 have k:=Af (e:=es) hl;unfold be;by_cases f:l.length=2
 .obtain⟨a,b,rfl⟩:∃a b,l= [a,b]:=by
   match l,f with
   | [a,b],_=>exact⟨a,b,rfl⟩
  cases c:List.all [a,b] pN <;> rw [c] at k <;>
  .refine ai ?_;rw [GF];simp only [ao,↓reduceIte,Int.reduceEq,aE,L2,cf,cg,ct,cv,cu,cw,and_self,k];rfl
 .have g:((l.length:Int)==2)=false:=by simp;omega
  have h:¬(l.length:Int)=2:=by omega
  cases c:l.all pN <;> rw [c] at k <;>
  .refine ai ?_;rw [GF];simp only [bI,ao,↓reduceIte,Int.reduceEq,aE,cu,cw,g,k];rfl
theorem Uk{l:List Int}(hl:l.length<=1000):Or (.call 73) (SA 14 ek ks n d nm es l dn ea da so) []=some [ti (be 14 d l da so)]:=by
 have k:=Af (e:=es) hl;unfold be;by_cases f:l.length=2
 .obtain⟨a,b,rfl⟩:∃a b,l= [a,b]:=by
   match l,f with
   | [a,b],_=>exact⟨a,b,rfl⟩
  cases c:List.all [a,b] pN <;> rw [c] at k <;>
  .refine ai ?_;rw [GG];simp only [ao,↓reduceIte,Int.reduceEq,aE,L2,cf,cg,ct,cv,cu,cw,and_self,k];rfl
 .have g:((l.length:Int)==2)=false:=by simp;omega
  have h:¬(l.length:Int)=2:=by omega
  cases c:l.all pN <;> rw [c] at k <;>
  .refine ai ?_;rw [GG];simp only [bI,ao,↓reduceIte,Int.reduceEq,aE,cu,cw,g,k];rfl
theorem Uh{l:List Int}(hl:l.length<=1000):Or (.call 73) (SA 11 ek ks n d nm es l dn ea da so) []=some [ti (be 11 d l da so)]:=by
 have k:=Af (e:=es) hl;have f:=UN (e:=es) hl;have k9:=ph (l.all pI);unfold be;by_cases g:l.length=2
 .obtain⟨a,b,rfl⟩:∃a b,l= [a,b]:=by
   match l,g with
   | [a,b],_=>exact⟨a,b,rfl⟩
  cases c:List.all [a,b] pN <;> rw [c] at k <;>
  .refine ai ?_;rw [GD];simp only [ao,↓reduceIte,Int.reduceEq,aE,L2,cf,cg,ct,cv,cu,cw,and_self,k,f,k9];rfl
 .have h:((l.length:Int)==2)=false:=by simp;omega
  have i:¬(l.length:Int)=2:=by omega
  cases c:l.all pN <;> rw [c] at k <;>
  .refine ai ?_;rw [GD];simp only [bI,ao,↓reduceIte,Int.reduceEq,aE,cu,cw,h,k,f,k9];rfl
theorem UC{a b c:Int}:Or (.call 73) (SA 7 ek ks n d nm es [a,b,c] dn ea da so) []=some [ti (be 7 d [a,b,c] da so)]:=by
 have e:be 7 d [a,b,c] da so=if a=1/\b=c/\b≠5 then b else 0:=rfl;rw [e];refine ai ?_;rw [O7];by_cases g:a=1
 .have k:(a==1)=true:=by simpa using g
  by_cases i:b=c
  .have l:(b==c)=true:=by simpa using i
   by_cases j:b=5
   .have f:(b==5)=true:=by simpa using j
    refine Zx (b:=some [ti 0]) ?_ (by rw [if_neg (λh=>h.2.2 j)]);simp only [bI,aI,aL,aP,aS,jb,ja,↓reduceIte,Int.reduceBEq,aE,L3,cj,cm,cn,cu,cw,bK,and_self,k,l,f]
   .have f:(b==5)=false:=by simpa using j
    refine Zx (b:=some [ti b]) ?_ (by rw [if_pos ⟨g,i,j⟩]);simp only [bI,aI,aL,aP,aS,aV,jb,ja,↓reduceIte,Int.reduceBEq,aE,L3,cj,cm,cn,cu,cw,bK,and_self,k,l,f]
  .have f:(b==c)=false:=by simpa using i
   refine Zx (b:=some [ti 0]) ?_ (by rw [if_neg (λh=>i h.2.1)]);simp only [bI,aI,aL,aP,aS,aV,ja,↓reduceIte,Int.reduceBEq,aE,L3,cj,cm,cn,cu,cw,bK,and_self,k,f]
 .have f:(a==1)=false:=by simpa using g
  refine Zx (b:=some [ti 0]) ?_ (by rw [if_neg (λh=>g h.1)]);simp only [bI,aI,aL,aP,aS,aV,ja,↓reduceIte,Int.reduceBEq,aE,L3,cj,cm,cn,cu,cw,bK,and_self,f]
theorem UD{a b:Int}:Or (.call 73) (SA 8 ek ks n d nm es [a,b] dn ea da so) []=some [ti (be 8 d [a,b] da so)]:=by
 have k:=Af (e:=es) (l:= [a,b]) (by simp);have f:=iB a;have e:be 8 d [a,b] da so=if List.all [a,b] pN=true\/(a=b/\(a=4\/aG a=true)) then 1 else 0:=rfl;rw [e];refine ai ?_;rw [O8];cases m:List.all [a,b] pN with
 | true=>rw [m] at k;simp only [bI,ao,↓reduceIte,aE,L2,cf,cg,ct,cv,cu,cw,and_self,k,true_or]
 | false=>
  rw [m] at k;by_cases c:a=b
  .have g:(a==b)=true:=by simpa using c
   by_cases i:a=4
   .have j:(a==4)=true:=by simpa using i
    refine Zx (b:=some [ti 1]) ?_ (by rw [if_pos (.inr ⟨c, .inl i⟩)]);simp only [bI,aI,aL,bA,aP,aS,aV,jb,ja,fL,↓reduceIte,Int.reduceBEq,aE,L2,cf,cg,ct,cv,cu,cw,and_self,k,g,j]
   .have j:(a==4)=false:=by simpa using i
    cases o:aG a <;> rw [o] at f
    .refine Zx (b:=some [ti 0]) ?_ (by rw [if_neg (by rintro(h | ⟨_,h | h⟩);cases h;exact i h;cases h)]);simp only [aI,aL,bA,aP,aS,aV,ja,fy,↓reduceIte,Int.reduceBEq,aE,L2,cf,cg,ct,cv,cu,cw,and_self,k,g,j,f]
    .refine Zx (b:=some [ti 1]) ?_ (by rw [if_pos (.inr ⟨c, .inr rfl⟩)]);simp only [aI,aL,bA,aP,aS,aV,jb,ja,fy,↓reduceIte,Int.reduceBEq,aE,L2,cf,cg,ct,cv,cu,cw,and_self,k,g,j,f]
  .have g:(a==b)=false:=by simpa using c
   refine Zx (b:=some [ti 0]) ?_ (by rw [if_neg (by rintro(h | ⟨h,_⟩);cases h;exact c h)]);simp only [bI,aI,aL,bA,aP,aS,aV,ja,fL,↓reduceIte,Int.reduceBEq,aE,L2,cf,cg,ct,cv,cu,cw,and_self,k,g]
theorem UE{l:List Int}(hl:l.length<=1000):Or (.call 73) (SA 9 ek ks n d nm es l dn ea da so) []=some [ti (be 9 d l da so)]:=by
 have k:=Dx (e:=ea) (e':=es) (da:=da) hl;have e:be 9 d l da so=if l=da then so else 0:=rfl;rw [e];by_cases h:l.length=2
 .obtain⟨a,b,rfl⟩:∃a b,l= [a,b]:=by
   match l,h with
   | [a,b],_=>exact⟨a,b,rfl⟩
  by_cases c: [a,b]=da
  .rw [decide_eq_true c] at k;rw [if_pos c];refine ai ?_;rw [yD];simp only [ao,↓reduceIte,aE,L2,cf,cg,ct,cv,cu,cw,and_self,k]
  .rw [decide_eq_false c] at k;rw [if_neg c];refine ai ?_;rw [yD];simp only [ao,↓reduceIte,aE,L2,cf,cg,ct,cv,cu,cw,and_self,k]
 .have f:((l.length:Int)==2)=false:=by simp;omega
  have g:¬(l.length:Int)=2:=by omega
  by_cases c:l=da
  .rw [decide_eq_true c] at k;rw [if_pos c];refine ai ?_;rw [yD];simp only [bI,ao,aE,cu,cw,f,k]
  .rw [decide_eq_false c] at k;rw [if_neg c];refine ai ?_;rw [yD];simp only [bI,ao,aE,cu,cw,f,k]
theorem Ug:Or (.call 73) (SA 10 ek ks n d nm es [] dn ea da so) []=some [ti (be 10 d [] da so)]:=by have e:be 10 d [] da so=if d=1 then 2 else 3:=rfl;have k:=ph (d==1);rw [e];refine ai ?_;rw [OQ];simp only [bI,ao,Int.reduceBEq,aE,L0,cu,cw,k];by_cases h:d=1 <;> simp [h]
theorem Ui{a:Int}:Or (.call 73) (SA 12 ek ks n d nm es [a] dn ea da so) []=some [ti (be 12 d [a] da so)]:=by
 have e:be 12 d [a] da so=if pN a then(if a=2/\d=1 then 2 else 3) else 0:=rfl;have k:=KA a;have k9:=ph (bif a==2 then d==1 else false);rw [e];refine ai ?_;rw [OR];cases i:pN a <;> rw [i] at k
 .cases g:(bif a==2 then d==1 else false) <;> rw [g] at k9 <;> simp only [bI,aI,aL,bA,aP,aS,ja,↓reduceIte,Int.reduceBEq,aE,L1,E1,cr,cu,cw,and_self,k,k9,g] <;> rfl
 .by_cases c:a=2
  .have b:(a==2)=true:=by simpa using c
   rw [b] at k9;by_cases f:d=1
   .have x2:(d==1)=true:=by simpa using f
    rw [x2] at k9;rw [show(if(true:Bool)=true then(if a=2/\d=1 then(2:Int) else 3) else 0)=2 from by rw [if_pos rfl,if_pos ⟨c,f⟩]];simp only [bI,aI,aL,bA,aP,aS,aV,jb,↓reduceIte,Int.reduceBEq,aE,L1,E1,cr,cu,cw,and_self,k,ph true,b,x2]
    try rfl
   .have x2:(d==1)=false:=by simpa using f
    rw [x2] at k9;rw [show(if(true:Bool)=true then(if a=2/\d=1 then(2:Int) else 3) else 0)=3 from by rw [if_pos rfl,if_neg (λh=>f h.2)]];simp only [bI,aI,aL,bA,aP,aS,aV,jb,↓reduceIte,Int.reduceBEq,aE,L1,E1,cr,cu,cw,and_self,k,ph false,b,x2]
    try rfl
  .have b:(a==2)=false:=by simpa using c
   rw [b] at k9;rw [show(if(true:Bool)=true then(if a=2/\d=1 then(2:Int) else 3) else 0)=3 from by rw [if_pos rfl,if_neg (λh=>c h.1)]];simp only [bI,aI,aL,bA,aP,aV,jb,↓reduceIte,Int.reduceBEq,aE,L1,E1,cr,cu,cw,and_self,k,ph false,b]
   try rfl
theorem Ul(a: 0<=d/\d<=1000):Or (.call 73) (SA 15 ek ks n d nm es [] dn ea da so) []=some [ti (be 15 d [] da so)]:=by have e:be 15 d [] da so=10+d:=rfl;have w:i64.wrap (10+d)=10+d:=wr (by omega);rw [e];refine ai ?_;rw [OS];simp only [bI,Int.reduceBEq,aE,L0,cu,cw,w]
theorem Um{a:Int}:Or (.call 73) (SA 16 ek ks n d nm es [a] dn ea da so) []=some [ti (be 16 d [a] da so)]:=by have e:be 16 d [a] da so=if aG a then a else 0:=rfl;have k:=iB a;rw [e];refine ai ?_;rw [OT];cases b:aG a <;> rw [b] at k <;> simp only [bI,ao,↓reduceIte,Int.reduceBEq,aE,L1,E1,cr,cu,cw,and_self,k] <;> rfl
theorem Uv{a:Int}:Or (.call 73) (SA 23 ek ks n d nm es [a] dn ea da so) []=some [ti (be 23 d [a] da so)]:=by have e:be 23 d [a] da so=if aG a then a else 0:=rfl;have k:=iB a;rw [e];refine ai ?_;rw [O6];cases b:aG a <;> rw [b] at k <;> simp only [bI,ao,↓reduceIte,Int.reduceBEq,aE,L1,E1,cr,cu,cw,and_self,k] <;> rfl
theorem Un{a b:Int}:Or (.call 73) (SA 17 ek ks n d nm es [a,b] dn ea da so) []=some [ti (be 17 d [a,b] da so)]:=by
 have e:be 17 d [a,b] da so=if a=b/\aG a=true then a else 0:=rfl;have k:=iB a;rw [e];refine ai ?_;rw [OU];by_cases h:a=b
 .have y:(a==b)=true:=by simpa using h
  cases c:aG a <;> rw [c] at k
  .simp only [ao,↓reduceIte,aE,L2,cf,cg,ct,cv,cu,cw,and_self,y,k];simp [h]
   try (subst h;simp [c])
  .simp only [ao,↓reduceIte,aE,L2,cf,cg,ct,cv,cu,cw,and_self,y,k];simp [h]
   try (subst h;simp [c])
 .have y:(a==b)=false:=by simpa using h
  simp only [bI,ao,↓reduceIte,aE,L2,cf,cg,ct,cv,cu,cw,and_self,y];simp [h]
theorem Uo{a b:Int}:Or (.call 73) (SA 18 ek ks n d nm es [a,b] dn ea da so) []=some [ti (be 18 d [a,b] da so)]:=by
 have e:be 18 d [a,b] da so=if a=b/\aG a=true then a else 0:=rfl;have k:=iB a;rw [e];refine ai ?_;rw [OV];by_cases h:a=b
 .have y:(a==b)=true:=by simpa using h
  cases c:aG a <;> rw [c] at k
  .simp only [ao,↓reduceIte,aE,L2,cf,cg,ct,cv,cu,cw,and_self,y,k];simp [h]
   try (subst h;simp [c])
  .simp only [ao,↓reduceIte,aE,L2,cf,cg,ct,cv,cu,cw,and_self,y,k];simp [h]
   try (subst h;simp [c])
 .have y:(a==b)=false:=by simpa using h
  simp only [bI,ao,↓reduceIte,aE,L2,cf,cg,ct,cv,cu,cw,and_self,y];simp [h]
theorem Uq{a b:Int}:Or (.call 73) (SA 19 ek ks n d nm es [a,b] dn ea da so) []=some [ti (be 19 d [a,b] da so)]:=by
 have e:be 19 d [a,b] da so=if a=b/\aG a=true then a else 0:=rfl;have k:=iB a;rw [e];refine ai ?_;rw [OW];by_cases h:a=b
 .have y:(a==b)=true:=by simpa using h
  cases c:aG a <;> rw [c] at k
  .simp only [ao,↓reduceIte,aE,L2,cf,cg,ct,cv,cu,cw,and_self,y,k];simp [h]
   try (subst h;simp [c])
  .simp only [ao,↓reduceIte,aE,L2,cf,cg,ct,cv,cu,cw,and_self,y,k];simp [h]
   try (subst h;simp [c])
 .have y:(a==b)=false:=by simpa using h
  simp only [bI,ao,↓reduceIte,aE,L2,cf,cg,ct,cv,cu,cw,and_self,y];simp [h]
theorem Us{a b:Int}:Or (.call 73) (SA 20 ek ks n d nm es [a,b] dn ea da so) []=some [ti (be 20 d [a,b] da so)]:=by
 have e:be 20 d [a,b] da so=if a=b/\aG a=true then a else 0:=rfl;have k:=iB a;rw [e];refine ai ?_;rw [OY];by_cases h:a=b
 .have y:(a==b)=true:=by simpa using h
  cases c:aG a <;> rw [c] at k
  .simp only [ao,↓reduceIte,aE,L2,cf,cg,ct,cv,cu,cw,and_self,y,k];simp [h]
   try (subst h;simp [c])
  .simp only [ao,↓reduceIte,aE,L2,cf,cg,ct,cv,cu,cw,and_self,y,k];simp [h]
   try (subst h;simp [c])
 .have y:(a==b)=false:=by simpa using h
  simp only [bI,ao,↓reduceIte,aE,L2,cf,cg,ct,cv,cu,cw,and_self,y];simp [h]
theorem Ut{a b:Int}:Or (.call 73) (SA 21 ek ks n d nm es [a,b] dn ea da so) []=some [ti (be 21 d [a,b] da so)]:=by
 have e:be 21 d [a,b] da so=if a=b/\aG a=true then a else 0:=rfl;have k:=iB a;rw [e];refine ai ?_;rw [OZ];by_cases h:a=b
 .have y:(a==b)=true:=by simpa using h
  cases c:aG a <;> rw [c] at k
  .simp only [ao,↓reduceIte,aE,L2,cf,cg,ct,cv,cu,cw,and_self,y,k];simp [h]
   try (subst h;simp [c])
  .simp only [ao,↓reduceIte,aE,L2,cf,cg,ct,cv,cu,cw,and_self,y,k];simp [h]
   try (subst h;simp [c])
 .have y:(a==b)=false:=by simpa using h
  simp only [bI,ao,↓reduceIte,aE,L2,cf,cg,ct,cv,cu,cw,and_self,y];simp [h]
theorem Uu{a b:Int}:Or (.call 73) (SA 22 ek ks n d nm es [a,b] dn ea da so) []=some [ti (be 22 d [a,b] da so)]:=by
 have e:be 22 d [a,b] da so=if a=b/\aG a=true then 1 else 0:=rfl;have k:=iB a;rw [e];refine ai ?_;rw [O5];by_cases h:a=b
 .have y:(a==b)=true:=by simpa using h
  cases c:aG a <;> rw [c] at k
  .simp only [ao,↓reduceIte,aE,L2,cf,cg,ct,cv,cu,cw,and_self,y,k];simp [h]
   try (subst h;simp [c])
  .simp only [ao,↓reduceIte,aE,L2,cf,cg,ct,cv,cu,cw,and_self,y,k];simp [h]
   try (subst h;simp [c])
 .have y:(a==b)=false:=by simpa using h
  simp only [bI,ao,↓reduceIte,aE,L2,cf,cg,ct,cv,cu,cw,and_self,y];simp [h]
theorem Uw{a b:Int}:Or (.call 73) (SA 24 ek ks n d nm es [a,b] dn ea da so) []=some [ti (be 24 d [a,b] da so)]:=by
 have e:be 24 d [a,b] da so=if [a,b]= [5,4] then 4 else 0:=rfl;have k:=Dx (e:=false) (e':=es) (l:= [a,b]) (da:= [5,4]) (by simp);replace k:Or (.call 96) [AV.t (T.aa 1 false [[ti 5],[ti 4]]),AV.t (T.ptr [T.aa 1 es (enc [a,b])])] []=_:=k;rw [e];by_cases c: [a,b]= [5,4]
 .rw [decide_eq_true c] at k;rw [if_pos c];refine ai ?_;rw [GH];simp only [ao,↓reduceIte,aE,L2,cf,cg,ct,cv,cu,cw,and_self,k]
 .rw [decide_eq_false c] at k;rw [if_neg c];refine ai ?_;rw [GH];simp only [ao,↓reduceIte,aE,L2,cf,cg,ct,cv,cu,cw,and_self,k]
theorem Ux{a b c:Int}:Or (.call 73) (SA 25 ek ks n d nm es [a,b,c] dn ea da so) []=some [ti (be 25 d [a,b,c] da so)]:=by
 have e:be 25 d [a,b,c] da so=if [a,b,c]= [5,4,4] then 5 else 0:=rfl;have k:=Dx (e:=false) (e':=es) (l:= [a,b,c]) (da:= [5,4,4]) (by simp);replace k:Or (.call 96) [AV.t (T.aa 1 false [[ti 5],[ti 4],[ti 4]]),AV.t (T.ptr [T.aa 1 es (enc [a,b,c])])] []=_:=k;rw [e];by_cases f: [a,b,c]= [5,4,4]
 .rw [decide_eq_true f] at k;rw [if_pos f];refine ai ?_;rw [GI];simp only [bI,ao,↓reduceIte,Int.reduceBEq,aE,L3,cj,cm,cu,cw,and_self,k]
 .rw [decide_eq_false f] at k;rw [if_neg f];refine ai ?_;rw [GI];simp only [bI,ao,↓reduceIte,Int.reduceBEq,aE,L3,cj,cm,cu,cw,and_self,k]
end
open Go Go.Aev Go.IntKind
theorem Sv(i:Nat)(h:i<=9223372036854775806):i64.wrap ((i:Int)+1)= ((i+1:Nat):Int):=by rw [wr (by omega)];omega
def p7(i:Nat)(u:UInt8):Bool:=
 !((!((((u.toNat:Int)==95) || (decide ((u.toNat:Int)>=97) && decide ((u.toNat:Int)<=122))) || (decide ((u.toNat:Int)>=65) && decide ((u.toNat:Int)<=90)))) && ((((i:Int)==0) || decide ((u.toNat:Int) < 48)) || decide ((u.toNat:Int) > 57)))
def mE:Nat->List UInt8->Bool
 | _,[]=>true
 | i,u::r=>p7 i u && mE (i+1) r
def lG(s:ByteArray):Bool:=mE 0 s.data.toList && (decide ((s.size:Int)>=1) && decide ((s.size:Int)<=12))
theorem gW(a b:Bool):(bif a then true else b)= (a || b):=by cases a <;> rfl
theorem RZ(s:ByteArray)(hs:s.size<=9223372036854775807):∀(r:List UInt8) (i:Nat),s.data.toList.drop i=r->Or xL [AV.t (T.str s),I (s.size:Int),I (i:Int)] []=some [tb (mE i r && (decide ((s.size:Int)>=1) && decide ((s.size:Int)<=12)))]:=by
 intro r;induction r with
 | nil=>
  intro i g;have b:¬(i:Int) < (s.size:Int):=by have:=bu g;rw [tq] at this;omega
  refine ai ?_;rw [GC];simp only [aV,b,decide_false,mE,XR,jk]
 | cons u r h=>
  intro i g;obtain⟨g1,c,e⟩:=bt g;rw [tq] at c;have b:(i:Int) < (s.size:Int):=by omega
  have h0: 0<=(i:Int):=by omega
  have f:=h (i+1) e;rw [mE];refine ai ?_;rw [GC];simp only [aI,aS,b,h0,and_self,decide_true,↓reduceIte,Xv,g1,jk,gW];cases a:p7 i u with
  | true=>unfold p7 at a;rw [X6] at a;simp only [a,cond_false,XR,Sv i (by omega)];exact f
  | false=>unfold p7 at a;rw [Y8] at a;simp only [a,cond_true,X3]
theorem Uc(s:ByteArray)(hs:s.size<=9223372036854775807):Or (.call 66) [AV.t (T.str s)] []=some [tb (lG s)]:=by have:=RZ s hs s.data.toList 0 rfl;refine ai ?_;rw [OK];exact this
def nR(s:Int):Bool:=(decide (s>=1) && decide (s<=5)) || aG s
theorem Ud(s:Int):Or (.call 68) [I s] []=some [tb (nR s)]:=by
 have k:=iB s;unfold nR;refine ai ?_;rw [OM];simp only [jk];cases h:(decide (s>=1) && decide (s<=5)) with
 | true=>simp only [bI,ao];rfl
 | false=>simp only [ao,k];rfl
theorem Sg{e:Bool}{ds:List Dc}{d:Dc}(hl:ds.length<=1000):∀(r:List Dc) (i:Nat),ds.drop i=r->
  ∃z:Int,Or jh [AV.t (T.aa 3 e (aT ds)),AV.fn 67 [] [AV.t (T.ptr [T.str d.nm,T.aa 1 d.ea (enc d.ar),ti d.so])],I (ds.length:Int),I (i:Int)] []=some [ti z]/\decide (z>=0)=r.any λx=>decide (x.nm=d.nm):=by
 intro r;induction r with
 | nil=>
  intro i g;have a:¬(i:Int) < (ds.length:Int):=by have:=bu g;omega
  refine⟨-1,ai ?_,by simp⟩;rw [BR];simp only [ao,↓reduceIte,a]
 | cons x r f=>
  intro i g;obtain⟨g1,l,c⟩:=bt g;have a:(i:Int) < (ds.length:Int):=by omega
  have h0: 0<=(i:Int):=by omega
  have k:Or (.call 67) [AV.agg [AV.t (T.str x.nm),AV.t (T.aa 1 x.ea (enc x.ar)),I x.so],AV.t (T.ptr [T.str d.nm,T.aa 1 d.ea (enc d.ar),ti d.so])] []=some [tb (decide (x.nm=d.nm))]:=by refine ai ?_;rw [OL,uQ]
  cases b:decide (x.nm=d.nm) with
  | true=>rw [b] at k;refine⟨(i:Int),ai ?_,by simp [b]⟩;rw [BR];simp only [ao,↓reduceIte,a,h0,and_self,cR,fh g1,k]
  | false=>rw [b] at k;obtain⟨z,h,j⟩:=f (i+1) c;refine⟨z,ai ?_,by rw [j];simp [b]⟩;rw [BR];simp only [ao,↓reduceIte,a,h0,and_self,cR,fh g1,k,next i (by omega)];exact h
theorem T1{e:Bool}{ds:List Dc}{d:Dc}(hl:ds.length<=1000):Or (.call 32) [AV.t (T.aa 3 e (aT ds)),AV.fn 67 [] [AV.t (T.ptr [T.str d.nm,T.aa 1 d.ea (enc d.ar),ti d.so])]] []=some [tb (ds.any λx=>decide (x.nm=d.nm))]:=by
 obtain⟨z,b,c⟩:=Sg (e:=e) (d:=d) hl ds 0 rfl;have a:Or (.call 75) [AV.t (T.aa 3 e (aT ds)),AV.fn 67 [] [AV.t (T.ptr [T.str d.nm,T.aa 1 d.ea (enc d.ar),ti d.so])]] []=some [ti z]:=by refine ai ?_;rw [Pr];simp only [cR];exact b
 refine ai ?_;rw [Od];simp only [ao,a,c]
theorem Sa{e:Bool}{l:List Int}(hl:l.length<=1000):∀(r:List Int) (i:Nat),l.drop i=r->
  ∃z:Int,Or fK [aa e l,AV.fn 69 [] [],I (l.length:Int),I (i:Int)] []=some [ti z]/\decide (z>=0)=r.any λs=> !(s==4):=by
 intro r;induction r with
 | nil=>
  intro i g;have a:¬(i:Int) < (l.length:Int):=by have:=bu g;omega
  refine⟨-1,ai ?_,by simp⟩;rw [BJ];simp only [ao,↓reduceIte,a]
 | cons d r f=>
  intro i g;obtain⟨g1,m,c⟩:=bt g;have a:(i:Int) < (l.length:Int):=by omega
  have h0: 0<=(i:Int):=by omega
  have k:Or (.call 69) [I d] []=some [tb (!(d==4))]:=by refine ai ?_;rw [ON]
  cases b: !(d==4) with
  | true=>rw [b] at k;refine⟨(i:Int),ai ?_,by simp only [X9,b,YE];simp⟩;rw [BJ];simp only [aI,aL,bA,aP,a,h0,and_self,aE,bR g1,k,aS,eC,↓reduceIte]
  | false=>rw [b] at k;obtain⟨z,h,j⟩:=f (i+1) c;refine⟨z,ai ?_,by rw [j];simp only [X9,b,XG]⟩;rw [BJ];simp only [aI,aL,bA,aP,a,h0,and_self,aE,bR g1,k,aV,eC,↓reduceIte,next i (by omega)];exact h
theorem TY{e:Bool}{l:List Int}(hl:l.length<=1000):Or (.call 31) [aa e l,AV.fn 69 [] []] []=some [tb (l.any λs=> !(s==4))]:=by
 obtain⟨z,b,c⟩:=Sa (e:=e) hl l 0 rfl;have a:Or (.call 74) [aa e l,AV.fn 69 [] []] []=some [ti z]:=by refine ai ?_;rw [Pf];simp only [aE];exact b
 refine ai ?_;rw [N2];simp only [ao,a,c]
def gL(a:List Dc)(d:Dc):Int:=
 if lG d.nm=false then 12
 else if(a.any λx=>decide (x.nm=d.nm))=true then 7
 else if 8 < d.ar.length then 9
 else if nR d.so=false\/(d.ar.any λs=> !(s==4))=true\/(d.so=5/\0 < d.ar.length) then 4
 else 0
def eS:List Dc->Nat->List Dc->Int×Int
 | _,_,[]=>(0,0)
 | a,i,d::r=>if gL a d=0 then eS (a++ [d]) (i+1) r else(gL a d,(i:Int))
theorem KZ{i:Nat}(l:List (List T)):sub 0 (i:Int) l=l.take i:=by simp [sub]
theorem RD{e:Bool}{ds:List Dc}(hl:ds.length<=100)(J:∀d∈ds,d.nm.size<=9223372036854775807):∀(r:List Dc) (i:Nat) (a:List Dc),ds.drop i=r->a=ds.take i->i<=ds.length->
  Or s6 [AV.t (T.aa 3 e (aT ds)),r0,AV.t (T.aa 3 e (aT ds)),I (ds.length:Int),I (i:Int)] [kN]=some [ti (eS a i r).1,ti (eS a i r).2]:=by
 intro r;induction r with
 | nil=>
  intro i a g C H;have q:¬(i:Int) < (ds.length:Int):=by have:=bu g;omega
  refine ai ?_;rw [qh];simp only [ao,↓reduceIte,q,eS]
 | cons d r L=>
  intro i a g C H;obtain⟨g1,N,G⟩:=bt g;have hm:=Xg g1;have q:(i:Int) < (ds.length:Int):=by omega
  have h0: 0<=(i:Int):=by omega
  have b:=Uc d.nm (J d hm);have m:gH 0 (i:Int) (ds.length:Int)=some ():=by unfold gH;rw [if_pos ⟨by omega,by omega,by omega⟩]
  have f:sub 0 (i:Int) (aT ds)=aT a:=by rw [KZ,C];simp [aT,List.map_take]
  have j:=T1 (e:=e) (ds:=a) (d:=d) (by rw [C,XW];omega);have K:=L (i+1) (a++ [d]) G (by rw [C,YP,g1];rfl) (by omega);have M:=next i (by omega);rw [eS];cases p:lG d.nm with
  | false=>
   rw [p] at b;have c:gL a d=12:=by simp [gL,p]
   rw [c,if_neg (by decide)];refine ai ?_;rw [qh];simp only [ao,↓reduceIte,q,h0,and_self,cR,fh g1,b]
  | true=>
  rw [p] at b;cases u:a.any λx=>decide (x.nm=d.nm) with
  | true=>
   rw [u] at j;have c:gL a d=7:=by unfold gL;rw [p,u];rfl
   rw [c,if_neg (by decide)];refine ai ?_;rw [qh];simp only [ao,↓reduceIte,q,h0,and_self,cR,fh g1,b,m,f,j]
  | false=>
  rw [u] at j;by_cases w: 8 < d.ar.length
  .have k:(d.ar.length:Int) > 8:=by omega
   have c:gL a d=9:=by unfold gL;rw [p,u,if_neg (by decide),if_neg (by decide),if_pos w]
   rw [c,if_neg (by decide)];refine ai ?_;rw [qh];simp only [ao,↓reduceIte,q,h0,and_self,cR,fh g1,b,m,f,j,aE,k]
  have k:¬(d.ar.length:Int) > 8:=by omega
  have o:=Ud d.so;have v:=TY (e:=d.ea) (l:=d.ar) (by omega);cases z:nR d.so with
  | false=>
   rw [z] at o;have c:gL a d=4:=by unfold gL;rw [p,u,if_neg (by decide),if_neg (by decide),if_neg w,if_pos (.inl z)]
   rw [c,if_neg (by decide)];refine ai ?_;rw [qh];simp only [ao,↓reduceIte,q,h0,and_self,cR,fh g1,b,m,f,j,aE,k,o]
  | true=>
  rw [z] at o;cases A:d.ar.any λs=> !(s==4) with
  | true=>
   rw [A] at v;have c:gL a d=4:=by unfold gL;rw [p,u,if_neg (by decide),if_neg (by decide),if_neg w,if_pos (.inr (.inl A))]
   rw [c,if_neg (by decide)];refine ai ?_;rw [qh];simp only [ao,↓reduceIte,q,h0,and_self,cR,fh g1,b,m,f,j,aE,k,o,v]
  | false=>
  rw [A] at v;by_cases B:d.so=5/\0 < d.ar.length
  .have E:(d.ar.length:Int) > 0:=by omega
   have F:(d.so==5)=true:=by simpa using B.1
   have D:(bif d.so==5 then decide ((d.ar.length:Int) > 0) else false)=true:=by rw [F,decide_eq_true E];rfl
   have c:gL a d=4:=by unfold gL;rw [p,u,if_neg (by decide),if_neg (by decide),if_neg w,if_pos (.inr (.inr B))]
   rw [c,if_neg (by decide)];refine ai ?_;rw [qh];simp only [aI,aL,aU,bA,aP,fW,bO,aS,aV,eC,↓reduceIte,q,h0,and_self,cR,fh g1,b,Xc,m,f,j,aE,k,o,v,D]
  .have c:gL a d=0:=by unfold gL;rw [p,u,if_neg (by decide),if_neg (by decide),if_neg w,z,A,if_neg (by rintro(h | h | h);cases h;cases h;exact B h)]
   rw [if_pos c];have D:(bif d.so==5 then decide ((d.ar.length:Int) > 0) else false)=false:=by
    by_cases x:d.so=5
    .have:¬(d.ar.length:Int) > 0:=λy=>B ⟨x,by omega⟩;rw [decide_eq_false this];cases d.so==5 <;> rfl
    .have:(d.so==5)=false:=by simpa using x
     rw [this];rfl
   refine ai ?_;rw [qh];simp only [aI,aL,aU,bA,aP,fW,bO,aV,eC,↓reduceIte,q,h0,and_self,cR,fh g1,b,Xc,m,f,j,aE,k,o,v,D,M];exact K
theorem TQ{e:Bool}{ds:List Dc}(b:∀d∈ds,d.nm.size<=9223372036854775807):Or (.call 29) [AV.t (T.aa 3 e (aT ds))] []=some (if 30 < ds.length then [ti 2,ti 0] else [ti (eS [] 0 ds).1,ti (eS [] 0 ds).2]):=by
 by_cases h: 30 < ds.length
 .have a:(ds.length:Int) > 30:=by omega
  rw [if_pos h];refine ai ?_;rw [Gj];simp only [ao,↓reduceIte,cR,a]
 .have a:¬(ds.length:Int) > 30:=by omega
  have c:=RD (e:=e) (show ds.length<=100 by omega) b ds 0 [] rfl rfl (XZ _);rw [if_neg h];refine ai ?_;rw [Gj];simp only [ao,↓reduceIte,cR,a];exact c
open Go Go.Aev Go.IntKind
def dW(op:Int):Int:=
 if op=1\/op=2\/op=10\/op=15 then 0 else if op=3\/op=12\/op=16\/op=23 then 1 else if op=7\/op=25 then 3 else if op=4\/op=5\/op=11 then -1 else 2
theorem ux{op:Int}(h: 1<=op/\op<=25):op=1\/op=2\/op=3\/op=4\/op=5\/op=6\/op=7\/op=8\/op=9\/op=10\/op=11\/op=12\/op=13\/op=14\/op=15\/op=16\/op=17\/op=18\/op=19\/op=20\/op=21\/op=22\/op=23\/op=24\/op=25:=by omega
theorem Ue{op:Int}(h: 1<=op/\op<=25):Or (.call 70) [I op] []=some [ti (dW op)]:=by rcases ux h with rfl | rfl | rfl | rfl | rfl | rfl | rfl | rfl | rfl | rfl | rfl | rfl | rfl | rfl | rfl | rfl | rfl | rfl | rfl | rfl | rfl | rfl | rfl | rfl | rfl <;> exact C2 (n:=5) (by kernel_rfl)
theorem Ac{op:Int}{ek:Bool}{ks:List (List T)}{n d:Int}{nm:ByteArray}{es:Bool}{l:List Int}{dn:ByteArray}{ea:Bool}{da:List Int}{so:Int}(h: 1<=op/\op<=25)(hl:l.length<=1000)(e:op≠9->0<=dW op->(l.length:Int)=dW op)(m:op=15->0<=d/\d<=1000):
  Or (.call 73) (SA op ek ks n d nm es l dn ea da so) []=some [ti (be op d l da so)]:=by
 have g:(l.length:Int)=0->l= []:=λh=>Xz.1 (by omega);have i:(l.length:Int)=1->∃a,l= [a]:=λh=>by
  have j:l.length=1:=by omega
  exact YF.1 j
 have f:(l.length:Int)=2->∃a b,l= [a,b]:=λh=>by
  have j:l.length=2:=by omega
  match l,j with
  | [a,b],_=>exact⟨a,b,rfl⟩
 have k:(l.length:Int)=3->∃a b c,l= [a,b,c]:=λh=>by
  have j:l.length=3:=by omega
  match l,j with
  | [a,b,c],_=>exact⟨a,b,c,rfl⟩
 rcases ux h with rfl | rfl | rfl | rfl | rfl | rfl | rfl | rfl | rfl | rfl | rfl | rfl | rfl | rfl | rfl | rfl | rfl | rfl | rfl | rfl | rfl | rfl | rfl | rfl | rfl
 .rw [g (e (by decide) (by decide))];exact Uf
 .rw [g (e (by decide) (by decide))];exact Ur
 .exact Uy hl
 .exact Uz hl
 .exact UA hl
 .exact UB hl
 .obtain⟨a,b,c,rfl⟩:=k (e (by decide) (by decide));exact UC
 .obtain⟨a,b,rfl⟩:=f (e (by decide) (by decide));exact UD
 .exact UE hl
 .rw [g (e (by decide) (by decide))];exact Ug
 .exact Uh hl
 .obtain⟨a,rfl⟩:=i (e (by decide) (by decide));exact Ui
 .exact Uj hl
 .exact Uk hl
 .rw [g (e (by decide) (by decide))];exact Ul (m rfl)
 .obtain⟨a,rfl⟩:=i (e (by decide) (by decide));exact Um
 .obtain⟨a,b,rfl⟩:=f (e (by decide) (by decide));exact Un
 .obtain⟨a,b,rfl⟩:=f (e (by decide) (by decide));exact Uo
 .obtain⟨a,b,rfl⟩:=f (e (by decide) (by decide));exact Uq
 .obtain⟨a,b,rfl⟩:=f (e (by decide) (by decide));exact Us
 .obtain⟨a,b,rfl⟩:=f (e (by decide) (by decide));exact Ut
 .obtain⟨a,b,rfl⟩:=f (e (by decide) (by decide));exact Uu
 .obtain⟨a,rfl⟩:=i (e (by decide) (by decide));exact Uv
 .obtain⟨a,b,rfl⟩:=f (e (by decide) (by decide));exact Uw
 .obtain⟨a,b,c,rfl⟩:=k (e (by decide) (by decide));exact Ux
def gg(x:Nd):Bool:=
 ((decide (x.nm=s0) || (x.op==9)) && (((x.n==0) || (((x.op==10) || (x.op==12)) || (x.op==15))) || (x.op==23))) && ((x.d==0) || (((x.op==10) || (x.op==12)) || (x.op==15)))
theorem z8(x:Nd):Or (.call 71) [AV.agg [I x.op,aa x.ek x.ks,I x.n,I x.d,AV.t (T.str x.nm)]] []=some [tb (gg x)]:=by refine ai ?_;rw [OO];simp only [jk,gW,uQ];rfl
def r6(a b:Int):Int:=if h:b=0 then mm true a (i64.wrap (0 - a)) else r6 b (a.tmod b)
termination_by b.natAbs
decreasing_by
 rw [Int.natAbs_tmod];exact aat _ (Int.natAbs_pos.2 h)
theorem So:∀(n:Nat) (a b:Int),b.natAbs<=n->Or xO [I a,I b] []=some [ti (r6 a b)]:=by
 intro n;induction n with
 | zero=>
  intro a b e;have h0:b=0:=by omega
  subst h0;rw [r6,dif_pos rfl];refine ai ?_;rw [BS];simp only [ao,↓reduceIte]
 | succ n g=>
  intro a b e;by_cases h:b=0
  .subst h;rw [r6,dif_pos rfl];refine ai ?_;rw [BS];simp only [ao,↓reduceIte]
  .have c:(b==0)=false:=by simpa using h
   have f:=g b (a.tmod b) (by
    have i:=Int.natAbs_tmod a b;have j:=aat a.natAbs (Int.natAbs_pos.2 h);omega)
   rw [r6,dif_neg h];refine ai ?_;rw [BS];simp only [ao,↓reduceIte,c,h];exact f
theorem UM(a b:Int):Or (.call 95) [I a,I b] []=some [ti (r6 a b)]:=by have:=So b.natAbs a b (Xr _);refine ai ?_;rw [Pv];exact this
def xc(n d:Int):Bool:=((decide (n>= -1000000) && decide (n<=1000000)) && decide (d>=1)) && decide (d<=1000000)
def fI(x:Nd):Bool:=
 if x.op=10\/x.op=12 then xc x.n x.d && (r6 x.n x.d==1)
 else if x.op=15 then((decide (x.d>=1) && decide (x.d<=8)) && decide (x.n>=0)) && decide (x.n < i64.wrap (1 * 2 ^ min x.d.toNat 64))
 else if x.op=23 then decide (x.n>=0) && decide (x.n<=8)
 else true
theorem Aa(x:Nd):Or (.call 72) [AV.agg [I x.op,aa x.ek x.ks,I x.n,I x.d,AV.t (T.str x.nm)]] []=some [tb (fI x)]:=by
 have k:=UM x.n x.d;have g:(((decide (x.n>= -1000000) && decide (x.n<=1000000)) && decide (x.d>=1)) && decide (x.d<=1000000))=xc x.n x.d:=rfl;unfold fI;by_cases a:x.op=10\/x.op=12
 .rw [if_pos a];rcases a with a | a
  .have y:(x.op==10)=true:=by simpa using a
   cases b:xc x.n x.d with
   | true=>refine ai ?_;rw [qk];simp only [jk,g,b,aI,aL,aP,aS,fy,y,k,XR]
   | false=>refine ai ?_;rw [qk];simp only [jk,g,b,bI,aS,fL,y,aI,X3]
  .have y:(x.op==10)=false:=by simp [a]
   have c:(x.op==12)=true:=by simpa using a
   cases b:xc x.n x.d with
   | true=>refine ai ?_;rw [qk];simp only [jk,g,b,aI,aL,aP,aS,aV,fy,y,c,k,XR]
   | false=>refine ai ?_;rw [qk];simp only [jk,g,b,bI,aS,aV,fL,y,c,aI,X3]
 .have y:(x.op==10)=false:=by simp;exact λh=>a (.inl h)
  have c:(x.op==12)=false:=by simp;exact λh=>a (.inr h)
  rw [if_neg a];by_cases f:x.op=15
  .have e:(x.op==15)=true:=by simpa using f
   rw [if_pos f];cases b:((decide (x.d>=1) && decide (x.d<=8)) && decide (x.n>=0)) with
   | true=>
    have j:¬x.d < 0:=by simp only [Xf,decide_eq_true_eq] at b;omega
    refine ai ?_;rw [qk];simp only [jk,b,aI,aS,aV,y,c,e,j,↓reduceIte,XR]
   | false=>refine ai ?_;rw [qk];simp only [jk,b,bI,aS,aV,y,c,e,X3]
  .have e:(x.op==15)=false:=by simpa using f
   rw [if_neg f];by_cases c3:x.op=23
   .have i:(x.op==23)=true:=by simpa using c3
    rw [if_pos c3];refine ai ?_;rw [qk];simp only [jk,aS,aV,y,c,e,i]
   .have i:(x.op==23)=false:=by simpa using c3
    rw [if_neg c3];refine ai ?_;rw [qk];simp only [aV,y,c,e,i]
def dB(x:Nd)(i:Int)(ss:List Int)(da:List Int)(so:Int):Int×Int:=
 if(x.ks.any λk=>decide (k < 0) || decide (k>=i))=true then(0,3)
 else if gg x=false then(0,5)
 else if fI x=false then(0,3)
 else if be x.op x.d (x.ks.map λk=>ss.getD k.toNat 0) da so=0 then(0,8)
 else(be x.op x.d (x.ks.map λk=>ss.getD k.toNat 0) da so,0)
def bX(ds:List Dc)(x:Nd)(i:Int)(ss:List Int):Int×Int:=
 if x.op < 1\/25 < x.op then(0,4)
 else if x.op=9 then
  (if bp ds x.nm < 0 then(0,6)
  else if(x.ks.length≠((ds.getD (bp ds x.nm).toNat ⟨s0,true,[],0⟩).ar).length)\/8 < x.ks.length then(0,9)
  else dB x i ss (ds.getD (bp ds x.nm).toNat ⟨s0,true,[],0⟩).ar (ds.getD (bp ds x.nm).toNat ⟨s0,true,[],0⟩).so)
 else if(0<=dW x.op/\(x.ks.length:Int)≠dW x.op)\/8 < x.ks.length then(0,9)
 else dB x i ss [] 0
theorem uu{x:Nd}(h:fI x=true)(a:x.op=15): 1<=x.d/\x.d<=8/\0<=x.n/\x.n < i64.wrap (1 * 2 ^ min x.d.toNat 64):=by unfold fI at h;rw [if_neg (by omega),if_pos a] at h;simp only [Xf,decide_eq_true_eq] at h;omega
theorem RE{x:Nd}{i:Nat}{ss:List Int}{es:Bool}{dn:ByteArray}{ea:Bool}{da:List Int}{so:Int}(H:x.op=9)(B: 1<=x.op/\x.op<=25)(M:x.ks.length<=8)(N:ss.length=i):∀(r:List Int) (j:Nat) (acc:List Int),x.ks.drop j=r->j<=x.ks.length->acc.length=j->acc≠[]->(∀k∈x.ks.take j,0<=k/\k < (i:Int))->acc= (x.ks.take j).map (λk=>ss.getD k.toNat 0)->
  Or kg [I (i:Int),aa es ss,r0,r1,o2,aa x.ek x.ks,I (x.ks.length:Int),I (j:Int)] [ad.box [I x.op,aa x.ek x.ks,I x.n,I x.d,AV.t (T.str x.nm)],ad.box [AV.t (T.str dn),aa ea da,I so],ad.sl false 1 false (enc acc)]=some [ti (dB x (i:Int) ss da so).1,ti (dB x (i:Int) ss da so).2]:=by
 intro r;induction r with
 | nil=>
  intro j acc g J m A p f;have c:¬(j:Int) < (x.ks.length:Int):=by have:=bu g;omega
  have z:x.ks.take j=x.ks:=Y6 (by have:=bu g;omega);rw [z] at p f;have a:=z8 x;have b:=Aa x;have u:(x.ks.any λk=>decide (k < 0) || decide (k>=(i:Int)))=false:=by rw [XJ];intro k hm;have:=p k hm;simp;omega
  unfold dB;rw [u,if_neg (by decide),<-f];cases w:gg x with
  | false=>rw [w] at a;rw [if_pos rfl];refine ai ?_;rw [tN];simp only [ao,↓reduceIte,c,a]
  | true=>
  rw [w] at a;rw [if_neg (by decide)];cases s:fI x with
  | false=>rw [s] at b;rw [if_pos rfl];refine ai ?_;rw [tN];simp only [ao,↓reduceIte,c,a,b]
  | true=>
  rw [s] at b;rw [if_neg (by decide)];have o:=Ac (op:=x.op) (ek:=x.ek) (ks:=enc x.ks) (n:=x.n) (d:=x.d) (nm:=x.nm) (es:=false) (l:=acc) (dn:=dn) (ea:=ea) (da:=da) (so:=so) B (by omega) (by rw [f];exact(λh=>absurd H h)) (λh=>by have:=uu s h;omega);by_cases e:be x.op x.d acc da so=0
  .rw [e] at o;rw [if_pos e];refine ai ?_;rw [tN];simp only [ao,↓reduceIte,c,a,b,o]
  .have D:(be x.op x.d acc da so==0)=false:=by simpa using e
   rw [if_neg e];refine ai ?_;rw [tN];simp only [ao,↓reduceIte,c,a,b,o,e]
 | cons k r L=>
  intro j acc g J m A p f;obtain⟨g1,O,E⟩:=bt g;have c:(j:Int) < (x.ks.length:Int):=by omega
  have h0: 0<=(j:Int):=by omega
  by_cases q:k < 0\/k>=(i:Int)
  .have u:(x.ks.any λk=>decide (k < 0) || decide (k>=(i:Int)))=true:=YS.2 ⟨k,Xg g1,by simpa using q⟩;have v:(decide (k < 0) || decide (k>=(i:Int)))=true:=by simpa using q
   unfold dB;rw [u,if_pos rfl];refine ai ?_;rw [tN];simp only [aI,aL,aP,aS,↓reduceIte,c,h0,and_self,decide_true,aE,bR g1,gW,v]
  .have v:(decide (k < 0) || decide (k>=(i:Int)))=false:=by simp;omega
   have F: 0<=k/\k < (ss.length:Int):=by omega
   have G:(enc ss)[k.toNat]? =some [ti (ss.getD k.toNat 0)]:=fP (by rw [Xa,Xd (by omega)];rfl);have K:=L (j+1) (acc++ [ss.getD k.toNat 0]) E (by omega) (by simp [m]) (by simp) (λy C=>by
    rw [YP,g1] at C;rcases Xo.1 C with h | h
    .exact p y h
    .simp at h;subst h;omega) (by rw [YP,g1,YY,<-f];rfl)
   refine ai ?_;rw [tN];simp only [aI,aL,aP,aS,aV,↓reduceIte,c,h0,and_self,decide_true,aE,bR g1,gW,v,F,G,dc (show acc.length+1<=1000000 by omega),X4,fH,next j (by omega)];exact K
theorem RF{x:Nd}{i:Nat}{ss:List Int}{es:Bool}{dn:ByteArray}{ea:Bool}{da:List Int}{so:Int}(u:x.op=9)(j: 1<=x.op/\x.op<=25)(v:x.ks.length<=8)(w:ss.length=i):
  Or kg [I (i:Int),aa es ss,r0,r1,AV.t (T.aC true),aa x.ek x.ks,I (x.ks.length:Int),I 0] [ad.box [I x.op,aa x.ek x.ks,I x.n,I x.d,AV.t (T.str x.nm)],ad.box [AV.t (T.str dn),aa ea da,I so]]=some [ti (dB x (i:Int) ss da so).1,ti (dB x (i:Int) ss da so).2]:=by
 cases a:x.ks with
 | nil=>
  have b:=z8 x;have c:=Aa x;rw [a] at b c;unfold dB;rw [a,aaj,if_neg (by decide),XY];cases q:gg x with
  | false=>rw [q] at b;rw [if_pos rfl];refine ai ?_;rw [tL];simp only [ao,Xu,XN,XS,decide_false,b]
  | true=>
  rw [q] at b;rw [if_neg (by decide)];cases m:fI x with
  | false=>rw [m] at c;rw [if_pos rfl];refine ai ?_;rw [tL];simp only [ao,Xu,XN,XS,decide_false,b,c]
  | true=>
  rw [m] at c;rw [if_neg (by decide)];have e:=Ac (op:=x.op) (ek:=x.ek) (ks:=enc []) (n:=x.n) (d:=x.d) (nm:=x.nm) (es:=true) (l:= []) (dn:=dn) (ea:=ea) (da:=da) (so:=so) j (by simp) (λh=>absurd u h) (λh=>by have:=uu m h;omega);replace e:Or (.call 73) [AV.agg [I x.op,AV.t (T.aa 1 x.ek (enc [])),I x.n,I x.d,AV.t (T.str x.nm)],AV.t (T.aa 1 true []),AV.agg [AV.t (T.str dn),aa ea da,I so]] []=_:=e;by_cases f:be x.op x.d [] da so=0
  .rw [f] at e;rw [if_pos f];refine ai ?_;rw [tL];simp only [ao,↓reduceIte,Xu,XN,XS,decide_false,b,c,e]
  .have A:(be x.op x.d [] da so==0)=false:=by simpa using f
   rw [if_neg f];refine ai ?_;rw [tL];simp only [ao,↓reduceIte,Xu,XN,XS,decide_false,b,c,e,f]
 | cons k r=>
  have s:(0:Int) < (((k::r).length:Nat):Int):=by simp
  have h0:(0:Int)<=0:=by omega
  have g1:(enc (k::r))[(0:Int).toNat]? =some [ti k]:=rfl;have E:i64.wrap (0+1)= ((1:Nat):Int):=by decide
  by_cases g:k < 0\/k>=(i:Int)
  .have B:(x.ks.any λk=>decide (k < 0) || decide (k>=(i:Int)))=true:=YS.2 ⟨k,by rw [a];exact W7,by simpa using g⟩;have o:(decide (k < 0) || decide (k>=(i:Int)))=true:=by simpa using g
   unfold dB;rw [B,if_pos rfl];refine ai ?_;rw [tL];simp only [aI,aL,aP,aS,↓reduceIte,s,h0,and_self,decide_true,aE,g1,gW,o]
  .have o:(decide (k < 0) || decide (k>=(i:Int)))=false:=by simp;omega
   have C: 0<=k/\k < (ss.length:Int):=by omega
   have D:(enc ss)[k.toNat]? =some [ti (ss.getD k.toNat 0)]:=fP (by rw [Xa,Xd (by omega)];rfl);have z:=RE (x:=x) (i:=i) (ss:=ss) (es:=es) (dn:=dn) (ea:=ea) (da:=da) (so:=so) u j v w r 1 [ss.getD k.toNat 0] (by rw [a];rfl) (by rw [a];simp) rfl (by simp) (λy p=>by rw [a] at p;simp at p;subst p;omega) (by rw [a];rfl);rw [a] at z;refine ai ?_;rw [tL];simp only [aI,aL,aP,aS,aV,↓reduceIte,s,h0,and_self,decide_true,aE,g1,gW,o,C,D,X4,E];exact z
theorem RG{x:Nd}{i:Nat}{ss:List Int}{es:Bool}(P:x.op≠9)(J: 0<=dW x.op->(x.ks.length:Int)=dW x.op)(B: 1<=x.op/\x.op<=25)(M:x.ks.length<=8)(N:ss.length=i):∀(r:List Int) (j:Nat) (acc:List Int),x.ks.drop j=r->j<=x.ks.length->acc.length=j->acc≠[]->(∀k∈x.ks.take j,0<=k/\k < (i:Int))->acc= (x.ks.take j).map (λk=>ss.getD k.toNat 0)->
  Or kg [I (i:Int),aa es ss,r0,r1,o2,aa x.ek x.ks,I (x.ks.length:Int),I (j:Int)] [ad.box [I x.op,aa x.ek x.ks,I x.n,I x.d,AV.t (T.str x.nm)],ad.box [AV.t (T.str s0),AV.t (T.aC true),I 0],ad.sl false 1 false (enc acc)]=some [ti (dB x (i:Int) ss [] 0).1,ti (dB x (i:Int) ss [] 0).2]:=by
 intro r;induction r with
 | nil=>
  intro j acc g H o A p m;have e:¬(j:Int) < (x.ks.length:Int):=by have:=bu g;omega
  have z:x.ks.take j=x.ks:=Y6 (by have:=bu g;omega);rw [z] at p m;have a:=z8 x;have b:=Aa x;have u:(x.ks.any λk=>decide (k < 0) || decide (k>=(i:Int)))=false:=by rw [XJ];intro k hm;have:=p k hm;simp;omega
  unfold dB;rw [u,if_neg (by decide),<-m];cases w:gg x with
  | false=>rw [w] at a;rw [if_pos rfl];refine ai ?_;rw [tO];simp only [ao,↓reduceIte,e,a]
  | true=>
  rw [w] at a;rw [if_neg (by decide)];cases s:fI x with
  | false=>rw [s] at b;rw [if_pos rfl];refine ai ?_;rw [tO];simp only [ao,↓reduceIte,e,a,b]
  | true=>
  rw [s] at b;rw [if_neg (by decide)];have c:=Ac (op:=x.op) (ek:=x.ek) (ks:=enc x.ks) (n:=x.n) (d:=x.d) (nm:=x.nm) (es:=false) (l:=acc) (dn:=s0) (ea:=true) (da:= []) (so:=0) B (by omega) (by rw [m];exact(λ_ h=>by rw [XQ];exact J h)) (λh=>by have:=uu s h;omega);replace c:Or (.call 73) [AV.agg [I x.op,AV.t (T.aa 1 x.ek (enc x.ks)),I x.n,I x.d,AV.t (T.str x.nm)],aa false acc,AV.agg [AV.t (T.str s0),AV.t (T.aa 1 true []),I 0]] []=_:=c;by_cases f:be x.op x.d acc [] 0=0
  .rw [f] at c;rw [if_pos f];refine ai ?_;rw [tO];simp only [ao,↓reduceIte,e,a,b,c]
  .have D:(be x.op x.d acc [] 0==0)=false:=by simpa using f
   rw [if_neg f];refine ai ?_;rw [tO];simp only [ao,↓reduceIte,e,a,b,c,f]
 | cons k r L=>
  intro j acc g H o A p m;obtain⟨g1,O,E⟩:=bt g;have e:(j:Int) < (x.ks.length:Int):=by omega
  have h0: 0<=(j:Int):=by omega
  by_cases q:k < 0\/k>=(i:Int)
  .have u:(x.ks.any λk=>decide (k < 0) || decide (k>=(i:Int)))=true:=YS.2 ⟨k,Xg g1,by simpa using q⟩;have v:(decide (k < 0) || decide (k>=(i:Int)))=true:=by simpa using q
   unfold dB;rw [u,if_pos rfl];refine ai ?_;rw [tO];simp only [aI,aL,aP,aS,↓reduceIte,e,h0,and_self,decide_true,aE,bR g1,gW,v]
  .have v:(decide (k < 0) || decide (k>=(i:Int)))=false:=by simp;omega
   have F: 0<=k/\k < (ss.length:Int):=by omega
   have G:(enc ss)[k.toNat]? =some [ti (ss.getD k.toNat 0)]:=fP (by rw [Xa,Xd (by omega)];rfl);have K:=L (j+1) (acc++ [ss.getD k.toNat 0]) E (by omega) (by simp [o]) (by simp) (λy C=>by
    rw [YP,g1] at C;rcases Xo.1 C with h | h
    .exact p y h
    .simp at h;subst h;omega) (by rw [YP,g1,YY,<-m];rfl)
   refine ai ?_;rw [tO];simp only [aI,aL,aP,aS,aV,↓reduceIte,e,h0,and_self,decide_true,aE,bR g1,gW,v,F,G,dc (show acc.length+1<=1000000 by omega),X4,fH,next j (by omega)];exact K
theorem RH{x:Nd}{i:Nat}{ss:List Int}{es:Bool}(E:x.op≠9)(u: 0<=dW x.op->(x.ks.length:Int)=dW x.op)(j: 1<=x.op/\x.op<=25)(v:x.ks.length<=8)(w:ss.length=i):
  Or kg [I (i:Int),aa es ss,r0,r1,AV.t (T.aC true),aa x.ek x.ks,I (x.ks.length:Int),I 0] [ad.box [I x.op,aa x.ek x.ks,I x.n,I x.d,AV.t (T.str x.nm)],ad.box [AV.t (T.str s0),AV.t (T.aC true),I 0]]=some [ti (dB x (i:Int) ss [] 0).1,ti (dB x (i:Int) ss [] 0).2]:=by
 cases a:x.ks with
 | nil=>
  have b:=z8 x;have c:=Aa x;rw [a] at b c;unfold dB;rw [a,aaj,if_neg (by decide),XY];cases q:gg x with
  | false=>rw [q] at b;rw [if_pos rfl];refine ai ?_;rw [tM];simp only [ao,Xu,XN,XS,decide_false,b]
  | true=>
  rw [q] at b;rw [if_neg (by decide)];cases m:fI x with
  | false=>rw [m] at c;rw [if_pos rfl];refine ai ?_;rw [tM];simp only [ao,Xu,XN,XS,decide_false,b,c]
  | true=>
  rw [m] at c;rw [if_neg (by decide)];have e:=Ac (op:=x.op) (ek:=x.ek) (ks:=enc []) (n:=x.n) (d:=x.d) (nm:=x.nm) (es:=true) (l:= []) (dn:=s0) (ea:=true) (da:= []) (so:=0) j (by simp) (λ_ h=>by have:=u h;rw [a] at this;exact this) (λh=>by have:=uu m h;omega);replace e:Or (.call 73) [AV.agg [I x.op,AV.t (T.aa 1 x.ek (enc [])),I x.n,I x.d,AV.t (T.str x.nm)],AV.t (T.aa 1 true []),AV.agg [AV.t (T.str s0),AV.t (T.aa 1 true []),I 0]] []=_:=e;by_cases f:be x.op x.d [] [] 0=0
  .rw [f] at e;rw [if_pos f];refine ai ?_;rw [tM];simp only [ao,↓reduceIte,Xu,XN,XS,decide_false,b,c,e]
  .have A:(be x.op x.d [] [] 0==0)=false:=by simpa using f
   rw [if_neg f];refine ai ?_;rw [tM];simp only [ao,↓reduceIte,Xu,XN,XS,decide_false,b,c,e,f]
 | cons k r=>
  have s:(0:Int) < (((k::r).length:Nat):Int):=by simp
  have h0:(0:Int)<=0:=by omega
  have g1:(enc (k::r))[(0:Int).toNat]? =some [ti k]:=rfl;have F:i64.wrap (0+1)= ((1:Nat):Int):=by decide
  by_cases g:k < 0\/k>=(i:Int)
  .have B:(x.ks.any λk=>decide (k < 0) || decide (k>=(i:Int)))=true:=YS.2 ⟨k,by rw [a];exact W7,by simpa using g⟩;have o:(decide (k < 0) || decide (k>=(i:Int)))=true:=by simpa using g
   unfold dB;rw [B,if_pos rfl];refine ai ?_;rw [tM];simp only [aI,aL,aP,aS,↓reduceIte,s,h0,and_self,decide_true,aE,g1,gW,o]
  .have o:(decide (k < 0) || decide (k>=(i:Int)))=false:=by simp;omega
   have C: 0<=k/\k < (ss.length:Int):=by omega
   have D:(enc ss)[k.toNat]? =some [ti (ss.getD k.toNat 0)]:=fP (by rw [Xa,Xd (by omega)];rfl);have z:=RG (x:=x) (i:=i) (ss:=ss) (es:=es) E u j v w r 1 [ss.getD k.toNat 0] (by rw [a];rfl) (by rw [a];simp) rfl (by simp) (λy p=>by rw [a] at p;simp at p;subst p;omega) (by rw [a];rfl);rw [a] at z;refine ai ?_;rw [tM];simp only [aI,aL,aP,aS,aV,↓reduceIte,s,h0,and_self,decide_true,aE,g1,gW,o,C,D,X4,F];exact z
theorem yR{nm:ByteArray}:∀{i:Nat} {ds:List Dc},0<=jM nm i ds->∃j d,jM nm i ds= ((i+j:Nat):Int)/\ds[j]? =some d/\d.nm=nm
 | i,[],h=>by simp [jM] at h
 | i,d::r,h=>by
  rw [jM] at h⊢;split
  .rename_i e;exact⟨0,d,rfl,rfl,e⟩
  .rename_i e;rw [if_neg e] at h;obtain⟨j,a,b,c,f⟩:=yR h;exact⟨j+1,a,by rw [b];congr 1;omega,c,f⟩
theorem Kr{a:As}{x:Nd}{i:Nat}{ss:List Int}{es:Bool}(f:a.ns[i]? =some x)(A:a.ds.length<=100)(s:ss.length=i):
  Or (.call 30) [AG a,I (i:Int),aa es ss] []=some [ti (bX a.ds x (i:Int) ss).1,ti (bX a.ds x (i:Int) ss).2]:=by
 have o: 0<=(i:Int)/\(i:Int) < (a.ns.length:Int):=by have:=(W9.1 f).1;omega
 unfold bX;by_cases t:x.op < 1\/25 < x.op
 .have c:(decide (x.op < 1) || decide (x.op > 25))=true:=by simpa using t
  rw [if_pos t];refine ai ?_;rw [tK];simp only [aI,aL,aU,aP,bO,fW,aS,↓reduceIte,o,and_self,dV,fZ f,gW,c]
 have c:(decide (x.op < 1) || decide (x.op > 25))=false:=by simp;omega
 have p: 1<=x.op/\x.op<=25:=by omega
 rw [if_neg t];have b:=Ue p;by_cases m:x.op=9
 .have k:(x.op==9)=true:=by simpa using m
  have g:=uH (ed:=a.ed) (en:=a.en) (eh:=a.eh) (ns:=a.ns) (hs:=a.hs) (nm:=x.nm) A;rw [if_pos m];by_cases l:bp a.ds x.nm < 0
  .have q:=decide_eq_true l;rw [if_pos l];refine ai ?_;rw [tK];simp only [aI,aL,aU,aP,bO,fW,aS,aV,↓reduceIte,o,and_self,dV,fZ f,gW,c,b,k,g,q]
  .rw [if_neg l];obtain⟨j,d,v,r,F⟩:=yR (nm:=x.nm) (i:=0) (ds:=a.ds) (by unfold bp at l;omega);have B:bp a.ds x.nm= ((j:Nat):Int):=by unfold bp;rw [v,XF]
   have E:a.ds.getD (bp a.ds x.nm).toNat ⟨s0,true,[],0⟩=d:=by rw [B,Xv,Xa,r];rfl
   rw [E];rw [B] at g l;have q:=decide_eq_false l;have z: 0<=(j:Int)/\(j:Int) < (a.ds.length:Int):=by have:=(W9.1 r).1;omega
   by_cases c3:x.ks.length≠d.ar.length\/8 < x.ks.length
   .have e:((!((x.ks.length:Int)== (d.ar.length:Int))) || decide ((x.ks.length:Int) > 8))=true:=by
     rcases c3 with h | h
     .have:((x.ks.length:Int)== (d.ar.length:Int))=false:=by simp;omega
      rw [this];rfl
     .have:(x.ks.length:Int) > 8:=by omega
      rw [decide_eq_true this,ZF]
    rw [if_pos c3];refine ai ?_;rw [tK];simp only [aI,aL,aU,aP,bO,fW,aS,aV,↓reduceIte,o,and_self,dV,fZ f,gW,c,b,k,g,q,z,cR,fh r,aE,e]
   .have e:((!((x.ks.length:Int)== (d.ar.length:Int))) || decide ((x.ks.length:Int) > 8))=false:=by
     have D:((x.ks.length:Int)== (d.ar.length:Int))=true:=by simp;omega
     have w:¬(x.ks.length:Int) > 8:=by omega
     rw [D,decide_eq_false w];rfl
    have y:=RF (x:=x) (i:=i) (ss:=ss) (es:=es) (dn:=d.nm) (ea:=d.ea) (da:=d.ar) (so:=d.so) m p (by omega) s;rw [if_neg c3];refine ai ?_;rw [tK];simp only [aI,aL,aU,aP,bO,fW,aS,aV,↓reduceIte,o,and_self,dV,fZ f,gW,c,b,k,g,q,z,cR,fh r,aE,e];exact y
 .have k:(x.op==9)=false:=by simpa using m
  rw [if_neg m];by_cases c3:(0<=dW x.op/\(x.ks.length:Int)≠dW x.op)\/8 < x.ks.length
  .have e:((decide (dW x.op>=0) && !((x.ks.length:Int)==dW x.op)) || decide ((x.ks.length:Int) > 8))=true:=by
    rcases c3 with⟨h,C⟩ | h
    .have u:((x.ks.length:Int)==dW x.op)=false:=by simpa using C
     have v:dW x.op>=0:=h;rw [u,decide_eq_true v];rfl
    .have:(x.ks.length:Int) > 8:=by omega
     rw [decide_eq_true this,ZF]
   rw [if_pos c3];refine ai ?_;rw [tK];simp only [aI,aL,aU,aP,bO,fW,aS,aV,↓reduceIte,o,and_self,dV,fZ f,gW,jk,c,b,k,aE,e]
  .have e:((decide (dW x.op>=0) && !((x.ks.length:Int)==dW x.op)) || decide ((x.ks.length:Int) > 8))=false:=by
    have w:¬(x.ks.length:Int) > 8:=by omega
    rw [decide_eq_false w,ZR];by_cases h: 0<=dW x.op
    .have u:((x.ks.length:Int)==dW x.op)=true:=by simp;omega
     rw [u];simp
    .have:¬dW x.op>=0:=h;rw [decide_eq_false this];rfl
   have y:=RH (x:=x) (i:=i) (ss:=ss) (es:=es) m (λh=>by omega) p (by omega) s;rw [if_neg c3];refine ai ?_;rw [tK];simp only [aI,aL,aU,aP,bO,fW,aV,↓reduceIte,o,and_self,dV,fZ f,gW,jk,c,b,k,aE,e];exact y
open Go Go.Aev Go.IntKind
def fc(ds:List Dc):List Nd->Nat->List Int->List Int×Int×Int
 | [],_,ss=>(ss,0,0)
 | x::r,i,ss=>if(bX ds x (i:Int) ss).2=0 then fc ds r (i+1) (ss++ [(bX ds x (i:Int) ss).1]) else([],(bX ds x (i:Int) ss).2,(i:Int))
def fB(ss:List Int):List Int->Nat->Int×Int
 | [],_=>(0,0)
 | k::r,j=>if k < 0\/(ss.length:Int)<=k then(3,(j:Int)) else if ss.getD k.toNat 0≠1 then(8,(j:Int)) else fB ss r (j+1)
def jX(a:As)(q:List Int×Int×Int):List Int×Int×Int:=
 if q.2.1≠0 then([],q.2.1,q.2.2)
 else if 200 < a.hs.length then([],2,0)
 else if(fB q.1 a.hs 0).1≠0 then([],(fB q.1 a.hs 0).1,(fB q.1 a.hs 0).2)
 else(q.1,0,0)
def bm(a:As):List Int×Int×Int:=
 if 30 < a.ds.length then([],2,0)
 else if(eS [] 0 a.ds).1≠0 then([],(eS [] 0 a.ds).1,(eS [] 0 a.ds).2)
 else if 200 < a.ns.length then([],2,0)
 else jX a (fc a.ds a.ns 0 [])
abbrev R3(x:T)(q:List Int×Int×Int):Option (List T):=some [x,ti q.2.1,ti q.2.2]
theorem Ra{ss:List Int}{e:Bool}{hs:List Int}(hl:hs.length<=1000):∀(r:List Int) (j:Nat),hs.drop j=r->
  ∃x,Or pO [r0,o1,aa e hs,I (hs.length:Int),I (j:Int)] [kN,ad.sl false 1 false (enc ss)]=some [x,ti (fB ss r j).1,ti (fB ss r j).2]/\((fB ss r j).1=0->x=T.aa 1 false (enc ss))/\((fB ss r j).1≠0->x=T.aC true):=by
 intro r;induction r with
 | nil=>
  intro j g;have a:¬(j:Int) < (hs.length:Int):=by have:=bu g;omega
  refine⟨T.aa 1 false (enc ss),ai ?_,λ_=>rfl,λh=>absurd rfl h⟩;rw [yB];simp only [ao,↓reduceIte,a,fB]
 | cons k r p=>
  intro j g;obtain⟨g1,u,o⟩:=bt g;have a:(j:Int) < (hs.length:Int):=by omega
  have h0: 0<=(j:Int):=by omega
  rw [fB];by_cases i:k < 0\/(ss.length:Int)<=k
  .have b:(decide (k < 0) || decide (k>=(ss.length:Int)))=true:=by simpa using i
   rw [if_pos i];refine⟨T.aC true,ai ?_,λh=>absurd (show(3:Int)=0 from h) (by decide),λ_=>rfl⟩;rw [yB];simp only [aI,aL,aP,aS,↓reduceIte,a,h0,and_self,decide_true,aE,bR g1,gW,b]
  .have b:(decide (k < 0) || decide (k>=(ss.length:Int)))=false:=by simp;omega
   have l: 0<=k/\k < (ss.length:Int):=by omega
   have m:(enc ss)[k.toNat]? =some [ti (ss.getD k.toNat 0)]:=fP (by rw [Xa,Xd (by omega)];rfl);rw [if_neg i];by_cases c:ss.getD k.toNat 0=1
   .have f:(ss.getD k.toNat 0==1)=true:=by simpa using c
    obtain⟨x,q,s,t⟩:=p (j+1) o;rw [if_neg (by simpa using c)];refine⟨x,ai ?_,s,t⟩;rw [yB];simp only [aI,aL,aP,aS,aV,↓reduceIte,a,h0,and_self,decide_true,aE,bR g1,gW,b,l,m,f,Xc,next j (by omega)];exact q
   .have f:(ss.getD k.toNat 0==1)=false:=by simpa using c
    rw [if_pos c];refine⟨T.aC true,ai ?_,λh=>absurd (show(8:Int)=0 from h) (by decide),λ_=>rfl⟩;rw [yB];simp only [aI,aL,aP,aS,aV,↓reduceIte,a,h0,and_self,decide_true,aE,bR g1,gW,b,l,m,f,Xe]
theorem Q9{a:As}(t:a.ds.length<=100)(C:a.ns.length<=200):∀(r:List Nd) (i:Nat) (ss:List Int),a.ns.drop i=r->i<=a.ns.length->ss.length=i->ss≠[]->
  ∃x,Or rq [r0,r1,o2,I (a.ns.length:Int),I (i:Int)] [kV a,kN,ad.sl false 1 false (enc ss)]=R3 x (jX a (fc a.ds r i ss))/\x.aQ 1=some ((jX a (fc a.ds r i ss)).1.isEmpty,enc (jX a (fc a.ds r i ss)).1):=by
 intro r;induction r with
 | nil=>
  intro i ss g w hs o;have f:¬(i:Int) < (a.ns.length:Int):=by have:=bu g;omega
  rw [fc];unfold jX;rw [if_neg (by simp)];by_cases c: 200 < a.hs.length
  .have b:(a.hs.length:Int) > 200:=by omega
   rw [if_pos c];refine⟨T.aC true,ai ?_,rfl⟩;rw [vQ];simp only [ao,↓reduceIte,f,aE,b]
  .have b:¬(a.hs.length:Int) > 200:=by omega
   rw [if_neg c];obtain⟨x,m,s,B⟩:=Ra (ss:=ss) (e:=a.eh) (hs:=a.hs) (by omega) a.hs 0 rfl;by_cases l:(fB ss a.hs 0).1=0
   .rw [if_neg (by simpa using l)];have u:fB ss a.hs 0= (0,0):=by
     have:∀(r:List Int) (j:Nat),(fB ss r j).1=0->fB ss r j= (0,0):=by
      intro r;induction r with
      | nil=>intro j _;rfl
      | cons k r q=>
       intro j h;rw [fB] at h⊢;split at h
       .exact absurd (show(3:Int)=0 from h) (by decide)
       .rename_i z;rw [if_neg z];split at h
        .exact absurd (show(8:Int)=0 from h) (by decide)
        .rename_i A;rw [if_neg A];exact q _ h
     exact this _ _ l
    refine⟨x,ai ?_, ?_⟩
    .rw [vQ];simp only [ao,↓reduceIte,f,aE,b];rw [u] at m;exact m
    .rw [s l,bO];cases ss with
     | nil=>exact absurd rfl o
     | cons=>rfl
   .rw [if_pos l];refine⟨x,ai ?_,by rw [B l];rfl⟩;rw [vQ];simp only [ao,↓reduceIte,f,aE,b];exact m
 | cons x r q=>
  intro i ss g w hs o;obtain⟨g1,D,v⟩:=bt g;have f:(i:Int) < (a.ns.length:Int):=by omega
  have p:=Kr (a:=a) (es:=false) g1 t hs;rw [fc];by_cases c:(bX a.ds x (i:Int) ss).2=0
  .have b:((bX a.ds x (i:Int) ss).2==0)=true:=by simpa using c
   obtain⟨y,m,s⟩:=q (i+1) (ss++ [(bX a.ds x (i:Int) ss).1]) v (by omega) (by simp [hs]) (by simp);rw [if_pos c];refine⟨y,ai ?_,s⟩;rw [vQ];simp only [aI,aL,aU,aP,aS,aV,f,decide_true,p,b,Xc,aE,dc (show ss.length+1<=1000000 by omega),X4,fH,next i (by omega)];exact m
  .have b:((bX a.ds x (i:Int) ss).2==0)=false:=by simpa using c
   rw [if_neg c];unfold jX;rw [if_pos c];refine⟨T.aC true,ai ?_,rfl⟩;rw [vQ];simp only [aI,aL,aU,aP,aS,f,decide_true,p,b,Xe]
theorem Dr{a:As}(C:∀d∈a.ds,d.nm.size<=9223372036854775807):∃x,Or (.call 12) [AG a] []=R3 x (bm a)/\x.aQ 1=some ((bm a).1.isEmpty,enc (bm a).1):=by
 have b:=TQ (e:=a.ed) C;unfold bm;by_cases l: 30 < a.ds.length
 .rw [if_pos l] at b;rw [if_pos l];refine⟨T.aC true,ai ?_,rfl⟩;rw [yA];simp only [ao,↓reduceIte,Int.reduceEq,b]
 rw [if_neg l] at b;rw [if_neg l];by_cases m:(eS [] 0 a.ds).1=0
 .have j:((eS [] 0 a.ds).1==0)=true:=by simpa using m
  rw [if_neg (by simpa using m)];by_cases c3: 200 < a.ns.length
  .have s:((a.ns.length:Int) > 200):=by omega
   rw [if_pos c3];refine⟨T.aC true,ai ?_,rfl⟩;rw [yA];simp only [aI,aL,aU,aP,aS,aV,b,j,Xc,dV,s,decide_true]
  .have s:¬((a.ns.length:Int) > 200):=by omega
   rw [if_neg c3];have w:∃x,Or rq [r0,r1,AV.t (T.aC true),I (a.ns.length:Int),I 0] [kV a,kN]=R3 x (jX a (fc a.ds a.ns 0 []))/\x.aQ 1=some ((jX a (fc a.ds a.ns 0 [])).1.isEmpty,enc (jX a (fc a.ds a.ns 0 [])).1):=by
    cases g:a.ns with
    | nil=>
     rw [fc];unfold jX;rw [if_neg (by simp)];by_cases f: 200 < a.hs.length
     .have c:(a.hs.length:Int) > 200:=by omega
      rw [if_pos f];refine⟨T.aC true,ai ?_,rfl⟩;rw [vP];simp only [ao,↓reduceIte,Xu,XN,XS,decide_false,aE,c]
     .have c:¬(a.hs.length:Int) > 200:=by omega
      rw [if_neg f];cases p:a.hs with
      | nil=>
       refine⟨T.aC true,ai ?_,rfl⟩;have u:Or pO [r0,AV.t (T.aC true),aa a.eh [],I 0,I 0] [kN]=some [T.aC true,ti 0,ti 0]:=by refine ai ?_;rw [FJ];simp only [ao,XS,decide_false]
       rw [p] at c;rw [vP];simp only [ao,Xu,XN,XS,decide_false,aE,p];exact u
      | cons k r=>
       have B:fB [] (k::r) 0= (3,0):=by rw [fB,if_pos (by simp;omega)];rfl
       rw [B,if_pos (by decide)];refine⟨T.aC true,ai ?_,rfl⟩;have o:(0:Int) < (((k::r).length:Nat):Int):=by simp
       have h0:(0:Int)<=0:=by omega
       have g1:(enc (k::r))[(0:Int).toNat]? =some [ti k]:=rfl;have A:(decide (k < 0) || decide (k>=0))=true:=by simp;omega
       have u:Or pO [r0,AV.t (T.aC true),aa a.eh (k::r),I (((k::r).length:Nat):Int),I 0] [kN]=some [T.aC true,ti 3,ti 0]:=by refine ai ?_;rw [FJ];simp only [aI,aL,aP,aS,↓reduceIte,o,h0,and_self,decide_true,aE,g1,gW,A]
       rw [p] at c;rw [vP];simp only [ao,Xu,XN,XS,decide_false,aE,p,c];exact u
    | cons y r=>
     have D:a.ns[0]? =some y:=by rw [g];rfl
     have h:=Kr (a:=a) (i:=0) (ss:= []) (es:=true) D (by omega) rfl;replace h:Or (.call 30) [AG a,I 0,AV.t (T.aa 1 true [])] []=some [ti (bX a.ds y 0 []).1,ti (bX a.ds y 0 []).2]:=h;have o:(0:Int) < (((y::r).length:Nat):Int):=by simp
     have E:i64.wrap (0+1)= ((1:Nat):Int):=by decide
     rw [fc];by_cases f:(bX a.ds y 0 []).2=0
     .have c:((bX a.ds y 0 []).2==0)=true:=by simpa using f
      obtain⟨z,q,v⟩:=Q9 (a:=a) (by omega) (by omega) r 1 [(bX a.ds y 0 []).1] (by rw [g];rfl) (by rw [g];simp) rfl (by simp);rw [if_pos (show(bX a.ds y ((0:Nat):Int) []).2=0 from f)];refine⟨z,ai ?_,v⟩;rw [vP];rw [g] at q;simp only [aI,aL,aU,aP,aS,aV,o,decide_true,h,c,Xc,X4,E];exact q
     .have c:((bX a.ds y 0 []).2==0)=false:=by simpa using f
      rw [if_neg (show ¬(bX a.ds y ((0:Nat):Int) []).2=0 from f)];unfold jX;rw [if_pos (show(bX a.ds y ((0:Nat):Int) []).2≠0 from f)];refine⟨T.aC true,ai ?_,rfl⟩;rw [vP];simp only [aI,aL,aU,aP,aS,o,decide_true,h,c,Xe];rfl
   obtain⟨x,q,v⟩:=w;refine⟨x,ai ?_,v⟩;rw [yA];simp only [aI,aL,aU,aP,aV,b,j,Xc,dV,s,decide_false];exact q
 .have j:((eS [] 0 a.ds).1==0)=false:=by simpa using m
  rw [if_pos m];refine⟨T.aC true,ai ?_,rfl⟩;rw [yA];simp only [aI,aL,aU,aP,aS,b,j,Xe]
end Go.Aev.Gen
