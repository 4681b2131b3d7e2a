import Derived.Test.YtcjplcpngagalaaDoorBlastNoneQ7
import Derived.Test.YtcjplcpngagalaaDoorBlastNoneQ11
set_option linter.all false
namespace Go.Aev.Gen
open Go Go.Aev Go.IntKind
def pB(s:Int):Bool:=s==1
def pN(s:Int):Bool:=s==2 || s==3
def pI(s:Int):Bool:=s==2
theorem Ku(n:Int):Or (.call 87) [I n] []=some [tb (pB n)]:=by refine ai ?_;rw [Gj];rfl
theorem Jq(n:Int):Or (.call 95) [I n,AV.t (T.ptr [T.cm 87])] []=some [tb (!pB n)]:=by have k:=Ku n;refine ai ?_;rw [ER];simp only [aj,↓reduceIte,Int.reduceBEq,Int.reduceEq,k]
theorem Io{e:Bool}{l:List Int}(hl:l.length<=1000):∀(r:List Int) (i:Nat),l.drop i=r->
  ∃z:Int,Or eP [ad e l,AV.fn 95 [] [AV.t (T.ptr [T.cm 87])],I (l.length:Int),I (i:Int)] []=some [ti z]/\decide (z>=0)= !r.all pB:=by
 intro r;induction r with
 | nil=>
  intro i g;have a:¬(i:Int) < (l.length:Int):=by have:=br g;omega
  refine⟨-1,ai ?_,by simp⟩;rw [uZ];simp only [aj,↓reduceIte,Int.reduceBEq,Int.reduceEq,a]
 | cons d r h=>
  intro i g;obtain⟨c,o,f⟩:=bu g;have a:(i:Int) < (l.length:Int):=by omega
  have h0: 0<=(i:Int):=by omega
  have k:=Jq d;cases b:pB d with
  | false=>rw [b] at k;refine⟨(i:Int),ai ?_,by simp [b]⟩;rw [uZ];simp only [aj,↓reduceIte,Int.reduceBEq,Int.reduceEq,a,h0,and_self,aD,bJ c,k,Lx]
  | true=>rw [b] at k;obtain⟨z,j,m⟩:=h (i+1) f;refine⟨z,ai ?_,by rw [m];simp [b]⟩;rw [uZ];simp only [aj,↓reduceIte,Int.reduceBEq,Int.reduceEq,a,h0,and_self,aD,bJ c,k,Lv,next i (by omega)];exact j
theorem tI{e:Bool}{l:List Int}(hl:l.length<=1000):Or (.call 86) [ad e l,AV.fn 87 [] []] []=some [tb (l.all pB)]:=by
 obtain⟨z,c,f⟩:=Io (e:=e) hl l 0 rfl;have b:Or (.call 76) [ad e l,AV.fn 95 [] [AV.t (T.ptr [T.cm 87])]] []=some [ti z]:=by refine ai ?_;rw [F6];simp only [aD];exact c
 have a:Or (.call 39) [ad e l,AV.fn 95 [] [AV.t (T.ptr [T.cm 87])]] []=some [tb (!l.all pB)]:=by refine ai ?_;rw [Fc];simp only [aj,↓reduceIte,Int.reduceBEq,Int.reduceEq,b,f]
 refine ai ?_;rw [Gg];simp only [aj,↓reduceIte,Int.reduceBEq,Int.reduceEq,a,Bool.not_not]
theorem CY(n:Int):Or (.call 88) [I n] []=some [tb (pN n)]:=by refine ai ?_;rw [Gk];unfold pN;cases h:n==2 <;> simp
theorem Jr(n:Int):Or (.call 95) [I n,AV.t (T.ptr [T.cm 88])] []=some [tb (!pN n)]:=by have k:=CY n;refine ai ?_;rw [ES];simp only [aj,↓reduceIte,Int.reduceBEq,Int.reduceEq,k]
theorem Ip{e:Bool}{l:List Int}(hl:l.length<=1000):∀(r:List Int) (i:Nat),l.drop i=r->
  ∃z:Int,Or eP [ad e l,AV.fn 95 [] [AV.t (T.ptr [T.cm 88])],I (l.length:Int),I (i:Int)] []=some [ti z]/\decide (z>=0)= !r.all pN:=by
 intro r;induction r with
 | nil=>
  intro i g;have a:¬(i:Int) < (l.length:Int):=by have:=br g;omega
  refine⟨-1,ai ?_,by simp⟩;rw [u7];simp only [aj,↓reduceIte,Int.reduceBEq,Int.reduceEq,a]
 | cons d r h=>
  intro i g;obtain⟨c,o,f⟩:=bu g;have a:(i:Int) < (l.length:Int):=by omega
  have h0: 0<=(i:Int):=by omega
  have k:=Jr d;cases b:pN d with
  | false=>rw [b] at k;refine⟨(i:Int),ai ?_,by simp [b]⟩;rw [u7];simp only [aj,↓reduceIte,Int.reduceBEq,Int.reduceEq,a,h0,and_self,aD,bJ c,k,Lx]
  | true=>rw [b] at k;obtain⟨z,j,m⟩:=h (i+1) f;refine⟨z,ai ?_,by rw [m];simp [b]⟩;rw [u7];simp only [aj,↓reduceIte,Int.reduceBEq,Int.reduceEq,a,h0,and_self,aD,bJ c,k,Lv,next i (by omega)];exact j
theorem tJ{e:Bool}{l:List Int}(hl:l.length<=1000):Or (.call 86) [ad e l,AV.fn 88 [] []] []=some [tb (l.all pN)]:=by
 obtain⟨z,c,f⟩:=Ip (e:=e) hl l 0 rfl;have b:Or (.call 76) [ad e l,AV.fn 95 [] [AV.t (T.ptr [T.cm 88])]] []=some [ti z]:=by refine ai ?_;rw [F7];simp only [aD];exact c
 have a:Or (.call 39) [ad e l,AV.fn 95 [] [AV.t (T.ptr [T.cm 88])]] []=some [tb (!l.all pN)]:=by refine ai ?_;rw [Fe];simp only [aj,↓reduceIte,Int.reduceBEq,Int.reduceEq,b,f]
 refine ai ?_;rw [Gh];simp only [aj,↓reduceIte,Int.reduceBEq,Int.reduceEq,a,Bool.not_not]
theorem Jn(n:Int):Or (.call 90) [I n] []=some [tb (pI n)]:=by refine ai ?_;rw [EO];rfl
theorem Jp(n:Int):Or (.call 95) [I n,AV.t (T.ptr [T.cm 90])] []=some [tb (!pI n)]:=by have k:=Jn n;refine ai ?_;rw [ET];simp only [aj,↓reduceIte,Int.reduceBEq,Int.reduceEq,k]
theorem Im{e:Bool}{l:List Int}(hl:l.length<=1000):∀(r:List Int) (i:Nat),l.drop i=r->
  ∃z:Int,Or eP [ad e l,AV.fn 95 [] [AV.t (T.ptr [T.cm 90])],I (l.length:Int),I (i:Int)] []=some [ti z]/\decide (z>=0)= !r.all pI:=by
 intro r;induction r with
 | nil=>
  intro i g;have a:¬(i:Int) < (l.length:Int):=by have:=br g;omega
  refine⟨-1,ai ?_,by simp⟩;rw [uY];simp only [aj,↓reduceIte,Int.reduceBEq,Int.reduceEq,a]
 | cons d r h=>
  intro i g;obtain⟨c,o,f⟩:=bu g;have a:(i:Int) < (l.length:Int):=by omega
  have h0: 0<=(i:Int):=by omega
  have k:=Jp d;cases b:pI d with
  | false=>rw [b] at k;refine⟨(i:Int),ai ?_,by simp [b]⟩;rw [uY];simp only [aj,↓reduceIte,Int.reduceBEq,Int.reduceEq,a,h0,and_self,aD,bJ c,k,Lx]
  | true=>rw [b] at k;obtain⟨z,j,m⟩:=h (i+1) f;refine⟨z,ai ?_,by rw [m];simp [b]⟩;rw [uY];simp only [aj,↓reduceIte,Int.reduceBEq,Int.reduceEq,a,h0,and_self,aD,bJ c,k,Lv,next i (by omega)];exact j
theorem Kt{e:Bool}{l:List Int}(hl:l.length<=1000):Or (.call 86) [ad e l,AV.fn 90 [] []] []=some [tb (l.all pI)]:=by
 obtain⟨z,c,f⟩:=Im (e:=e) hl l 0 rfl;have b:Or (.call 76) [ad e l,AV.fn 95 [] [AV.t (T.ptr [T.cm 90])]] []=some [ti z]:=by refine ai ?_;rw [F5];simp only [aD];exact c
 have a:Or (.call 39) [ad e l,AV.fn 95 [] [AV.t (T.ptr [T.cm 90])]] []=some [tb (!l.all pI)]:=by refine ai ?_;rw [Fb];simp only [aj,↓reduceIte,Int.reduceBEq,Int.reduceEq,b,f]
 refine ai ?_;rw [Gi];simp only [aj,↓reduceIte,Int.reduceBEq,Int.reduceEq,a,Bool.not_not]
theorem H8{e e':Bool}{a b:List Int}(v:a.length=b.length)(hl:a.length<=1000):∀(g c:List Int) (i:Nat),a.drop i=g->b.drop i=c->Or rE [ad e a,ad e' b,I (a.length:Int),I (i:Int)] []=some [tb (decide (g=c))]:=by
 intro g;induction g with
 | nil=>
  intro c i l h;have j:¬(i:Int) < (a.length:Int):=by have:=br l;omega
  have:c= []:=by rw [<-h];exact Nl (by omega)
  subst this;refine ai ?_;rw [uQ];simp only [aj,↓reduceIte,Int.reduceBEq,Int.reduceEq,j,decide_true]
 | cons x g u=>
  intro c i l h;obtain⟨m,w,r⟩:=bu l;cases c with
  | nil=>exact absurd (br h) (by omega)
  | cons y c=>
   obtain⟨o,z,s⟩:=bu h;have j:(i:Int) < (a.length:Int):=by omega
   have p:(i:Int) < (b.length:Int):=by omega
   have h0: 0<=(i:Int):=by omega
   by_cases f:x=y
   .have t:=u c (i+1) r s;have k:decide (x::g=y::c)=decide (g=c):=by simp [f]
    rw [k];refine ai ?_;rw [uQ];simp only [aj,↓reduceIte,Int.reduceBEq,Int.reduceEq,j,p,h0,and_self,aD,bJ m,bJ o,f,Lv,next i (by omega)];exact t
   .have k:decide (x::g=y::c)=false:=by simp [f]
    have q:(x==y)=false:=by simpa using f
    rw [k];refine ai ?_;rw [uQ];simp only [aj,↓reduceIte,Int.reduceBEq,Int.reduceEq,j,p,h0,and_self,aD,bJ m,bJ o,q,f,Lx]
theorem JP{e e':Bool}{a b:List Int}(hl:a.length<=1000):Or (.call 35) [ad e a,ad e' b] []=some [tb (decide (a=b))]:=by
 by_cases c:a.length=b.length
 .have i:=H8 (e:=e) (e':=e') c hl a b 0 rfl rfl;have h:(a.length:Int)= (b.length:Int):=by omega
  refine ai ?_;rw [zn];simp only [aj,↓reduceIte,Int.reduceBEq,Int.reduceEq,aD,h,Lv];rw [<-h];exact i
 .have h:¬(a.length:Int)= (b.length:Int):=by omega
  have g:((a.length:Int)== (b.length:Int))=false:=by simpa using h
  have f:decide (a=b)=false:=by rw [decide_eq_false_iff_not];rintro rfl;exact c rfl
  rw [f];refine ai ?_;rw [zn];simp only [aj,↓reduceIte,Int.reduceBEq,Int.reduceEq,aD,g,h,Lx]
theorem xg{e e':Bool}{l da:List Int}(hl:l.length<=1000):Or (.call 85) [ad e da,AV.t (T.ptr [T.ad 1 e' (enc l)])] []=some [tb (decide (l=da))]:=by have k:=JP (e:=e') (e':=e) (b:=da) hl;refine ai ?_;rw [Gf];simp only [aj,↓reduceIte,Int.reduceBEq,Int.reduceEq,k]
theorem lj(b:Bool):Or (.call 89) [B b] []=some [ti (if b then 2 else 3)]:=by refine ai ?_;rw [Gl];cases b <;> rfl
def aW(op d:Int)(l da:List Int)(so:Int):Int:=
 if op=1\/op=2 then 1
 else if op=3\/op=4\/op=5\/op=6 then(if l.all pB then 1 else 0)
 else if op=7 then(if l.getD 0 0=1/\l.getD 1 0=l.getD 2 0/\l.getD 1 0≠5 then l.getD 1 0 else 0)
 else if op=8 then(if l.all pN=true\/(l.getD 0 0=l.getD 1 0/\(l.getD 0 0=4\/aH (l.getD 0 0)=true)) then 1 else 0)
 else if op=9 then(if l=da then so else 0)
 else if op=10 then(if d=1 then 2 else 3)
 else if op=11 then(if l.all pN then(if l.all pI then 2 else 3) else 0)
 else if op=12 then(if pN (l.getD 0 0) then(if l.getD 0 0=2/\d=1 then 2 else 3) else 0)
 else if op=13\/op=14 then(if l.all pN then 1 else 0)
 else if op=15 then 10+d
 else if op=16\/op=23 then(if aH (l.getD 0 0) then l.getD 0 0 else 0)
 else if op=22 then(if l.getD 0 0=l.getD 1 0/\aH (l.getD 0 0)=true then 1 else 0)
 else if op=24 then(if l= [5,4] then 4 else 0)
 else if op=25 then(if l= [5,4,4] then 5 else 0)
 else(if l.getD 0 0=l.getD 1 0/\aH (l.getD 0 0)=true then l.getD 0 0 else 0)
abbrev SA(op:Int)(ek:Bool)(ks:List (List T))(n d:Int)(nm:ByteArray)(es:Bool)(l:List Int)(dn:ByteArray)(ea:Bool)(da:List Int)(so:Int):List AV:=
 [AV.agg [I op,AV.t (T.ad 1 ek ks),I n,I d,AV.t (T.str nm)],ad es l,AV.agg [AV.t (T.str dn),ad ea da,I so]]
section
variable {ek:Bool} {ks:List (List T)} {n d:Int} {nm:ByteArray} {es:Bool} {dn:ByteArray} {ea:Bool} {da:List Int} {so:Int}
theorem bE:(0:Int)<=0/\(0:Int) < 2:=by decide
theorem bH:(0:Int)<=1/\(1:Int) < 2:=by decide
theorem bD:(0:Int)<=0/\(0:Int) < 1:=by decide
theorem bG:(0:Int)<=0/\(0:Int) < 3:=by decide
theorem bI:(0:Int)<=1/\(1:Int) < 3:=by decide
theorem bn:(0:Int)<=2/\(2:Int) < 3:=by decide
theorem L0:((([]:List Int).length:Nat):Int)=0:=rfl
theorem L1(a:Int):((([a]:List Int).length:Nat):Int)=1:=rfl
theorem L2(a b:Int):((([a,b]:List Int).length:Nat):Int)=2:=rfl
theorem L3(a b c:Int):((([a,b,c]:List Int).length:Nat):Int)=3:=rfl
theorem E1(a:Int):(enc [a])[0]? =some [ti a]:=rfl
theorem bx(a b:Int):(enc [a,b])[0]? =some [ti a]:=rfl
theorem bz(a b:Int):(enc [a,b])[1]? =some [ti b]:=rfl
theorem bA(a b c:Int):(enc [a,b,c])[0]? =some [ti a]:=rfl
theorem bB(a b c:Int):(enc [a,b,c])[1]? =some [ti b]:=rfl
theorem bC(a b c:Int):(enc [a,b,c])[2]? =some [ti c]:=rfl
theorem J2:Or (.call 75) (SA 1 ek ks n d nm es [] dn ea da so) []=some [ti (aW 1 d [] da so)]:=by refine ai ?_;rw [FN];simp only [bo,aj,↓reduceIte,Int.reduceBEq,Int.reduceEq,aD,L0,L1,L2,L3,E1,bx,bz,bA,bB,bC,bE,bH,bD,bG,bI,bn,and_self];rfl
theorem Kd:Or (.call 75) (SA 2 ek ks n d nm es [] dn ea da so) []=some [ti (aW 2 d [] da so)]:=by refine ai ?_;rw [FW];simp only [bo,aj,↓reduceIte,Int.reduceBEq,Int.reduceEq,aD,L0,L1,L2,L3,E1,bx,bz,bA,bB,bC,bE,bH,bD,bG,bI,bn,and_self];rfl
theorem Kk{l:List Int}(hl:l.length<=1000):Or (.call 75) (SA 3 ek ks n d nm es l dn ea da so) []=some [ti (aW 3 d l da so)]:=by
 have k:=tI (e:=es) hl;unfold aW;by_cases f:l.length=2
 .obtain⟨a,b,rfl⟩:∃a b,l= [a,b]:=by
   match l,f with
   | [a,b],_=>exact⟨a,b,rfl⟩
  cases c:List.all [a,b] pB <;> rw [c] at k <;>
  .refine ai ?_;rw [zK];simp only [bo,aj,↓reduceIte,Int.reduceBEq,Int.reduceEq,aD,L0,L1,L2,L3,E1,bx,bz,bA,bB,bC,bE,bH,bD,bG,bI,bn,and_self,k,Lv,Lx];rfl
 .have g:((l.length:Int)==2)=false:=by simp;omega
  have h:¬(l.length:Int)=2:=by omega
  cases c:l.all pB <;> rw [c] at k <;>
  .refine ai ?_;rw [zK];simp only [bo,aj,↓reduceIte,Int.reduceBEq,Int.reduceEq,aD,L0,L1,L2,L3,E1,bx,bz,bA,bB,bC,bE,bH,bD,bG,bI,bn,and_self,g,h,k,Lv,Lx];rfl
theorem Kl{l:List Int}(hl:l.length<=1000):Or (.call 75) (SA 4 ek ks n d nm es l dn ea da so) []=some [ti (aW 4 d l da so)]:=by
 have k:=tI (e:=es) hl;unfold aW;by_cases f:l.length=2
 .obtain⟨a,b,rfl⟩:∃a b,l= [a,b]:=by
   match l,f with
   | [a,b],_=>exact⟨a,b,rfl⟩
  cases c:List.all [a,b] pB <;> rw [c] at k <;>
  .refine ai ?_;rw [zL];simp only [bo,aj,↓reduceIte,Int.reduceBEq,Int.reduceEq,aD,L0,L1,L2,L3,E1,bx,bz,bA,bB,bC,bE,bH,bD,bG,bI,bn,and_self,k,Lv,Lx];rfl
 .have g:((l.length:Int)==2)=false:=by simp;omega
  have h:¬(l.length:Int)=2:=by omega
  cases c:l.all pB <;> rw [c] at k <;>
  .refine ai ?_;rw [zL];simp only [bo,aj,↓reduceIte,Int.reduceBEq,Int.reduceEq,aD,L0,L1,L2,L3,E1,bx,bz,bA,bB,bC,bE,bH,bD,bG,bI,bn,and_self,g,h,k,Lv,Lx];rfl
theorem Km{l:List Int}(hl:l.length<=1000):Or (.call 75) (SA 5 ek ks n d nm es l dn ea da so) []=some [ti (aW 5 d l da so)]:=by
 have k:=tI (e:=es) hl;unfold aW;by_cases f:l.length=2
 .obtain⟨a,b,rfl⟩:∃a b,l= [a,b]:=by
   match l,f with
   | [a,b],_=>exact⟨a,b,rfl⟩
  cases c:List.all [a,b] pB <;> rw [c] at k <;>
  .refine ai ?_;rw [zM];simp only [bo,aj,↓reduceIte,Int.reduceBEq,Int.reduceEq,aD,L0,L1,L2,L3,E1,bx,bz,bA,bB,bC,bE,bH,bD,bG,bI,bn,and_self,k,Lv,Lx];rfl
 .have g:((l.length:Int)==2)=false:=by simp;omega
  have h:¬(l.length:Int)=2:=by omega
  cases c:l.all pB <;> rw [c] at k <;>
  .refine ai ?_;rw [zM];simp only [bo,aj,↓reduceIte,Int.reduceBEq,Int.reduceEq,aD,L0,L1,L2,L3,E1,bx,bz,bA,bB,bC,bE,bH,bD,bG,bI,bn,and_self,g,h,k,Lv,Lx];rfl
theorem Kn{l:List Int}(hl:l.length<=1000):Or (.call 75) (SA 6 ek ks n d nm es l dn ea da so) []=some [ti (aW 6 d l da so)]:=by
 have k:=tI (e:=es) hl;unfold aW;by_cases f:l.length=2
 .obtain⟨a,b,rfl⟩:∃a b,l= [a,b]:=by
   match l,f with
   | [a,b],_=>exact⟨a,b,rfl⟩
  cases c:List.all [a,b] pB <;> rw [c] at k <;>
  .refine ai ?_;rw [zN];simp only [bo,aj,↓reduceIte,Int.reduceBEq,Int.reduceEq,aD,L0,L1,L2,L3,E1,bx,bz,bA,bB,bC,bE,bH,bD,bG,bI,bn,and_self,k,Lv,Lx];rfl
 .have g:((l.length:Int)==2)=false:=by simp;omega
  have h:¬(l.length:Int)=2:=by omega
  cases c:l.all pB <;> rw [c] at k <;>
  .refine ai ?_;rw [zN];simp only [bo,aj,↓reduceIte,Int.reduceBEq,Int.reduceEq,aD,L0,L1,L2,L3,E1,bx,bz,bA,bB,bC,bE,bH,bD,bG,bI,bn,and_self,g,h,k,Lv,Lx];rfl
theorem J6{l:List Int}(hl:l.length<=1000):Or (.call 75) (SA 13 ek ks n d nm es l dn ea da so) []=some [ti (aW 13 d l da so)]:=by
 have k:=tJ (e:=es) hl;unfold aW;by_cases f:l.length=2
 .obtain⟨a,b,rfl⟩:∃a b,l= [a,b]:=by
   match l,f with
   | [a,b],_=>exact⟨a,b,rfl⟩
  cases c:List.all [a,b] pN <;> rw [c] at k <;>
  .refine ai ?_;rw [zG];simp only [bo,aj,↓reduceIte,Int.reduceBEq,Int.reduceEq,aD,L0,L1,L2,L3,E1,bx,bz,bA,bB,bC,bE,bH,bD,bG,bI,bn,and_self,k,Lv,Lx];rfl
 .have g:((l.length:Int)==2)=false:=by simp;omega
  have h:¬(l.length:Int)=2:=by omega
  cases c:l.all pN <;> rw [c] at k <;>
  .refine ai ?_;rw [zG];simp only [bo,aj,↓reduceIte,Int.reduceBEq,Int.reduceEq,aD,L0,L1,L2,L3,E1,bx,bz,bA,bB,bC,bE,bH,bD,bG,bI,bn,and_self,g,h,k,Lv,Lx];rfl
theorem J7{l:List Int}(hl:l.length<=1000):Or (.call 75) (SA 14 ek ks n d nm es l dn ea da so) []=some [ti (aW 14 d l da so)]:=by
 have k:=tJ (e:=es) hl;unfold aW;by_cases f:l.length=2
 .obtain⟨a,b,rfl⟩:∃a b,l= [a,b]:=by
   match l,f with
   | [a,b],_=>exact⟨a,b,rfl⟩
  cases c:List.all [a,b] pN <;> rw [c] at k <;>
  .refine ai ?_;rw [zH];simp only [bo,aj,↓reduceIte,Int.reduceBEq,Int.reduceEq,aD,L0,L1,L2,L3,E1,bx,bz,bA,bB,bC,bE,bH,bD,bG,bI,bn,and_self,k,Lv,Lx];rfl
 .have g:((l.length:Int)==2)=false:=by simp;omega
  have h:¬(l.length:Int)=2:=by omega
  cases c:l.all pN <;> rw [c] at k <;>
  .refine ai ?_;rw [zH];simp only [bo,aj,↓reduceIte,Int.reduceBEq,Int.reduceEq,aD,L0,L1,L2,L3,E1,bx,bz,bA,bB,bC,bE,bH,bD,bG,bI,bn,and_self,g,h,k,Lv,Lx];rfl
theorem J4{l:List Int}(hl:l.length<=1000):Or (.call 75) (SA 11 ek ks n d nm es l dn ea da so) []=some [ti (aW 11 d l da so)]:=by
 have k:=tJ (e:=es) hl;have f:=Kt (e:=es) hl;have g:=lj (l.all pI);unfold aW;by_cases h:l.length=2
 .obtain⟨a,b,rfl⟩:∃a b,l= [a,b]:=by
   match l,h with
   | [a,b],_=>exact⟨a,b,rfl⟩
  cases c:List.all [a,b] pN <;> rw [c] at k <;>
  .refine ai ?_;rw [zF];simp only [bo,aj,↓reduceIte,Int.reduceBEq,Int.reduceEq,aD,L0,L1,L2,L3,E1,bx,bz,bA,bB,bC,bE,bH,bD,bG,bI,bn,and_self,k,f,g,Lv,Lx];rfl
 .have i:((l.length:Int)==2)=false:=by simp;omega
  have j:¬(l.length:Int)=2:=by omega
  cases c:l.all pN <;> rw [c] at k <;>
  .refine ai ?_;rw [zF];simp only [bo,aj,↓reduceIte,Int.reduceBEq,Int.reduceEq,aD,L0,L1,L2,L3,E1,bx,bz,bA,bB,bC,bE,bH,bD,bG,bI,bn,and_self,i,j,k,f,g,Lv,Lx];rfl
theorem Ko{a b c:Int}:Or (.call 75) (SA 7 ek ks n d nm es [a,b,c] dn ea da so) []=some [ti (aW 7 d [a,b,c] da so)]:=by
 have e:aW 7 d [a,b,c] da so=if a=1/\b=c/\b≠5 then b else 0:=rfl;rw [e];refine ai ?_;rw [F1];by_cases g:a=1
 .have k:(a==1)=true:=by simpa using g
  by_cases i:b=c
  .have l:(b==c)=true:=by simpa using i
   by_cases j:b=5
   .have f:(b==5)=true:=by simpa using j
    refine N8 (b:=some [ti 0]) ?_ (by rw [if_neg (λh=>h.2.2 j)]);simp only [bo,bK,bO,cU,eS,bT,dO,bN,bX,hZ,hY,gv,fD,fL,↓reduceIte,Int.reduceBEq,Lv,Lx,aD,L0,L1,L2,L3,E1,bx,bz,bA,bB,bC,bE,bH,bD,bG,bI,bn,and_self,k,l,f]
   .have f:(b==5)=false:=by simpa using j
    refine N8 (b:=some [ti b]) ?_ (by rw [if_pos ⟨g,i,j⟩]);simp only [bo,bK,bO,cU,eS,bT,dO,bN,bX,hZ,hY,gv,fD,fL,↓reduceIte,Int.reduceBEq,Lv,Lx,aD,L0,L1,L2,L3,E1,bx,bz,bA,bB,bC,bE,bH,bD,bG,bI,bn,and_self,k,l,f]
  .have f:(b==c)=false:=by simpa using i
   refine N8 (b:=some [ti 0]) ?_ (by rw [if_neg (λh=>i h.2.1)]);simp only [bo,bK,bO,cU,eS,bT,dO,bN,bX,hZ,hY,gv,fD,fL,↓reduceIte,Int.reduceBEq,Lv,Lx,aD,L0,L1,L2,L3,E1,bx,bz,bA,bB,bC,bE,bH,bD,bG,bI,bn,and_self,k,f]
 .have f:(a==1)=false:=by simpa using g
  refine N8 (b:=some [ti 0]) ?_ (by rw [if_neg (λh=>g h.1)]);simp only [bo,bK,bO,cU,eS,bT,dO,bN,bX,hZ,hY,gv,fD,fL,↓reduceIte,Int.reduceBEq,Lv,Lx,aD,L0,L1,L2,L3,E1,bx,bz,bA,bB,bC,bE,bH,bD,bG,bI,bn,and_self,f]
theorem Kq{a b:Int}:Or (.call 75) (SA 8 ek ks n d nm es [a,b] dn ea da so) []=some [ti (aW 8 d [a,b] da so)]:=by
 have k:=tJ (e:=es) (l:= [a,b]) (by simp);have f:=gM a;have e:aW 8 d [a,b] da so=if List.all [a,b] pN=true\/(a=b/\(a=4\/aH a=true)) then 1 else 0:=rfl;rw [e];refine ai ?_;rw [F2];cases m:List.all [a,b] pN with
 | true=>rw [m] at k;simp only [bo,aj,↓reduceIte,Int.reduceBEq,Int.reduceEq,aD,L0,L1,L2,L3,E1,bx,bz,bA,bB,bC,bE,bH,bD,bG,bI,bn,and_self,k,Lv,true_or,Lx]
 | false=>
  rw [m] at k;by_cases c:a=b
  .have g:(a==b)=true:=by simpa using c
   by_cases i:a=4
   .have j:(a==4)=true:=by simpa using i
    refine N8 (b:=some [ti 1]) ?_ (by rw [if_pos (.inr ⟨c, .inl i⟩)]);simp only [bo,bK,bO,cU,eS,bT,dO,bN,bX,hZ,hY,gv,fD,fL,↓reduceIte,Int.reduceBEq,Lv,Lx,aD,L0,L1,L2,L3,E1,bx,bz,bA,bB,bC,bE,bH,bD,bG,bI,bn,and_self,k,g,j]
   .have j:(a==4)=false:=by simpa using i
    cases o:aH a <;> rw [o] at f
    .refine N8 (b:=some [ti 0]) ?_ (by rw [if_neg (by rintro(h | ⟨_,h | h⟩);cases h;exact i h;cases h)]);simp only [bo,bK,bO,cU,eS,bT,dO,bN,bX,hZ,hY,gv,fD,fL,↓reduceIte,Int.reduceBEq,Lv,Lx,aD,L0,L1,L2,L3,E1,bx,bz,bA,bB,bC,bE,bH,bD,bG,bI,bn,and_self,k,g,j,f]
    .refine N8 (b:=some [ti 1]) ?_ (by rw [if_pos (.inr ⟨c, .inr rfl⟩)]);simp only [bo,bK,bO,cU,eS,bT,dO,bN,bX,hZ,hY,gv,fD,fL,↓reduceIte,Int.reduceBEq,Lv,Lx,aD,L0,L1,L2,L3,E1,bx,bz,bA,bB,bC,bE,bH,bD,bG,bI,bn,and_self,k,g,j,f]
  .have g:(a==b)=false:=by simpa using c
   refine N8 (b:=some [ti 0]) ?_ (by rw [if_neg (by rintro(h | ⟨h,_⟩);cases h;exact c h)]);simp only [bo,bK,bO,cU,eS,bT,dO,bN,bX,hZ,hY,gv,fD,fL,↓reduceIte,Int.reduceBEq,Lv,Lx,aD,L0,L1,L2,L3,E1,bx,bz,bA,bB,bC,bE,bH,bD,bG,bI,bn,and_self,k,g]
theorem Kr{l:List Int}(hl:l.length<=1000):Or (.call 75) (SA 9 ek ks n d nm es l dn ea da so) []=some [ti (aW 9 d l da so)]:=by
 have k:=xg (e:=ea) (e':=es) (da:=da) hl;have e:aW 9 d l da so=if l=da then so else 0:=rfl;rw [e];by_cases h:l.length=2
 .obtain⟨a,b,rfl⟩:∃a b,l= [a,b]:=by
   match l,h with
   | [a,b],_=>exact⟨a,b,rfl⟩
  by_cases c: [a,b]=da
  .rw [decide_eq_true c] at k;rw [if_pos c];refine ai ?_;rw [se];simp only [bo,aj,↓reduceIte,Int.reduceBEq,Int.reduceEq,aD,L0,L1,L2,L3,E1,bx,bz,bA,bB,bC,bE,bH,bD,bG,bI,bn,and_self,k,Lv]
  .rw [decide_eq_false c] at k;rw [if_neg c];refine ai ?_;rw [se];simp only [bo,aj,↓reduceIte,Int.reduceBEq,Int.reduceEq,aD,L0,L1,L2,L3,E1,bx,bz,bA,bB,bC,bE,bH,bD,bG,bI,bn,and_self,k,Lx]
 .have f:((l.length:Int)==2)=false:=by simp;omega
  have g:¬(l.length:Int)=2:=by omega
  by_cases c:l=da
  .rw [decide_eq_true c] at k;rw [if_pos c];refine ai ?_;rw [se];simp only [bo,aj,↓reduceIte,Int.reduceBEq,Int.reduceEq,aD,L0,L1,L2,L3,E1,bx,bz,bA,bB,bC,bE,bH,bD,bG,bI,bn,and_self,f,g,k,Lv]
  .rw [decide_eq_false c] at k;rw [if_neg c];refine ai ?_;rw [se];simp only [bo,aj,↓reduceIte,Int.reduceBEq,Int.reduceEq,aD,L0,L1,L2,L3,E1,bx,bz,bA,bB,bC,bE,bH,bD,bG,bI,bn,and_self,f,g,k,Lx]
theorem J3:Or (.call 75) (SA 10 ek ks n d nm es [] dn ea da so) []=some [ti (aW 10 d [] da so)]:=by have e:aW 10 d [] da so=if d=1 then 2 else 3:=rfl;have k:=lj (d==1);rw [e];refine ai ?_;rw [FO];simp only [bo,aj,↓reduceIte,Int.reduceBEq,Int.reduceEq,aD,L0,L1,L2,L3,E1,bx,bz,bA,bB,bC,bE,bH,bD,bG,bI,bn,and_self,k];by_cases h:d=1 <;> simp [h]
theorem J5{a:Int}:Or (.call 75) (SA 12 ek ks n d nm es [a] dn ea da so) []=some [ti (aW 12 d [a] da so)]:=by
 have e:aW 12 d [a] da so=if pN a then(if a=2/\d=1 then 2 else 3) else 0:=rfl;have k:=CY a;have b:=lj (bif a==2 then d==1 else false);rw [e];refine ai ?_;rw [FP];cases j:pN a <;> rw [j] at k
 .cases i:(bif a==2 then d==1 else false) <;> rw [i] at b <;> simp only [bo,bK,bO,cU,eS,bT,dO,bN,bX,hZ,hY,gv,fD,fL,↓reduceIte,Int.reduceBEq,Lv,Lx,aD,L0,L1,L2,L3,E1,bx,bz,bA,bB,bC,bE,bH,bD,bG,bI,bn,and_self,k,b,i] <;> rfl
 .by_cases f:a=2
  .have c:(a==2)=true:=by simpa using f
   rw [c] at b;by_cases g:d=1
   .have x2:(d==1)=true:=by simpa using g
    rw [x2] at b;rw [show(if(true:Bool)=true then(if a=2/\d=1 then(2:Int) else 3) else 0)=2 from by rw [if_pos rfl,if_pos ⟨f,g⟩]];simp only [bo,bK,bO,cU,eS,bT,dO,bN,bX,hZ,hY,gv,fD,fL,↓reduceIte,Int.reduceBEq,Lv,Lx,aD,L0,L1,L2,L3,E1,bx,bz,bA,bB,bC,bE,bH,bD,bG,bI,bn,and_self,k,lj true,lj false,c,x2]
    try rfl
   .have x2:(d==1)=false:=by simpa using g
    rw [x2] at b;rw [show(if(true:Bool)=true then(if a=2/\d=1 then(2:Int) else 3) else 0)=3 from by rw [if_pos rfl,if_neg (λh=>g h.2)]];simp only [bo,bK,bO,cU,eS,bT,dO,bN,bX,hZ,hY,gv,fD,fL,↓reduceIte,Int.reduceBEq,Lv,Lx,aD,L0,L1,L2,L3,E1,bx,bz,bA,bB,bC,bE,bH,bD,bG,bI,bn,and_self,k,lj true,lj false,c,x2]
    try rfl
  .have c:(a==2)=false:=by simpa using f
   rw [c] at b;rw [show(if(true:Bool)=true then(if a=2/\d=1 then(2:Int) else 3) else 0)=3 from by rw [if_pos rfl,if_neg (λh=>f h.1)]];simp only [bo,bK,bO,cU,eS,bT,dO,bN,bX,hZ,hY,gv,fD,fL,↓reduceIte,Int.reduceBEq,Lv,Lx,aD,L0,L1,L2,L3,E1,bx,bz,bA,bB,bC,bE,bH,bD,bG,bI,bn,and_self,k,lj true,lj false,c]
   try rfl
theorem J8(a: 0<=d/\d<=1000):Or (.call 75) (SA 15 ek ks n d nm es [] dn ea da so) []=some [ti (aW 15 d [] da so)]:=by have e:aW 15 d [] da so=10+d:=rfl;have w:i64.wrap (10+d)=10+d:=wr (by omega);rw [e];refine ai ?_;rw [FQ];simp only [bo,aj,↓reduceIte,Int.reduceBEq,Int.reduceEq,aD,L0,L1,L2,L3,E1,bx,bz,bA,bB,bC,bE,bH,bD,bG,bI,bn,and_self,w]
theorem J9{a:Int}:Or (.call 75) (SA 16 ek ks n d nm es [a] dn ea da so) []=some [ti (aW 16 d [a] da so)]:=by have e:aW 16 d [a] da so=if aH a then a else 0:=rfl;have k:=gM a;rw [e];refine ai ?_;rw [FR];cases b:aH a <;> rw [b] at k <;> simp only [bo,aj,↓reduceIte,Int.reduceBEq,Int.reduceEq,aD,L0,L1,L2,L3,E1,bx,bz,bA,bB,bC,bE,bH,bD,bG,bI,bn,and_self,k,Lv,Lx] <;> rfl
theorem Kh{a:Int}:Or (.call 75) (SA 23 ek ks n d nm es [a] dn ea da so) []=some [ti (aW 23 d [a] da so)]:=by have e:aW 23 d [a] da so=if aH a then a else 0:=rfl;have k:=gM a;rw [e];refine ai ?_;rw [F0];cases b:aH a <;> rw [b] at k <;> simp only [bo,aj,↓reduceIte,Int.reduceBEq,Int.reduceEq,aD,L0,L1,L2,L3,E1,bx,bz,bA,bB,bC,bE,bH,bD,bG,bI,bn,and_self,k,Lv,Lx] <;> rfl
theorem Ka{a b:Int}:Or (.call 75) (SA 17 ek ks n d nm es [a,b] dn ea da so) []=some [ti (aW 17 d [a,b] da so)]:=by
 have e:aW 17 d [a,b] da so=if a=b/\aH a=true then a else 0:=rfl;have k:=gM a;rw [e];refine ai ?_;rw [FT];by_cases h:a=b
 .have y:(a==b)=true:=by simpa using h
  cases c:aH a <;> rw [c] at k
  .simp only [bo,aj,↓reduceIte,Int.reduceBEq,Int.reduceEq,aD,L0,L1,L2,L3,E1,bx,bz,bA,bB,bC,bE,bH,bD,bG,bI,bn,and_self,y,k,Lv,Lx];simp [h,c]
   try (subst h;simp [c])
  .simp only [bo,aj,↓reduceIte,Int.reduceBEq,Int.reduceEq,aD,L0,L1,L2,L3,E1,bx,bz,bA,bB,bC,bE,bH,bD,bG,bI,bn,and_self,y,k,Lv,Lx];simp [h,c]
   try (subst h;simp [c])
 .have y:(a==b)=false:=by simpa using h
  simp only [bo,aj,↓reduceIte,Int.reduceBEq,Int.reduceEq,aD,L0,L1,L2,L3,E1,bx,bz,bA,bB,bC,bE,bH,bD,bG,bI,bn,and_self,y,Lx];simp [h]
theorem Kb{a b:Int}:Or (.call 75) (SA 18 ek ks n d nm es [a,b] dn ea da so) []=some [ti (aW 18 d [a,b] da so)]:=by
 have e:aW 18 d [a,b] da so=if a=b/\aH a=true then a else 0:=rfl;have k:=gM a;rw [e];refine ai ?_;rw [FU];by_cases h:a=b
 .have y:(a==b)=true:=by simpa using h
  cases c:aH a <;> rw [c] at k
  .simp only [bo,aj,↓reduceIte,Int.reduceBEq,Int.reduceEq,aD,L0,L1,L2,L3,E1,bx,bz,bA,bB,bC,bE,bH,bD,bG,bI,bn,and_self,y,k,Lv,Lx];simp [h,c]
   try (subst h;simp [c])
  .simp only [bo,aj,↓reduceIte,Int.reduceBEq,Int.reduceEq,aD,L0,L1,L2,L3,E1,bx,bz,bA,bB,bC,bE,bH,bD,bG,bI,bn,and_self,y,k,Lv,Lx];simp [h,c]
   try (subst h;simp [c])
 .have y:(a==b)=false:=by simpa using h
  simp only [bo,aj,↓reduceIte,Int.reduceBEq,Int.reduceEq,aD,L0,L1,L2,L3,E1,bx,bz,bA,bB,bC,bE,bH,bD,bG,bI,bn,and_self,y,Lx];simp [h]
theorem Kc{a b:Int}:Or (.call 75) (SA 19 ek ks n d nm es [a,b] dn ea da so) []=some [ti (aW 19 d [a,b] da so)]:=by
 have e:aW 19 d [a,b] da so=if a=b/\aH a=true then a else 0:=rfl;have k:=gM a;rw [e];refine ai ?_;rw [FV];by_cases h:a=b
 .have y:(a==b)=true:=by simpa using h
  cases c:aH a <;> rw [c] at k
  .simp only [bo,aj,↓reduceIte,Int.reduceBEq,Int.reduceEq,aD,L0,L1,L2,L3,E1,bx,bz,bA,bB,bC,bE,bH,bD,bG,bI,bn,and_self,y,k,Lv,Lx];simp [h,c]
   try (subst h;simp [c])
  .simp only [bo,aj,↓reduceIte,Int.reduceBEq,Int.reduceEq,aD,L0,L1,L2,L3,E1,bx,bz,bA,bB,bC,bE,bH,bD,bG,bI,bn,and_self,y,k,Lv,Lx];simp [h,c]
   try (subst h;simp [c])
 .have y:(a==b)=false:=by simpa using h
  simp only [bo,aj,↓reduceIte,Int.reduceBEq,Int.reduceEq,aD,L0,L1,L2,L3,E1,bx,bz,bA,bB,bC,bE,bH,bD,bG,bI,bn,and_self,y,Lx];simp [h]
theorem Ke{a b:Int}:Or (.call 75) (SA 20 ek ks n d nm es [a,b] dn ea da so) []=some [ti (aW 20 d [a,b] da so)]:=by
 have e:aW 20 d [a,b] da so=if a=b/\aH a=true then a else 0:=rfl;have k:=gM a;rw [e];refine ai ?_;rw [FX];by_cases h:a=b
 .have y:(a==b)=true:=by simpa using h
  cases c:aH a <;> rw [c] at k
  .simp only [bo,aj,↓reduceIte,Int.reduceBEq,Int.reduceEq,aD,L0,L1,L2,L3,E1,bx,bz,bA,bB,bC,bE,bH,bD,bG,bI,bn,and_self,y,k,Lv,Lx];simp [h,c]
   try (subst h;simp [c])
  .simp only [bo,aj,↓reduceIte,Int.reduceBEq,Int.reduceEq,aD,L0,L1,L2,L3,E1,bx,bz,bA,bB,bC,bE,bH,bD,bG,bI,bn,and_self,y,k,Lv,Lx];simp [h,c]
   try (subst h;simp [c])
 .have y:(a==b)=false:=by simpa using h
  simp only [bo,aj,↓reduceIte,Int.reduceBEq,Int.reduceEq,aD,L0,L1,L2,L3,E1,bx,bz,bA,bB,bC,bE,bH,bD,bG,bI,bn,and_self,y,Lx];simp [h]
theorem Kf{a b:Int}:Or (.call 75) (SA 21 ek ks n d nm es [a,b] dn ea da so) []=some [ti (aW 21 d [a,b] da so)]:=by
 have e:aW 21 d [a,b] da so=if a=b/\aH a=true then a else 0:=rfl;have k:=gM a;rw [e];refine ai ?_;rw [FY];by_cases h:a=b
 .have y:(a==b)=true:=by simpa using h
  cases c:aH a <;> rw [c] at k
  .simp only [bo,aj,↓reduceIte,Int.reduceBEq,Int.reduceEq,aD,L0,L1,L2,L3,E1,bx,bz,bA,bB,bC,bE,bH,bD,bG,bI,bn,and_self,y,k,Lv,Lx];simp [h,c]
   try (subst h;simp [c])
  .simp only [bo,aj,↓reduceIte,Int.reduceBEq,Int.reduceEq,aD,L0,L1,L2,L3,E1,bx,bz,bA,bB,bC,bE,bH,bD,bG,bI,bn,and_self,y,k,Lv,Lx];simp [h,c]
   try (subst h;simp [c])
 .have y:(a==b)=false:=by simpa using h
  simp only [bo,aj,↓reduceIte,Int.reduceBEq,Int.reduceEq,aD,L0,L1,L2,L3,E1,bx,bz,bA,bB,bC,bE,bH,bD,bG,bI,bn,and_self,y,Lx];simp [h]
theorem Kg{a b:Int}:Or (.call 75) (SA 22 ek ks n d nm es [a,b] dn ea da so) []=some [ti (aW 22 d [a,b] da so)]:=by
 have e:aW 22 d [a,b] da so=if a=b/\aH a=true then 1 else 0:=rfl;have k:=gM a;rw [e];refine ai ?_;rw [FZ];by_cases h:a=b
 .have y:(a==b)=true:=by simpa using h
  cases c:aH a <;> rw [c] at k
  .simp only [bo,aj,↓reduceIte,Int.reduceBEq,Int.reduceEq,aD,L0,L1,L2,L3,E1,bx,bz,bA,bB,bC,bE,bH,bD,bG,bI,bn,and_self,y,k,Lv,Lx];simp [h,c]
   try (subst h;simp [c])
  .simp only [bo,aj,↓reduceIte,Int.reduceBEq,Int.reduceEq,aD,L0,L1,L2,L3,E1,bx,bz,bA,bB,bC,bE,bH,bD,bG,bI,bn,and_self,y,k,Lv,Lx];simp [h,c]
   try (subst h;simp [c])
 .have y:(a==b)=false:=by simpa using h
  simp only [bo,aj,↓reduceIte,Int.reduceBEq,Int.reduceEq,aD,L0,L1,L2,L3,E1,bx,bz,bA,bB,bC,bE,bH,bD,bG,bI,bn,and_self,y,Lx];simp [h]
theorem Ki{a b:Int}:Or (.call 75) (SA 24 ek ks n d nm es [a,b] dn ea da so) []=some [ti (aW 24 d [a,b] da so)]:=by
 have e:aW 24 d [a,b] da so=if [a,b]= [5,4] then 4 else 0:=rfl;have k:=xg (e:=false) (e':=es) (l:= [a,b]) (da:= [5,4]) (by simp);replace k:Or (.call 85) [AV.t (T.ad 1 false [[ti 5],[ti 4]]),AV.t (T.ptr [T.ad 1 es (enc [a,b])])] []=_:=k;rw [e];by_cases c: [a,b]= [5,4]
 .rw [decide_eq_true c] at k;rw [if_pos c];refine ai ?_;rw [zI];simp only [bo,aj,↓reduceIte,Int.reduceBEq,Int.reduceEq,aD,L0,L1,L2,L3,E1,bx,bz,bA,bB,bC,bE,bH,bD,bG,bI,bn,and_self,k,Lv]
 .rw [decide_eq_false c] at k;rw [if_neg c];refine ai ?_;rw [zI];simp only [bo,aj,↓reduceIte,Int.reduceBEq,Int.reduceEq,aD,L0,L1,L2,L3,E1,bx,bz,bA,bB,bC,bE,bH,bD,bG,bI,bn,and_self,k,Lx]
theorem Kj{a b c:Int}:Or (.call 75) (SA 25 ek ks n d nm es [a,b,c] dn ea da so) []=some [ti (aW 25 d [a,b,c] da so)]:=by
 have e:aW 25 d [a,b,c] da so=if [a,b,c]= [5,4,4] then 5 else 0:=rfl;have k:=xg (e:=false) (e':=es) (l:= [a,b,c]) (da:= [5,4,4]) (by simp);replace k:Or (.call 85) [AV.t (T.ad 1 false [[ti 5],[ti 4],[ti 4]]),AV.t (T.ptr [T.ad 1 es (enc [a,b,c])])] []=_:=k;rw [e];by_cases f: [a,b,c]= [5,4,4]
 .rw [decide_eq_true f] at k;rw [if_pos f];refine ai ?_;rw [zJ];simp only [bo,aj,↓reduceIte,Int.reduceBEq,Int.reduceEq,aD,L0,L1,L2,L3,E1,bx,bz,bA,bB,bC,bE,bH,bD,bG,bI,bn,and_self,k,Lv]
 .rw [decide_eq_false f] at k;rw [if_neg f];refine ai ?_;rw [zJ];simp only [bo,aj,↓reduceIte,Int.reduceBEq,Int.reduceEq,aD,L0,L1,L2,L3,E1,bx,bz,bA,bB,bC,bE,bH,bD,bG,bI,bn,and_self,k,Lx]
end
open Go Go.Aev Go.IntKind
theorem IB(i:Nat)(h:i<=9223372036854775806):i64.wrap ((i:Int)+1)= ((i+1:Nat):Int):=by rw [wr (by omega)];omega
def lM(i:Nat)(u:UInt8):Bool:=
 !((!((((u.toNat:Int)==95) || (decide ((u.toNat:Int)>=97) && decide ((u.toNat:Int)<=122))) || (decide ((u.toNat:Int)>=65) && decide ((u.toNat:Int)<=90)))) && ((((i:Int)==0) || decide ((u.toNat:Int) < 48)) || decide ((u.toNat:Int) > 57)))
def jo:Nat->List UInt8->Bool
 | _,[]=>true
 | i,u::r=>lM i u && jo (i+1) r
def iC(s:ByteArray):Bool:=jo 0 s.data.toList && (decide ((s.size:Int)>=1) && decide ((s.size:Int)<=12))
theorem eR(a b:Bool):(bif a then true else b)= (a || b):=by cases a <;> rfl
theorem Il(s:ByteArray)(hs:s.size<=9223372036854775807):∀(r:List UInt8) (i:Nat),s.data.toList.drop i=r->Or rG [AV.t (T.str s),I (s.size:Int),I (i:Int)] []=some [tb (jo i r && (decide ((s.size:Int)>=1) && decide ((s.size:Int)<=12)))]:=by
 intro r;induction r with
 | nil=>
  intro i g;have b:¬(i:Int) < (s.size:Int):=by have:=br g;rw [oa] at this;omega
  refine ai ?_;rw [zE];simp only [bK,bX,bN,b,decide_false,jo,MC,fM]
 | cons u r j=>
  intro i g;obtain⟨c,e,f⟩:=bu g;rw [oa] at e;have b:(i:Int) < (s.size:Int):=by omega
  have h0: 0<=(i:Int):=by omega
  have h:=j (i+1) f;rw [jo];refine ai ?_;rw [zE];simp only [bK,bX,bN,b,h0,and_self,decide_true,↓reduceIte,Mb,c,fM,eR];cases a:lM i u with
  | true=>unfold lM at a;rw [Mr] at a;simp only [a,cond_false,MC,IB i (by omega)];exact h
  | false=>unfold lM at a;rw [On] at a;simp only [a,cond_true,Nw]
theorem JZ(s:ByteArray)(hs:s.size<=9223372036854775807):Or (.call 68) [AV.t (T.str s)] []=some [tb (iC s)]:=by have:=Il s hs s.data.toList 0 rfl;refine ai ?_;rw [FI];exact this
def kO(s:Int):Bool:=(decide (s>=1) && decide (s<=5)) || aH s
theorem J0(s:Int):Or (.call 70) [I s] []=some [tb (kO s)]:=by
 have k:=gM s;unfold kO;refine ai ?_;rw [FK];simp only [fM];cases h:(decide (s>=1) && decide (s<=5)) with
 | true=>simp only [bo,aj,↓reduceIte,Int.reduceBEq,Int.reduceEq,Lv];rfl
 | false=>simp only [aj,↓reduceIte,Int.reduceBEq,Int.reduceEq,Lx,k];rfl
theorem It{e:Bool}{ds:List Dc}{d:Dc}(hl:ds.length<=1000):∀(r:List Dc) (i:Nat),ds.drop i=r->
  ∃z:Int,Or fK [AV.t (T.ad 3 e (aJ ds)),AV.fn 69 [] [AV.t (T.ptr [T.str d.nm,T.ad 1 d.ea (enc d.ar),ti d.so])],I (ds.length:Int),I (i:Int)] []=some [ti z]/\decide (z>=0)=r.any λx=>decide (x.nm=d.nm):=by
 intro r;induction r with
 | nil=>
  intro i g;have a:¬(i:Int) < (ds.length:Int):=by have:=br g;omega
  refine⟨-1,ai ?_,by simp⟩;rw [vf];simp only [aj,↓reduceIte,Int.reduceBEq,Int.reduceEq,a]
 | cons x r h=>
  intro i g;obtain⟨c,m,f⟩:=bu g;have a:(i:Int) < (ds.length:Int):=by omega
  have h0: 0<=(i:Int):=by omega
  have k:Or (.call 69) [AV.agg [AV.t (T.str x.nm),AV.t (T.ad 1 x.ea (enc x.ar)),I x.so],AV.t (T.ptr [T.str d.nm,T.ad 1 d.ea (enc d.ar),ti d.so])] []=some [tb (decide (x.nm=d.nm))]:=by refine ai ?_;rw [FJ,py]
  cases b:decide (x.nm=d.nm) with
  | true=>rw [b] at k;refine⟨(i:Int),ai ?_,by simp [b]⟩;rw [vf];simp only [aj,↓reduceIte,Int.reduceBEq,Int.reduceEq,a,h0,and_self,cw,dR c,k]
  | false=>rw [b] at k;obtain⟨z,j,l⟩:=h (i+1) f;refine⟨z,ai ?_,by rw [l];simp [b]⟩;rw [vf];simp only [aj,↓reduceIte,Int.reduceBEq,Int.reduceEq,a,h0,and_self,cw,dR c,k,next i (by omega)];exact j
theorem JQ{e:Bool}{ds:List Dc}{d:Dc}(hl:ds.length<=1000):Or (.call 40) [AV.t (T.ad 3 e (aJ ds)),AV.fn 69 [] [AV.t (T.ptr [T.str d.nm,T.ad 1 d.ea (enc d.ar),ti d.so])]] []=some [tb (ds.any λx=>decide (x.nm=d.nm))]:=by
 obtain⟨z,b,c⟩:=It (e:=e) (d:=d) hl ds 0 rfl;have a:Or (.call 77) [AV.t (T.ad 3 e (aJ ds)),AV.fn 69 [] [AV.t (T.ptr [T.str d.nm,T.ad 1 d.ea (enc d.ar),ti d.so])]] []=some [ti z]:=by refine ai ?_;rw [Ga];simp only [cw];exact b
 refine ai ?_;rw [Fg];simp only [aj,↓reduceIte,Int.reduceBEq,Int.reduceEq,a,c]
theorem Iq{e:Bool}{l:List Int}(hl:l.length<=1000):∀(r:List Int) (i:Nat),l.drop i=r->
  ∃z:Int,Or eP [ad e l,AV.fn 71 [] [],I (l.length:Int),I (i:Int)] []=some [ti z]/\decide (z>=0)=r.any λs=> !(s==4):=by
 intro r;induction r with
 | nil=>
  intro i g;have a:¬(i:Int) < (l.length:Int):=by have:=br g;omega
  refine⟨-1,ai ?_,by simp⟩;rw [uX];simp only [aj,↓reduceIte,Int.reduceBEq,Int.reduceEq,a]
 | cons d r h=>
  intro i g;obtain⟨c,o,f⟩:=bu g;have a:(i:Int) < (l.length:Int):=by omega
  have h0: 0<=(i:Int):=by omega
  have k:Or (.call 71) [I d] []=some [tb (!(d==4))]:=by refine ai ?_;rw [FL]
  cases b: !(d==4) with
  | true=>rw [b] at k;refine⟨(i:Int),ai ?_,by simp only [List.any_cons,b,Bool.true_or];simp⟩;rw [uX];simp only [bK,bO,eS,bT,a,h0,and_self,aD,bJ c,k,bN,od,↓reduceIte]
  | false=>rw [b] at k;obtain⟨z,j,m⟩:=h (i+1) f;refine⟨z,ai ?_,by rw [m];simp only [List.any_cons,b,Mt]⟩;rw [uX];simp only [bK,bO,eS,bT,a,h0,and_self,aD,bJ c,k,bX,od,↓reduceIte,next i (by omega)];exact j
theorem JO{e:Bool}{l:List Int}(hl:l.length<=1000):Or (.call 39) [ad e l,AV.fn 71 [] []] []=some [tb (l.any λs=> !(s==4))]:=by
 obtain⟨z,b,c⟩:=Iq (e:=e) hl l 0 rfl;have a:Or (.call 76) [ad e l,AV.fn 71 [] []] []=some [ti z]:=by refine ai ?_;rw [F4];simp only [aD];exact b
 refine ai ?_;rw [Fa];simp only [aj,↓reduceIte,Int.reduceBEq,Int.reduceEq,a,c]
def eK(a:List Dc)(d:Dc):Int:=
 if iC d.nm=false then 12
 else if(a.any λx=>decide (x.nm=d.nm))=true then 7
 else if 8 < d.ar.length then 9
 else if kO d.so=false\/(d.ar.any λs=> !(s==4))=true\/(d.so=5/\0 < d.ar.length) then 4
 else 0
def dM:List Dc->Nat->List Dc->Int×Int
 | _,_,[]=>(0,0)
 | a,i,d::r=>if eK a d=0 then dM (a++ [d]) (i+1) r else(eK a d,(i:Int))
theorem KV{i:Nat}(l:List (List T)):sub 0 (i:Int) l=l.take i:=by simp [sub]
theorem H0{e:Bool}{ds:List Dc}(hl:ds.length<=100)(K:∀d∈ds,d.nm.size<=9223372036854775807):∀(r:List Dc) (i:Nat) (a:List Dc),ds.drop i=r->a=ds.take i->i<=ds.length->
  Or nW [AV.t (T.ad 3 e (aJ ds)),r0,AV.t (T.ad 3 e (aJ ds)),I (ds.length:Int),I (i:Int)] [mB]=some [ti (dM a i r).1,ti (dM a i r).2]:=by
 intro r;induction r with
 | nil=>
  intro i a g D J;have u:¬(i:Int) < (ds.length:Int):=by have:=br g;omega
  refine ai ?_;rw [lQ];simp only [aj,↓reduceIte,Int.reduceBEq,Int.reduceEq,u,dM]
 | cons d r M=>
  intro i a g D J;obtain⟨q,O,H⟩:=bu g;have hm:=LB q;have u:(i:Int) < (ds.length:Int):=by omega
  have h0: 0<=(i:Int):=by omega
  have b:=JZ d.nm (K d hm);have m:gE 0 (i:Int) (ds.length:Int)=some ():=by unfold gE;rw [if_pos ⟨by omega,by omega,by omega⟩]
  have f:sub 0 (i:Int) (aJ ds)=aJ a:=by rw [KV,D];simp [aJ,List.map_take]
  have j:=JQ (e:=e) (ds:=a) (d:=d) (by rw [D,Mp];omega);have L:=M (i+1) (a++ [d]) H (by rw [D,NF,q];rfl) (by omega);have N:=next i (by omega);rw [dM];cases p:iC d.nm with
  | false=>
   rw [p] at b;have c:eK a d=12:=by simp [eK,p]
   rw [c,if_neg (by decide)];refine ai ?_;rw [lQ];simp only [aj,↓reduceIte,Int.reduceBEq,Int.reduceEq,u,h0,and_self,cw,dR q,b,Lx]
  | true=>
  rw [p] at b;cases v:a.any λx=>decide (x.nm=d.nm) with
  | true=>
   rw [v] at j;have c:eK a d=7:=by unfold eK;rw [p,v];rfl
   rw [c,if_neg (by decide)];refine ai ?_;rw [lQ];simp only [aj,↓reduceIte,Int.reduceBEq,Int.reduceEq,u,h0,and_self,cw,dR q,b,Lv,m,f,j]
  | false=>
  rw [v] at j;by_cases z: 8 < d.ar.length
  .have k:(d.ar.length:Int) > 8:=by omega
   have c:eK a d=9:=by unfold eK;rw [p,v,if_neg (by decide),if_neg (by decide),if_pos z]
   rw [c,if_neg (by decide)];refine ai ?_;rw [lQ];simp only [aj,↓reduceIte,Int.reduceBEq,Int.reduceEq,u,h0,and_self,cw,dR q,b,Lv,m,f,j,aD,k]
  have k:¬(d.ar.length:Int) > 8:=by omega
  have o:=J0 d.so;have w:=JO (e:=d.ea) (l:=d.ar) (by omega);cases A:kO d.so with
  | false=>
   rw [A] at o;have c:eK a d=4:=by unfold eK;rw [p,v,if_neg (by decide),if_neg (by decide),if_neg z,if_pos (.inl A)]
   rw [c,if_neg (by decide)];refine ai ?_;rw [lQ];simp only [aj,↓reduceIte,Int.reduceBEq,Int.reduceEq,u,h0,and_self,cw,dR q,b,Lv,m,f,j,aD,k,o,Lx]
  | true=>
  rw [A] at o;cases B:d.ar.any λs=> !(s==4) with
  | true=>
   rw [B] at w;have c:eK a d=4:=by unfold eK;rw [p,v,if_neg (by decide),if_neg (by decide),if_neg z,if_pos (.inr (.inl B))]
   rw [c,if_neg (by decide)];refine ai ?_;rw [lQ];simp only [aj,↓reduceIte,Int.reduceBEq,Int.reduceEq,u,h0,and_self,cw,dR q,b,Lv,m,f,j,aD,k,o,w]
  | false=>
  rw [B] at w;by_cases C:d.so=5/\0 < d.ar.length
  .have F:(d.ar.length:Int) > 0:=by omega
   have G:(d.so==5)=true:=by simpa using C.1
   have E:(bif d.so==5 then decide ((d.ar.length:Int) > 0) else false)=true:=by rw [G,decide_eq_true F];rfl
   have c:eK a d=4:=by unfold eK;rw [p,v,if_neg (by decide),if_neg (by decide),if_neg z,if_pos (.inr (.inr C))]
   rw [c,if_neg (by decide)];refine ai ?_;rw [lQ];simp only [bK,bO,cU,eS,bT,fY,dO,bN,bX,od,↓reduceIte,u,h0,and_self,cw,dR q,b,Lv,m,f,j,aD,k,o,w,E]
  .have c:eK a d=0:=by unfold eK;rw [p,v,if_neg (by decide),if_neg (by decide),if_neg z,A,B,if_neg (by rintro(h | h | h);cases h;cases h;exact C h)]
   rw [if_pos c];have E:(bif d.so==5 then decide ((d.ar.length:Int) > 0) else false)=false:=by
    by_cases x:d.so=5
    .have:¬(d.ar.length:Int) > 0:=λy=>C ⟨x,by omega⟩;rw [decide_eq_false this];cases d.so==5 <;> rfl
    .have:(d.so==5)=false:=by simpa using x
     rw [this];rfl
   refine ai ?_;rw [lQ];simp only [bK,bO,cU,eS,bT,fY,dO,bN,bX,od,↓reduceIte,u,h0,and_self,cw,dR q,b,Lv,m,f,j,aD,k,o,w,E,N];exact L
theorem JM{e:Bool}{ds:List Dc}(b:∀d∈ds,d.nm.size<=9223372036854775807):Or (.call 37) [AV.t (T.ad 3 e (aJ ds))] []=some (if 30 < ds.length then [ti 2,ti 0] else [ti (dM [] 0 ds).1,ti (dM [] 0 ds).2]):=by
 by_cases h: 30 < ds.length
 .have a:(ds.length:Int) > 30:=by omega
  rw [if_pos h];refine ai ?_;rw [zm];simp only [aj,↓reduceIte,Int.reduceBEq,Int.reduceEq,cw,a]
 .have a:¬(ds.length:Int) > 30:=by omega
  have c:=H0 (e:=e) (show ds.length<=100 by omega) b ds 0 [] rfl rfl (Nv _);rw [if_neg h];refine ai ?_;rw [zm];simp only [aj,↓reduceIte,Int.reduceBEq,Int.reduceEq,cw,a];exact c
open Go Go.Aev Go.IntKind
def dx(op:Int):Int:=
 if op=1\/op=2\/op=10\/op=15 then 0 else if op=3\/op=12\/op=16\/op=23 then 1 else if op=7\/op=25 then 3 else if op=4\/op=5\/op=11 then -1 else 2
theorem wI{op:Int}(h: 1<=op/\op<=25):op=1\/op=2\/op=3\/op=4\/op=5\/op=6\/op=7\/op=8\/op=9\/op=10\/op=11\/op=12\/op=13\/op=14\/op=15\/op=16\/op=17\/op=18\/op=19\/op=20\/op=21\/op=22\/op=23\/op=24\/op=25:=by omega
theorem J1{op:Int}(h: 1<=op/\op<=25):Or (.call 72) [I op] []=some [ti (dx op)]:=by rcases wI h with rfl | rfl | rfl | rfl | rfl | rfl | rfl | rfl | rfl | rfl | rfl | rfl | rfl | rfl | rfl | rfl | rfl | rfl | rfl | rfl | rfl | rfl | rfl | rfl | rfl <;> exact wK (n:=5) (by kernel_rfl)
theorem tH{op:Int}{ek:Bool}{ks:List (List T)}{n d:Int}{nm:ByteArray}{es:Bool}{l:List Int}{dn:ByteArray}{ea:Bool}{da:List Int}{so:Int}(h: 1<=op/\op<=25)(hl:l.length<=1000)(e:op≠9->0<=dx op->(l.length:Int)=dx op)(m:op=15->0<=d/\d<=1000):
  Or (.call 75) (SA op ek ks n d nm es l dn ea da so) []=some [ti (aW op d l da so)]:=by
 have g:(l.length:Int)=0->l= []:=λh=>LR.1 (by omega);have i:(l.length:Int)=1->∃a,l= [a]:=λh=>by
  have j:l.length=1:=by omega
  exact Nn.1 j
 have f:(l.length:Int)=2->∃a b,l= [a,b]:=λh=>by
  have j:l.length=2:=by omega
  match l,j with
  | [a,b],_=>exact⟨a,b,rfl⟩
 have k:(l.length:Int)=3->∃a b c,l= [a,b,c]:=λh=>by
  have j:l.length=3:=by omega
  match l,j with
  | [a,b,c],_=>exact⟨a,b,c,rfl⟩
 rcases wI h with rfl | rfl | rfl | rfl | rfl | rfl | rfl | rfl | rfl | rfl | rfl | rfl | rfl | rfl | rfl | rfl | rfl | rfl | rfl | rfl | rfl | rfl | rfl | rfl | rfl
 .rw [g (e (by decide) (by decide))];exact J2
 .rw [g (e (by decide) (by decide))];exact Kd
 .exact Kk hl
 .exact Kl hl
 .exact Km hl
 .exact Kn hl
 .obtain⟨a,b,c,rfl⟩:=k (e (by decide) (by decide));exact Ko
 .obtain⟨a,b,rfl⟩:=f (e (by decide) (by decide));exact Kq
 .exact Kr hl
 .rw [g (e (by decide) (by decide))];exact J3
 .exact J4 hl
 .obtain⟨a,rfl⟩:=i (e (by decide) (by decide));exact J5
 .exact J6 hl
 .exact J7 hl
 .rw [g (e (by decide) (by decide))];exact J8 (m rfl)
 .obtain⟨a,rfl⟩:=i (e (by decide) (by decide));exact J9
 .obtain⟨a,b,rfl⟩:=f (e (by decide) (by decide));exact Ka
 .obtain⟨a,b,rfl⟩:=f (e (by decide) (by decide));exact Kb
 .obtain⟨a,b,rfl⟩:=f (e (by decide) (by decide));exact Kc
 .obtain⟨a,b,rfl⟩:=f (e (by decide) (by decide));exact Ke
 .obtain⟨a,b,rfl⟩:=f (e (by decide) (by decide));exact Kf
 .obtain⟨a,b,rfl⟩:=f (e (by decide) (by decide));exact Kg
 .obtain⟨a,rfl⟩:=i (e (by decide) (by decide));exact Kh
 .obtain⟨a,b,rfl⟩:=f (e (by decide) (by decide));exact Ki
 .obtain⟨a,b,c,rfl⟩:=k (e (by decide) (by decide));exact Kj
def eL(x:Nd):Bool:=
 ((decide (x.nm=s0) || (x.op==9)) && (((x.n==0) || (((x.op==10) || (x.op==12)) || (x.op==15))) || (x.op==23))) && ((x.d==0) || (((x.op==10) || (x.op==12)) || (x.op==15)))
theorem tF(x:Nd):Or (.call 73) [AV.agg [I x.op,ad x.ek x.ks,I x.n,I x.d,AV.t (T.str x.nm)]] []=some [tb (eL x)]:=by refine ai ?_;rw [FM];simp only [fM,eR,py];rfl
def np(a b:Int):Int:=if h:b=0 then mm true a (i64.wrap (0 - a)) else np b (a.tmod b)
termination_by b.natAbs
decreasing_by
 rw [Int.natAbs_tmod];exact Nat.mod_lt _ (Int.natAbs_pos.2 h)
theorem Iv:∀(n:Nat) (a b:Int),b.natAbs<=n->Or rH [I a,I b] []=some [ti (np a b)]:=by
 intro n;induction n with
 | zero=>
  intro a b e;have h0:b=0:=by omega
  subst h0;rw [np,dif_pos rfl];refine ai ?_;rw [vg];simp only [aj,↓reduceIte,Int.reduceBEq,Int.reduceEq,Lv]
 | succ n g=>
  intro a b e;by_cases h:b=0
  .subst h;rw [np,dif_pos rfl];refine ai ?_;rw [vg];simp only [aj,↓reduceIte,Int.reduceBEq,Int.reduceEq,Lv]
  .have c:(b==0)=false:=by simpa using h
   have f:=g b (a.tmod b) (by
    have i:=Int.natAbs_tmod a b;have j:=Nat.mod_lt a.natAbs (Int.natAbs_pos.2 h);omega)
   rw [np,dif_neg h];refine ai ?_;rw [vg];simp only [aj,↓reduceIte,Int.reduceBEq,Int.reduceEq,c,h,Lx];exact f
theorem Ks(a b:Int):Or (.call 84) [I a,I b] []=some [ti (np a b)]:=by have:=Iv b.natAbs a b (LM _);refine ai ?_;rw [Ge];exact this
def qR(n d:Int):Bool:=((decide (n>= -1000000) && decide (n<=1000000)) && decide (d>=1)) && decide (d<=1000000)
def dT(x:Nd):Bool:=
 if x.op=10\/x.op=12 then qR x.n x.d && (np x.n x.d==1)
 else if x.op=15 then((decide (x.d>=1) && decide (x.d<=8)) && decide (x.n>=0)) && decide (x.n < i64.wrap (1 * 2 ^ min x.d.toNat 64))
 else if x.op=23 then decide (x.n>=0) && decide (x.n<=8)
 else true
theorem tG(x:Nd):Or (.call 74) [AV.agg [I x.op,ad x.ek x.ks,I x.n,I x.d,AV.t (T.str x.nm)]] []=some [tb (dT x)]:=by
 have k:=Ks x.n x.d;have g:(((decide (x.n>= -1000000) && decide (x.n<=1000000)) && decide (x.d>=1)) && decide (x.d<=1000000))=qR x.n x.d:=rfl;unfold dT;by_cases a:x.op=10\/x.op=12
 .rw [if_pos a];rcases a with a | a
  .have y:(x.op==10)=true:=by simpa using a
   cases b:qR x.n x.d with
   | true=>refine ai ?_;rw [lR];simp only [fM,g,b,bK,bO,bT,bN,fD,y,k,MC]
   | false=>refine ai ?_;rw [lR];simp only [fM,g,b,bo,bN,fL,y,bK,Nw]
  .have y:(x.op==10)=false:=by simp [a]
   have c:(x.op==12)=true:=by simpa using a
   cases b:qR x.n x.d with
   | true=>refine ai ?_;rw [lR];simp only [fM,g,b,bK,bO,bT,bN,bX,fD,y,c,k,MC]
   | false=>refine ai ?_;rw [lR];simp only [fM,g,b,bo,bN,bX,fL,y,c,bK,Nw]
 .have y:(x.op==10)=false:=by simp;exact λh=>a (.inl h)
  have c:(x.op==12)=false:=by simp;exact λh=>a (.inr h)
  rw [if_neg a];by_cases f:x.op=15
  .have e:(x.op==15)=true:=by simpa using f
   rw [if_pos f];cases b:((decide (x.d>=1) && decide (x.d<=8)) && decide (x.n>=0)) with
   | true=>
    have j:¬x.d < 0:=by simp only [Lu,decide_eq_true_eq] at b;omega
    refine ai ?_;rw [lR];simp only [fM,b,bK,bN,bX,y,c,e,j,↓reduceIte,MC]
   | false=>refine ai ?_;rw [lR];simp only [fM,b,bo,bN,bX,y,c,e,Nw]
  .have e:(x.op==15)=false:=by simpa using f
   rw [if_neg f];by_cases c3:x.op=23
   .have i:(x.op==23)=true:=by simpa using c3
    rw [if_pos c3];refine ai ?_;rw [lR];simp only [fM,bN,bX,y,c,e,i]
   .have i:(x.op==23)=false:=by simpa using c3
    rw [if_neg c3];refine ai ?_;rw [lR];simp only [bX,y,c,e,i]
def cF(x:Nd)(i:Int)(ss:List Int)(da:List Int)(so:Int):Int×Int:=
 if(x.ks.any λk=>decide (k < 0) || decide (k>=i))=true then(0,3)
 else if eL x=false then(0,5)
 else if dT x=false then(0,3)
 else if aW x.op x.d (x.ks.map λk=>ss.getD k.toNat 0) da so=0 then(0,8)
 else(aW x.op x.d (x.ks.map λk=>ss.getD k.toNat 0) da so,0)
def bM(ds:List Dc)(x:Nd)(i:Int)(ss:List Int):Int×Int:=
 if x.op < 1\/25 < x.op then(0,4)
 else if x.op=9 then
  (if bc ds x.nm < 0 then(0,6)
  else if(x.ks.length≠((ds.getD (bc ds x.nm).toNat ⟨s0,true,[],0⟩).ar).length)\/8 < x.ks.length then(0,9)
  else cF x i ss (ds.getD (bc ds x.nm).toNat ⟨s0,true,[],0⟩).ar (ds.getD (bc ds x.nm).toNat ⟨s0,true,[],0⟩).so)
 else if(0<=dx x.op/\(x.ks.length:Int)≠dx x.op)\/8 < x.ks.length then(0,9)
 else cF x i ss [] 0
theorem qE{x:Nd}(h:dT x=true)(a:x.op=15): 1<=x.d/\x.d<=8/\0<=x.n/\x.n < i64.wrap (1 * 2 ^ min x.d.toNat 64):=by unfold dT at h;rw [if_neg (by omega),if_pos a] at h;simp only [Lu,decide_eq_true_eq] at h;omega
theorem H3{x:Nd}{i:Nat}{ss:List Int}{es:Bool}{dn:ByteArray}{ea:Bool}{da:List Int}{so:Int}(K:x.op=9)(D: 1<=x.op/\x.op<=25)(O:x.ks.length<=8)(P:ss.length=i):∀(r:List Int) (j:Nat) (a:List Int),x.ks.drop j=r->j<=x.ks.length->a.length=j->a≠[]->(∀k∈x.ks.take j,0<=k/\k < (i:Int))->a= (x.ks.take j).map (λk=>ss.getD k.toNat 0)->
  Or gV [I (i:Int),ad es ss,r0,r1,o2,ad x.ek x.ks,I (x.ks.length:Int),I (j:Int)] [ab.box [I x.op,ad x.ek x.ks,I x.n,I x.d,AV.t (T.str x.nm)],ab.box [AV.t (T.str dn),ad ea da,I so],ab.sl false 1 false (enc a)]=some [ti (cF x (i:Int) ss da so).1,ti (cF x (i:Int) ss da so).2]:=by
 intro r;induction r with
 | nil=>
  intro j a g L p C s o;have e:¬(j:Int) < (x.ks.length:Int):=by have:=br g;omega
  have B:x.ks.take j=x.ks:=N4 (by have:=br g;omega);rw [B] at s o;have b:=tF x;have c:=tG x;have w:(x.ks.any λk=>decide (k < 0) || decide (k>=(i:Int)))=false:=by rw [Mh];intro k hm;have:=s k hm;simp;omega
  unfold cF;rw [w,if_neg (by decide),<-o];cases A:eL x with
  | false=>rw [A] at b;rw [if_pos rfl];refine ai ?_;rw [oB];simp only [aj,↓reduceIte,Int.reduceBEq,Int.reduceEq,e,b,Lx]
  | true=>
  rw [A] at b;rw [if_neg (by decide)];cases v:dT x with
  | false=>rw [v] at c;rw [if_pos rfl];refine ai ?_;rw [oB];simp only [aj,↓reduceIte,Int.reduceBEq,Int.reduceEq,e,b,Lv,c,Lx]
  | true=>
  rw [v] at c;rw [if_neg (by decide)];have q:=tH (op:=x.op) (ek:=x.ek) (ks:=enc x.ks) (n:=x.n) (d:=x.d) (nm:=x.nm) (es:=false) (l:=a) (dn:=dn) (ea:=ea) (da:=da) (so:=so) D (by omega) (by rw [o];exact(λh=>absurd K h)) (λh=>by have:=qE v h;omega);by_cases f:aW x.op x.d a da so=0
  .rw [f] at q;rw [if_pos f];refine ai ?_;rw [oB];simp only [aj,↓reduceIte,Int.reduceBEq,Int.reduceEq,e,b,Lv,c,q]
  .have F:(aW x.op x.d a da so==0)=false:=by simpa using f
   rw [if_neg f];refine ai ?_;rw [oB];simp only [aj,↓reduceIte,Int.reduceBEq,Int.reduceEq,e,b,Lv,c,q,f,F]
 | cons k r N=>
  intro j a g L p C s o;obtain⟨m,Q,G⟩:=bu g;have e:(j:Int) < (x.ks.length:Int):=by omega
  have h0: 0<=(j:Int):=by omega
  by_cases u:k < 0\/k>=(i:Int)
  .have w:(x.ks.any λk=>decide (k < 0) || decide (k>=(i:Int)))=true:=Nh.2 ⟨k,LB m,by simpa using u⟩;have z:(decide (k < 0) || decide (k>=(i:Int)))=true:=by simpa using u
   unfold cF;rw [w,if_pos rfl];refine ai ?_;rw [oB];simp only [bK,bO,bT,bN,↓reduceIte,e,h0,and_self,decide_true,aD,bJ m,eR,z]
  .have z:(decide (k < 0) || decide (k>=(i:Int)))=false:=by simp;omega
   have H: 0<=k/\k < (ss.length:Int):=by omega
   have J:(enc ss)[k.toNat]? =some [ti (ss.getD k.toNat 0)]:=eC (by rw [Lw,Ly (by omega)];rfl);have M:=N (j+1) (a++ [ss.getD k.toNat 0]) G (by omega) (by simp [p]) (by simp) (λy E=>by
    rw [NF,m] at E;rcases LI.1 E with h | h
    .exact s y h
    .simp at h;subst h;omega) (by rw [NF,m,NB,<-o];rfl)
   refine ai ?_;rw [oB];simp only [bK,bO,bT,bN,bX,↓reduceIte,e,h0,and_self,decide_true,aD,bJ m,eR,z,H,J,LG,cS (show a.length+1<=1000000 by omega),Ni,dS,next j (by omega)];exact M
theorem H4{x:Nd}{i:Nat}{ss:List Int}{es:Bool}{dn:ByteArray}{ea:Bool}{da:List Int}{so:Int}(v:x.op=9)(j: 1<=x.op/\x.op<=25)(w:x.ks.length<=8)(z:ss.length=i):
  Or gV [I (i:Int),ad es ss,r0,r1,AV.t (T.af true),ad x.ek x.ks,I (x.ks.length:Int),I 0] [ab.box [I x.op,ad x.ek x.ks,I x.n,I x.d,AV.t (T.str x.nm)],ab.box [AV.t (T.str dn),ad ea da,I so]]=some [ti (cF x (i:Int) ss da so).1,ti (cF x (i:Int) ss da so).2]:=by
 cases a:x.ks with
 | nil=>
  have b:=tF x;have c:=tG x;rw [a] at b c;unfold cF;rw [a,List.any_nil,if_neg (by decide),MD];cases q:eL x with
  | false=>rw [q] at b;rw [if_pos rfl];refine ai ?_;rw [oz];simp only [aj,↓reduceIte,Int.reduceBEq,Int.reduceEq,LS,L9,Md,decide_false,b,Lx]
  | true=>
  rw [q] at b;rw [if_neg (by decide)];cases m:dT x with
  | false=>rw [m] at c;rw [if_pos rfl];refine ai ?_;rw [oz];simp only [aj,↓reduceIte,Int.reduceBEq,Int.reduceEq,LS,L9,Md,decide_false,b,Lv,c,Lx]
  | true=>
  rw [m] at c;rw [if_neg (by decide)];have e:=tH (op:=x.op) (ek:=x.ek) (ks:=enc []) (n:=x.n) (d:=x.d) (nm:=x.nm) (es:=true) (l:= []) (dn:=dn) (ea:=ea) (da:=da) (so:=so) j (by simp) (λh=>absurd v h) (λh=>by have:=qE m h;omega);replace e:Or (.call 75) [AV.agg [I x.op,AV.t (T.ad 1 x.ek (enc [])),I x.n,I x.d,AV.t (T.str x.nm)],AV.t (T.ad 1 true []),AV.agg [AV.t (T.str dn),ad ea da,I so]] []=_:=e;by_cases f:aW x.op x.d [] da so=0
  .rw [f] at e;rw [if_pos f];refine ai ?_;rw [oz];simp only [aj,↓reduceIte,Int.reduceBEq,Int.reduceEq,LS,L9,Md,decide_false,b,Lv,c,e]
  .have B:(aW x.op x.d [] da so==0)=false:=by simpa using f
   rw [if_neg f];refine ai ?_;rw [oz];simp only [aj,↓reduceIte,Int.reduceBEq,Int.reduceEq,LS,L9,Md,decide_false,b,Lv,c,e,f,B]
 | cons k r=>
  have u:(0:Int) < (((k::r).length:Nat):Int):=by simp
  have h0:(0:Int)<=0:=by omega
  have s:(enc (k::r))[(0:Int).toNat]? =some [ti k]:=rfl;have F:i64.wrap (0+1)= ((1:Nat):Int):=by decide
  by_cases g:k < 0\/k>=(i:Int)
  .have C:(x.ks.any λk=>decide (k < 0) || decide (k>=(i:Int)))=true:=Nh.2 ⟨k,by rw [a];exact Lq,by simpa using g⟩;have o:(decide (k < 0) || decide (k>=(i:Int)))=true:=by simpa using g
   unfold cF;rw [C,if_pos rfl];refine ai ?_;rw [oz];simp only [bK,bO,bT,bN,↓reduceIte,u,h0,and_self,decide_true,aD,s,eR,o]
  .have o:(decide (k < 0) || decide (k>=(i:Int)))=false:=by simp;omega
   have D: 0<=k/\k < (ss.length:Int):=by omega
   have E:(enc ss)[k.toNat]? =some [ti (ss.getD k.toNat 0)]:=eC (by rw [Lw,Ly (by omega)];rfl);have A:=H3 (x:=x) (i:=i) (ss:=ss) (es:=es) (dn:=dn) (ea:=ea) (da:=da) (so:=so) v j w z r 1 [ss.getD k.toNat 0] (by rw [a];rfl) (by rw [a];simp) rfl (by simp) (λy p=>by rw [a] at p;simp at p;subst p;omega) (by rw [a];rfl);rw [a] at A;refine ai ?_;rw [oz];simp only [bK,bO,bT,bN,bX,↓reduceIte,u,h0,and_self,decide_true,aD,s,eR,o,D,E,Ni,F];exact A
theorem H5{x:Nd}{i:Nat}{ss:List Int}{es:Bool}(R:x.op≠9)(L: 0<=dx x.op->(x.ks.length:Int)=dx x.op)(D: 1<=x.op/\x.op<=25)(O:x.ks.length<=8)(P:ss.length=i):∀(r:List Int) (j:Nat) (a:List Int),x.ks.drop j=r->j<=x.ks.length->a.length=j->a≠[]->(∀k∈x.ks.take j,0<=k/\k < (i:Int))->a= (x.ks.take j).map (λk=>ss.getD k.toNat 0)->
  Or gV [I (i:Int),ad es ss,r0,r1,o2,ad x.ek x.ks,I (x.ks.length:Int),I (j:Int)] [ab.box [I x.op,ad x.ek x.ks,I x.n,I x.d,AV.t (T.str x.nm)],ab.box [AV.t (T.str s0),AV.t (T.af true),I 0],ab.sl false 1 false (enc a)]=some [ti (cF x (i:Int) ss [] 0).1,ti (cF x (i:Int) ss [] 0).2]:=by
 intro r;induction r with
 | nil=>
  intro j a g K q C s p;have f:¬(j:Int) < (x.ks.length:Int):=by have:=br g;omega
  have B:x.ks.take j=x.ks:=N4 (by have:=br g;omega);rw [B] at s p;have b:=tF x;have c:=tG x;have w:(x.ks.any λk=>decide (k < 0) || decide (k>=(i:Int)))=false:=by rw [Mh];intro k hm;have:=s k hm;simp;omega
  unfold cF;rw [w,if_neg (by decide),<-p];cases A:eL x with
  | false=>rw [A] at b;rw [if_pos rfl];refine ai ?_;rw [oC];simp only [aj,↓reduceIte,Int.reduceBEq,Int.reduceEq,f,b,Lx]
  | true=>
  rw [A] at b;rw [if_neg (by decide)];cases v:dT x with
  | false=>rw [v] at c;rw [if_pos rfl];refine ai ?_;rw [oC];simp only [aj,↓reduceIte,Int.reduceBEq,Int.reduceEq,f,b,Lv,c,Lx]
  | true=>
  rw [v] at c;rw [if_neg (by decide)];have e:=tH (op:=x.op) (ek:=x.ek) (ks:=enc x.ks) (n:=x.n) (d:=x.d) (nm:=x.nm) (es:=false) (l:=a) (dn:=s0) (ea:=true) (da:= []) (so:=0) D (by omega) (by rw [p];exact(λ_ h=>by rw [Mq];exact L h)) (λh=>by have:=qE v h;omega);replace e:Or (.call 75) [AV.agg [I x.op,AV.t (T.ad 1 x.ek (enc x.ks)),I x.n,I x.d,AV.t (T.str x.nm)],ad false a,AV.agg [AV.t (T.str s0),AV.t (T.ad 1 true []),I 0]] []=_:=e;by_cases m:aW x.op x.d a [] 0=0
  .rw [m] at e;rw [if_pos m];refine ai ?_;rw [oC];simp only [aj,↓reduceIte,Int.reduceBEq,Int.reduceEq,f,b,Lv,c,e]
  .have F:(aW x.op x.d a [] 0==0)=false:=by simpa using m
   rw [if_neg m];refine ai ?_;rw [oC];simp only [aj,↓reduceIte,Int.reduceBEq,Int.reduceEq,f,b,Lv,c,e,m,F]
 | cons k r N=>
  intro j a g K q C s p;obtain⟨o,Q,G⟩:=bu g;have f:(j:Int) < (x.ks.length:Int):=by omega
  have h0: 0<=(j:Int):=by omega
  by_cases u:k < 0\/k>=(i:Int)
  .have w:(x.ks.any λk=>decide (k < 0) || decide (k>=(i:Int)))=true:=Nh.2 ⟨k,LB o,by simpa using u⟩;have z:(decide (k < 0) || decide (k>=(i:Int)))=true:=by simpa using u
   unfold cF;rw [w,if_pos rfl];refine ai ?_;rw [oC];simp only [bK,bO,bT,bN,↓reduceIte,f,h0,and_self,decide_true,aD,bJ o,eR,z]
  .have z:(decide (k < 0) || decide (k>=(i:Int)))=false:=by simp;omega
   have H: 0<=k/\k < (ss.length:Int):=by omega
   have J:(enc ss)[k.toNat]? =some [ti (ss.getD k.toNat 0)]:=eC (by rw [Lw,Ly (by omega)];rfl);have M:=N (j+1) (a++ [ss.getD k.toNat 0]) G (by omega) (by simp [q]) (by simp) (λy E=>by
    rw [NF,o] at E;rcases LI.1 E with h | h
    .exact s y h
    .simp at h;subst h;omega) (by rw [NF,o,NB,<-p];rfl)
   refine ai ?_;rw [oC];simp only [bK,bO,bT,bN,bX,↓reduceIte,f,h0,and_self,decide_true,aD,bJ o,eR,z,H,J,LG,cS (show a.length+1<=1000000 by omega),Ni,dS,next j (by omega)];exact M
theorem H6{x:Nd}{i:Nat}{ss:List Int}{es:Bool}(F:x.op≠9)(v: 0<=dx x.op->(x.ks.length:Int)=dx x.op)(j: 1<=x.op/\x.op<=25)(w:x.ks.length<=8)(z:ss.length=i):
  Or gV [I (i:Int),ad es ss,r0,r1,AV.t (T.af true),ad x.ek x.ks,I (x.ks.length:Int),I 0] [ab.box [I x.op,ad x.ek x.ks,I x.n,I x.d,AV.t (T.str x.nm)],ab.box [AV.t (T.str s0),AV.t (T.af true),I 0]]=some [ti (cF x (i:Int) ss [] 0).1,ti (cF x (i:Int) ss [] 0).2]:=by
 cases a:x.ks with
 | nil=>
  have b:=tF x;have c:=tG x;rw [a] at b c;unfold cF;rw [a,List.any_nil,if_neg (by decide),MD];cases q:eL x with
  | false=>rw [q] at b;rw [if_pos rfl];refine ai ?_;rw [oA];simp only [aj,↓reduceIte,Int.reduceBEq,Int.reduceEq,LS,L9,Md,decide_false,b,Lx]
  | true=>
  rw [q] at b;rw [if_neg (by decide)];cases m:dT x with
  | false=>rw [m] at c;rw [if_pos rfl];refine ai ?_;rw [oA];simp only [aj,↓reduceIte,Int.reduceBEq,Int.reduceEq,LS,L9,Md,decide_false,b,Lv,c,Lx]
  | true=>
  rw [m] at c;rw [if_neg (by decide)];have e:=tH (op:=x.op) (ek:=x.ek) (ks:=enc []) (n:=x.n) (d:=x.d) (nm:=x.nm) (es:=true) (l:= []) (dn:=s0) (ea:=true) (da:= []) (so:=0) j (by simp) (λ_ h=>by have:=v h;rw [a] at this;exact this) (λh=>by have:=qE m h;omega);replace e:Or (.call 75) [AV.agg [I x.op,AV.t (T.ad 1 x.ek (enc [])),I x.n,I x.d,AV.t (T.str x.nm)],AV.t (T.ad 1 true []),AV.agg [AV.t (T.str s0),AV.t (T.ad 1 true []),I 0]] []=_:=e;by_cases f:aW x.op x.d [] [] 0=0
  .rw [f] at e;rw [if_pos f];refine ai ?_;rw [oA];simp only [aj,↓reduceIte,Int.reduceBEq,Int.reduceEq,LS,L9,Md,decide_false,b,Lv,c,e]
  .have B:(aW x.op x.d [] [] 0==0)=false:=by simpa using f
   rw [if_neg f];refine ai ?_;rw [oA];simp only [aj,↓reduceIte,Int.reduceBEq,Int.reduceEq,LS,L9,Md,decide_false,b,Lv,c,e,f,B]
 | cons k r=>
  have u:(0:Int) < (((k::r).length:Nat):Int):=by simp
  have h0:(0:Int)<=0:=by omega
  have s:(enc (k::r))[(0:Int).toNat]? =some [ti k]:=rfl;have G:i64.wrap (0+1)= ((1:Nat):Int):=by decide
  by_cases g:k < 0\/k>=(i:Int)
  .have C:(x.ks.any λk=>decide (k < 0) || decide (k>=(i:Int)))=true:=Nh.2 ⟨k,by rw [a];exact Lq,by simpa using g⟩;have o:(decide (k < 0) || decide (k>=(i:Int)))=true:=by simpa using g
   unfold cF;rw [C,if_pos rfl];refine ai ?_;rw [oA];simp only [bK,bO,bT,bN,↓reduceIte,u,h0,and_self,decide_true,aD,s,eR,o]
  .have o:(decide (k < 0) || decide (k>=(i:Int)))=false:=by simp;omega
   have D: 0<=k/\k < (ss.length:Int):=by omega
   have E:(enc ss)[k.toNat]? =some [ti (ss.getD k.toNat 0)]:=eC (by rw [Lw,Ly (by omega)];rfl);have A:=H5 (x:=x) (i:=i) (ss:=ss) (es:=es) F v j w z r 1 [ss.getD k.toNat 0] (by rw [a];rfl) (by rw [a];simp) rfl (by simp) (λy p=>by rw [a] at p;simp at p;subst p;omega) (by rw [a];rfl);rw [a] at A;refine ai ?_;rw [oA];simp only [bK,bO,bT,bN,bX,↓reduceIte,u,h0,and_self,decide_true,aD,s,eR,o,D,E,Ni,G];exact A
theorem sE{nm:ByteArray}:∀{i:Nat} {ds:List Dc},0<=gA nm i ds->∃j d,gA nm i ds= ((i+j:Nat):Int)/\ds[j]? =some d/\d.nm=nm
 | i,[],h=>by simp [gA] at h
 | i,d::r,h=>by
  rw [gA] at h⊢;split
  .rename_i e;exact⟨0,d,rfl,rfl,e⟩
  .rename_i e;rw [if_neg e] at h;obtain⟨j,a,b,c,f⟩:=sE h;exact⟨j+1,a,by rw [b];congr 1;omega,c,f⟩
theorem CU{a:As}{x:Nd}{i:Nat}{ss:List Int}{es:Bool}(f:a.ns[i]? =some x)(A:a.ds.length<=100)(s:ss.length=i):
  Or (.call 38) [AG a,I (i:Int),ad es ss] []=some [ti (bM a.ds x (i:Int) ss).1,ti (bM a.ds x (i:Int) ss).2]:=by
 have o: 0<=(i:Int)/\(i:Int) < (a.ns.length:Int):=by have:=(Ls.1 f).1;omega
 unfold bM;by_cases t:x.op < 1\/25 < x.op
 .have c:(decide (x.op < 1) || decide (x.op > 25))=true:=by simpa using t
  rw [if_pos t];refine ai ?_;rw [ow];simp only [bK,bO,cU,bT,dO,fY,bN,↓reduceIte,o,and_self,cO,ef f,eR,c]
 have c:(decide (x.op < 1) || decide (x.op > 25))=false:=by simp;omega
 have p: 1<=x.op/\x.op<=25:=by omega
 rw [if_neg t];have b:=J1 p;by_cases m:x.op=9
 .have k:(x.op==9)=true:=by simpa using m
  have g:=qW (ed:=a.ed) (en:=a.en) (eh:=a.eh) (ns:=a.ns) (hs:=a.hs) (nm:=x.nm) A;rw [if_pos m];by_cases l:bc a.ds x.nm < 0
  .have q:=decide_eq_true l;rw [if_pos l];refine ai ?_;rw [ow];simp only [bK,bO,cU,bT,dO,fY,bN,bX,↓reduceIte,o,and_self,cO,ef f,eR,c,b,k,g,q]
  .rw [if_neg l];obtain⟨j,d,v,r,F⟩:=sE (nm:=x.nm) (i:=0) (ds:=a.ds) (by unfold bc at l;omega);have B:bc a.ds x.nm= ((j:Nat):Int):=by unfold bc;rw [v,L5]
   have E:a.ds.getD (bc a.ds x.nm).toNat ⟨s0,true,[],0⟩=d:=by rw [B,Mb,Lw,r];rfl
   rw [E];rw [B] at g l;have q:=decide_eq_false l;have z: 0<=(j:Int)/\(j:Int) < (a.ds.length:Int):=by have:=(Ls.1 r).1;omega
   by_cases c3:x.ks.length≠d.ar.length\/8 < x.ks.length
   .have e:((!((x.ks.length:Int)== (d.ar.length:Int))) || decide ((x.ks.length:Int) > 8))=true:=by
     rcases c3 with h | h
     .have:((x.ks.length:Int)== (d.ar.length:Int))=false:=by simp;omega
      rw [this];rfl
     .have:(x.ks.length:Int) > 8:=by omega
      rw [decide_eq_true this,Bool.or_true]
    rw [if_pos c3];refine ai ?_;rw [ow];simp only [bK,bO,cU,bT,dO,fY,bN,bX,↓reduceIte,o,and_self,cO,ef f,eR,c,b,k,g,q,z,cw,dR r,aD,e]
   .have e:((!((x.ks.length:Int)== (d.ar.length:Int))) || decide ((x.ks.length:Int) > 8))=false:=by
     have D:((x.ks.length:Int)== (d.ar.length:Int))=true:=by simp;omega
     have w:¬(x.ks.length:Int) > 8:=by omega
     rw [D,decide_eq_false w];rfl
    have y:=H4 (x:=x) (i:=i) (ss:=ss) (es:=es) (dn:=d.nm) (ea:=d.ea) (da:=d.ar) (so:=d.so) m p (by omega) s;rw [if_neg c3];refine ai ?_;rw [ow];simp only [bK,bO,cU,bT,dO,fY,bN,bX,↓reduceIte,o,and_self,cO,ef f,eR,c,b,k,g,q,z,cw,dR r,aD,e];exact y
 .have k:(x.op==9)=false:=by simpa using m
  rw [if_neg m];by_cases c3:(0<=dx x.op/\(x.ks.length:Int)≠dx x.op)\/8 < x.ks.length
  .have e:((decide (dx x.op>=0) && !((x.ks.length:Int)==dx x.op)) || decide ((x.ks.length:Int) > 8))=true:=by
    rcases c3 with⟨h,C⟩ | h
    .have u:((x.ks.length:Int)==dx x.op)=false:=by simpa using C
     have v:dx x.op>=0:=h;rw [u,decide_eq_true v];rfl
    .have:(x.ks.length:Int) > 8:=by omega
     rw [decide_eq_true this,Bool.or_true]
   rw [if_pos c3];refine ai ?_;rw [ow];simp only [bK,bO,cU,bT,dO,fY,bN,bX,↓reduceIte,o,and_self,cO,ef f,eR,fM,c,b,k,aD,e]
  .have e:((decide (dx x.op>=0) && !((x.ks.length:Int)==dx x.op)) || decide ((x.ks.length:Int) > 8))=false:=by
    have w:¬(x.ks.length:Int) > 8:=by omega
    rw [decide_eq_false w,Bool.or_false];by_cases h: 0<=dx x.op
    .have u:((x.ks.length:Int)==dx x.op)=true:=by simp;omega
     rw [u];simp
    .have:¬dx x.op>=0:=h;rw [decide_eq_false this];rfl
   have y:=H6 (x:=x) (i:=i) (ss:=ss) (es:=es) m (λh=>by omega) p (by omega) s;rw [if_neg c3];refine ai ?_;rw [ow];simp only [bK,bO,cU,bT,dO,fY,bN,bX,↓reduceIte,o,and_self,cO,ef f,eR,fM,c,b,k,aD,e];exact y
open Go Go.Aev Go.IntKind
def dy(ds:List Dc):List Nd->Nat->List Int->List Int×Int×Int
 | [],_,ss=>(ss,0,0)
 | x::r,i,ss=>if(bM ds x (i:Int) ss).2=0 then dy ds r (i+1) (ss++ [(bM ds x (i:Int) ss).1]) else([],(bM ds x (i:Int) ss).2,(i:Int))
def dN(ss:List Int):List Int->Nat->Int×Int
 | [],_=>(0,0)
 | k::r,j=>if k < 0\/(ss.length:Int)<=k then(3,(j:Int)) else if ss.getD k.toNat 0≠1 then(8,(j:Int)) else dN ss r (j+1)
def gR(a:As)(q:List Int×Int×Int):List Int×Int×Int:=
 if q.2.1≠0 then([],q.2.1,q.2.2)
 else if 200 < a.hs.length then([],2,0)
 else if(dN q.1 a.hs 0).1≠0 then([],(dN q.1 a.hs 0).1,(dN q.1 a.hs 0).2)
 else(q.1,0,0)
def bL(a:As):List Int×Int×Int:=
 if 30 < a.ds.length then([],2,0)
 else if(dM [] 0 a.ds).1≠0 then([],(dM [] 0 a.ds).1,(dM [] 0 a.ds).2)
 else if 200 < a.ns.length then([],2,0)
 else gR a (dy a.ds a.ns 0 [])
abbrev R3(x:T)(q:List Int×Int×Int):Option (List T):=some [x,ti q.2.1,ti q.2.2]
theorem HC{ss:List Int}{e:Bool}{hs:List Int}(hl:hs.length<=1000):∀(r:List Int) (j:Nat),hs.drop j=r->
  ∃x,Or lG [r0,o1,ad e hs,I (hs.length:Int),I (j:Int)] [mB,ab.sl false 1 false (enc ss)]=some [x,ti (dN ss r j).1,ti (dN ss r j).2]/\((dN ss r j).1=0->x=T.ad 1 false (enc ss))/\((dN ss r j).1≠0->x=T.af true):=by
 intro r;induction r with
 | nil=>
  intro j g;have a:¬(j:Int) < (hs.length:Int):=by have:=br g;omega
  refine⟨T.ad 1 false (enc ss),ai ?_,λ_=>rfl,λh=>absurd rfl h⟩;rw [sc];simp only [aj,↓reduceIte,Int.reduceBEq,Int.reduceEq,a,dN]
 | cons k r q=>
  intro j g;obtain⟨l,v,p⟩:=bu g;have a:(j:Int) < (hs.length:Int):=by omega
  have h0: 0<=(j:Int):=by omega
  rw [dN];by_cases i:k < 0\/(ss.length:Int)<=k
  .have b:(decide (k < 0) || decide (k>=(ss.length:Int)))=true:=by simpa using i
   rw [if_pos i];refine⟨T.af true,ai ?_,λh=>absurd (show(3:Int)=0 from h) (by decide),λ_=>rfl⟩;rw [sc];simp only [bK,bO,bT,bN,bX,↓reduceIte,a,h0,and_self,decide_true,aD,bJ l,eR,b]
  .have b:(decide (k < 0) || decide (k>=(ss.length:Int)))=false:=by simp;omega
   have m: 0<=k/\k < (ss.length:Int):=by omega
   have o:(enc ss)[k.toNat]? =some [ti (ss.getD k.toNat 0)]:=eC (by rw [Lw,Ly (by omega)];rfl);rw [if_neg i];by_cases c:ss.getD k.toNat 0=1
   .have f:(ss.getD k.toNat 0==1)=true:=by simpa using c
    obtain⟨x,s,t,u⟩:=q (j+1) p;rw [if_neg (by simpa using c)];refine⟨x,ai ?_,t,u⟩;rw [sc];simp only [bK,bO,bT,bN,bX,↓reduceIte,a,h0,and_self,decide_true,aD,bJ l,eR,b,m,o,f,Lv,next j (by omega)];exact s
   .have f:(ss.getD k.toNat 0==1)=false:=by simpa using c
    rw [if_pos c];refine⟨T.af true,ai ?_,λh=>absurd (show(8:Int)=0 from h) (by decide),λ_=>rfl⟩;rw [sc];simp only [bK,bO,bT,bN,bX,↓reduceIte,a,h0,and_self,decide_true,aD,bJ l,eR,b,m,o,f,Lx]
theorem HB{a:As}(t:a.ds.length<=100)(D:a.ns.length<=200):∀(r:List Nd) (i:Nat) (ss:List Int),a.ns.drop i=r->i<=a.ns.length->ss.length=i->ss≠[]->
  ∃x,Or mE [r0,r1,o2,I (a.ns.length:Int),I (i:Int)] [mN a,mB,ab.sl false 1 false (enc ss)]=R3 x (gR a (dy a.ds r i ss))/\x.au 1=some ((gR a (dy a.ds r i ss)).1.isEmpty,enc (gR a (dy a.ds r i ss)).1):=by
 intro r;induction r with
 | nil=>
  intro i ss g z hs o;have f:¬(i:Int) < (a.ns.length:Int):=by have:=br g;omega
  rw [dy];unfold gR;rw [if_neg (by simp)];by_cases c: 200 < a.hs.length
  .have b:(a.hs.length:Int) > 200:=by omega
   rw [if_pos c];refine⟨T.af true,ai ?_,rfl⟩;rw [pZ];simp only [aj,↓reduceIte,Int.reduceBEq,Int.reduceEq,f,aD,b]
  .have b:¬(a.hs.length:Int) > 200:=by omega
   rw [if_neg c];obtain⟨x,m,s,C⟩:=HC (ss:=ss) (e:=a.eh) (hs:=a.hs) (by omega) a.hs 0 rfl;by_cases l:(dN ss a.hs 0).1=0
   .rw [if_neg (by simpa using l)];have u:dN ss a.hs 0= (0,0):=by
     have:∀(r:List Int) (j:Nat),(dN ss r j).1=0->dN ss r j= (0,0):=by
      intro r;induction r with
      | nil=>intro j _;rfl
      | cons k r q=>
       intro j h;rw [dN] at h⊢;split at h
       .exact absurd (show(3:Int)=0 from h) (by decide)
       .rename_i A;rw [if_neg A];split at h
        .exact absurd (show(8:Int)=0 from h) (by decide)
        .rename_i B;rw [if_neg B];exact q _ h
     exact this _ _ l
    refine⟨x,ai ?_, ?_⟩
    .rw [pZ];simp only [aj,↓reduceIte,Int.reduceBEq,Int.reduceEq,f,aD,b];rw [u] at m;exact m
    .rw [s l,dO];cases ss with
     | nil=>exact absurd rfl o
     | cons=>rfl
   .rw [if_pos l];refine⟨x,ai ?_,by rw [C l];rfl⟩;rw [pZ];simp only [aj,↓reduceIte,Int.reduceBEq,Int.reduceEq,f,aD,b];exact m
 | cons x r q=>
  intro i ss g z hs o;obtain⟨v,E,w⟩:=bu g;have f:(i:Int) < (a.ns.length:Int):=by omega
  have p:=CU (a:=a) (es:=false) v t hs;rw [dy];by_cases c:(bM a.ds x (i:Int) ss).2=0
  .have b:((bM a.ds x (i:Int) ss).2==0)=true:=by simpa using c
   obtain⟨y,m,s⟩:=q (i+1) (ss++ [(bM a.ds x (i:Int) ss).1]) w (by omega) (by simp [hs]) (by simp);rw [if_pos c];refine⟨y,ai ?_,s⟩;rw [pZ];simp only [bK,bO,cU,bT,bN,bX,↓reduceIte,f,decide_true,p,b,Lv,aD,LG,cS (show ss.length+1<=1000000 by omega),Ni,dS,next i (by omega)];exact m
  .have b:((bM a.ds x (i:Int) ss).2==0)=false:=by simpa using c
   rw [if_neg c];unfold gR;rw [if_pos c];refine⟨T.af true,ai ?_,rfl⟩;rw [pZ];simp only [bK,bO,cU,bT,bN,bX,↓reduceIte,f,decide_true,p,b,Lx]
theorem Js{a:As}(D:∀d∈a.ds,d.nm.size<=9223372036854775807):∃x,Or (.call 22) [AG a] []=R3 x (bL a)/\x.au 1=some ((bL a).1.isEmpty,enc (bL a).1):=by
 have b:=JM (e:=a.ed) D;unfold bL;by_cases l: 30 < a.ds.length
 .rw [if_pos l] at b;rw [if_pos l];refine⟨T.af true,ai ?_,rfl⟩;rw [sb];simp only [aj,↓reduceIte,Int.reduceBEq,Int.reduceEq,b,Lx]
 rw [if_neg l] at b;rw [if_neg l];by_cases m:(dM [] 0 a.ds).1=0
 .have j:((dM [] 0 a.ds).1==0)=true:=by simpa using m
  rw [if_neg (by simpa using m)];by_cases c3: 200 < a.ns.length
  .have s:((a.ns.length:Int) > 200):=by omega
   rw [if_pos c3];refine⟨T.af true,ai ?_,rfl⟩;rw [sb];simp only [bK,bO,cU,bT,bN,bX,↓reduceIte,b,j,Lv,cO,s,decide_true]
  .have s:¬((a.ns.length:Int) > 200):=by omega
   rw [if_neg c3];have w:∃x,Or mE [r0,r1,AV.t (T.af true),I (a.ns.length:Int),I 0] [mN a,mB]=R3 x (gR a (dy a.ds a.ns 0 []))/\x.au 1=some ((gR a (dy a.ds a.ns 0 [])).1.isEmpty,enc (gR a (dy a.ds a.ns 0 [])).1):=by
    cases g:a.ns with
    | nil=>
     rw [dy];unfold gR;rw [if_neg (by simp)];by_cases f: 200 < a.hs.length
     .have c:(a.hs.length:Int) > 200:=by omega
      rw [if_pos f];refine⟨T.af true,ai ?_,rfl⟩;rw [pY];simp only [aj,↓reduceIte,Int.reduceBEq,Int.reduceEq,LS,L9,Md,decide_false,aD,c]
     .have c:¬(a.hs.length:Int) > 200:=by omega
      rw [if_neg f];cases p:a.hs with
      | nil=>
       refine⟨T.af true,ai ?_,rfl⟩;have u:Or lG [r0,AV.t (T.af true),ad a.eh [],I 0,I 0] [mB]=some [T.af true,ti 0,ti 0]:=by refine ai ?_;rw [yP];simp only [aj,↓reduceIte,Int.reduceBEq,Int.reduceEq,Md,decide_false]
       rw [p] at c;rw [pY];simp only [aj,↓reduceIte,Int.reduceBEq,Int.reduceEq,LS,L9,Md,decide_false,aD,p];exact u
      | cons k r=>
       have B:dN [] (k::r) 0= (3,0):=by rw [dN,if_pos (by simp;omega)];rfl
       rw [B,if_pos (by decide)];refine⟨T.af true,ai ?_,rfl⟩;have o:(0:Int) < (((k::r).length:Nat):Int):=by simp
       have h0:(0:Int)<=0:=by omega
       have C:(enc (k::r))[(0:Int).toNat]? =some [ti k]:=rfl;have A:(decide (k < 0) || decide (k>=0))=true:=by simp;omega
       have u:Or lG [r0,AV.t (T.af true),ad a.eh (k::r),I (((k::r).length:Nat):Int),I 0] [mB]=some [T.af true,ti 3,ti 0]:=by refine ai ?_;rw [yP];simp only [bK,bO,bT,bN,bX,↓reduceIte,o,h0,and_self,decide_true,aD,C,eR,A]
       rw [p] at c;rw [pY];simp only [aj,↓reduceIte,Int.reduceBEq,Int.reduceEq,LS,L9,Md,decide_false,aD,p,c];exact u
    | cons y r=>
     have E:a.ns[0]? =some y:=by rw [g];rfl
     have h:=CU (a:=a) (i:=0) (ss:= []) (es:=true) E (by omega) rfl;replace h:Or (.call 38) [AG a,I 0,AV.t (T.ad 1 true [])] []=some [ti (bM a.ds y 0 []).1,ti (bM a.ds y 0 []).2]:=h;have o:(0:Int) < (((y::r).length:Nat):Int):=by simp
     have F:i64.wrap (0+1)= ((1:Nat):Int):=by decide
     rw [dy];by_cases f:(bM a.ds y 0 []).2=0
     .have c:((bM a.ds y 0 []).2==0)=true:=by simpa using f
      obtain⟨z,q,v⟩:=HB (a:=a) (by omega) (by omega) r 1 [(bM a.ds y 0 []).1] (by rw [g];rfl) (by rw [g];simp) rfl (by simp);rw [if_pos (show(bM a.ds y ((0:Nat):Int) []).2=0 from f)];refine⟨z,ai ?_,v⟩;rw [pY];rw [g] at q;simp only [bK,bO,cU,bT,bN,bX,↓reduceIte,o,decide_true,h,c,Lv,Ni,F];exact q
     .have c:((bM a.ds y 0 []).2==0)=false:=by simpa using f
      rw [if_neg (show ¬(bM a.ds y ((0:Nat):Int) []).2=0 from f)];unfold gR;rw [if_pos (show(bM a.ds y ((0:Nat):Int) []).2≠0 from f)];refine⟨T.af true,ai ?_,rfl⟩;rw [pY];simp only [bK,bO,cU,bT,bN,bX,↓reduceIte,o,decide_true,h,c,Lx];rfl
   obtain⟨x,q,v⟩:=w;refine⟨x,ai ?_,v⟩;rw [sb];simp only [bK,bO,cU,bT,bN,bX,↓reduceIte,b,j,Lv,cO,s,decide_false];exact q
 .have j:((dM [] 0 a.ds).1==0)=false:=by simpa using m
  rw [if_pos m];refine⟨T.af true,ai ?_,rfl⟩;rw [sb];simp only [bK,bO,cU,bT,bN,bX,↓reduceIte,b,j,Lx]
open Go Go.Aev Go.IntKind
theorem uG{e:List Dc}{d:Dc}(h:eK e d=0):d.nm.size<=12/\d.ar.length<=8/\(∀s∈d.ar,s=4)/\iC d.nm=true/\kO d.so=true/\(e.any λx=>decide (x.nm=d.nm))=false/\(d.so=5->d.ar= []):=by
 unfold eK at h;split at h
 .cases h
 rename_i i;split at h
 .cases h
 rename_i j;split at h
 .cases h
 rename_i l;split at h
 .cases h
 rename_i f;have g:iC d.nm=true:=by simpa using i
 refine⟨?_,by omega,λs hs=> ?_,g, ?_,by simpa using j,λk=> ?_⟩
 .unfold iC at g;simp only [Lu,decide_eq_true_eq] at g;omega
 .have:(d.ar.any λs=> !(s==4))=false:=by
   cases c:d.ar.any λs=> !(s==4) with
   | false=>rfl
   | true=>exact absurd (.inr (.inl c)) f
  rw [Mh] at this;have:=this s hs;simpa using this
 .cases c:kO d.so with
  | true=>rfl
  | false=>exact absurd (.inl c) f
 .cases c:d.ar with
  | nil=>rfl
  | cons a b=>exact absurd (.inr (.inr ⟨k,by rw [c];simp⟩)) f
theorem uB:∀{r:List Dc} {a:List Dc} {i:Nat},(dM a i r).1=0->∀(j:Nat) (d:Dc),r[j]? =some d->eK (a++r.take j) d=0
 | [],_,_,_,j,d,h=>by simp at h
 | x::r,a,i,h,j,d,b=>by
  rw [dM] at h;split at h
  .rename_i h0;cases j with
   | zero=>simp at b;subst b;simpa using h0
   | succ j=>have:=uB h j d (by simpa using b);simpa using this
  .rename_i h0;exact absurd h h0
theorem AQ{ss:List Int}:∀{r:List Int} {j:Nat},(dN ss r j).1=0->∀k∈r,0<=k/\ss[k.toNat]? =some 1
 | [],_,_,k,h=>by cases h
 | x::r,j,h,k,b=>by
  rw [dN] at h;split at h
  .exact absurd (show(3:Int)=0 from h) (by decide)
  rename_i e;split at h
  .exact absurd (show(8:Int)=0 from h) (by decide)
  rename_i c;rcases LC.1 b with rfl | b
  .refine⟨by omega, ?_⟩;have a:ss.getD k.toNat 0=1:=by simpa using c
   rw [Lw] at a;rw [Ly (by omega)] at a⊢;exact congrArg some a
  .exact AQ h k b
theorem tL{ds:List Dc}:∀{r:List Nd} {i:Nat} {ss:List Int},ss.length=i->(dy ds r i ss).2.1=0->
  ∃t,dy ds r i ss= (ss++t,0,0)/\t.length=r.length/\∀(j:Nat) (x:Nd),r[j]? =some x->(bM ds x ((i+j:Nat):Int) (ss++t.take j)).2=0/\t[j]? =some (bM ds x ((i+j:Nat):Int) (ss++t.take j)).1
 | [],i,ss,hs,_=>⟨[],by rw [dy,LW],rfl,λj x h=>by simp at h⟩
 | y::r,i,ss,hs,h=>by
  rw [dy] at h⊢;split at h
  .rename_i h0;rw [if_pos h0];obtain⟨t,b,c,e⟩:=tL (r:=r) (i:=i+1) (ss:=ss++ [(bM ds y (i:Int) ss).1]) (by simp [hs]) h;refine⟨(bM ds y (i:Int) ss).1::t,by rw [b];simp,by simp [c],λj x a=> ?_⟩;cases j with
   | zero=>simp at a;subst a;simp [h0]
   | succ j=>have:=e j x (by simpa using a);rw [show i+1+j=i+ (j+1) by omega] at this;simpa using this
  .rename_i h0;exact absurd h h0
theorem nb{x:Nd}{i:Int}{ss da:List Int}{so:Int}(h:(cF x i ss da so).2=0):
  (∀k∈x.ks,0<=k/\k < i)/\eL x=true/\dT x=true/\(cF x i ss da so).1=aW x.op x.d (x.ks.map λk=>ss.getD k.toNat 0) da so/\aW x.op x.d (x.ks.map λk=>ss.getD k.toNat 0) da so≠0:=by
 unfold cF at h⊢;split at h
 .exact absurd (show(3:Int)=0 from h) (by decide)
 rename_i a;split at h
 .exact absurd (show(5:Int)=0 from h) (by decide)
 rename_i b;split at h
 .exact absurd (show(3:Int)=0 from h) (by decide)
 rename_i c;split at h
 .exact absurd (show(8:Int)=0 from h) (by decide)
 rename_i e;rw [if_neg a,if_neg b,if_neg c,if_neg e];refine⟨λk g=> ?_,by simpa using b,by simpa using c,rfl,e⟩;have f:(x.ks.any λk=>decide (k < 0) || decide (k>=i))=false:=by simpa using a
 rw [Mh] at f;have:=f k g;simp at this;omega
theorem vt{x:Nd}(b:eL x=true)(a:dT x=true):(-1000000<=x.n/\x.n<=1000000)/\(-1000000<=x.d/\x.d<=1000000)/\(x.nm=s0\/x.op=9):=by
 unfold eL at b;simp only [Lu,Mg,decide_eq_true_eq,beq_iff_eq] at b;obtain⟨⟨e,i⟩,j⟩:=b;refine⟨?_, ?_,e⟩ <;>
 .unfold dT at a;split at a
  .unfold qR at a;simp only [Lu,decide_eq_true_eq] at a;omega
  rename_i g;split at a
  .simp only [Lu,decide_eq_true_eq] at a;rename_i c;have k:i64.wrap (1 * 2 ^ min x.d.toNat 64)<=256:=by
    have f:x.d.toNat=1\/x.d.toNat=2\/x.d.toNat=3\/x.d.toNat=4\/x.d.toNat=5\/x.d.toNat=6\/x.d.toNat=7\/x.d.toNat=8:=by omega
    rcases f with h | h | h | h | h | h | h | h <;> rw [h] <;> decide
   omega
  rename_i c;split at a
  .simp only [Lu,decide_eq_true_eq] at a;omega
  rename_i c3;omega
theorem qK{s:Int}(h:pN s=true):aH s=false:=by unfold pN at h;simp only [Mg,beq_iff_eq] at h;rcases h with rfl | rfl <;> rfl
theorem td{s:Int}(h:pB s=true):aH s=false:=by unfold pB at h;simp only [beq_iff_eq] at h;subst h;rfl
theorem Iy{c:Cx}{x:Nd}{i:Nat}{pre:List Int}(hpre:pre.length=i)(Q:∀k,k < i->c.ss[k]? =pre[k]?)(Y:∀d∈c.ds,d.nm.size<=12/\d.ar.length<=8/\∀s∈d.ar,s=4)(h:(bM c.ds x (i:Int) pre).2=0):nZ c i x (bM c.ds x (i:Int) pre).1:=by
 unfold bM at h⊢;by_cases U:x.op < 1\/25 < x.op
 .rw [if_pos U] at h;exact absurd (show(4:Int)=0 from h) (by decide)
 rw [if_neg U] at h⊢;have p: 1<=x.op/\x.op<=25:=by omega
 have B:∀k,0<=k->k < (i:Int)->KW c i k (pre.getD k.toNat 0):=λk h1 K=>⟨h1,K,by
  rw [Q k.toNat (by omega),Lw,Ly (by omega)];rfl⟩
 by_cases J:x.op=9
 .rw [if_pos J] at h⊢;by_cases N:bc c.ds x.nm < 0
  .rw [if_pos N] at h;exact absurd (show(6:Int)=0 from h) (by decide)
  rw [if_neg N] at h⊢;by_cases c3:(x.ks.length≠((c.ds.getD (bc c.ds x.nm).toNat ⟨s0,true,[],0⟩).ar).length)\/8 < x.ks.length
  .rw [if_pos c3] at h;exact absurd (show(9:Int)=0 from h) (by decide)
  rw [if_neg c3] at h⊢;obtain⟨j,d,h3,X,h5⟩:=sE (nm:=x.nm) (i:=0) (ds:=c.ds) (by unfold bc at N;omega);have hf:bc c.ds x.nm= ((j:Nat):Int):=by unfold bc;rw [h3,L5]
  have P:c.ds.getD (bc c.ds x.nm).toNat ⟨s0,true,[],0⟩=d:=by rw [hf,Mb,Lw,X];rfl
  rw [P] at h c3⊢;obtain⟨m,S,I,M,g⟩:=nb h;rw [M];obtain⟨y,z,W⟩:=vt S I;obtain⟨d1,d2,d3⟩:=Y d (LB X);have es:aW x.op x.d (x.ks.map λk=>pre.getD k.toNat 0) d.ar d.so=if(x.ks.map λk=>pre.getD k.toNat 0)=d.ar then d.so else 0:=by rw [J];rfl
  rw [es] at g⊢;by_cases e:(x.ks.map λk=>pre.getD k.toNat 0)=d.ar
  .have Z:∀k∈x.ks,∃s',KW c i k s'/\aH s'=false:=λk A=>by
    refine⟨_,B k (m k A).1 (m k A).2, ?_⟩;have:pre.getD k.toNat 0=4:=d3 _ (by rw [<-e];exact L4.2 ⟨k,A,rfl⟩);rw [this];rfl
   exact⟨p,by omega,y,z,by rw [<-h5];exact d1,λk A=>⟨_,B k (m k A).1 (m k A).2⟩,by omega,by omega,by omega,by omega,by omega,by omega,by omega,by omega,λ_ _ _=>⟨λe=>absurd J e,Z⟩⟩
  .rw [if_neg e] at g;exact absurd rfl g
 .rw [if_neg J] at h⊢;by_cases c3:(0<=dx x.op/\(x.ks.length:Int)≠dx x.op)\/8 < x.ks.length
  .rw [if_pos c3] at h;exact absurd (show(9:Int)=0 from h) (by decide)
  rw [if_neg c3] at h⊢;obtain⟨m,S,I,M,g⟩:=nb h;rw [M];obtain⟨y,z,W⟩:=vt S I;have t:x.nm.size<=12:=by
   rcases W with e | e
   .rw [e];decide
   .exact absurd e J
  have q:∀k∈x.ks,∃s',KW c i k s':=λk A=>⟨_,B k (m k A).1 (m k A).2⟩;have r:x.ks.length<=8:=by omega
  have u: 0<=dx x.op->(x.ks.length:Int)=dx x.op:=λe=>by omega
  have l:(∀s∈(x.ks.map λk=>pre.getD k.toNat 0),aH s=false)->∀k∈x.ks,∃s',KW c i k s'/\aH s'=false:=λO k A=>⟨_,B k (m k A).1 (m k A).2,O _ (L4.2 ⟨k,A,rfl⟩)⟩;have E:(x.ks.length:Int)=0->x.ks= []:=λh=>LR.1 (by omega);have F:(x.ks.length:Int)=1->∃a,x.ks= [a]:=λh=>Nn.1 (by omega);have D:(x.ks.length:Int)=2->∃a b,x.ks= [a,b]:=λh=>by
   have K:x.ks.length=2:=by omega
   match hh:x.ks,K with
   | [a,b],_=>exact⟨a,b,rfl⟩
  have R:(x.ks.length:Int)=3->∃a b d,x.ks= [a,b,d]:=λh=>by
   have K:x.ks.length=3:=by omega
   match hh:x.ks,K with
   | [a,b,d],_=>exact⟨a,b,d,rfl⟩
  clear h M;rcases wI p with o | o | o | o | o | o | o | o | o | o | o | o | o | o | o | o | o | o | o | o | o | o | o | o | o
  ·
   have hl:(x.ks.length:Int)=0:=by have:=u (by rw [o];decide);rw [o] at this;exact this
   have G:=E hl;have es:aW x.op x.d (x.ks.map λk=>pre.getD k.toNat 0) [] 0=1:=by rw [o];rfl
   rw [es];exact⟨p,r,y,z,t,q,by omega,by omega,by omega,by omega,by omega,by omega,by omega,by omega,λ_ _ _=>⟨λ_=>rfl,λk A=>by rw [G] at A;cases A⟩⟩
  ·
   have hl:(x.ks.length:Int)=0:=by have:=u (by rw [o];decide);rw [o] at this;exact this
   have G:=E hl;have es:aW x.op x.d (x.ks.map λk=>pre.getD k.toNat 0) [] 0=1:=by rw [o];rfl
   rw [es];exact⟨p,r,y,z,t,q,by omega,by omega,by omega,by omega,by omega,by omega,by omega,by omega,λ_ _ _=>⟨λ_=>rfl,λk A=>by rw [G] at A;cases A⟩⟩
  ·
   have hl:(x.ks.length:Int)=1:=by have:=u (by rw [o];decide);rw [o] at this;exact this
   have es:aW x.op x.d (x.ks.map λk=>pre.getD k.toNat 0) [] 0=if(x.ks.map λk=>pre.getD k.toNat 0).all pB=true then 1 else 0:=by rw [o];rfl
   rw [es] at g⊢;cases v:(x.ks.map λk=>pre.getD k.toNat 0).all pB with
   | false=>rw [v] at g;exact absurd rfl g
   | true=>have C:=l (λs hs=>td (LK.1 v s hs));rw [if_pos rfl];exact⟨p,r,y,z,t,q,λ_=>by obtain⟨a,O⟩:=F hl;exact⟨a,[],O⟩,by omega,by omega,by omega,by omega,by omega,by omega,by omega,λ_ _ _=>⟨λ_=>rfl,C⟩⟩
  ·
   have es:aW x.op x.d (x.ks.map λk=>pre.getD k.toNat 0) [] 0=if(x.ks.map λk=>pre.getD k.toNat 0).all pB=true then 1 else 0:=by rw [o];rfl
   rw [es] at g⊢;cases v:(x.ks.map λk=>pre.getD k.toNat 0).all pB with
   | false=>rw [v] at g;exact absurd rfl g
   | true=>have C:=l (λs hs=>td (LK.1 v s hs));rw [if_pos rfl];exact⟨p,r,y,z,t,q,by omega,by omega,by omega,by omega,by omega,by omega,by omega,by omega,λ_ _ _=>⟨λ_=>rfl,C⟩⟩
  ·
   have es:aW x.op x.d (x.ks.map λk=>pre.getD k.toNat 0) [] 0=if(x.ks.map λk=>pre.getD k.toNat 0).all pB=true then 1 else 0:=by rw [o];rfl
   rw [es] at g⊢;cases v:(x.ks.map λk=>pre.getD k.toNat 0).all pB with
   | false=>rw [v] at g;exact absurd rfl g
   | true=>have C:=l (λs hs=>td (LK.1 v s hs));rw [if_pos rfl];exact⟨p,r,y,z,t,q,by omega,by omega,by omega,by omega,by omega,by omega,by omega,by omega,λ_ _ _=>⟨λ_=>rfl,C⟩⟩
  ·
   have hl:(x.ks.length:Int)=2:=by have:=u (by rw [o];decide);rw [o] at this;exact this
   have es:aW x.op x.d (x.ks.map λk=>pre.getD k.toNat 0) [] 0=if(x.ks.map λk=>pre.getD k.toNat 0).all pB=true then 1 else 0:=by rw [o];rfl
   rw [es] at g⊢;cases v:(x.ks.map λk=>pre.getD k.toNat 0).all pB with
   | false=>rw [v] at g;exact absurd rfl g
   | true=>have C:=l (λs hs=>td (LK.1 v s hs));rw [if_pos rfl];exact⟨p,r,y,z,t,q,by omega,by omega,by omega,by omega,by omega,by omega,by omega,by omega,λ_ _ _=>⟨λ_=>rfl,C⟩⟩
  ·
   have hl:(x.ks.length:Int)=3:=by have:=u (by rw [o];decide);rw [o] at this;exact this
   obtain⟨a,b,d,f⟩:=R hl;have es:aW x.op x.d (x.ks.map λk=>pre.getD k.toNat 0) [] 0=if pre.getD a.toNat 0=1/\pre.getD b.toNat 0=pre.getD d.toNat 0/\pre.getD b.toNat 0≠5 then pre.getD b.toNat 0 else 0:=by rw [o,f];rfl
   rw [es] at g⊢;by_cases e:pre.getD a.toNat 0=1/\pre.getD b.toNat 0=pre.getD d.toNat 0/\pre.getD b.toNat 0≠5
   .rw [if_pos e];have ka:=B a (m a (by rw [f];simp)).1 (m a (by rw [f];simp)).2;have kb:=B b (m b (by rw [f];simp)).1 (m b (by rw [f];simp)).2;have kd:=B d (m d (by rw [f];simp)).1 (m d (by rw [f];simp)).2;rw [e.1] at ka;rw [<-e.2.1] at kd;exact⟨p,r,y,z,t,q,by omega,λ_=>⟨a,b,d,f,ka,kb,kd⟩,by omega,by omega,by omega,by omega,by omega,by omega,λe=>absurd o e⟩
   .rw [if_neg e] at g;exact absurd rfl g
  ·
   have hl:(x.ks.length:Int)=2:=by have:=u (by rw [o];decide);rw [o] at this;exact this
   obtain⟨a,b,f⟩:=D hl;have ka:=B a (m a (by rw [f];simp)).1 (m a (by rw [f];simp)).2;have kb:=B b (m b (by rw [f];simp)).1 (m b (by rw [f];simp)).2;have es:aW x.op x.d (x.ks.map λk=>pre.getD k.toNat 0) [] 0=if(x.ks.map λk=>pre.getD k.toNat 0).all pN=true\/(pre.getD a.toNat 0=pre.getD b.toNat 0/\(pre.getD a.toNat 0=4\/aH (pre.getD a.toNat 0)=true)) then 1 else 0:=by rw [o,f];rfl
   rw [es] at g⊢;by_cases e:(x.ks.map λk=>pre.getD k.toNat 0).all pN=true\/(pre.getD a.toNat 0=pre.getD b.toNat 0/\(pre.getD a.toNat 0=4\/aH (pre.getD a.toNat 0)=true))
   .rw [if_pos e];have c8:aH 1=false/\∃a b s',x.ks= [a,b]/\((aH s'=true/\KW c i a s'/\KW c i b s')\/∀k∈x.ks,∃s',KW c i k s'/\aH s'=false):=by
     refine⟨rfl,a,b,pre.getD a.toNat 0,f, ?_⟩;rcases e with e | ⟨V,L | L⟩
     .exact .inr (l λs hs=>qK (LK.1 e s hs))
     .right;intro k A;rw [f] at A;simp only [LC,MH,or_false] at A;rcases A with rfl | rfl
      .exact⟨_,ka,by rw [L];rfl⟩
      .exact⟨_,kb,by rw [<-V,L];rfl⟩
     .left;rw [<-V] at kb;exact⟨L,ka,kb⟩
    exact⟨p,r,y,z,t,q,by omega,by omega,λ_=>c8,by omega,by omega,by omega,by omega,by omega,λ_ e=>absurd o e⟩
   .rw [if_neg e] at g;exact absurd rfl g
  ·
   exact absurd o J
  ·
   have hl:(x.ks.length:Int)=0:=by have:=u (by rw [o];decide);rw [o] at this;exact this
   have G:=E hl;have es:aW x.op x.d (x.ks.map λk=>pre.getD k.toNat 0) [] 0=if x.d=1 then 2 else 3:=by rw [o];rfl
   rw [es];have H:aH (if x.d=1 then 2 else 3)=false:=by split <;> rfl
   exact⟨p,r,y,z,t,q,by omega,by omega,by omega,by omega,by omega,by omega,by omega,by omega,λ_ _ _=>⟨λ_=>H,λk A=>by rw [G] at A;cases A⟩⟩
  ·
   have es:aW x.op x.d (x.ks.map λk=>pre.getD k.toNat 0) [] 0=if(x.ks.map λk=>pre.getD k.toNat 0).all pN=true then(if(x.ks.map λk=>pre.getD k.toNat 0).all pI=true then 2 else 3) else 0:=by rw [o];rfl
   rw [es] at g⊢;cases v:(x.ks.map λk=>pre.getD k.toNat 0).all pN with
   | false=>rw [v] at g;exact absurd rfl g
   | true=>
    have C:=l (λs hs=>qK (LK.1 v s hs));rw [if_pos rfl];have H:aH (if(x.ks.map λk=>pre.getD k.toNat 0).all pI=true then 2 else 3)=false:=by split <;> rfl
    exact⟨p,r,y,z,t,q,by omega,by omega,by omega,by omega,by omega,by omega,by omega,by omega,λ_ _ _=>⟨λ_=>H,C⟩⟩
  ·
   have hl:(x.ks.length:Int)=1:=by have:=u (by rw [o];decide);rw [o] at this;exact this
   obtain⟨a,f⟩:=F hl;have es:aW x.op x.d (x.ks.map λk=>pre.getD k.toNat 0) [] 0=if pN (pre.getD a.toNat 0)=true then(if pre.getD a.toNat 0=2/\x.d=1 then 2 else 3) else 0:=by rw [o,f];rfl
   rw [es] at g⊢;cases v:pN (pre.getD a.toNat 0) with
   | false=>rw [v] at g;exact absurd rfl g
   | true=>
    have C:=l (λs hs=>by rw [f] at hs;simp only [L6,MD,Lz] at hs;subst hs;exact qK v);rw [if_pos rfl];have H:aH (if pre.getD a.toNat 0=2/\x.d=1 then 2 else 3)=false:=by split <;> rfl
    exact⟨p,r,y,z,t,q,by omega,by omega,by omega,by omega,by omega,by omega,by omega,by omega,λ_ _ _=>⟨λ_=>H,C⟩⟩
  ·
   have hl:(x.ks.length:Int)=2:=by have:=u (by rw [o];decide);rw [o] at this;exact this
   have es:aW x.op x.d (x.ks.map λk=>pre.getD k.toNat 0) [] 0=if(x.ks.map λk=>pre.getD k.toNat 0).all pN=true then 1 else 0:=by rw [o];rfl
   rw [es] at g⊢;cases v:(x.ks.map λk=>pre.getD k.toNat 0).all pN with
   | false=>rw [v] at g;exact absurd rfl g
   | true=>have C:=l (λs hs=>qK (LK.1 v s hs));rw [if_pos rfl];exact⟨p,r,y,z,t,q,by omega,by omega,by omega,by omega,by omega,by omega,by omega,by omega,λ_ _ _=>⟨λ_=>rfl,C⟩⟩
  ·
   have hl:(x.ks.length:Int)=2:=by have:=u (by rw [o];decide);rw [o] at this;exact this
   have es:aW x.op x.d (x.ks.map λk=>pre.getD k.toNat 0) [] 0=if(x.ks.map λk=>pre.getD k.toNat 0).all pN=true then 1 else 0:=by rw [o];rfl
   rw [es] at g⊢;cases v:(x.ks.map λk=>pre.getD k.toNat 0).all pN with
   | false=>rw [v] at g;exact absurd rfl g
   | true=>have C:=l (λs hs=>qK (LK.1 v s hs));rw [if_pos rfl];exact⟨p,r,y,z,t,q,by omega,by omega,by omega,by omega,by omega,by omega,by omega,by omega,λ_ _ _=>⟨λ_=>rfl,C⟩⟩
  ·
   have hl:(x.ks.length:Int)=0:=by have:=u (by rw [o];decide);rw [o] at this;exact this
   have G:=E hl;have es:aW x.op x.d (x.ks.map λk=>pre.getD k.toNat 0) [] 0=10+x.d:=by rw [o];rfl
   rw [es];obtain⟨w1,w2,w3,w4⟩:=qE I o;have w5:x.n < 2 ^ x.d.toNat:=by
    have P:x.d.toNat=1\/x.d.toNat=2\/x.d.toNat=3\/x.d.toNat=4\/x.d.toNat=5\/x.d.toNat=6\/x.d.toNat=7\/x.d.toNat=8:=by omega
    have H:i64.wrap (1 * 2 ^ min x.d.toNat 64)=2 ^ x.d.toNat:=by rcases P with h | h | h | h | h | h | h | h <;> rw [h] <;> decide
    rw [H] at w4;exact w4
   exact⟨p,r,y,z,t,q,by omega,by omega,by omega,λ_=>⟨G,w1,w2,w3,w5,rfl⟩,by omega,by omega,by omega,by omega,by omega⟩
  ·
   have hl:(x.ks.length:Int)=1:=by have:=u (by rw [o];decide);rw [o] at this;exact this
   obtain⟨a,f⟩:=F hl;have ka:=B a (m a (by rw [f];simp)).1 (m a (by rw [f];simp)).2;have es:aW x.op x.d (x.ks.map λk=>pre.getD k.toNat 0) [] 0=if aH (pre.getD a.toNat 0)=true then pre.getD a.toNat 0 else 0:=by rw [o,f];rfl
   rw [es] at g⊢;cases v:aH (pre.getD a.toNat 0) with
   | false=>rw [v] at g;exact absurd rfl g
   | true=>rw [if_pos rfl];exact⟨p,r,y,z,t,q,by omega,by omega,by omega,by omega,λ_=>⟨v,a,f,ka⟩,by omega,by omega,by omega,by omega⟩
  ·
   have hl:(x.ks.length:Int)=2:=by have:=u (by rw [o];decide);rw [o] at this;exact this
   obtain⟨a,b,f⟩:=D hl;have ka:=B a (m a (by rw [f];simp)).1 (m a (by rw [f];simp)).2;have kb:=B b (m b (by rw [f];simp)).1 (m b (by rw [f];simp)).2;have es:aW x.op x.d (x.ks.map λk=>pre.getD k.toNat 0) [] 0=if pre.getD a.toNat 0=pre.getD b.toNat 0/\aH (pre.getD a.toNat 0)=true then pre.getD a.toNat 0 else 0:=by rw [o,f];rfl
   rw [es] at g⊢;by_cases e:pre.getD a.toNat 0=pre.getD b.toNat 0/\aH (pre.getD a.toNat 0)=true
   .rw [if_pos e];rw [<-e.1] at kb;exact⟨p,r,y,z,t,q,by omega,by omega,by omega,by omega,by omega,λ_ _=>⟨e.2,a,b,f,ka,kb⟩,by omega,by omega,by omega⟩
   .rw [if_neg e] at g;exact absurd rfl g
  ·
   have hl:(x.ks.length:Int)=2:=by have:=u (by rw [o];decide);rw [o] at this;exact this
   obtain⟨a,b,f⟩:=D hl;have ka:=B a (m a (by rw [f];simp)).1 (m a (by rw [f];simp)).2;have kb:=B b (m b (by rw [f];simp)).1 (m b (by rw [f];simp)).2;have es:aW x.op x.d (x.ks.map λk=>pre.getD k.toNat 0) [] 0=if pre.getD a.toNat 0=pre.getD b.toNat 0/\aH (pre.getD a.toNat 0)=true then pre.getD a.toNat 0 else 0:=by rw [o,f];rfl
   rw [es] at g⊢;by_cases e:pre.getD a.toNat 0=pre.getD b.toNat 0/\aH (pre.getD a.toNat 0)=true
   .rw [if_pos e];rw [<-e.1] at kb;exact⟨p,r,y,z,t,q,by omega,by omega,by omega,by omega,by omega,λ_ _=>⟨e.2,a,b,f,ka,kb⟩,by omega,by omega,by omega⟩
   .rw [if_neg e] at g;exact absurd rfl g
  ·
   have hl:(x.ks.length:Int)=2:=by have:=u (by rw [o];decide);rw [o] at this;exact this
   obtain⟨a,b,f⟩:=D hl;have ka:=B a (m a (by rw [f];simp)).1 (m a (by rw [f];simp)).2;have kb:=B b (m b (by rw [f];simp)).1 (m b (by rw [f];simp)).2;have es:aW x.op x.d (x.ks.map λk=>pre.getD k.toNat 0) [] 0=if pre.getD a.toNat 0=pre.getD b.toNat 0/\aH (pre.getD a.toNat 0)=true then pre.getD a.toNat 0 else 0:=by rw [o,f];rfl
   rw [es] at g⊢;by_cases e:pre.getD a.toNat 0=pre.getD b.toNat 0/\aH (pre.getD a.toNat 0)=true
   .rw [if_pos e];rw [<-e.1] at kb;exact⟨p,r,y,z,t,q,by omega,by omega,by omega,by omega,by omega,λ_ _=>⟨e.2,a,b,f,ka,kb⟩,by omega,by omega,by omega⟩
   .rw [if_neg e] at g;exact absurd rfl g
  ·
   have hl:(x.ks.length:Int)=2:=by have:=u (by rw [o];decide);rw [o] at this;exact this
   obtain⟨a,b,f⟩:=D hl;have ka:=B a (m a (by rw [f];simp)).1 (m a (by rw [f];simp)).2;have kb:=B b (m b (by rw [f];simp)).1 (m b (by rw [f];simp)).2;have es:aW x.op x.d (x.ks.map λk=>pre.getD k.toNat 0) [] 0=if pre.getD a.toNat 0=pre.getD b.toNat 0/\aH (pre.getD a.toNat 0)=true then pre.getD a.toNat 0 else 0:=by rw [o,f];rfl
   rw [es] at g⊢;by_cases e:pre.getD a.toNat 0=pre.getD b.toNat 0/\aH (pre.getD a.toNat 0)=true
   .rw [if_pos e];rw [<-e.1] at kb;exact⟨p,r,y,z,t,q,by omega,by omega,by omega,by omega,by omega,λ_ _=>⟨e.2,a,b,f,ka,kb⟩,by omega,by omega,by omega⟩
   .rw [if_neg e] at g;exact absurd rfl g
  ·
   have hl:(x.ks.length:Int)=2:=by have:=u (by rw [o];decide);rw [o] at this;exact this
   obtain⟨a,b,f⟩:=D hl;have ka:=B a (m a (by rw [f];simp)).1 (m a (by rw [f];simp)).2;have kb:=B b (m b (by rw [f];simp)).1 (m b (by rw [f];simp)).2;have es:aW x.op x.d (x.ks.map λk=>pre.getD k.toNat 0) [] 0=if pre.getD a.toNat 0=pre.getD b.toNat 0/\aH (pre.getD a.toNat 0)=true then pre.getD a.toNat 0 else 0:=by rw [o,f];rfl
   rw [es] at g⊢;by_cases e:pre.getD a.toNat 0=pre.getD b.toNat 0/\aH (pre.getD a.toNat 0)=true
   .rw [if_pos e];rw [<-e.1] at kb;exact⟨p,r,y,z,t,q,by omega,by omega,by omega,by omega,by omega,λ_ _=>⟨e.2,a,b,f,ka,kb⟩,by omega,by omega,by omega⟩
   .rw [if_neg e] at g;exact absurd rfl g
  ·
   have hl:(x.ks.length:Int)=2:=by have:=u (by rw [o];decide);rw [o] at this;exact this
   obtain⟨a,b,f⟩:=D hl;have ka:=B a (m a (by rw [f];simp)).1 (m a (by rw [f];simp)).2;have kb:=B b (m b (by rw [f];simp)).1 (m b (by rw [f];simp)).2;have es:aW x.op x.d (x.ks.map λk=>pre.getD k.toNat 0) [] 0=if pre.getD a.toNat 0=pre.getD b.toNat 0/\aH (pre.getD a.toNat 0)=true then 1 else 0:=by rw [o,f];rfl
   rw [es] at g⊢;by_cases e:pre.getD a.toNat 0=pre.getD b.toNat 0/\aH (pre.getD a.toNat 0)=true
   .rw [if_pos e];rw [<-e.1] at kb;exact⟨p,r,y,z,t,q,by omega,by omega,by omega,by omega,by omega,by omega,λ_=>⟨rfl,a,b,_,e.2,f,ka,kb⟩,by omega,by omega⟩
   .rw [if_neg e] at g;exact absurd rfl g
  ·
   have hl:(x.ks.length:Int)=1:=by have:=u (by rw [o];decide);rw [o] at this;exact this
   obtain⟨a,f⟩:=F hl;have ka:=B a (m a (by rw [f];simp)).1 (m a (by rw [f];simp)).2;have es:aW x.op x.d (x.ks.map λk=>pre.getD k.toNat 0) [] 0=if aH (pre.getD a.toNat 0)=true then pre.getD a.toNat 0 else 0:=by rw [o,f];rfl
   rw [es] at g⊢;cases v:aH (pre.getD a.toNat 0) with
   | false=>rw [v] at g;exact absurd rfl g
   | true=>
    rw [if_pos rfl];have w: 0<=x.n/\x.n<=8:=by unfold dT at I;rw [if_neg (by omega),if_neg (by omega),if_pos o] at I;simpa using I
    exact⟨p,r,y,z,t,q,by omega,by omega,by omega,by omega,λ_=>⟨v,a,f,ka⟩,by omega,by omega,λ_=>w,by omega⟩
  ·
   have hl:(x.ks.length:Int)=2:=by have:=u (by rw [o];decide);rw [o] at this;exact this
   have es:aW x.op x.d (x.ks.map λk=>pre.getD k.toNat 0) [] 0=if(x.ks.map λk=>pre.getD k.toNat 0)= [5,4] then 4 else 0:=by rw [o];rfl
   rw [es] at g⊢;by_cases e:(x.ks.map λk=>pre.getD k.toNat 0)= [5,4]
   .rw [if_pos e];have C:=l (λs hs=>by
     rw [e] at hs;simp only [LC,MH,or_false] at hs;rcases hs with rfl | rfl <;> rfl)
    exact⟨p,r,y,z,t,q,by omega,by omega,by omega,by omega,by omega,by omega,by omega,by omega,λ_ _ _=>⟨λ_=>rfl,C⟩⟩
   .rw [if_neg e] at g;exact absurd rfl g
  ·
   have hl:(x.ks.length:Int)=3:=by have:=u (by rw [o];decide);rw [o] at this;exact this
   have es:aW x.op x.d (x.ks.map λk=>pre.getD k.toNat 0) [] 0=if(x.ks.map λk=>pre.getD k.toNat 0)= [5,4,4] then 5 else 0:=by rw [o];rfl
   rw [es] at g⊢;by_cases e:(x.ks.map λk=>pre.getD k.toNat 0)= [5,4,4]
   .rw [if_pos e];have C:=l (λs hs=>by
     rw [e] at hs;simp only [LC,MH,or_false] at hs;rcases hs with rfl | rfl | rfl <;> rfl)
    exact⟨p,r,y,z,t,q,by omega,by omega,by omega,by omega,by omega,by omega,by omega,by omega,λ_ _ _=>⟨λ_=>rfl,C⟩⟩
   .rw [if_neg e] at g;exact absurd rfl g
theorem uF{a:As}{es:Bool}(h:(bL a).2.1=0):nP (iT a es (bL a).1)/\(∀d∈a.ds,d.ar.length<=8):=by
 unfold bL at h⊢;by_cases p: 30 < a.ds.length
 .rw [if_pos p] at h;exact absurd (show(2:Int)=0 from h) (by decide)
 rw [if_neg p] at h⊢;by_cases g:(dM [] 0 a.ds).1≠0
 .rw [if_pos g] at h;exact absurd h g
 rw [if_neg g] at h⊢;by_cases c3: 200 < a.ns.length
 .rw [if_pos c3] at h;exact absurd (show(2:Int)=0 from h) (by decide)
 rw [if_neg c3] at h⊢;have f:∀d∈a.ds,d.nm.size<=12/\d.ar.length<=8/\∀s∈d.ar,s=4:=λd e=>by obtain⟨j,y⟩:=MA e;obtain⟨m,o,B,_⟩:=uG (uB (by simpa using g) j d y);exact⟨m,o,B⟩
 unfold gR at h⊢;by_cases l:(dy a.ds a.ns 0 []).2.1≠0
 .rw [if_pos l] at h;exact absurd h l
 rw [if_neg l] at h⊢;by_cases q: 200 < a.hs.length
 .rw [if_pos q] at h;exact absurd (show(2:Int)=0 from h) (by decide)
 rw [if_neg q] at h⊢;by_cases b:(dN (dy a.ds a.ns 0 []).1 a.hs 0).1≠0
 .rw [if_pos b] at h;exact absurd h b
 rw [if_neg b];obtain⟨t,u,v,w⟩:=tL (ds:=a.ds) (r:=a.ns) (i:=0) (ss:= []) rfl (by simpa using l);rw [MP] at u;rw [u] at b⊢;refine⟨⟨v,by show a.ns.length<=200;omega,by show a.ds.length<=30;omega,by show a.hs.length<=200;omega,λd e=>(f d e).1,λi x s A hs=> ?_,AQ (show(dN t a.hs 0).1=0 by simpa using b)⟩,λd e=>(f d e).2.1⟩;obtain⟨m,o⟩:=w i x A;rw [L5,MP] at m o;have C:i < t.length:=(Ls.1 hs).1;replace hs:t[i]? =some s:=hs;rw [o] at hs;simp only [Lo] at hs;subst hs;exact Iy (c:=iT a es t) (x:=x) (i:=i) (pre:=t.take i) (by rw [Mp];omega) (λk z=>by show t[k]? =_;rw [NZ z]) f m
theorem Db{a:As}(h:(bL a).2.1=0):(bL a).2.2=0:=by
 unfold bL at h⊢;by_cases f: 30 < a.ds.length
 .rw [if_pos f] at h;exact absurd (show(2:Int)=0 from h) (by decide)
 rw [if_neg f] at h⊢;by_cases b:(dM [] 0 a.ds).1≠0
 .rw [if_pos b] at h;exact absurd h b
 rw [if_neg b] at h⊢;by_cases c3: 200 < a.ns.length
 .rw [if_pos c3] at h;exact absurd (show(2:Int)=0 from h) (by decide)
 rw [if_neg c3] at h⊢;unfold gR at h⊢;by_cases c:(dy a.ds a.ns 0 []).2.1≠0
 .rw [if_pos c] at h;exact absurd h c
 rw [if_neg c] at h⊢;by_cases g: 200 < a.hs.length
 .rw [if_pos g] at h;exact absurd (show(2:Int)=0 from h) (by decide)
 rw [if_neg g] at h⊢;by_cases e:(dN (dy a.ds a.ns 0 []).1 a.hs 0).1≠0
 .rw [if_pos e] at h;exact absurd h e
 rw [if_neg e]
def lP(a:As):List T:=if(bL a).2.1=0 then r6 a (bL a).1.isEmpty (bL a).1 else [T.af true,T.af true,T.af true,ti (bL a).2.1,ti (bL a).2.2]
theorem CZ{a:As}(wf:lD a)(j:∀d∈a.ds,d.nm.size<=9223372036854775807):Or (.call 9) [AG a] []=some (lP a):=by
 obtain⟨x,c,f⟩:=Js (a:=a) j;unfold lP;by_cases h:(bL a).2.1=0
 .obtain⟨ok,e⟩:=uF (es:=(bL a).1.isEmpty) h;have g:(bL a).2.2=0:=by
   exact Db h
  rw [if_pos h];replace c:Or (.call 22) [AG a] []=some [x,ti (bL a).2.1,ti (bL a).2.2]:=c;rw [h,g] at c;exact s9 wf ok (λd i=>by have:=e d i;omega) c f
 .have b:((bL a).2.1==0)=false:=by simpa using h
  rw [if_neg h];refine ai ?_;rw [e9];simp only [bK,bO,cU,bT,f,bN,c,b,Lx]
end Go.Aev.Gen
