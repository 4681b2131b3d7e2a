import Derived.Test.YtcjplcpngagalaaDoorBlastRoundQ7
import Derived.Test.YtcjplcpngagalaaDoorBlastRoundQ11
set_option linter.all false
namespace Go.Aev.Gen
open Go Go.Aev Go.IntKind
def pB(s:Int):Bool:=s==1
def pN(s:Int):Bool:=s==2 || s==3
def pI(s:Int):Bool:=s==2
theorem PD(n:Int):Or (.call 87) [I n] []=some [tb (pB n)]:=by refine ah ?_;rw [Km];rfl
theorem Od(n:Int):Or (.call 95) [I n,AV.t (T.ptr [T.cz 87])] []=some [tb (!pB n)]:=by have k:=PD n;refine ah ?_;rw [Iw];simp only [aj,k]
theorem MZ{e:Bool}{l:List Int}(hl:l.length<=1000):∀(r:List Int) (i:Nat),l.drop i=r->
  ∃z:Int,Or eN [ab e l,AV.fn 95 [] [AV.t (T.ptr [T.cz 87])],I (l.length:Int),I (i:Int)] []=some [ti z]/\decide (z>=0)= !r.all pB:=by
 intro r;induction r with
 | nil=>
  intro i g;have a:¬(i:Int) < (l.length:Int):=by have:=bh g;omega
  refine⟨-1,ah ?_,by simp⟩;rw [xX];simp only [aj,↓reduceIte,a]
 | cons d r h=>
  intro i g;obtain⟨c,o,f⟩:=bm g;have a:(i:Int) < (l.length:Int):=by omega
  have h0: 0<=(i:Int):=by omega
  have k:=Od d;cases b:pB d with
  | false=>rw [b] at k;refine⟨(i:Int),ah ?_,by simp [b]⟩;rw [xX];simp only [aj,↓reduceIte,a,h0,and_self,aC,bH c,k]
  | true=>rw [b] at k;obtain⟨z,j,m⟩:=h (i+1) f;refine⟨z,ah ?_,by rw [m];simp [b]⟩;rw [xX];simp only [aj,↓reduceIte,a,h0,and_self,aC,bH c,k,next i (by omega)];exact j
theorem wm{e:Bool}{l:List Int}(hl:l.length<=1000):Or (.call 86) [ab e l,AV.fn 87 [] []] []=some [tb (l.all pB)]:=by
 obtain⟨z,c,f⟩:=MZ (e:=e) hl l 0 rfl;have b:Or (.call 76) [ab e l,AV.fn 95 [] [AV.t (T.ptr [T.cz 87])]] []=some [ti z]:=by refine ah ?_;rw [J6];simp only [aC];exact c
 have a:Or (.call 39) [ab e l,AV.fn 95 [] [AV.t (T.ptr [T.cz 87])]] []=some [tb (!l.all pB)]:=by refine ah ?_;rw [I3];simp only [aj,b,f]
 refine ah ?_;rw [Kj];simp only [aj,a,Bool.not_not]
theorem Gd(n:Int):Or (.call 88) [I n] []=some [tb (pN n)]:=by refine ah ?_;rw [Kn];unfold pN;cases h:n==2 <;> simp
theorem Oe(n:Int):Or (.call 95) [I n,AV.t (T.ptr [T.cz 88])] []=some [tb (!pN n)]:=by have k:=Gd n;refine ah ?_;rw [Ix];simp only [aj,k]
theorem M1{e:Bool}{l:List Int}(hl:l.length<=1000):∀(r:List Int) (i:Nat),l.drop i=r->
  ∃z:Int,Or eN [ab e l,AV.fn 95 [] [AV.t (T.ptr [T.cz 88])],I (l.length:Int),I (i:Int)] []=some [ti z]/\decide (z>=0)= !r.all pN:=by
 intro r;induction r with
 | nil=>
  intro i g;have a:¬(i:Int) < (l.length:Int):=by have:=bh g;omega
  refine⟨-1,ah ?_,by simp⟩;rw [xY];simp only [aj,↓reduceIte,a]
 | cons d r h=>
  intro i g;obtain⟨c,o,f⟩:=bm g;have a:(i:Int) < (l.length:Int):=by omega
  have h0: 0<=(i:Int):=by omega
  have k:=Oe d;cases b:pN d with
  | false=>rw [b] at k;refine⟨(i:Int),ah ?_,by simp [b]⟩;rw [xY];simp only [aj,↓reduceIte,a,h0,and_self,aC,bH c,k]
  | true=>rw [b] at k;obtain⟨z,j,m⟩:=h (i+1) f;refine⟨z,ah ?_,by rw [m];simp [b]⟩;rw [xY];simp only [aj,↓reduceIte,a,h0,and_self,aC,bH c,k,next i (by omega)];exact j
theorem wo{e:Bool}{l:List Int}(hl:l.length<=1000):Or (.call 86) [ab e l,AV.fn 88 [] []] []=some [tb (l.all pN)]:=by
 obtain⟨z,c,f⟩:=M1 (e:=e) hl l 0 rfl;have b:Or (.call 76) [ab e l,AV.fn 95 [] [AV.t (T.ptr [T.cz 88])]] []=some [ti z]:=by refine ah ?_;rw [J7];simp only [aC];exact c
 have a:Or (.call 39) [ab e l,AV.fn 95 [] [AV.t (T.ptr [T.cz 88])]] []=some [tb (!l.all pN)]:=by refine ah ?_;rw [I4];simp only [aj,b,f]
 refine ah ?_;rw [Kk];simp only [aj,a,Bool.not_not]
theorem Oa(n:Int):Or (.call 90) [I n] []=some [tb (pI n)]:=by refine ah ?_;rw [Ir];rfl
theorem Oc(n:Int):Or (.call 95) [I n,AV.t (T.ptr [T.cz 90])] []=some [tb (!pI n)]:=by have k:=Oa n;refine ah ?_;rw [Iy];simp only [aj,k]
theorem MY{e:Bool}{l:List Int}(hl:l.length<=1000):∀(r:List Int) (i:Nat),l.drop i=r->
  ∃z:Int,Or eN [ab e l,AV.fn 95 [] [AV.t (T.ptr [T.cz 90])],I (l.length:Int),I (i:Int)] []=some [ti z]/\decide (z>=0)= !r.all pI:=by
 intro r;induction r with
 | nil=>
  intro i g;have a:¬(i:Int) < (l.length:Int):=by have:=bh g;omega
  refine⟨-1,ah ?_,by simp⟩;rw [xW];simp only [aj,↓reduceIte,a]
 | cons d r h=>
  intro i g;obtain⟨c,o,f⟩:=bm g;have a:(i:Int) < (l.length:Int):=by omega
  have h0: 0<=(i:Int):=by omega
  have k:=Oc d;cases b:pI d with
  | false=>rw [b] at k;refine⟨(i:Int),ah ?_,by simp [b]⟩;rw [xW];simp only [aj,↓reduceIte,a,h0,and_self,aC,bH c,k]
  | true=>rw [b] at k;obtain⟨z,j,m⟩:=h (i+1) f;refine⟨z,ah ?_,by rw [m];simp [b]⟩;rw [xW];simp only [aj,↓reduceIte,a,h0,and_self,aC,bH c,k,next i (by omega)];exact j
theorem PC{e:Bool}{l:List Int}(hl:l.length<=1000):Or (.call 86) [ab e l,AV.fn 90 [] []] []=some [tb (l.all pI)]:=by
 obtain⟨z,c,f⟩:=MY (e:=e) hl l 0 rfl;have b:Or (.call 76) [ab e l,AV.fn 95 [] [AV.t (T.ptr [T.cz 90])]] []=some [ti z]:=by refine ah ?_;rw [J5];simp only [aC];exact c
 have a:Or (.call 39) [ab e l,AV.fn 95 [] [AV.t (T.ptr [T.cz 90])]] []=some [tb (!l.all pI)]:=by refine ah ?_;rw [I2];simp only [aj,b,f]
 refine ah ?_;rw [Kl];simp only [aj,a,Bool.not_not]
theorem Mu{e e':Bool}{a b:List Int}(v:a.length=b.length)(hl:a.length<=1000):∀(g c:List Int) (i:Nat),a.drop i=g->b.drop i=c->Or tJ [ab e a,ab e' b,I (a.length:Int),I (i:Int)] []=some [tb (decide (g=c))]:=by
 intro g;induction g with
 | nil=>
  intro c i l h;have j:¬(i:Int) < (a.length:Int):=by have:=bh l;omega
  have:c= []:=by rw [<-h];exact Sv (by omega)
  subst this;refine ah ?_;rw [xG];simp only [aj,↓reduceIte,j,decide_true]
 | cons x g u=>
  intro c i l h;obtain⟨m,w,r⟩:=bm l;cases c with
  | nil=>exact absurd (bh h) (by omega)
  | cons y c=>
   obtain⟨o,z,s⟩:=bm h;have j:(i:Int) < (a.length:Int):=by omega
   have p:(i:Int) < (b.length:Int):=by omega
   have h0: 0<=(i:Int):=by omega
   by_cases f:x=y
   .have t:=u c (i+1) r s;have k:decide (x::g=y::c)=decide (g=c):=by simp [f]
    rw [k];refine ah ?_;rw [xG];simp only [aj,↓reduceIte,j,p,h0,and_self,aC,bH m,bH o,f,next i (by omega)];exact t
   .have k:decide (x::g=y::c)=false:=by simp [f]
    have q:(x==y)=false:=by simpa using f
    rw [k];refine ah ?_;rw [xG];simp only [aj,↓reduceIte,j,p,h0,and_self,aC,bH m,bH o,f]
theorem wc{e e':Bool}{a b:List Int}(hl:a.length<=1000):Or (.call 35) [ab e a,ab e' b] []=some [tb (decide (a=b))]:=by
 by_cases c:a.length=b.length
 .have i:=Mu (e:=e) (e':=e') c hl a b 0 rfl rfl;have h:(a.length:Int)= (b.length:Int):=by omega
  refine ah ?_;rw [Cd];simp only [aj,aC,h];rw [<-h];exact i
 .have h:¬(a.length:Int)= (b.length:Int):=by omega
  have g:((a.length:Int)== (b.length:Int))=false:=by simpa using h
  have f:decide (a=b)=false:=by rw [decide_eq_false_iff_not];rintro rfl;exact c rfl
  rw [f];refine ah ?_;rw [Cd];simp only [aj,aC,g]
theorem zM{e e':Bool}{l da:List Int}(hl:l.length<=1000):Or (.call 85) [ab e da,AV.t (T.ptr [T.ab 1 e' (enc l)])] []=some [tb (decide (l=da))]:=by have k:=wc (e:=e') (e':=e) (b:=da) hl;refine ah ?_;rw [Ki];simp only [aj,k]
theorem mG(b:Bool):Or (.call 89) [B b] []=some [ti (if b then 2 else 3)]:=by refine ah ?_;rw [Ko];cases b <;> rfl
def aY(op d:Int)(l da:List Int)(so:Int):Int:=
 if op=1\/op=2 then 1
 else if op=3\/op=4\/op=5\/op=6 then(if l.all pB then 1 else 0)
 else if op=7 then(if l.getD 0 0=1/\l.getD 1 0=l.getD 2 0/\l.getD 1 0≠5 then l.getD 1 0 else 0)
 else if op=8 then(if l.all pN=true\/(l.getD 0 0=l.getD 1 0/\(l.getD 0 0=4\/aE (l.getD 0 0)=true)) then 1 else 0)
 else if op=9 then(if l=da then so else 0)
 else if op=10 then(if d=1 then 2 else 3)
 else if op=11 then(if l.all pN then(if l.all pI then 2 else 3) else 0)
 else if op=12 then(if pN (l.getD 0 0) then(if l.getD 0 0=2/\d=1 then 2 else 3) else 0)
 else if op=13\/op=14 then(if l.all pN then 1 else 0)
 else if op=15 then 10+d
 else if op=16\/op=23 then(if aE (l.getD 0 0) then l.getD 0 0 else 0)
 else if op=22 then(if l.getD 0 0=l.getD 1 0/\aE (l.getD 0 0)=true then 1 else 0)
 else if op=24 then(if l= [5,4] then 4 else 0)
 else if op=25 then(if l= [5,4,4] then 5 else 0)
 else(if l.getD 0 0=l.getD 1 0/\aE (l.getD 0 0)=true then l.getD 0 0 else 0)
abbrev SA(op:Int)(ek:Bool)(ks:List (List T))(n d:Int)(nm:ByteArray)(es:Bool)(l:List Int)(dn:ByteArray)(ea:Bool)(da:List Int)(so:Int):List AV:=
 [AV.agg [I op,AV.t (T.ab 1 ek ks),I n,I d,AV.t (T.str nm)],ab es l,AV.agg [AV.t (T.str dn),ab ea da,I so]]
section
variable {ek:Bool} {ks:List (List T)} {n d:Int} {nm:ByteArray} {es:Bool} {dn:ByteArray} {ea:Bool} {da:List Int} {so:Int}
theorem bP:(0:Int)<=0/\(0:Int) < 2:=by decide
theorem bR:(0:Int)<=1/\(1:Int) < 2:=by decide
theorem bO:(0:Int)<=0/\(0:Int) < 1:=by decide
theorem bQ:(0:Int)<=0/\(0:Int) < 3:=by decide
theorem bS:(0:Int)<=1/\(1:Int) < 3:=by decide
theorem bx:(0:Int)<=2/\(2:Int) < 3:=by decide
theorem L0:((([]:List Int).length:Nat):Int)=0:=rfl
theorem L1(a:Int):((([a]:List Int).length:Nat):Int)=1:=rfl
theorem L2(a b:Int):((([a,b]:List Int).length:Nat):Int)=2:=rfl
theorem L3(a b c:Int):((([a,b,c]:List Int).length:Nat):Int)=3:=rfl
theorem E1(a:Int):(enc [a])[0]? =some [ti a]:=rfl
theorem bJ(a b:Int):(enc [a,b])[0]? =some [ti a]:=rfl
theorem bK(a b:Int):(enc [a,b])[1]? =some [ti b]:=rfl
theorem bL(a b c:Int):(enc [a,b,c])[0]? =some [ti a]:=rfl
theorem bM(a b c:Int):(enc [a,b,c])[1]? =some [ti b]:=rfl
theorem bN(a b c:Int):(enc [a,b,c])[2]? =some [ti c]:=rfl
theorem O8:Or (.call 75) (SA 1 ek ks n d nm es [] dn ea da so) []=some [ti (aY 1 d [] da so)]:=by refine ah ?_;rw [JJ];simp only [bq,Int.reduceBEq,aC,L0,bQ,bS];rfl
theorem Pk:Or (.call 75) (SA 2 ek ks n d nm es [] dn ea da so) []=some [ti (aY 2 d [] da so)]:=by refine ah ?_;rw [JR];simp only [bq,Int.reduceBEq,aC,L0,bQ,bS];rfl
theorem Ps{l:List Int}(hl:l.length<=1000):Or (.call 75) (SA 3 ek ks n d nm es l dn ea da so) []=some [ti (aY 3 d l da so)]:=by
 have k:=wm (e:=es) hl;unfold aY;by_cases f:l.length=2
 .obtain⟨a,b,rfl⟩:∃a b,l= [a,b]:=by
   match l,f with
   | [a,b],_=>exact⟨a,b,rfl⟩
  cases c:List.all [a,b] pB <;> rw [c] at k <;>
  .refine ah ?_;rw [CF];simp only [aj,↓reduceIte,Int.reduceEq,aC,L2,bJ,bK,bP,bR,bQ,bS,and_self,k];rfl
 .have g:((l.length:Int)==2)=false:=by simp;omega
  have h:¬(l.length:Int)=2:=by omega
  cases c:l.all pB <;> rw [c] at k <;>
  .refine ah ?_;rw [CF];simp only [bq,aj,↓reduceIte,Int.reduceEq,aC,bQ,bS,g,k];rfl
theorem Pt{l:List Int}(hl:l.length<=1000):Or (.call 75) (SA 4 ek ks n d nm es l dn ea da so) []=some [ti (aY 4 d l da so)]:=by
 have k:=wm (e:=es) hl;unfold aY;by_cases f:l.length=2
 .obtain⟨a,b,rfl⟩:∃a b,l= [a,b]:=by
   match l,f with
   | [a,b],_=>exact⟨a,b,rfl⟩
  cases c:List.all [a,b] pB <;> rw [c] at k <;>
  .refine ah ?_;rw [CG];simp only [aj,↓reduceIte,Int.reduceEq,aC,L2,bJ,bK,bP,bR,bQ,bS,and_self,k];rfl
 .have g:((l.length:Int)==2)=false:=by simp;omega
  have h:¬(l.length:Int)=2:=by omega
  cases c:l.all pB <;> rw [c] at k <;>
  .refine ah ?_;rw [CG];simp only [bq,aj,↓reduceIte,Int.reduceEq,aC,bQ,bS,g,k];rfl
theorem Pu{l:List Int}(hl:l.length<=1000):Or (.call 75) (SA 5 ek ks n d nm es l dn ea da so) []=some [ti (aY 5 d l da so)]:=by
 have k:=wm (e:=es) hl;unfold aY;by_cases f:l.length=2
 .obtain⟨a,b,rfl⟩:∃a b,l= [a,b]:=by
   match l,f with
   | [a,b],_=>exact⟨a,b,rfl⟩
  cases c:List.all [a,b] pB <;> rw [c] at k <;>
  .refine ah ?_;rw [CH];simp only [aj,↓reduceIte,Int.reduceEq,aC,L2,bJ,bK,bP,bR,bQ,bS,and_self,k];rfl
 .have g:((l.length:Int)==2)=false:=by simp;omega
  have h:¬(l.length:Int)=2:=by omega
  cases c:l.all pB <;> rw [c] at k <;>
  .refine ah ?_;rw [CH];simp only [bq,aj,↓reduceIte,Int.reduceEq,aC,bQ,bS,g,k];rfl
theorem Pv{l:List Int}(hl:l.length<=1000):Or (.call 75) (SA 6 ek ks n d nm es l dn ea da so) []=some [ti (aY 6 d l da so)]:=by
 have k:=wm (e:=es) hl;unfold aY;by_cases f:l.length=2
 .obtain⟨a,b,rfl⟩:∃a b,l= [a,b]:=by
   match l,f with
   | [a,b],_=>exact⟨a,b,rfl⟩
  cases c:List.all [a,b] pB <;> rw [c] at k <;>
  .refine ah ?_;rw [CI];simp only [aj,↓reduceIte,Int.reduceEq,aC,L2,bJ,bK,bP,bR,bQ,bS,and_self,k];rfl
 .have g:((l.length:Int)==2)=false:=by simp;omega
  have h:¬(l.length:Int)=2:=by omega
  cases c:l.all pB <;> rw [c] at k <;>
  .refine ah ?_;rw [CI];simp only [bq,aj,↓reduceIte,Int.reduceEq,aC,bQ,bS,g,k];rfl
theorem Pc{l:List Int}(hl:l.length<=1000):Or (.call 75) (SA 13 ek ks n d nm es l dn ea da so) []=some [ti (aY 13 d l da so)]:=by
 have k:=wo (e:=es) hl;unfold aY;by_cases f:l.length=2
 .obtain⟨a,b,rfl⟩:∃a b,l= [a,b]:=by
   match l,f with
   | [a,b],_=>exact⟨a,b,rfl⟩
  cases c:List.all [a,b] pN <;> rw [c] at k <;>
  .refine ah ?_;rw [CB];simp only [aj,↓reduceIte,Int.reduceEq,aC,L2,bJ,bK,bP,bR,bQ,bS,and_self,k];rfl
 .have g:((l.length:Int)==2)=false:=by simp;omega
  have h:¬(l.length:Int)=2:=by omega
  cases c:l.all pN <;> rw [c] at k <;>
  .refine ah ?_;rw [CB];simp only [bq,aj,↓reduceIte,Int.reduceEq,aC,bQ,bS,g,k];rfl
theorem Pd{l:List Int}(hl:l.length<=1000):Or (.call 75) (SA 14 ek ks n d nm es l dn ea da so) []=some [ti (aY 14 d l da so)]:=by
 have k:=wo (e:=es) hl;unfold aY;by_cases f:l.length=2
 .obtain⟨a,b,rfl⟩:∃a b,l= [a,b]:=by
   match l,f with
   | [a,b],_=>exact⟨a,b,rfl⟩
  cases c:List.all [a,b] pN <;> rw [c] at k <;>
  .refine ah ?_;rw [CC];simp only [aj,↓reduceIte,Int.reduceEq,aC,L2,bJ,bK,bP,bR,bQ,bS,and_self,k];rfl
 .have g:((l.length:Int)==2)=false:=by simp;omega
  have h:¬(l.length:Int)=2:=by omega
  cases c:l.all pN <;> rw [c] at k <;>
  .refine ah ?_;rw [CC];simp only [bq,aj,↓reduceIte,Int.reduceEq,aC,bQ,bS,g,k];rfl
theorem Pa{l:List Int}(hl:l.length<=1000):Or (.call 75) (SA 11 ek ks n d nm es l dn ea da so) []=some [ti (aY 11 d l da so)]:=by
 have k:=wo (e:=es) hl;have f:=PC (e:=es) hl;have g:=mG (l.all pI);unfold aY;by_cases h:l.length=2
 .obtain⟨a,b,rfl⟩:∃a b,l= [a,b]:=by
   match l,h with
   | [a,b],_=>exact⟨a,b,rfl⟩
  cases c:List.all [a,b] pN <;> rw [c] at k <;>
  .refine ah ?_;rw [CA];simp only [aj,↓reduceIte,Int.reduceEq,aC,L2,bJ,bK,bP,bR,bQ,bS,and_self,k,f,g];rfl
 .have i:((l.length:Int)==2)=false:=by simp;omega
  have j:¬(l.length:Int)=2:=by omega
  cases c:l.all pN <;> rw [c] at k <;>
  .refine ah ?_;rw [CA];simp only [bq,aj,↓reduceIte,Int.reduceEq,aC,bQ,bS,i,k,f,g];rfl
theorem Pw{a b c:Int}:Or (.call 75) (SA 7 ek ks n d nm es [a,b,c] dn ea da so) []=some [ti (aY 7 d [a,b,c] da so)]:=by
 have e:aY 7 d [a,b,c] da so=if a=1/\b=c/\b≠5 then b else 0:=rfl;rw [e];refine ah ?_;rw [JW];by_cases g:a=1
 .have k:(a==1)=true:=by simpa using g
  by_cases i:b=c
  .have l:(b==c)=true:=by simpa using i
   by_cases j:b=5
   .have f:(b==5)=true:=by simpa using j
    refine Tg (b:=some [ti 0]) ?_ (by rw [if_neg (λh=>h.2.2 j)]);simp only [bq,aK,aP,ba,a8,gK,gJ,↓reduceIte,Int.reduceBEq,aC,L3,bL,bM,bN,bQ,bS,bx,and_self,k,l,f]
   .have f:(b==5)=false:=by simpa using j
    refine Tg (b:=some [ti b]) ?_ (by rw [if_pos ⟨g,i,j⟩]);simp only [bq,aK,aP,ba,a8,bo,gK,gJ,↓reduceIte,Int.reduceBEq,aC,L3,bL,bM,bN,bQ,bS,bx,and_self,k,l,f]
  .have f:(b==c)=false:=by simpa using i
   refine Tg (b:=some [ti 0]) ?_ (by rw [if_neg (λh=>i h.2.1)]);simp only [bq,aK,aP,ba,a8,bo,gJ,↓reduceIte,Int.reduceBEq,aC,L3,bL,bM,bN,bQ,bS,bx,and_self,k,f]
 .have f:(a==1)=false:=by simpa using g
  refine Tg (b:=some [ti 0]) ?_ (by rw [if_neg (λh=>g h.1)]);simp only [bq,aK,aP,ba,a8,bo,gJ,↓reduceIte,Int.reduceBEq,aC,L3,bL,bM,bN,bQ,bS,bx,and_self,f]
theorem Px{a b:Int}:Or (.call 75) (SA 8 ek ks n d nm es [a,b] dn ea da so) []=some [ti (aY 8 d [a,b] da so)]:=by
 have k:=wo (e:=es) (l:= [a,b]) (by simp);have f:=fZ a;have e:aY 8 d [a,b] da so=if List.all [a,b] pN=true\/(a=b/\(a=4\/aE a=true)) then 1 else 0:=rfl;rw [e];refine ah ?_;rw [JX];cases m:List.all [a,b] pN with
 | true=>rw [m] at k;simp only [bq,aj,↓reduceIte,aC,L2,bJ,bK,bP,bR,bQ,bS,and_self,k,true_or]
 | false=>
  rw [m] at k;by_cases c:a=b
  .have g:(a==b)=true:=by simpa using c
   by_cases i:a=4
   .have j:(a==4)=true:=by simpa using i
    refine Tg (b:=some [ti 1]) ?_ (by rw [if_pos (.inr ⟨c, .inl i⟩)]);simp only [bq,aK,aP,bC,ba,a8,bo,gK,gJ,eV,↓reduceIte,Int.reduceBEq,aC,L2,bJ,bK,bP,bR,bQ,bS,and_self,k,g,j]
   .have j:(a==4)=false:=by simpa using i
    cases o:aE a <;> rw [o] at f
    .refine Tg (b:=some [ti 0]) ?_ (by rw [if_neg (by rintro(h | ⟨_,h | h⟩);cases h;exact i h;cases h)]);simp only [aK,aP,bC,ba,a8,bo,gJ,dY,↓reduceIte,Int.reduceBEq,aC,L2,bJ,bK,bP,bR,bQ,bS,and_self,k,g,j,f]
    .refine Tg (b:=some [ti 1]) ?_ (by rw [if_pos (.inr ⟨c, .inr rfl⟩)]);simp only [aK,aP,bC,ba,a8,bo,gK,gJ,dY,↓reduceIte,Int.reduceBEq,aC,L2,bJ,bK,bP,bR,bQ,bS,and_self,k,g,j,f]
  .have g:(a==b)=false:=by simpa using c
   refine Tg (b:=some [ti 0]) ?_ (by rw [if_neg (by rintro(h | ⟨h,_⟩);cases h;exact c h)]);simp only [bq,aK,aP,bC,ba,a8,bo,gJ,eV,↓reduceIte,Int.reduceBEq,aC,L2,bJ,bK,bP,bR,bQ,bS,and_self,k,g]
theorem Py{l:List Int}(hl:l.length<=1000):Or (.call 75) (SA 9 ek ks n d nm es l dn ea da so) []=some [ti (aY 9 d l da so)]:=by
 have k:=zM (e:=ea) (e':=es) (da:=da) hl;have e:aY 9 d l da so=if l=da then so else 0:=rfl;rw [e];by_cases h:l.length=2
 .obtain⟨a,b,rfl⟩:∃a b,l= [a,b]:=by
   match l,h with
   | [a,b],_=>exact⟨a,b,rfl⟩
  by_cases c: [a,b]=da
  .rw [decide_eq_true c] at k;rw [if_pos c];refine ah ?_;rw [uD];simp only [aj,↓reduceIte,aC,L2,bJ,bK,bP,bR,bQ,bS,and_self,k]
  .rw [decide_eq_false c] at k;rw [if_neg c];refine ah ?_;rw [uD];simp only [aj,↓reduceIte,aC,L2,bJ,bK,bP,bR,bQ,bS,and_self,k]
 .have f:((l.length:Int)==2)=false:=by simp;omega
  have g:¬(l.length:Int)=2:=by omega
  by_cases c:l=da
  .rw [decide_eq_true c] at k;rw [if_pos c];refine ah ?_;rw [uD];simp only [bq,aj,aC,bQ,bS,f,k]
  .rw [decide_eq_false c] at k;rw [if_neg c];refine ah ?_;rw [uD];simp only [bq,aj,aC,bQ,bS,f,k]
theorem O9:Or (.call 75) (SA 10 ek ks n d nm es [] dn ea da so) []=some [ti (aY 10 d [] da so)]:=by have e:aY 10 d [] da so=if d=1 then 2 else 3:=rfl;have k:=mG (d==1);rw [e];refine ah ?_;rw [JK];simp only [bq,aj,Int.reduceBEq,aC,L0,bQ,bS,k];by_cases h:d=1 <;> simp [h]
theorem Pb{a:Int}:Or (.call 75) (SA 12 ek ks n d nm es [a] dn ea da so) []=some [ti (aY 12 d [a] da so)]:=by
 have e:aY 12 d [a] da so=if pN a then(if a=2/\d=1 then 2 else 3) else 0:=rfl;have k:=Gd a;have b:=mG (bif a==2 then d==1 else false);rw [e];refine ah ?_;rw [JL];cases j:pN a <;> rw [j] at k
 .cases i:(bif a==2 then d==1 else false) <;> rw [i] at b <;> simp only [bq,aK,aP,bC,ba,a8,gJ,↓reduceIte,Int.reduceBEq,aC,L1,E1,bO,bQ,bS,and_self,k,b,i] <;> rfl
 .by_cases f:a=2
  .have c:(a==2)=true:=by simpa using f
   rw [c] at b;by_cases g:d=1
   .have x2:(d==1)=true:=by simpa using g
    rw [x2] at b;rw [show(if(true:Bool)=true then(if a=2/\d=1 then(2:Int) else 3) else 0)=2 from by rw [if_pos rfl,if_pos ⟨f,g⟩]];simp only [bq,aK,aP,bC,ba,a8,bo,gK,↓reduceIte,Int.reduceBEq,aC,L1,E1,bO,bQ,bS,and_self,k,mG true,c,x2]
    try rfl
   .have x2:(d==1)=false:=by simpa using g
    rw [x2] at b;rw [show(if(true:Bool)=true then(if a=2/\d=1 then(2:Int) else 3) else 0)=3 from by rw [if_pos rfl,if_neg (λh=>g h.2)]];simp only [bq,aK,aP,bC,ba,a8,bo,gK,↓reduceIte,Int.reduceBEq,aC,L1,E1,bO,bQ,bS,and_self,k,mG false,c,x2]
    try rfl
  .have c:(a==2)=false:=by simpa using f
   rw [c] at b;rw [show(if(true:Bool)=true then(if a=2/\d=1 then(2:Int) else 3) else 0)=3 from by rw [if_pos rfl,if_neg (λh=>f h.1)]];simp only [bq,aK,aP,bC,ba,bo,gK,↓reduceIte,Int.reduceBEq,aC,L1,E1,bO,bQ,bS,and_self,k,mG false,c]
   try rfl
theorem Pe(a: 0<=d/\d<=1000):Or (.call 75) (SA 15 ek ks n d nm es [] dn ea da so) []=some [ti (aY 15 d [] da so)]:=by have e:aY 15 d [] da so=10+d:=rfl;have w:i64.wrap (10+d)=10+d:=wr (by omega);rw [e];refine ah ?_;rw [JM];simp only [bq,Int.reduceBEq,aC,L0,bQ,bS,w]
theorem Pf{a:Int}:Or (.call 75) (SA 16 ek ks n d nm es [a] dn ea da so) []=some [ti (aY 16 d [a] da so)]:=by have e:aY 16 d [a] da so=if aE a then a else 0:=rfl;have k:=fZ a;rw [e];refine ah ?_;rw [JN];cases b:aE a <;> rw [b] at k <;> simp only [bq,aj,↓reduceIte,Int.reduceBEq,aC,L1,E1,bO,bQ,bS,and_self,k] <;> rfl
theorem Pp{a:Int}:Or (.call 75) (SA 23 ek ks n d nm es [a] dn ea da so) []=some [ti (aY 23 d [a] da so)]:=by have e:aY 23 d [a] da so=if aE a then a else 0:=rfl;have k:=fZ a;rw [e];refine ah ?_;rw [JV];cases b:aE a <;> rw [b] at k <;> simp only [bq,aj,↓reduceIte,Int.reduceBEq,aC,L1,E1,bO,bQ,bS,and_self,k] <;> rfl
theorem Pg{a b:Int}:Or (.call 75) (SA 17 ek ks n d nm es [a,b] dn ea da so) []=some [ti (aY 17 d [a,b] da so)]:=by
 have e:aY 17 d [a,b] da so=if a=b/\aE a=true then a else 0:=rfl;have k:=fZ a;rw [e];refine ah ?_;rw [JO];by_cases h:a=b
 .have y:(a==b)=true:=by simpa using h
  cases c:aE a <;> rw [c] at k
  .simp only [aj,↓reduceIte,aC,L2,bJ,bK,bP,bR,bQ,bS,and_self,y,k];simp [h]
   try (subst h;simp [c])
  .simp only [aj,↓reduceIte,aC,L2,bJ,bK,bP,bR,bQ,bS,and_self,y,k];simp [h]
   try (subst h;simp [c])
 .have y:(a==b)=false:=by simpa using h
  simp only [bq,aj,↓reduceIte,aC,L2,bJ,bK,bP,bR,bQ,bS,and_self,y];simp [h]
theorem Ph{a b:Int}:Or (.call 75) (SA 18 ek ks n d nm es [a,b] dn ea da so) []=some [ti (aY 18 d [a,b] da so)]:=by
 have e:aY 18 d [a,b] da so=if a=b/\aE a=true then a else 0:=rfl;have k:=fZ a;rw [e];refine ah ?_;rw [JP];by_cases h:a=b
 .have y:(a==b)=true:=by simpa using h
  cases c:aE a <;> rw [c] at k
  .simp only [aj,↓reduceIte,aC,L2,bJ,bK,bP,bR,bQ,bS,and_self,y,k];simp [h]
   try (subst h;simp [c])
  .simp only [aj,↓reduceIte,aC,L2,bJ,bK,bP,bR,bQ,bS,and_self,y,k];simp [h]
   try (subst h;simp [c])
 .have y:(a==b)=false:=by simpa using h
  simp only [bq,aj,↓reduceIte,aC,L2,bJ,bK,bP,bR,bQ,bS,and_self,y];simp [h]
theorem Pj{a b:Int}:Or (.call 75) (SA 19 ek ks n d nm es [a,b] dn ea da so) []=some [ti (aY 19 d [a,b] da so)]:=by
 have e:aY 19 d [a,b] da so=if a=b/\aE a=true then a else 0:=rfl;have k:=fZ a;rw [e];refine ah ?_;rw [JQ];by_cases h:a=b
 .have y:(a==b)=true:=by simpa using h
  cases c:aE a <;> rw [c] at k
  .simp only [aj,↓reduceIte,aC,L2,bJ,bK,bP,bR,bQ,bS,and_self,y,k];simp [h]
   try (subst h;simp [c])
  .simp only [aj,↓reduceIte,aC,L2,bJ,bK,bP,bR,bQ,bS,and_self,y,k];simp [h]
   try (subst h;simp [c])
 .have y:(a==b)=false:=by simpa using h
  simp only [bq,aj,↓reduceIte,aC,L2,bJ,bK,bP,bR,bQ,bS,and_self,y];simp [h]
theorem Pm{a b:Int}:Or (.call 75) (SA 20 ek ks n d nm es [a,b] dn ea da so) []=some [ti (aY 20 d [a,b] da so)]:=by
 have e:aY 20 d [a,b] da so=if a=b/\aE a=true then a else 0:=rfl;have k:=fZ a;rw [e];refine ah ?_;rw [JS];by_cases h:a=b
 .have y:(a==b)=true:=by simpa using h
  cases c:aE a <;> rw [c] at k
  .simp only [aj,↓reduceIte,aC,L2,bJ,bK,bP,bR,bQ,bS,and_self,y,k];simp [h]
   try (subst h;simp [c])
  .simp only [aj,↓reduceIte,aC,L2,bJ,bK,bP,bR,bQ,bS,and_self,y,k];simp [h]
   try (subst h;simp [c])
 .have y:(a==b)=false:=by simpa using h
  simp only [bq,aj,↓reduceIte,aC,L2,bJ,bK,bP,bR,bQ,bS,and_self,y];simp [h]
theorem Pn{a b:Int}:Or (.call 75) (SA 21 ek ks n d nm es [a,b] dn ea da so) []=some [ti (aY 21 d [a,b] da so)]:=by
 have e:aY 21 d [a,b] da so=if a=b/\aE a=true then a else 0:=rfl;have k:=fZ a;rw [e];refine ah ?_;rw [JT];by_cases h:a=b
 .have y:(a==b)=true:=by simpa using h
  cases c:aE a <;> rw [c] at k
  .simp only [aj,↓reduceIte,aC,L2,bJ,bK,bP,bR,bQ,bS,and_self,y,k];simp [h]
   try (subst h;simp [c])
  .simp only [aj,↓reduceIte,aC,L2,bJ,bK,bP,bR,bQ,bS,and_self,y,k];simp [h]
   try (subst h;simp [c])
 .have y:(a==b)=false:=by simpa using h
  simp only [bq,aj,↓reduceIte,aC,L2,bJ,bK,bP,bR,bQ,bS,and_self,y];simp [h]
theorem Po{a b:Int}:Or (.call 75) (SA 22 ek ks n d nm es [a,b] dn ea da so) []=some [ti (aY 22 d [a,b] da so)]:=by
 have e:aY 22 d [a,b] da so=if a=b/\aE a=true then 1 else 0:=rfl;have k:=fZ a;rw [e];refine ah ?_;rw [JU];by_cases h:a=b
 .have y:(a==b)=true:=by simpa using h
  cases c:aE a <;> rw [c] at k
  .simp only [aj,↓reduceIte,aC,L2,bJ,bK,bP,bR,bQ,bS,and_self,y,k];simp [h]
   try (subst h;simp [c])
  .simp only [aj,↓reduceIte,aC,L2,bJ,bK,bP,bR,bQ,bS,and_self,y,k];simp [h]
   try (subst h;simp [c])
 .have y:(a==b)=false:=by simpa using h
  simp only [bq,aj,↓reduceIte,aC,L2,bJ,bK,bP,bR,bQ,bS,and_self,y];simp [h]
theorem Pq{a b:Int}:Or (.call 75) (SA 24 ek ks n d nm es [a,b] dn ea da so) []=some [ti (aY 24 d [a,b] da so)]:=by
 have e:aY 24 d [a,b] da so=if [a,b]= [5,4] then 4 else 0:=rfl;have k:=zM (e:=false) (e':=es) (l:= [a,b]) (da:= [5,4]) (by simp);replace k:Or (.call 85) [AV.t (T.ab 1 false [[ti 5],[ti 4]]),AV.t (T.ptr [T.ab 1 es (enc [a,b])])] []=_:=k;rw [e];by_cases c: [a,b]= [5,4]
 .rw [decide_eq_true c] at k;rw [if_pos c];refine ah ?_;rw [CD];simp only [aj,↓reduceIte,aC,L2,bJ,bK,bP,bR,bQ,bS,and_self,k]
 .rw [decide_eq_false c] at k;rw [if_neg c];refine ah ?_;rw [CD];simp only [aj,↓reduceIte,aC,L2,bJ,bK,bP,bR,bQ,bS,and_self,k]
theorem Pr{a b c:Int}:Or (.call 75) (SA 25 ek ks n d nm es [a,b,c] dn ea da so) []=some [ti (aY 25 d [a,b,c] da so)]:=by
 have e:aY 25 d [a,b,c] da so=if [a,b,c]= [5,4,4] then 5 else 0:=rfl;have k:=zM (e:=false) (e':=es) (l:= [a,b,c]) (da:= [5,4,4]) (by simp);replace k:Or (.call 85) [AV.t (T.ab 1 false [[ti 5],[ti 4],[ti 4]]),AV.t (T.ptr [T.ab 1 es (enc [a,b,c])])] []=_:=k;rw [e];by_cases f: [a,b,c]= [5,4,4]
 .rw [decide_eq_true f] at k;rw [if_pos f];refine ah ?_;rw [CE];simp only [bq,aj,↓reduceIte,Int.reduceBEq,aC,L3,bL,bM,bQ,bS,and_self,k]
 .rw [decide_eq_false f] at k;rw [if_neg f];refine ah ?_;rw [CE];simp only [bq,aj,↓reduceIte,Int.reduceBEq,aC,L3,bL,bM,bQ,bS,and_self,k]
end
open Go Go.Aev Go.IntKind
theorem Ni(i:Nat)(h:i<=9223372036854775806):i64.wrap ((i:Int)+1)= ((i+1:Nat):Int):=by rw [wr (by omega)];omega
def mY(i:Nat)(u:UInt8):Bool:=
 !((!((((u.toNat:Int)==95) || (decide ((u.toNat:Int)>=97) && decide ((u.toNat:Int)<=122))) || (decide ((u.toNat:Int)>=65) && decide ((u.toNat:Int)<=90)))) && ((((i:Int)==0) || decide ((u.toNat:Int) < 48)) || decide ((u.toNat:Int) > 57)))
def kE:Nat->List UInt8->Bool
 | _,[]=>true
 | i,u::r=>mY i u && kE (i+1) r
def jx(s:ByteArray):Bool:=kE 0 s.data.toList && (decide ((s.size:Int)>=1) && decide ((s.size:Int)<=12))
theorem fF(a b:Bool):(bif a then true else b)= (a || b):=by cases a <;> rfl
theorem MJ(s:ByteArray)(hs:s.size<=9223372036854775807):∀(r:List UInt8) (i:Nat),s.data.toList.drop i=r->Or tM [AV.t (T.str s),I (s.size:Int),I (i:Int)] []=some [tb (kE i r && (decide ((s.size:Int)>=1) && decide ((s.size:Int)<=12)))]:=by
 intro r;induction r with
 | nil=>
  intro i g;have b:¬(i:Int) < (s.size:Int):=by have:=bh g;rw [pS] at this;omega
  refine ah ?_;rw [Ct];simp only [bo,b,decide_false,kE,RB,gR]
 | cons u r j=>
  intro i g;obtain⟨c,e,f⟩:=bm g;rw [pS] at e;have b:(i:Int) < (s.size:Int):=by omega
  have h0: 0<=(i:Int):=by omega
  have h:=j (i+1) f;rw [kE];refine ah ?_;rw [Ct];simp only [aK,a8,b,h0,and_self,decide_true,↓reduceIte,Q8,c,gR,fF];cases a:mY i u with
  | true=>unfold mY at a;rw [Rv] at a;simp only [a,cond_false,RB,Ni i (by omega)];exact h
  | false=>unfold mY at a;rw [Sx] at a;simp only [a,cond_true,RP]
theorem O5(s:ByteArray)(hs:s.size<=9223372036854775807):Or (.call 68) [AV.t (T.str s)] []=some [tb (jx s)]:=by have:=MJ s hs s.data.toList 0 rfl;refine ah ?_;rw [JD];exact this
def mn(s:Int):Bool:=(decide (s>=1) && decide (s<=5)) || aE s
theorem O6(s:Int):Or (.call 70) [I s] []=some [tb (mn s)]:=by
 have k:=fZ s;unfold mn;refine ah ?_;rw [JF];simp only [gR];cases h:(decide (s>=1) && decide (s<=5)) with
 | true=>simp only [bq,aj];rfl
 | false=>simp only [aj,k];rfl
theorem M7{e:Bool}{ds:List Dc}{d:Dc}(hl:ds.length<=1000):∀(r:List Dc) (i:Nat),ds.drop i=r->
  ∃z:Int,Or gQ [AV.t (T.ab 3 e (aI ds)),AV.fn 69 [] [AV.t (T.ptr [T.str d.nm,T.ab 1 d.ea (enc d.ar),ti d.so])],I (ds.length:Int),I (i:Int)] []=some [ti z]/\decide (z>=0)=r.any λx=>decide (x.nm=d.nm):=by
 intro r;induction r with
 | nil=>
  intro i g;have a:¬(i:Int) < (ds.length:Int):=by have:=bh g;omega
  refine⟨-1,ah ?_,by simp⟩;rw [x7];simp only [aj,↓reduceIte,a]
 | cons x r h=>
  intro i g;obtain⟨c,m,f⟩:=bm g;have a:(i:Int) < (ds.length:Int):=by omega
  have h0: 0<=(i:Int):=by omega
  have k:Or (.call 69) [AV.agg [AV.t (T.str x.nm),AV.t (T.ab 1 x.ea (enc x.ar)),I x.so],AV.t (T.ptr [T.str d.nm,T.ab 1 d.ea (enc d.ar),ti d.so])] []=some [tb (decide (x.nm=d.nm))]:=by refine ah ?_;rw [JE,ru]
  cases b:decide (x.nm=d.nm) with
  | true=>rw [b] at k;refine⟨(i:Int),ah ?_,by simp [b]⟩;rw [x7];simp only [aj,↓reduceIte,a,h0,and_self,cj,dF c,k]
  | false=>rw [b] at k;obtain⟨z,j,l⟩:=h (i+1) f;refine⟨z,ah ?_,by rw [l];simp [b]⟩;rw [x7];simp only [aj,↓reduceIte,a,h0,and_self,cj,dF c,k,next i (by omega)];exact j
theorem OQ{e:Bool}{ds:List Dc}{d:Dc}(hl:ds.length<=1000):Or (.call 40) [AV.t (T.ab 3 e (aI ds)),AV.fn 69 [] [AV.t (T.ptr [T.str d.nm,T.ab 1 d.ea (enc d.ar),ti d.so])]] []=some [tb (ds.any λx=>decide (x.nm=d.nm))]:=by
 obtain⟨z,b,c⟩:=M7 (e:=e) (d:=d) hl ds 0 rfl;have a:Or (.call 77) [AV.t (T.ab 3 e (aI ds)),AV.fn 69 [] [AV.t (T.ptr [T.str d.nm,T.ab 1 d.ea (enc d.ar),ti d.so])]] []=some [ti z]:=by refine ah ?_;rw [Kd];simp only [cj];exact b
 refine ah ?_;rw [Jc];simp only [aj,a,c]
theorem M3{e:Bool}{l:List Int}(hl:l.length<=1000):∀(r:List Int) (i:Nat),l.drop i=r->
  ∃z:Int,Or eN [ab e l,AV.fn 71 [] [],I (l.length:Int),I (i:Int)] []=some [ti z]/\decide (z>=0)=r.any λs=> !(s==4):=by
 intro r;induction r with
 | nil=>
  intro i g;have a:¬(i:Int) < (l.length:Int):=by have:=bh g;omega
  refine⟨-1,ah ?_,by simp⟩;rw [xV];simp only [aj,↓reduceIte,a]
 | cons d r h=>
  intro i g;obtain⟨c,o,f⟩:=bm g;have a:(i:Int) < (l.length:Int):=by omega
  have h0: 0<=(i:Int):=by omega
  have k:Or (.call 71) [I d] []=some [tb (!(d==4))]:=by refine ah ?_;rw [JH]
  cases b: !(d==4) with
  | true=>rw [b] at k;refine⟨(i:Int),ah ?_,by simp only [RQ,b,R9];simp⟩;rw [xV];simp only [aK,aP,bC,ba,a,h0,and_self,aC,bH c,k,a8,df,↓reduceIte]
  | false=>rw [b] at k;obtain⟨z,j,m⟩:=h (i+1) f;refine⟨z,ah ?_,by rw [m];simp only [RQ,b,Ri]⟩;rw [xV];simp only [aK,aP,bC,ba,a,h0,and_self,aC,bH c,k,bo,df,↓reduceIte,next i (by omega)];exact j
theorem ON{e:Bool}{l:List Int}(hl:l.length<=1000):Or (.call 39) [ab e l,AV.fn 71 [] []] []=some [tb (l.any λs=> !(s==4))]:=by
 obtain⟨z,b,c⟩:=M3 (e:=e) hl l 0 rfl;have a:Or (.call 76) [ab e l,AV.fn 71 [] []] []=some [ti z]:=by refine ah ?_;rw [J4];simp only [aC];exact b
 refine ah ?_;rw [I1];simp only [aj,a,c]
def fx(a:List Dc)(d:Dc):Int:=
 if jx d.nm=false then 12
 else if(a.any λx=>decide (x.nm=d.nm))=true then 7
 else if 8 < d.ar.length then 9
 else if mn d.so=false\/(d.ar.any λs=> !(s==4))=true\/(d.so=5/\0 < d.ar.length) then 4
 else 0
def eG:List Dc->Nat->List Dc->Int×Int
 | _,_,[]=>(0,0)
 | a,i,d::r=>if fx a d=0 then eG (a++ [d]) (i+1) r else(fx a d,(i:Int))
theorem GD{i:Nat}(l:List (List T)):sub 0 (i:Int) l=l.take i:=by simp [sub]
theorem Mp{e:Bool}{ds:List Dc}(hl:ds.length<=100)(K:∀d∈ds,d.nm.size<=9223372036854775807):∀(r:List Dc) (i:Nat) (a:List Dc),ds.drop i=r->a=ds.take i->i<=ds.length->
  Or pH [AV.t (T.ab 3 e (aI ds)),r0,AV.t (T.ab 3 e (aI ds)),I (ds.length:Int),I (i:Int)] [n6]=some [ti (eG a i r).1,ti (eG a i r).2]:=by
 intro r;induction r with
 | nil=>
  intro i a g D J;have u:¬(i:Int) < (ds.length:Int):=by have:=bh g;omega
  refine ah ?_;rw [nb];simp only [aj,↓reduceIte,u,eG]
 | cons d r M=>
  intro i a g D J;obtain⟨q,O,H⟩:=bm g;have hm:=QH q;have u:(i:Int) < (ds.length:Int):=by omega
  have h0: 0<=(i:Int):=by omega
  have b:=O5 d.nm (K d hm);have m:fp 0 (i:Int) (ds.length:Int)=some ():=by unfold fp;rw [if_pos ⟨by omega,by omega,by omega⟩]
  have f:sub 0 (i:Int) (aI ds)=aI a:=by rw [GD,D];simp [aI,List.map_take]
  have j:=OQ (e:=e) (ds:=a) (d:=d) (by rw [D,Rw];omega);have L:=M (i+1) (a++ [d]) H (by rw [D,SG,q];rfl) (by omega);have N:=next i (by omega);rw [eG];cases p:jx d.nm with
  | false=>
   rw [p] at b;have c:fx a d=12:=by simp [fx,p]
   rw [c,if_neg (by decide)];refine ah ?_;rw [nb];simp only [aj,↓reduceIte,u,h0,and_self,cj,dF q,b]
  | true=>
  rw [p] at b;cases v:a.any λx=>decide (x.nm=d.nm) with
  | true=>
   rw [v] at j;have c:fx a d=7:=by unfold fx;rw [p,v];rfl
   rw [c,if_neg (by decide)];refine ah ?_;rw [nb];simp only [aj,↓reduceIte,u,h0,and_self,cj,dF q,b,m,f,j]
  | false=>
  rw [v] at j;by_cases z: 8 < d.ar.length
  .have k:(d.ar.length:Int) > 8:=by omega
   have c:fx a d=9:=by unfold fx;rw [p,v,if_neg (by decide),if_neg (by decide),if_pos z]
   rw [c,if_neg (by decide)];refine ah ?_;rw [nb];simp only [aj,↓reduceIte,u,h0,and_self,cj,dF q,b,m,f,j,aC,k]
  have k:¬(d.ar.length:Int) > 8:=by omega
  have o:=O6 d.so;have w:=ON (e:=d.ea) (l:=d.ar) (by omega);cases A:mn d.so with
  | false=>
   rw [A] at o;have c:fx a d=4:=by unfold fx;rw [p,v,if_neg (by decide),if_neg (by decide),if_neg z,if_pos (.inl A)]
   rw [c,if_neg (by decide)];refine ah ?_;rw [nb];simp only [aj,↓reduceIte,u,h0,and_self,cj,dF q,b,m,f,j,aC,k,o]
  | true=>
  rw [A] at o;cases B:d.ar.any λs=> !(s==4) with
  | true=>
   rw [B] at w;have c:fx a d=4:=by unfold fx;rw [p,v,if_neg (by decide),if_neg (by decide),if_neg z,if_pos (.inr (.inl B))]
   rw [c,if_neg (by decide)];refine ah ?_;rw [nb];simp only [aj,↓reduceIte,u,h0,and_self,cj,dF q,b,m,f,j,aC,k,o,w]
  | false=>
  rw [B] at w;by_cases C:d.so=5/\0 < d.ar.length
  .have F:(d.ar.length:Int) > 0:=by omega
   have G:(d.so==5)=true:=by simpa using C.1
   have E:(bif d.so==5 then decide ((d.ar.length:Int) > 0) else false)=true:=by rw [G,decide_eq_true F];rfl
   have c:fx a d=4:=by unfold fx;rw [p,v,if_neg (by decide),if_neg (by decide),if_neg z,if_pos (.inr (.inr C))]
   rw [c,if_neg (by decide)];refine ah ?_;rw [nb];simp only [aK,aP,bA,bC,ba,fc,bU,a8,bo,df,↓reduceIte,u,h0,and_self,cj,dF q,b,QE,m,f,j,aC,k,o,w,E]
  .have c:fx a d=0:=by unfold fx;rw [p,v,if_neg (by decide),if_neg (by decide),if_neg z,A,B,if_neg (by rintro(h | h | h);cases h;cases h;exact C h)]
   rw [if_pos c];have E:(bif d.so==5 then decide ((d.ar.length:Int) > 0) else false)=false:=by
    by_cases x:d.so=5
    .have:¬(d.ar.length:Int) > 0:=λy=>C ⟨x,by omega⟩;rw [decide_eq_false this];cases d.so==5 <;> rfl
    .have:(d.so==5)=false:=by simpa using x
     rw [this];rfl
   refine ah ?_;rw [nb];simp only [aK,aP,bA,bC,ba,fc,bU,bo,df,↓reduceIte,u,h0,and_self,cj,dF q,b,QE,m,f,j,aC,k,o,w,E,N];exact L
theorem OF{e:Bool}{ds:List Dc}(b:∀d∈ds,d.nm.size<=9223372036854775807):Or (.call 37) [AV.t (T.ab 3 e (aI ds))] []=some (if 30 < ds.length then [ti 2,ti 0] else [ti (eG [] 0 ds).1,ti (eG [] 0 ds).2]):=by
 by_cases h: 30 < ds.length
 .have a:(ds.length:Int) > 30:=by omega
  rw [if_pos h];refine ah ?_;rw [Cb];simp only [aj,↓reduceIte,cj,a]
 .have a:¬(ds.length:Int) > 30:=by omega
  have c:=Mp (e:=e) (show ds.length<=100 by omega) b ds 0 [] rfl rfl (RL _);rw [if_neg h];refine ah ?_;rw [Cb];simp only [aj,↓reduceIte,cj,a];exact c
open Go Go.Aev Go.IntKind
def dM(op:Int):Int:=
 if op=1\/op=2\/op=10\/op=15 then 0 else if op=3\/op=12\/op=16\/op=23 then 1 else if op=7\/op=25 then 3 else if op=4\/op=5\/op=11 then -1 else 2
theorem zg{op:Int}(h: 1<=op/\op<=25):op=1\/op=2\/op=3\/op=4\/op=5\/op=6\/op=7\/op=8\/op=9\/op=10\/op=11\/op=12\/op=13\/op=14\/op=15\/op=16\/op=17\/op=18\/op=19\/op=20\/op=21\/op=22\/op=23\/op=24\/op=25:=by omega
theorem O7{op:Int}(h: 1<=op/\op<=25):Or (.call 72) [I op] []=some [ti (dM op)]:=by rcases zg h with rfl | rfl | rfl | rfl | rfl | rfl | rfl | rfl | rfl | rfl | rfl | rfl | rfl | rfl | rfl | rfl | rfl | rfl | rfl | rfl | rfl | rfl | rfl | rfl | rfl <;> exact zi (n:=5) (by kernel_rfl)
theorem wk{op:Int}{ek:Bool}{ks:List (List T)}{n d:Int}{nm:ByteArray}{es:Bool}{l:List Int}{dn:ByteArray}{ea:Bool}{da:List Int}{so:Int}(h: 1<=op/\op<=25)(hl:l.length<=1000)(e:op≠9->0<=dM op->(l.length:Int)=dM op)(m:op=15->0<=d/\d<=1000):
  Or (.call 75) (SA op ek ks n d nm es l dn ea da so) []=some [ti (aY op d l da so)]:=by
 have g:(l.length:Int)=0->l= []:=λh=>Q7.1 (by omega);have i:(l.length:Int)=1->∃a,l= [a]:=λh=>by
  have j:l.length=1:=by omega
  exact Sw.1 j
 have f:(l.length:Int)=2->∃a b,l= [a,b]:=λh=>by
  have j:l.length=2:=by omega
  match l,j with
  | [a,b],_=>exact⟨a,b,rfl⟩
 have k:(l.length:Int)=3->∃a b c,l= [a,b,c]:=λh=>by
  have j:l.length=3:=by omega
  match l,j with
  | [a,b,c],_=>exact⟨a,b,c,rfl⟩
 rcases zg h with rfl | rfl | rfl | rfl | rfl | rfl | rfl | rfl | rfl | rfl | rfl | rfl | rfl | rfl | rfl | rfl | rfl | rfl | rfl | rfl | rfl | rfl | rfl | rfl | rfl
 .rw [g (e (by decide) (by decide))];exact O8
 .rw [g (e (by decide) (by decide))];exact Pk
 .exact Ps hl
 .exact Pt hl
 .exact Pu hl
 .exact Pv hl
 .obtain⟨a,b,c,rfl⟩:=k (e (by decide) (by decide));exact Pw
 .obtain⟨a,b,rfl⟩:=f (e (by decide) (by decide));exact Px
 .exact Py hl
 .rw [g (e (by decide) (by decide))];exact O9
 .exact Pa hl
 .obtain⟨a,rfl⟩:=i (e (by decide) (by decide));exact Pb
 .exact Pc hl
 .exact Pd hl
 .rw [g (e (by decide) (by decide))];exact Pe (m rfl)
 .obtain⟨a,rfl⟩:=i (e (by decide) (by decide));exact Pf
 .obtain⟨a,b,rfl⟩:=f (e (by decide) (by decide));exact Pg
 .obtain⟨a,b,rfl⟩:=f (e (by decide) (by decide));exact Ph
 .obtain⟨a,b,rfl⟩:=f (e (by decide) (by decide));exact Pj
 .obtain⟨a,b,rfl⟩:=f (e (by decide) (by decide));exact Pm
 .obtain⟨a,b,rfl⟩:=f (e (by decide) (by decide));exact Pn
 .obtain⟨a,b,rfl⟩:=f (e (by decide) (by decide));exact Po
 .obtain⟨a,rfl⟩:=i (e (by decide) (by decide));exact Pp
 .obtain⟨a,b,rfl⟩:=f (e (by decide) (by decide));exact Pq
 .obtain⟨a,b,c,rfl⟩:=k (e (by decide) (by decide));exact Pr
def fy(x:Nd):Bool:=
 ((decide (x.nm=s0) || (x.op==9)) && (((x.n==0) || (((x.op==10) || (x.op==12)) || (x.op==15))) || (x.op==23))) && ((x.d==0) || (((x.op==10) || (x.op==12)) || (x.op==15)))
theorem wg(x:Nd):Or (.call 73) [AV.agg [I x.op,ab x.ek x.ks,I x.n,I x.d,AV.t (T.str x.nm)]] []=some [tb (fy x)]:=by refine ah ?_;rw [JI];simp only [gR,fF,ru];rfl
def oU(a b:Int):Int:=if h:b=0 then mm true a (i64.wrap (0 - a)) else oU b (a.tmod b)
termination_by b.natAbs
decreasing_by
 rw [Int.natAbs_tmod];exact TM _ (Int.natAbs_pos.2 h)
theorem Na:∀(n:Nat) (a b:Int),b.natAbs<=n->Or tP [I a,I b] []=some [ti (oU a b)]:=by
 intro n;induction n with
 | zero=>
  intro a b e;have h0:b=0:=by omega
  subst h0;rw [oU,dif_pos rfl];refine ah ?_;rw [x8];simp only [aj,↓reduceIte]
 | succ n g=>
  intro a b e;by_cases h:b=0
  .subst h;rw [oU,dif_pos rfl];refine ah ?_;rw [x8];simp only [aj,↓reduceIte]
  .have c:(b==0)=false:=by simpa using h
   have f:=g b (a.tmod b) (by
    have i:=Int.natAbs_tmod a b;have j:=TM a.natAbs (Int.natAbs_pos.2 h);omega)
   rw [oU,dif_neg h];refine ah ?_;rw [x8];simp only [aj,↓reduceIte,c,h];exact f
theorem PB(a b:Int):Or (.call 84) [I a,I b] []=some [ti (oU a b)]:=by have:=Na b.natAbs a b (QV _);refine ah ?_;rw [Kh];exact this
def s4(n d:Int):Bool:=((decide (n>= -1000000) && decide (n<=1000000)) && decide (d>=1)) && decide (d<=1000000)
def eL(x:Nd):Bool:=
 if x.op=10\/x.op=12 then s4 x.n x.d && (oU x.n x.d==1)
 else if x.op=15 then((decide (x.d>=1) && decide (x.d<=8)) && decide (x.n>=0)) && decide (x.n < i64.wrap (1 * 2 ^ min x.d.toNat 64))
 else if x.op=23 then decide (x.n>=0) && decide (x.n<=8)
 else true
theorem wh(x:Nd):Or (.call 74) [AV.agg [I x.op,ab x.ek x.ks,I x.n,I x.d,AV.t (T.str x.nm)]] []=some [tb (eL x)]:=by
 have k:=PB x.n x.d;have g:(((decide (x.n>= -1000000) && decide (x.n<=1000000)) && decide (x.d>=1)) && decide (x.d<=1000000))=s4 x.n x.d:=rfl;unfold eL;by_cases a:x.op=10\/x.op=12
 .rw [if_pos a];rcases a with a | a
  .have y:(x.op==10)=true:=by simpa using a
   cases b:s4 x.n x.d with
   | true=>refine ah ?_;rw [nc];simp only [gR,g,b,aK,aP,ba,a8,dY,y,k,RB]
   | false=>refine ah ?_;rw [nc];simp only [gR,g,b,bq,a8,eV,y,aK,RP]
  .have y:(x.op==10)=false:=by simp [a]
   have c:(x.op==12)=true:=by simpa using a
   cases b:s4 x.n x.d with
   | true=>refine ah ?_;rw [nc];simp only [gR,g,b,aK,aP,ba,a8,bo,dY,y,c,k,RB]
   | false=>refine ah ?_;rw [nc];simp only [gR,g,b,bq,a8,bo,eV,y,c,aK,RP]
 .have y:(x.op==10)=false:=by simp;exact λh=>a (.inl h)
  have c:(x.op==12)=false:=by simp;exact λh=>a (.inr h)
  rw [if_neg a];by_cases f:x.op=15
  .have e:(x.op==15)=true:=by simpa using f
   rw [if_pos f];cases b:((decide (x.d>=1) && decide (x.d<=8)) && decide (x.n>=0)) with
   | true=>
    have j:¬x.d < 0:=by simp only [QF,decide_eq_true_eq] at b;omega
    refine ah ?_;rw [nc];simp only [gR,b,aK,a8,bo,y,c,e,j,↓reduceIte,RB]
   | false=>refine ah ?_;rw [nc];simp only [gR,b,bq,a8,bo,y,c,e,RP]
  .have e:(x.op==15)=false:=by simpa using f
   rw [if_neg f];by_cases c3:x.op=23
   .have i:(x.op==23)=true:=by simpa using c3
    rw [if_pos c3];refine ah ?_;rw [nc];simp only [gR,a8,bo,y,c,e,i]
   .have i:(x.op==23)=false:=by simpa using c3
    rw [if_neg c3];refine ah ?_;rw [nc];simp only [bo,y,c,e,i]
def cR(x:Nd)(i:Int)(ss:List Int)(da:List Int)(so:Int):Int×Int:=
 if(x.ks.any λk=>decide (k < 0) || decide (k>=i))=true then(0,3)
 else if fy x=false then(0,5)
 else if eL x=false then(0,3)
 else if aY x.op x.d (x.ks.map λk=>ss.getD k.toNat 0) da so=0 then(0,8)
 else(aY x.op x.d (x.ks.map λk=>ss.getD k.toNat 0) da so,0)
def bW(ds:List Dc)(x:Nd)(i:Int)(ss:List Int):Int×Int:=
 if x.op < 1\/25 < x.op then(0,4)
 else if x.op=9 then
  (if bf ds x.nm < 0 then(0,6)
  else if(x.ks.length≠((ds.getD (bf ds x.nm).toNat ⟨s0,true,[],0⟩).ar).length)\/8 < x.ks.length then(0,9)
  else cR x i ss (ds.getD (bf ds x.nm).toNat ⟨s0,true,[],0⟩).ar (ds.getD (bf ds x.nm).toNat ⟨s0,true,[],0⟩).so)
 else if(0<=dM x.op/\(x.ks.length:Int)≠dM x.op)\/8 < x.ks.length then(0,9)
 else cR x i ss [] 0
theorem sN{x:Nd}(h:eL x=true)(a:x.op=15): 1<=x.d/\x.d<=8/\0<=x.n/\x.n < i64.wrap (1 * 2 ^ min x.d.toNat 64):=by unfold eL at h;rw [if_neg (by omega),if_pos a] at h;simp only [QF,decide_eq_true_eq] at h;omega
theorem Mq{x:Nd}{i:Nat}{ss:List Int}{es:Bool}{dn:ByteArray}{ea:Bool}{da:List Int}{so:Int}(K:x.op=9)(D: 1<=x.op/\x.op<=25)(O:x.ks.length<=8)(P:ss.length=i):∀(r:List Int) (j:Nat) (a:List Int),x.ks.drop j=r->j<=x.ks.length->a.length=j->a≠[]->(∀k∈x.ks.take j,0<=k/\k < (i:Int))->a= (x.ks.take j).map (λk=>ss.getD k.toNat 0)->
  Or iN [I (i:Int),ab es ss,r0,r1,o2,ab x.ek x.ks,I (x.ks.length:Int),I (j:Int)] [ad.box [I x.op,ab x.ek x.ks,I x.n,I x.d,AV.t (T.str x.nm)],ad.box [AV.t (T.str dn),ab ea da,I so],ad.sl false 1 false (enc a)]=some [ti (cR x (i:Int) ss da so).1,ti (cR x (i:Int) ss da so).2]:=by
 intro r;induction r with
 | nil=>
  intro j a g L p C s o;have e:¬(j:Int) < (x.ks.length:Int):=by have:=bh g;omega
  have B:x.ks.take j=x.ks:=Td (by have:=bh g;omega);rw [B] at s o;have b:=wg x;have c:=wh x;have w:(x.ks.any λk=>decide (k < 0) || decide (k>=(i:Int)))=false:=by rw [Rm];intro k hm;have:=s k hm;simp;omega
  unfold cR;rw [w,if_neg (by decide),<-o];cases A:fy x with
  | false=>rw [A] at b;rw [if_pos rfl];refine ah ?_;rw [qg];simp only [aj,↓reduceIte,e,b]
  | true=>
  rw [A] at b;rw [if_neg (by decide)];cases v:eL x with
  | false=>rw [v] at c;rw [if_pos rfl];refine ah ?_;rw [qg];simp only [aj,↓reduceIte,e,b,c]
  | true=>
  rw [v] at c;rw [if_neg (by decide)];have q:=wk (op:=x.op) (ek:=x.ek) (ks:=enc x.ks) (n:=x.n) (d:=x.d) (nm:=x.nm) (es:=false) (l:=a) (dn:=dn) (ea:=ea) (da:=da) (so:=so) D (by omega) (by rw [o];exact(λh=>absurd K h)) (λh=>by have:=sN v h;omega);by_cases f:aY x.op x.d a da so=0
  .rw [f] at q;rw [if_pos f];refine ah ?_;rw [qg];simp only [aj,↓reduceIte,e,b,c,q]
  .have F:(aY x.op x.d a da so==0)=false:=by simpa using f
   rw [if_neg f];refine ah ?_;rw [qg];simp only [aj,↓reduceIte,e,b,c,q,f]
 | cons k r N=>
  intro j a g L p C s o;obtain⟨m,Q,G⟩:=bm g;have e:(j:Int) < (x.ks.length:Int):=by omega
  have h0: 0<=(j:Int):=by omega
  by_cases u:k < 0\/k>=(i:Int)
  .have w:(x.ks.any λk=>decide (k < 0) || decide (k>=(i:Int)))=true:=Sl.2 ⟨k,QH m,by simpa using u⟩;have z:(decide (k < 0) || decide (k>=(i:Int)))=true:=by simpa using u
   unfold cR;rw [w,if_pos rfl];refine ah ?_;rw [qg];simp only [aK,aP,ba,a8,↓reduceIte,e,h0,and_self,decide_true,aC,bH m,fF,z]
  .have z:(decide (k < 0) || decide (k>=(i:Int)))=false:=by simp;omega
   have H: 0<=k/\k < (ss.length:Int):=by omega
   have J:(enc ss)[k.toNat]? =some [ti (ss.getD k.toNat 0)]:=fj (by rw [QI,QK (by omega)];rfl);have M:=N (j+1) (a++ [ss.getD k.toNat 0]) G (by omega) (by simp [p]) (by simp) (λy E=>by
    rw [SG,m] at E;rcases QR.1 E with h | h
    .exact s y h
    .simp at h;subst h;omega) (by rw [SG,m,SD,<-o];rfl)
   refine ah ?_;rw [qg];simp only [aK,aP,ba,a8,bo,↓reduceIte,e,h0,and_self,decide_true,aC,bH m,fF,z,H,J,QM,cC (show a.length+1<=1000000 by omega),R4,eK,next j (by omega)];exact M
theorem Mr{x:Nd}{i:Nat}{ss:List Int}{es:Bool}{dn:ByteArray}{ea:Bool}{da:List Int}{so:Int}(v:x.op=9)(j: 1<=x.op/\x.op<=25)(w:x.ks.length<=8)(z:ss.length=i):
  Or iN [I (i:Int),ab es ss,r0,r1,AV.t (T.ae true),ab x.ek x.ks,I (x.ks.length:Int),I 0] [ad.box [I x.op,ab x.ek x.ks,I x.n,I x.d,AV.t (T.str x.nm)],ad.box [AV.t (T.str dn),ab ea da,I so]]=some [ti (cR x (i:Int) ss da so).1,ti (cR x (i:Int) ss da so).2]:=by
 cases a:x.ks with
 | nil=>
  have b:=wg x;have c:=wh x;rw [a] at b c;unfold cR;rw [a,List.any_nil,if_neg (by decide),Rz];cases q:fy x with
  | false=>rw [q] at b;rw [if_pos rfl];refine ah ?_;rw [qe];simp only [aj,QW,Re,Rl,decide_false,b]
  | true=>
  rw [q] at b;rw [if_neg (by decide)];cases m:eL x with
  | false=>rw [m] at c;rw [if_pos rfl];refine ah ?_;rw [qe];simp only [aj,QW,Re,Rl,decide_false,b,c]
  | true=>
  rw [m] at c;rw [if_neg (by decide)];have e:=wk (op:=x.op) (ek:=x.ek) (ks:=enc []) (n:=x.n) (d:=x.d) (nm:=x.nm) (es:=true) (l:= []) (dn:=dn) (ea:=ea) (da:=da) (so:=so) j (by simp) (λh=>absurd v h) (λh=>by have:=sN m h;omega);replace e:Or (.call 75) [AV.agg [I x.op,AV.t (T.ab 1 x.ek (enc [])),I x.n,I x.d,AV.t (T.str x.nm)],AV.t (T.ab 1 true []),AV.agg [AV.t (T.str dn),ab ea da,I so]] []=_:=e;by_cases f:aY x.op x.d [] da so=0
  .rw [f] at e;rw [if_pos f];refine ah ?_;rw [qe];simp only [aj,↓reduceIte,QW,Re,Rl,decide_false,b,c,e]
  .have B:(aY x.op x.d [] da so==0)=false:=by simpa using f
   rw [if_neg f];refine ah ?_;rw [qe];simp only [aj,↓reduceIte,QW,Re,Rl,decide_false,b,c,e,f]
 | cons k r=>
  have u:(0:Int) < (((k::r).length:Nat):Int):=by simp
  have h0:(0:Int)<=0:=by omega
  have s:(enc (k::r))[(0:Int).toNat]? =some [ti k]:=rfl;have F:i64.wrap (0+1)= ((1:Nat):Int):=by decide
  by_cases g:k < 0\/k>=(i:Int)
  .have C:(x.ks.any λk=>decide (k < 0) || decide (k>=(i:Int)))=true:=Sl.2 ⟨k,by rw [a];exact QA,by simpa using g⟩;have o:(decide (k < 0) || decide (k>=(i:Int)))=true:=by simpa using g
   unfold cR;rw [C,if_pos rfl];refine ah ?_;rw [qe];simp only [aK,aP,ba,a8,↓reduceIte,u,h0,and_self,decide_true,aC,s,fF,o]
  .have o:(decide (k < 0) || decide (k>=(i:Int)))=false:=by simp;omega
   have D: 0<=k/\k < (ss.length:Int):=by omega
   have E:(enc ss)[k.toNat]? =some [ti (ss.getD k.toNat 0)]:=fj (by rw [QI,QK (by omega)];rfl);have A:=Mq (x:=x) (i:=i) (ss:=ss) (es:=es) (dn:=dn) (ea:=ea) (da:=da) (so:=so) v j w z r 1 [ss.getD k.toNat 0] (by rw [a];rfl) (by rw [a];simp) rfl (by simp) (λy p=>by rw [a] at p;simp at p;subst p;omega) (by rw [a];rfl);rw [a] at A;refine ah ?_;rw [qe];simp only [aK,aP,ba,a8,bo,↓reduceIte,u,h0,and_self,decide_true,aC,s,fF,o,D,E,R4,F];exact A
theorem Ms{x:Nd}{i:Nat}{ss:List Int}{es:Bool}(R:x.op≠9)(L: 0<=dM x.op->(x.ks.length:Int)=dM x.op)(D: 1<=x.op/\x.op<=25)(O:x.ks.length<=8)(P:ss.length=i):∀(r:List Int) (j:Nat) (a:List Int),x.ks.drop j=r->j<=x.ks.length->a.length=j->a≠[]->(∀k∈x.ks.take j,0<=k/\k < (i:Int))->a= (x.ks.take j).map (λk=>ss.getD k.toNat 0)->
  Or iN [I (i:Int),ab es ss,r0,r1,o2,ab x.ek x.ks,I (x.ks.length:Int),I (j:Int)] [ad.box [I x.op,ab x.ek x.ks,I x.n,I x.d,AV.t (T.str x.nm)],ad.box [AV.t (T.str s0),AV.t (T.ae true),I 0],ad.sl false 1 false (enc a)]=some [ti (cR x (i:Int) ss [] 0).1,ti (cR x (i:Int) ss [] 0).2]:=by
 intro r;induction r with
 | nil=>
  intro j a g K q C s p;have f:¬(j:Int) < (x.ks.length:Int):=by have:=bh g;omega
  have B:x.ks.take j=x.ks:=Td (by have:=bh g;omega);rw [B] at s p;have b:=wg x;have c:=wh x;have w:(x.ks.any λk=>decide (k < 0) || decide (k>=(i:Int)))=false:=by rw [Rm];intro k hm;have:=s k hm;simp;omega
  unfold cR;rw [w,if_neg (by decide),<-p];cases A:fy x with
  | false=>rw [A] at b;rw [if_pos rfl];refine ah ?_;rw [qh];simp only [aj,↓reduceIte,f,b]
  | true=>
  rw [A] at b;rw [if_neg (by decide)];cases v:eL x with
  | false=>rw [v] at c;rw [if_pos rfl];refine ah ?_;rw [qh];simp only [aj,↓reduceIte,f,b,c]
  | true=>
  rw [v] at c;rw [if_neg (by decide)];have e:=wk (op:=x.op) (ek:=x.ek) (ks:=enc x.ks) (n:=x.n) (d:=x.d) (nm:=x.nm) (es:=false) (l:=a) (dn:=s0) (ea:=true) (da:= []) (so:=0) D (by omega) (by rw [p];exact(λ_ h=>by rw [Rr];exact L h)) (λh=>by have:=sN v h;omega);replace e:Or (.call 75) [AV.agg [I x.op,AV.t (T.ab 1 x.ek (enc x.ks)),I x.n,I x.d,AV.t (T.str x.nm)],ab false a,AV.agg [AV.t (T.str s0),AV.t (T.ab 1 true []),I 0]] []=_:=e;by_cases m:aY x.op x.d a [] 0=0
  .rw [m] at e;rw [if_pos m];refine ah ?_;rw [qh];simp only [aj,↓reduceIte,f,b,c,e]
  .have F:(aY x.op x.d a [] 0==0)=false:=by simpa using m
   rw [if_neg m];refine ah ?_;rw [qh];simp only [aj,↓reduceIte,f,b,c,e,m]
 | cons k r N=>
  intro j a g K q C s p;obtain⟨o,Q,G⟩:=bm g;have f:(j:Int) < (x.ks.length:Int):=by omega
  have h0: 0<=(j:Int):=by omega
  by_cases u:k < 0\/k>=(i:Int)
  .have w:(x.ks.any λk=>decide (k < 0) || decide (k>=(i:Int)))=true:=Sl.2 ⟨k,QH o,by simpa using u⟩;have z:(decide (k < 0) || decide (k>=(i:Int)))=true:=by simpa using u
   unfold cR;rw [w,if_pos rfl];refine ah ?_;rw [qh];simp only [aK,aP,ba,a8,↓reduceIte,f,h0,and_self,decide_true,aC,bH o,fF,z]
  .have z:(decide (k < 0) || decide (k>=(i:Int)))=false:=by simp;omega
   have H: 0<=k/\k < (ss.length:Int):=by omega
   have J:(enc ss)[k.toNat]? =some [ti (ss.getD k.toNat 0)]:=fj (by rw [QI,QK (by omega)];rfl);have M:=N (j+1) (a++ [ss.getD k.toNat 0]) G (by omega) (by simp [q]) (by simp) (λy E=>by
    rw [SG,o] at E;rcases QR.1 E with h | h
    .exact s y h
    .simp at h;subst h;omega) (by rw [SG,o,SD,<-p];rfl)
   refine ah ?_;rw [qh];simp only [aK,aP,ba,a8,bo,↓reduceIte,f,h0,and_self,decide_true,aC,bH o,fF,z,H,J,QM,cC (show a.length+1<=1000000 by omega),R4,eK,next j (by omega)];exact M
theorem Mt{x:Nd}{i:Nat}{ss:List Int}{es:Bool}(F:x.op≠9)(v: 0<=dM x.op->(x.ks.length:Int)=dM x.op)(j: 1<=x.op/\x.op<=25)(w:x.ks.length<=8)(z:ss.length=i):
  Or iN [I (i:Int),ab es ss,r0,r1,AV.t (T.ae true),ab x.ek x.ks,I (x.ks.length:Int),I 0] [ad.box [I x.op,ab x.ek x.ks,I x.n,I x.d,AV.t (T.str x.nm)],ad.box [AV.t (T.str s0),AV.t (T.ae true),I 0]]=some [ti (cR x (i:Int) ss [] 0).1,ti (cR x (i:Int) ss [] 0).2]:=by
 cases a:x.ks with
 | nil=>
  have b:=wg x;have c:=wh x;rw [a] at b c;unfold cR;rw [a,List.any_nil,if_neg (by decide),Rz];cases q:fy x with
  | false=>rw [q] at b;rw [if_pos rfl];refine ah ?_;rw [qf];simp only [aj,QW,Re,Rl,decide_false,b]
  | true=>
  rw [q] at b;rw [if_neg (by decide)];cases m:eL x with
  | false=>rw [m] at c;rw [if_pos rfl];refine ah ?_;rw [qf];simp only [aj,QW,Re,Rl,decide_false,b,c]
  | true=>
  rw [m] at c;rw [if_neg (by decide)];have e:=wk (op:=x.op) (ek:=x.ek) (ks:=enc []) (n:=x.n) (d:=x.d) (nm:=x.nm) (es:=true) (l:= []) (dn:=s0) (ea:=true) (da:= []) (so:=0) j (by simp) (λ_ h=>by have:=v h;rw [a] at this;exact this) (λh=>by have:=sN m h;omega);replace e:Or (.call 75) [AV.agg [I x.op,AV.t (T.ab 1 x.ek (enc [])),I x.n,I x.d,AV.t (T.str x.nm)],AV.t (T.ab 1 true []),AV.agg [AV.t (T.str s0),AV.t (T.ab 1 true []),I 0]] []=_:=e;by_cases f:aY x.op x.d [] [] 0=0
  .rw [f] at e;rw [if_pos f];refine ah ?_;rw [qf];simp only [aj,↓reduceIte,QW,Re,Rl,decide_false,b,c,e]
  .have B:(aY x.op x.d [] [] 0==0)=false:=by simpa using f
   rw [if_neg f];refine ah ?_;rw [qf];simp only [aj,↓reduceIte,QW,Re,Rl,decide_false,b,c,e,f]
 | cons k r=>
  have u:(0:Int) < (((k::r).length:Nat):Int):=by simp
  have h0:(0:Int)<=0:=by omega
  have s:(enc (k::r))[(0:Int).toNat]? =some [ti k]:=rfl;have G:i64.wrap (0+1)= ((1:Nat):Int):=by decide
  by_cases g:k < 0\/k>=(i:Int)
  .have C:(x.ks.any λk=>decide (k < 0) || decide (k>=(i:Int)))=true:=Sl.2 ⟨k,by rw [a];exact QA,by simpa using g⟩;have o:(decide (k < 0) || decide (k>=(i:Int)))=true:=by simpa using g
   unfold cR;rw [C,if_pos rfl];refine ah ?_;rw [qf];simp only [aK,aP,ba,a8,↓reduceIte,u,h0,and_self,decide_true,aC,s,fF,o]
  .have o:(decide (k < 0) || decide (k>=(i:Int)))=false:=by simp;omega
   have D: 0<=k/\k < (ss.length:Int):=by omega
   have E:(enc ss)[k.toNat]? =some [ti (ss.getD k.toNat 0)]:=fj (by rw [QI,QK (by omega)];rfl);have A:=Ms (x:=x) (i:=i) (ss:=ss) (es:=es) F v j w z r 1 [ss.getD k.toNat 0] (by rw [a];rfl) (by rw [a];simp) rfl (by simp) (λy p=>by rw [a] at p;simp at p;subst p;omega) (by rw [a];rfl);rw [a] at A;refine ah ?_;rw [qf];simp only [aK,aP,ba,a8,bo,↓reduceIte,u,h0,and_self,decide_true,aC,s,fF,o,D,E,R4,G];exact A
theorem uQ{nm:ByteArray}:∀{i:Nat} {ds:List Dc},0<=iv nm i ds->∃j d,iv nm i ds= ((i+j:Nat):Int)/\ds[j]? =some d/\d.nm=nm
 | i,[],h=>by simp [iv] at h
 | i,d::r,h=>by
  rw [iv] at h⊢;split
  .rename_i e;exact⟨0,d,rfl,rfl,e⟩
  .rename_i e;rw [if_neg e] at h;obtain⟨j,a,b,c,f⟩:=uQ h;exact⟨j+1,a,by rw [b];congr 1;omega,c,f⟩
theorem F7{a:As}{x:Nd}{i:Nat}{ss:List Int}{es:Bool}(f:a.ns[i]? =some x)(A:a.ds.length<=100)(s:ss.length=i):
  Or (.call 38) [AG a,I (i:Int),ab es ss] []=some [ti (bW a.ds x (i:Int) ss).1,ti (bW a.ds x (i:Int) ss).2]:=by
 have o: 0<=(i:Int)/\(i:Int) < (a.ns.length:Int):=by have:=(QC.1 f).1;omega
 unfold bW;by_cases t:x.op < 1\/25 < x.op
 .have c:(decide (x.op < 1) || decide (x.op > 25))=true:=by simpa using t
  rw [if_pos t];refine ah ?_;rw [qd];simp only [aK,aP,bA,ba,bU,fc,a8,↓reduceIte,o,and_self,dA,fi f,fF,c]
 have c:(decide (x.op < 1) || decide (x.op > 25))=false:=by simp;omega
 have p: 1<=x.op/\x.op<=25:=by omega
 rw [if_neg t];have b:=O7 p;by_cases m:x.op=9
 .have k:(x.op==9)=true:=by simpa using m
  have g:=te (ed:=a.ed) (en:=a.en) (eh:=a.eh) (ns:=a.ns) (hs:=a.hs) (nm:=x.nm) A;rw [if_pos m];by_cases l:bf a.ds x.nm < 0
  .have q:=decide_eq_true l;rw [if_pos l];refine ah ?_;rw [qd];simp only [aK,aP,bA,ba,bU,fc,a8,bo,↓reduceIte,o,and_self,dA,fi f,fF,c,b,k,g,q]
  .rw [if_neg l];obtain⟨j,d,v,r,F⟩:=uQ (nm:=x.nm) (i:=0) (ds:=a.ds) (by unfold bf at l;omega);have B:bf a.ds x.nm= ((j:Nat):Int):=by unfold bf;rw [v,Rh]
   have E:a.ds.getD (bf a.ds x.nm).toNat ⟨s0,true,[],0⟩=d:=by rw [B,Q8,QI,r];rfl
   rw [E];rw [B] at g l;have q:=decide_eq_false l;have z: 0<=(j:Int)/\(j:Int) < (a.ds.length:Int):=by have:=(QC.1 r).1;omega
   by_cases c3:x.ks.length≠d.ar.length\/8 < x.ks.length
   .have e:((!((x.ks.length:Int)== (d.ar.length:Int))) || decide ((x.ks.length:Int) > 8))=true:=by
     rcases c3 with h | h
     .have:((x.ks.length:Int)== (d.ar.length:Int))=false:=by simp;omega
      rw [this];rfl
     .have:(x.ks.length:Int) > 8:=by omega
      rw [decide_eq_true this,To]
    rw [if_pos c3];refine ah ?_;rw [qd];simp only [aK,aP,bA,ba,bU,fc,a8,bo,↓reduceIte,o,and_self,dA,fi f,fF,c,b,k,g,q,z,cj,dF r,aC,e]
   .have e:((!((x.ks.length:Int)== (d.ar.length:Int))) || decide ((x.ks.length:Int) > 8))=false:=by
     have D:((x.ks.length:Int)== (d.ar.length:Int))=true:=by simp;omega
     have w:¬(x.ks.length:Int) > 8:=by omega
     rw [D,decide_eq_false w];rfl
    have y:=Mr (x:=x) (i:=i) (ss:=ss) (es:=es) (dn:=d.nm) (ea:=d.ea) (da:=d.ar) (so:=d.so) m p (by omega) s;rw [if_neg c3];refine ah ?_;rw [qd];simp only [aK,aP,bA,ba,bU,fc,a8,bo,↓reduceIte,o,and_self,dA,fi f,fF,c,b,k,g,q,z,cj,dF r,aC,e];exact y
 .have k:(x.op==9)=false:=by simpa using m
  rw [if_neg m];by_cases c3:(0<=dM x.op/\(x.ks.length:Int)≠dM x.op)\/8 < x.ks.length
  .have e:((decide (dM x.op>=0) && !((x.ks.length:Int)==dM x.op)) || decide ((x.ks.length:Int) > 8))=true:=by
    rcases c3 with⟨h,C⟩ | h
    .have u:((x.ks.length:Int)==dM x.op)=false:=by simpa using C
     have v:dM x.op>=0:=h;rw [u,decide_eq_true v];rfl
    .have:(x.ks.length:Int) > 8:=by omega
     rw [decide_eq_true this,To]
   rw [if_pos c3];refine ah ?_;rw [qd];simp only [aK,aP,bA,ba,bU,fc,a8,bo,↓reduceIte,o,and_self,dA,fi f,fF,gR,c,b,k,aC,e]
  .have e:((decide (dM x.op>=0) && !((x.ks.length:Int)==dM x.op)) || decide ((x.ks.length:Int) > 8))=false:=by
    have w:¬(x.ks.length:Int) > 8:=by omega
    rw [decide_eq_false w,Bool.or_false];by_cases h: 0<=dM x.op
    .have u:((x.ks.length:Int)==dM x.op)=true:=by simp;omega
     rw [u];simp
    .have:¬dM x.op>=0:=h;rw [decide_eq_false this];rfl
   have y:=Mt (x:=x) (i:=i) (ss:=ss) (es:=es) m (λh=>by omega) p (by omega) s;rw [if_neg c3];refine ah ?_;rw [qd];simp only [aK,aP,bA,ba,bU,fc,bo,↓reduceIte,o,and_self,dA,fi f,fF,gR,c,b,k,aC,e];exact y
open Go Go.Aev Go.IntKind
def dN(ds:List Dc):List Nd->Nat->List Int->List Int×Int×Int
 | [],_,ss=>(ss,0,0)
 | x::r,i,ss=>if(bW ds x (i:Int) ss).2=0 then dN ds r (i+1) (ss++ [(bW ds x (i:Int) ss).1]) else([],(bW ds x (i:Int) ss).2,(i:Int))
def eH(ss:List Int):List Int->Nat->Int×Int
 | [],_=>(0,0)
 | k::r,j=>if k < 0\/(ss.length:Int)<=k then(3,(j:Int)) else if ss.getD k.toNat 0≠1 then(8,(j:Int)) else eH ss r (j+1)
def iI(a:As)(q:List Int×Int×Int):List Int×Int×Int:=
 if q.2.1≠0 then([],q.2.1,q.2.2)
 else if 200 < a.hs.length then([],2,0)
 else if(eH q.1 a.hs 0).1≠0 then([],(eH q.1 a.hs 0).1,(eH q.1 a.hs 0).2)
 else(q.1,0,0)
def bE(a:As):List Int×Int×Int:=
 if 30 < a.ds.length then([],2,0)
 else if(eG [] 0 a.ds).1≠0 then([],(eG [] 0 a.ds).1,(eG [] 0 a.ds).2)
 else if 200 < a.ns.length then([],2,0)
 else iI a (dN a.ds a.ns 0 [])
abbrev R3(x:T)(q:List Int×Int×Int):Option (List T):=some [x,ti q.2.1,ti q.2.2]
theorem LQ{ss:List Int}{e:Bool}{hs:List Int}(hl:hs.length<=1000):∀(r:List Int) (j:Nat),hs.drop j=r->
  ∃x,Or mQ [r0,o1,ab e hs,I (hs.length:Int),I (j:Int)] [n6,ad.sl false 1 false (enc ss)]=some [x,ti (eH ss r j).1,ti (eH ss r j).2]/\((eH ss r j).1=0->x=T.ab 1 false (enc ss))/\((eH ss r j).1≠0->x=T.ae true):=by
 intro r;induction r with
 | nil=>
  intro j g;have a:¬(j:Int) < (hs.length:Int):=by have:=bh g;omega
  refine⟨T.ab 1 false (enc ss),ah ?_,λ_=>rfl,λh=>absurd rfl h⟩;rw [uB];simp only [aj,↓reduceIte,a,eH]
 | cons k r q=>
  intro j g;obtain⟨l,v,p⟩:=bm g;have a:(j:Int) < (hs.length:Int):=by omega
  have h0: 0<=(j:Int):=by omega
  rw [eH];by_cases i:k < 0\/(ss.length:Int)<=k
  .have b:(decide (k < 0) || decide (k>=(ss.length:Int)))=true:=by simpa using i
   rw [if_pos i];refine⟨T.ae true,ah ?_,λh=>absurd (show(3:Int)=0 from h) (by decide),λ_=>rfl⟩;rw [uB];simp only [aK,aP,ba,a8,↓reduceIte,a,h0,and_self,decide_true,aC,bH l,fF,b]
  .have b:(decide (k < 0) || decide (k>=(ss.length:Int)))=false:=by simp;omega
   have m: 0<=k/\k < (ss.length:Int):=by omega
   have o:(enc ss)[k.toNat]? =some [ti (ss.getD k.toNat 0)]:=fj (by rw [QI,QK (by omega)];rfl);rw [if_neg i];by_cases c:ss.getD k.toNat 0=1
   .have f:(ss.getD k.toNat 0==1)=true:=by simpa using c
    obtain⟨x,s,t,u⟩:=q (j+1) p;rw [if_neg (by simpa using c)];refine⟨x,ah ?_,t,u⟩;rw [uB];simp only [aK,aP,ba,a8,bo,↓reduceIte,a,h0,and_self,decide_true,aC,bH l,fF,b,m,o,f,QE,next j (by omega)];exact s
   .have f:(ss.getD k.toNat 0==1)=false:=by simpa using c
    rw [if_pos c];refine⟨T.ae true,ah ?_,λh=>absurd (show(8:Int)=0 from h) (by decide),λ_=>rfl⟩;rw [uB];simp only [aK,aP,ba,a8,bo,↓reduceIte,a,h0,and_self,decide_true,aC,bH l,fF,b,m,o,f,QG]
theorem LP{a:As}(t:a.ds.length<=100)(D:a.ns.length<=200):∀(r:List Nd) (i:Nat) (ss:List Int),a.ns.drop i=r->i<=a.ns.length->ss.length=i->ss≠[]->
  ∃x,Or oc [r0,r1,o2,I (a.ns.length:Int),I (i:Int)] [rK a,n6,ad.sl false 1 false (enc ss)]=R3 x (iI a (dN a.ds r i ss))/\x.an 1=some ((iI a (dN a.ds r i ss)).1.isEmpty,enc (iI a (dN a.ds r i ss)).1):=by
 intro r;induction r with
 | nil=>
  intro i ss g z hs o;have f:¬(i:Int) < (a.ns.length:Int):=by have:=bh g;omega
  rw [dN];unfold iI;rw [if_neg (by simp)];by_cases c: 200 < a.hs.length
  .have b:(a.hs.length:Int) > 200:=by omega
   rw [if_pos c];refine⟨T.ae true,ah ?_,rfl⟩;rw [rZ];simp only [aj,↓reduceIte,f,aC,b]
  .have b:¬(a.hs.length:Int) > 200:=by omega
   rw [if_neg c];obtain⟨x,m,s,C⟩:=LQ (ss:=ss) (e:=a.eh) (hs:=a.hs) (by omega) a.hs 0 rfl;by_cases l:(eH ss a.hs 0).1=0
   .rw [if_neg (by simpa using l)];have u:eH ss a.hs 0= (0,0):=by
     have:∀(r:List Int) (j:Nat),(eH ss r j).1=0->eH ss r j= (0,0):=by
      intro r;induction r with
      | nil=>intro j _;rfl
      | cons k r q=>
       intro j h;rw [eH] at h⊢;split at h
       .exact absurd (show(3:Int)=0 from h) (by decide)
       .rename_i A;rw [if_neg A];split at h
        .exact absurd (show(8:Int)=0 from h) (by decide)
        .rename_i B;rw [if_neg B];exact q _ h
     exact this _ _ l
    refine⟨x,ah ?_, ?_⟩
    .rw [rZ];simp only [aj,↓reduceIte,f,aC,b];rw [u] at m;exact m
    .rw [s l,bU];cases ss with
     | nil=>exact absurd rfl o
     | cons=>rfl
   .rw [if_pos l];refine⟨x,ah ?_,by rw [C l];rfl⟩;rw [rZ];simp only [aj,↓reduceIte,f,aC,b];exact m
 | cons x r q=>
  intro i ss g z hs o;obtain⟨v,E,w⟩:=bm g;have f:(i:Int) < (a.ns.length:Int):=by omega
  have p:=F7 (a:=a) (es:=false) v t hs;rw [dN];by_cases c:(bW a.ds x (i:Int) ss).2=0
  .have b:((bW a.ds x (i:Int) ss).2==0)=true:=by simpa using c
   obtain⟨y,m,s⟩:=q (i+1) (ss++ [(bW a.ds x (i:Int) ss).1]) w (by omega) (by simp [hs]) (by simp);rw [if_pos c];refine⟨y,ah ?_,s⟩;rw [rZ];simp only [aK,aP,bA,ba,a8,bo,f,decide_true,p,b,QE,aC,QM,cC (show ss.length+1<=1000000 by omega),R4,eK,next i (by omega)];exact m
  .have b:((bW a.ds x (i:Int) ss).2==0)=false:=by simpa using c
   rw [if_neg c];unfold iI;rw [if_pos c];refine⟨T.ae true,ah ?_,rfl⟩;rw [rZ];simp only [aK,aP,bA,ba,a8,f,decide_true,p,b,QG]
theorem F3{a:As}(D:∀d∈a.ds,d.nm.size<=9223372036854775807):∃x,Or (.call 22) [AG a] []=R3 x (bE a)/\x.an 1=some ((bE a).1.isEmpty,enc (bE a).1):=by
 have b:=OF (e:=a.ed) D;unfold bE;by_cases l: 30 < a.ds.length
 .rw [if_pos l] at b;rw [if_pos l];refine⟨T.ae true,ah ?_,rfl⟩;rw [uA];simp only [aj,↓reduceIte,Int.reduceEq,b]
 rw [if_neg l] at b;rw [if_neg l];by_cases m:(eG [] 0 a.ds).1=0
 .have j:((eG [] 0 a.ds).1==0)=true:=by simpa using m
  rw [if_neg (by simpa using m)];by_cases c3: 200 < a.ns.length
  .have s:((a.ns.length:Int) > 200):=by omega
   rw [if_pos c3];refine⟨T.ae true,ah ?_,rfl⟩;rw [uA];simp only [aK,aP,bA,ba,a8,bo,b,j,QE,dA,s,decide_true]
  .have s:¬((a.ns.length:Int) > 200):=by omega
   rw [if_neg c3];have w:∃x,Or oc [r0,r1,AV.t (T.ae true),I (a.ns.length:Int),I 0] [rK a,n6]=R3 x (iI a (dN a.ds a.ns 0 []))/\x.an 1=some ((iI a (dN a.ds a.ns 0 [])).1.isEmpty,enc (iI a (dN a.ds a.ns 0 [])).1):=by
    cases g:a.ns with
    | nil=>
     rw [dN];unfold iI;rw [if_neg (by simp)];by_cases f: 200 < a.hs.length
     .have c:(a.hs.length:Int) > 200:=by omega
      rw [if_pos f];refine⟨T.ae true,ah ?_,rfl⟩;rw [rY];simp only [aj,↓reduceIte,QW,Re,Rl,decide_false,aC,c]
     .have c:¬(a.hs.length:Int) > 200:=by omega
      rw [if_neg f];cases p:a.hs with
      | nil=>
       refine⟨T.ae true,ah ?_,rfl⟩;have u:Or mQ [r0,AV.t (T.ae true),ab a.eh [],I 0,I 0] [n6]=some [T.ae true,ti 0,ti 0]:=by refine ah ?_;rw [BC];simp only [aj,Rl,decide_false]
       rw [p] at c;rw [rY];simp only [aj,QW,Re,Rl,decide_false,aC,p];exact u
      | cons k r=>
       have B:eH [] (k::r) 0= (3,0):=by rw [eH,if_pos (by simp;omega)];rfl
       rw [B,if_pos (by decide)];refine⟨T.ae true,ah ?_,rfl⟩;have o:(0:Int) < (((k::r).length:Nat):Int):=by simp
       have h0:(0:Int)<=0:=by omega
       have C:(enc (k::r))[(0:Int).toNat]? =some [ti k]:=rfl;have A:(decide (k < 0) || decide (k>=0))=true:=by simp;omega
       have u:Or mQ [r0,AV.t (T.ae true),ab a.eh (k::r),I (((k::r).length:Nat):Int),I 0] [n6]=some [T.ae true,ti 3,ti 0]:=by refine ah ?_;rw [BC];simp only [aK,aP,ba,a8,↓reduceIte,o,h0,and_self,decide_true,aC,C,fF,A]
       rw [p] at c;rw [rY];simp only [aj,QW,Re,Rl,decide_false,aC,p,c];exact u
    | cons y r=>
     have E:a.ns[0]? =some y:=by rw [g];rfl
     have h:=F7 (a:=a) (i:=0) (ss:= []) (es:=true) E (by omega) rfl;replace h:Or (.call 38) [AG a,I 0,AV.t (T.ab 1 true [])] []=some [ti (bW a.ds y 0 []).1,ti (bW a.ds y 0 []).2]:=h;have o:(0:Int) < (((y::r).length:Nat):Int):=by simp
     have F:i64.wrap (0+1)= ((1:Nat):Int):=by decide
     rw [dN];by_cases f:(bW a.ds y 0 []).2=0
     .have c:((bW a.ds y 0 []).2==0)=true:=by simpa using f
      obtain⟨z,q,v⟩:=LP (a:=a) (by omega) (by omega) r 1 [(bW a.ds y 0 []).1] (by rw [g];rfl) (by rw [g];simp) rfl (by simp);rw [if_pos (show(bW a.ds y ((0:Nat):Int) []).2=0 from f)];refine⟨z,ah ?_,v⟩;rw [rY];rw [g] at q;simp only [aK,aP,bA,ba,a8,bo,o,decide_true,h,c,QE,R4,F];exact q
     .have c:((bW a.ds y 0 []).2==0)=false:=by simpa using f
      rw [if_neg (show ¬(bW a.ds y ((0:Nat):Int) []).2=0 from f)];unfold iI;rw [if_pos (show(bW a.ds y ((0:Nat):Int) []).2≠0 from f)];refine⟨T.ae true,ah ?_,rfl⟩;rw [rY];simp only [aK,aP,bA,ba,a8,o,decide_true,h,c,QG];rfl
   obtain⟨x,q,v⟩:=w;refine⟨x,ah ?_,v⟩;rw [uA];simp only [aK,aP,bA,ba,bo,b,j,QE,dA,s,decide_false];exact q
 .have j:((eG [] 0 a.ds).1==0)=false:=by simpa using m
  rw [if_pos m];refine⟨T.ae true,ah ?_,rfl⟩;rw [uA];simp only [aK,aP,bA,ba,a8,b,j,QG]
open Go Go.Aev Go.IntKind
theorem xr{e:List Dc}{d:Dc}(h:fx e d=0):d.nm.size<=12/\d.ar.length<=8/\(∀s∈d.ar,s=4)/\jx d.nm=true/\mn d.so=true/\(e.any λx=>decide (x.nm=d.nm))=false/\(d.so=5->d.ar= []):=by
 unfold fx at h;split at h
 .cases h
 rename_i i;split at h
 .cases h
 rename_i j;split at h
 .cases h
 rename_i l;split at h
 .cases h
 rename_i f;have g:jx d.nm=true:=by simpa using i
 refine⟨?_,by omega,λs hs=> ?_,g, ?_,by simpa using j,λk=> ?_⟩
 .unfold jx at g;simp only [QF,decide_eq_true_eq] at g;omega
 .have:(d.ar.any λs=> !(s==4))=false:=by
   cases c:d.ar.any λs=> !(s==4) with
   | false=>rfl
   | true=>exact absurd (.inr (.inl c)) f
  rw [Rm] at this;have:=this s hs;simpa using this
 .cases c:mn d.so with
  | true=>rfl
  | false=>exact absurd (.inl c) f
 .cases c:d.ar with
  | nil=>rfl
  | cons a b=>exact absurd (.inr (.inr ⟨k,by rw [c];simp⟩)) f
theorem xl:∀{r:List Dc} {a:List Dc} {i:Nat},(eG a i r).1=0->∀(j:Nat) (d:Dc),r[j]? =some d->fx (a++r.take j) d=0
 | [],_,_,_,j,d,h=>by simp at h
 | x::r,a,i,h,j,d,b=>by
  rw [eG] at h;split at h
  .rename_i h0;cases j with
   | zero=>simp at b;subst b;simpa using h0
   | succ j=>have:=xl h j d (by simpa using b);simpa using this
  .rename_i h0;exact absurd h h0
theorem DF{ss:List Int}:∀{r:List Int} {j:Nat},(eH ss r j).1=0->∀k∈r,0<=k/\ss[k.toNat]? =some 1
 | [],_,_,k,h=>by cases h
 | x::r,j,h,k,b=>by
  rw [eH] at h;split at h
  .exact absurd (show(3:Int)=0 from h) (by decide)
  rename_i e;split at h
  .exact absurd (show(8:Int)=0 from h) (by decide)
  rename_i c;rcases QN.1 b with rfl | b
  .refine⟨by omega, ?_⟩;have a:ss.getD k.toNat 0=1:=by simpa using c
   rw [QI] at a;rw [QK (by omega)] at a⊢;exact congrArg some a
  .exact DF h k b
theorem wu{ds:List Dc}:∀{r:List Nd} {i:Nat} {ss:List Int},ss.length=i->(dN ds r i ss).2.1=0->
  ∃t,dN ds r i ss= (ss++t,0,0)/\t.length=r.length/\∀(j:Nat) (x:Nd),r[j]? =some x->(bW ds x ((i+j:Nat):Int) (ss++t.take j)).2=0/\t[j]? =some (bW ds x ((i+j:Nat):Int) (ss++t.take j)).1
 | [],i,ss,hs,_=>⟨[],by rw [dN,QX],rfl,λj x h=>by simp at h⟩
 | y::r,i,ss,hs,h=>by
  rw [dN] at h⊢;split at h
  .rename_i h0;rw [if_pos h0];obtain⟨t,b,c,e⟩:=wu (r:=r) (i:=i+1) (ss:=ss++ [(bW ds y (i:Int) ss).1]) (by simp [hs]) h;refine⟨(bW ds y (i:Int) ss).1::t,by rw [b];simp,by simp [c],λj x a=> ?_⟩;cases j with
   | zero=>simp at a;subst a;simp [h0]
   | succ j=>have:=e j x (by simpa using a);rw [show i+1+j=i+ (j+1) by omega] at this;simpa using this
  .rename_i h0;exact absurd h h0
theorem oP{x:Nd}{i:Int}{ss da:List Int}{so:Int}(h:(cR x i ss da so).2=0):
  (∀k∈x.ks,0<=k/\k < i)/\fy x=true/\eL x=true/\(cR x i ss da so).1=aY x.op x.d (x.ks.map λk=>ss.getD k.toNat 0) da so/\aY x.op x.d (x.ks.map λk=>ss.getD k.toNat 0) da so≠0:=by
 unfold cR at h⊢;split at h
 .exact absurd (show(3:Int)=0 from h) (by decide)
 rename_i a;split at h
 .exact absurd (show(5:Int)=0 from h) (by decide)
 rename_i b;split at h
 .exact absurd (show(3:Int)=0 from h) (by decide)
 rename_i c;split at h
 .exact absurd (show(8:Int)=0 from h) (by decide)
 rename_i e;rw [if_neg a,if_neg b,if_neg c,if_neg e];refine⟨λk g=> ?_,by simpa using b,by simpa using c,rfl,e⟩;have f:(x.ks.any λk=>decide (k < 0) || decide (k>=i))=false:=by simpa using a
 rw [Rm] at f;have:=f k g;simp at this;omega
theorem ym{x:Nd}(b:fy x=true)(a:eL x=true):(-1000000<=x.n/\x.n<=1000000)/\(-1000000<=x.d/\x.d<=1000000)/\(x.nm=s0\/x.op=9):=by
 unfold fy at b;simp only [QF,Rq,decide_eq_true_eq,beq_iff_eq] at b;obtain⟨⟨e,i⟩,j⟩:=b;refine⟨?_, ?_,e⟩ <;>
 .unfold eL at a;split at a
  .unfold s4 at a;simp only [QF,decide_eq_true_eq] at a;omega
  rename_i g;split at a
  .simp only [QF,decide_eq_true_eq] at a;rename_i c;have k:i64.wrap (1 * 2 ^ min x.d.toNat 64)<=256:=by
    have f:x.d.toNat=1\/x.d.toNat=2\/x.d.toNat=3\/x.d.toNat=4\/x.d.toNat=5\/x.d.toNat=6\/x.d.toNat=7\/x.d.toNat=8:=by omega
    rcases f with h | h | h | h | h | h | h | h <;> rw [h] <;> decide
   omega
  rename_i c;split at a
  .simp only [QF,decide_eq_true_eq] at a;omega
  rename_i c3;omega
theorem sT{s:Int}(h:pN s=true):aE s=false:=by unfold pN at h;simp only [Rq,beq_iff_eq] at h;rcases h with rfl | rfl <;> rfl
theorem vJ{s:Int}(h:pB s=true):aE s=false:=by unfold pB at h;simp only [beq_iff_eq] at h;subst h;rfl
theorem Nf{c:Cx}{x:Nd}{i:Nat}{pre:List Int}(hpre:pre.length=i)(Q:∀k,k < i->c.ss[k]? =pre[k]?)(Y:∀d∈c.ds,d.nm.size<=12/\d.ar.length<=8/\∀s∈d.ar,s=4)(h:(bW c.ds x (i:Int) pre).2=0):pL c i x (bW c.ds x (i:Int) pre).1:=by
 unfold bW at h⊢;by_cases U:x.op < 1\/25 < x.op
 .rw [if_pos U] at h;exact absurd (show(4:Int)=0 from h) (by decide)
 rw [if_neg U] at h⊢;have p: 1<=x.op/\x.op<=25:=by omega
 have B:∀k,0<=k->k < (i:Int)->KW c i k (pre.getD k.toNat 0):=λk h1 K=>⟨h1,K,by
  rw [Q k.toNat (by omega),QI,QK (by omega)];rfl⟩
 by_cases J:x.op=9
 .rw [if_pos J] at h⊢;by_cases N:bf c.ds x.nm < 0
  .rw [if_pos N] at h;exact absurd (show(6:Int)=0 from h) (by decide)
  rw [if_neg N] at h⊢;by_cases c3:(x.ks.length≠((c.ds.getD (bf c.ds x.nm).toNat ⟨s0,true,[],0⟩).ar).length)\/8 < x.ks.length
  .rw [if_pos c3] at h;exact absurd (show(9:Int)=0 from h) (by decide)
  rw [if_neg c3] at h⊢;obtain⟨j,d,h3,X,h5⟩:=uQ (nm:=x.nm) (i:=0) (ds:=c.ds) (by unfold bf at N;omega);have hf:bf c.ds x.nm= ((j:Nat):Int):=by unfold bf;rw [h3,Rh]
  have P:c.ds.getD (bf c.ds x.nm).toNat ⟨s0,true,[],0⟩=d:=by rw [hf,Q8,QI,X];rfl
  rw [P] at h c3⊢;obtain⟨m,S,I,M,g⟩:=oP h;rw [M];obtain⟨y,z,W⟩:=ym S I;obtain⟨d1,d2,d3⟩:=Y d (QH X);have es:aY x.op x.d (x.ks.map λk=>pre.getD k.toNat 0) d.ar d.so=if(x.ks.map λk=>pre.getD k.toNat 0)=d.ar then d.so else 0:=by rw [J];rfl
  rw [es] at g⊢;by_cases e:(x.ks.map λk=>pre.getD k.toNat 0)=d.ar
  .have Z:∀k∈x.ks,∃s',KW c i k s'/\aE s'=false:=λk A=>by
    refine⟨_,B k (m k A).1 (m k A).2, ?_⟩;have:pre.getD k.toNat 0=4:=d3 _ (by rw [<-e];exact Rb.2 ⟨k,A,rfl⟩);rw [this];rfl
   exact⟨p,by omega,y,z,by rw [<-h5];exact d1,λk A=>⟨_,B k (m k A).1 (m k A).2⟩,by omega,by omega,by omega,by omega,by omega,by omega,by omega,by omega,λ_ _ _=>⟨λe=>absurd J e,Z⟩⟩
  .rw [if_neg e] at g;exact absurd rfl g
 .rw [if_neg J] at h⊢;by_cases c3:(0<=dM x.op/\(x.ks.length:Int)≠dM x.op)\/8 < x.ks.length
  .rw [if_pos c3] at h;exact absurd (show(9:Int)=0 from h) (by decide)
  rw [if_neg c3] at h⊢;obtain⟨m,S,I,M,g⟩:=oP h;rw [M];obtain⟨y,z,W⟩:=ym S I;have t:x.nm.size<=12:=by
   rcases W with e | e
   .rw [e];decide
   .exact absurd e J
  have q:∀k∈x.ks,∃s',KW c i k s':=λk A=>⟨_,B k (m k A).1 (m k A).2⟩;have r:x.ks.length<=8:=by omega
  have u: 0<=dM x.op->(x.ks.length:Int)=dM x.op:=λe=>by omega
  have l:(∀s∈(x.ks.map λk=>pre.getD k.toNat 0),aE s=false)->∀k∈x.ks,∃s',KW c i k s'/\aE s'=false:=λO k A=>⟨_,B k (m k A).1 (m k A).2,O _ (Rb.2 ⟨k,A,rfl⟩)⟩;have E:(x.ks.length:Int)=0->x.ks= []:=λh=>Q7.1 (by omega);have F:(x.ks.length:Int)=1->∃a,x.ks= [a]:=λh=>Sw.1 (by omega);have D:(x.ks.length:Int)=2->∃a b,x.ks= [a,b]:=λh=>by
   have K:x.ks.length=2:=by omega
   match hh:x.ks,K with
   | [a,b],_=>exact⟨a,b,rfl⟩
  have R:(x.ks.length:Int)=3->∃a b d,x.ks= [a,b,d]:=λh=>by
   have K:x.ks.length=3:=by omega
   match hh:x.ks,K with
   | [a,b,d],_=>exact⟨a,b,d,rfl⟩
  clear h M;rcases zg p with o | o | o | o | o | o | o | o | o | o | o | o | o | o | o | o | o | o | o | o | o | o | o | o | o
  ·
   have hl:(x.ks.length:Int)=0:=by have:=u (by rw [o];decide);rw [o] at this;exact this
   have G:=E hl;have es:aY x.op x.d (x.ks.map λk=>pre.getD k.toNat 0) [] 0=1:=by rw [o];rfl
   rw [es];exact⟨p,r,y,z,t,q,by omega,by omega,by omega,by omega,by omega,by omega,by omega,by omega,λ_ _ _=>⟨λ_=>rfl,λk A=>by rw [G] at A;cases A⟩⟩
  ·
   have hl:(x.ks.length:Int)=0:=by have:=u (by rw [o];decide);rw [o] at this;exact this
   have G:=E hl;have es:aY x.op x.d (x.ks.map λk=>pre.getD k.toNat 0) [] 0=1:=by rw [o];rfl
   rw [es];exact⟨p,r,y,z,t,q,by omega,by omega,by omega,by omega,by omega,by omega,by omega,by omega,λ_ _ _=>⟨λ_=>rfl,λk A=>by rw [G] at A;cases A⟩⟩
  ·
   have hl:(x.ks.length:Int)=1:=by have:=u (by rw [o];decide);rw [o] at this;exact this
   have es:aY x.op x.d (x.ks.map λk=>pre.getD k.toNat 0) [] 0=if(x.ks.map λk=>pre.getD k.toNat 0).all pB=true then 1 else 0:=by rw [o];rfl
   rw [es] at g⊢;cases v:(x.ks.map λk=>pre.getD k.toNat 0).all pB with
   | false=>rw [v] at g;exact absurd rfl g
   | true=>have C:=l (λs hs=>vJ (QU.1 v s hs));rw [if_pos rfl];exact⟨p,r,y,z,t,q,λ_=>by obtain⟨a,O⟩:=F hl;exact⟨a,[],O⟩,by omega,by omega,by omega,by omega,by omega,by omega,by omega,λ_ _ _=>⟨λ_=>rfl,C⟩⟩
  ·
   have es:aY x.op x.d (x.ks.map λk=>pre.getD k.toNat 0) [] 0=if(x.ks.map λk=>pre.getD k.toNat 0).all pB=true then 1 else 0:=by rw [o];rfl
   rw [es] at g⊢;cases v:(x.ks.map λk=>pre.getD k.toNat 0).all pB with
   | false=>rw [v] at g;exact absurd rfl g
   | true=>have C:=l (λs hs=>vJ (QU.1 v s hs));rw [if_pos rfl];exact⟨p,r,y,z,t,q,by omega,by omega,by omega,by omega,by omega,by omega,by omega,by omega,λ_ _ _=>⟨λ_=>rfl,C⟩⟩
  ·
   have es:aY x.op x.d (x.ks.map λk=>pre.getD k.toNat 0) [] 0=if(x.ks.map λk=>pre.getD k.toNat 0).all pB=true then 1 else 0:=by rw [o];rfl
   rw [es] at g⊢;cases v:(x.ks.map λk=>pre.getD k.toNat 0).all pB with
   | false=>rw [v] at g;exact absurd rfl g
   | true=>have C:=l (λs hs=>vJ (QU.1 v s hs));rw [if_pos rfl];exact⟨p,r,y,z,t,q,by omega,by omega,by omega,by omega,by omega,by omega,by omega,by omega,λ_ _ _=>⟨λ_=>rfl,C⟩⟩
  ·
   have hl:(x.ks.length:Int)=2:=by have:=u (by rw [o];decide);rw [o] at this;exact this
   have es:aY x.op x.d (x.ks.map λk=>pre.getD k.toNat 0) [] 0=if(x.ks.map λk=>pre.getD k.toNat 0).all pB=true then 1 else 0:=by rw [o];rfl
   rw [es] at g⊢;cases v:(x.ks.map λk=>pre.getD k.toNat 0).all pB with
   | false=>rw [v] at g;exact absurd rfl g
   | true=>have C:=l (λs hs=>vJ (QU.1 v s hs));rw [if_pos rfl];exact⟨p,r,y,z,t,q,by omega,by omega,by omega,by omega,by omega,by omega,by omega,by omega,λ_ _ _=>⟨λ_=>rfl,C⟩⟩
  ·
   have hl:(x.ks.length:Int)=3:=by have:=u (by rw [o];decide);rw [o] at this;exact this
   obtain⟨a,b,d,f⟩:=R hl;have es:aY x.op x.d (x.ks.map λk=>pre.getD k.toNat 0) [] 0=if pre.getD a.toNat 0=1/\pre.getD b.toNat 0=pre.getD d.toNat 0/\pre.getD b.toNat 0≠5 then pre.getD b.toNat 0 else 0:=by rw [o,f];rfl
   rw [es] at g⊢;by_cases e:pre.getD a.toNat 0=1/\pre.getD b.toNat 0=pre.getD d.toNat 0/\pre.getD b.toNat 0≠5
   .rw [if_pos e];have ka:=B a (m a (by rw [f];simp)).1 (m a (by rw [f];simp)).2;have kb:=B b (m b (by rw [f];simp)).1 (m b (by rw [f];simp)).2;have kd:=B d (m d (by rw [f];simp)).1 (m d (by rw [f];simp)).2;rw [e.1] at ka;rw [<-e.2.1] at kd;exact⟨p,r,y,z,t,q,by omega,λ_=>⟨a,b,d,f,ka,kb,kd⟩,by omega,by omega,by omega,by omega,by omega,by omega,λe=>absurd o e⟩
   .rw [if_neg e] at g;exact absurd rfl g
  ·
   have hl:(x.ks.length:Int)=2:=by have:=u (by rw [o];decide);rw [o] at this;exact this
   obtain⟨a,b,f⟩:=D hl;have ka:=B a (m a (by rw [f];simp)).1 (m a (by rw [f];simp)).2;have kb:=B b (m b (by rw [f];simp)).1 (m b (by rw [f];simp)).2;have es:aY x.op x.d (x.ks.map λk=>pre.getD k.toNat 0) [] 0=if(x.ks.map λk=>pre.getD k.toNat 0).all pN=true\/(pre.getD a.toNat 0=pre.getD b.toNat 0/\(pre.getD a.toNat 0=4\/aE (pre.getD a.toNat 0)=true)) then 1 else 0:=by rw [o,f];rfl
   rw [es] at g⊢;by_cases e:(x.ks.map λk=>pre.getD k.toNat 0).all pN=true\/(pre.getD a.toNat 0=pre.getD b.toNat 0/\(pre.getD a.toNat 0=4\/aE (pre.getD a.toNat 0)=true))
   .rw [if_pos e];have c8:aE 1=false/\∃a b s',x.ks= [a,b]/\((aE s'=true/\KW c i a s'/\KW c i b s')\/∀k∈x.ks,∃s',KW c i k s'/\aE s'=false):=by
     refine⟨rfl,a,b,pre.getD a.toNat 0,f, ?_⟩;rcases e with e | ⟨V,L | L⟩
     .exact .inr (l λs hs=>sT (QU.1 e s hs))
     .right;intro k A;rw [f] at A;simp only [QN,RR,or_false] at A;rcases A with rfl | rfl
      .exact⟨_,ka,by rw [L];rfl⟩
      .exact⟨_,kb,by rw [<-V,L];rfl⟩
     .left;rw [<-V] at kb;exact⟨L,ka,kb⟩
    exact⟨p,r,y,z,t,q,by omega,by omega,λ_=>c8,by omega,by omega,by omega,by omega,by omega,λ_ e=>absurd o e⟩
   .rw [if_neg e] at g;exact absurd rfl g
  ·
   exact absurd o J
  ·
   have hl:(x.ks.length:Int)=0:=by have:=u (by rw [o];decide);rw [o] at this;exact this
   have G:=E hl;have es:aY x.op x.d (x.ks.map λk=>pre.getD k.toNat 0) [] 0=if x.d=1 then 2 else 3:=by rw [o];rfl
   rw [es];have H:aE (if x.d=1 then 2 else 3)=false:=by split <;> rfl
   exact⟨p,r,y,z,t,q,by omega,by omega,by omega,by omega,by omega,by omega,by omega,by omega,λ_ _ _=>⟨λ_=>H,λk A=>by rw [G] at A;cases A⟩⟩
  ·
   have es:aY x.op x.d (x.ks.map λk=>pre.getD k.toNat 0) [] 0=if(x.ks.map λk=>pre.getD k.toNat 0).all pN=true then(if(x.ks.map λk=>pre.getD k.toNat 0).all pI=true then 2 else 3) else 0:=by rw [o];rfl
   rw [es] at g⊢;cases v:(x.ks.map λk=>pre.getD k.toNat 0).all pN with
   | false=>rw [v] at g;exact absurd rfl g
   | true=>
    have C:=l (λs hs=>sT (QU.1 v s hs));rw [if_pos rfl];have H:aE (if(x.ks.map λk=>pre.getD k.toNat 0).all pI=true then 2 else 3)=false:=by split <;> rfl
    exact⟨p,r,y,z,t,q,by omega,by omega,by omega,by omega,by omega,by omega,by omega,by omega,λ_ _ _=>⟨λ_=>H,C⟩⟩
  ·
   have hl:(x.ks.length:Int)=1:=by have:=u (by rw [o];decide);rw [o] at this;exact this
   obtain⟨a,f⟩:=F hl;have es:aY x.op x.d (x.ks.map λk=>pre.getD k.toNat 0) [] 0=if pN (pre.getD a.toNat 0)=true then(if pre.getD a.toNat 0=2/\x.d=1 then 2 else 3) else 0:=by rw [o,f];rfl
   rw [es] at g⊢;cases v:pN (pre.getD a.toNat 0) with
   | false=>rw [v] at g;exact absurd rfl g
   | true=>
    have C:=l (λs hs=>by rw [f] at hs;simp only [Rc,Rz,QL] at hs;subst hs;exact sT v);rw [if_pos rfl];have H:aE (if pre.getD a.toNat 0=2/\x.d=1 then 2 else 3)=false:=by split <;> rfl
    exact⟨p,r,y,z,t,q,by omega,by omega,by omega,by omega,by omega,by omega,by omega,by omega,λ_ _ _=>⟨λ_=>H,C⟩⟩
  ·
   have hl:(x.ks.length:Int)=2:=by have:=u (by rw [o];decide);rw [o] at this;exact this
   have es:aY x.op x.d (x.ks.map λk=>pre.getD k.toNat 0) [] 0=if(x.ks.map λk=>pre.getD k.toNat 0).all pN=true then 1 else 0:=by rw [o];rfl
   rw [es] at g⊢;cases v:(x.ks.map λk=>pre.getD k.toNat 0).all pN with
   | false=>rw [v] at g;exact absurd rfl g
   | true=>have C:=l (λs hs=>sT (QU.1 v s hs));rw [if_pos rfl];exact⟨p,r,y,z,t,q,by omega,by omega,by omega,by omega,by omega,by omega,by omega,by omega,λ_ _ _=>⟨λ_=>rfl,C⟩⟩
  ·
   have hl:(x.ks.length:Int)=2:=by have:=u (by rw [o];decide);rw [o] at this;exact this
   have es:aY x.op x.d (x.ks.map λk=>pre.getD k.toNat 0) [] 0=if(x.ks.map λk=>pre.getD k.toNat 0).all pN=true then 1 else 0:=by rw [o];rfl
   rw [es] at g⊢;cases v:(x.ks.map λk=>pre.getD k.toNat 0).all pN with
   | false=>rw [v] at g;exact absurd rfl g
   | true=>have C:=l (λs hs=>sT (QU.1 v s hs));rw [if_pos rfl];exact⟨p,r,y,z,t,q,by omega,by omega,by omega,by omega,by omega,by omega,by omega,by omega,λ_ _ _=>⟨λ_=>rfl,C⟩⟩
  ·
   have hl:(x.ks.length:Int)=0:=by have:=u (by rw [o];decide);rw [o] at this;exact this
   have G:=E hl;have es:aY x.op x.d (x.ks.map λk=>pre.getD k.toNat 0) [] 0=10+x.d:=by rw [o];rfl
   rw [es];obtain⟨w1,w2,w3,w4⟩:=sN I o;have w5:x.n < 2 ^ x.d.toNat:=by
    have P:x.d.toNat=1\/x.d.toNat=2\/x.d.toNat=3\/x.d.toNat=4\/x.d.toNat=5\/x.d.toNat=6\/x.d.toNat=7\/x.d.toNat=8:=by omega
    have H:i64.wrap (1 * 2 ^ min x.d.toNat 64)=2 ^ x.d.toNat:=by rcases P with h | h | h | h | h | h | h | h <;> rw [h] <;> decide
    rw [H] at w4;exact w4
   exact⟨p,r,y,z,t,q,by omega,by omega,by omega,λ_=>⟨G,w1,w2,w3,w5,rfl⟩,by omega,by omega,by omega,by omega,by omega⟩
  ·
   have hl:(x.ks.length:Int)=1:=by have:=u (by rw [o];decide);rw [o] at this;exact this
   obtain⟨a,f⟩:=F hl;have ka:=B a (m a (by rw [f];simp)).1 (m a (by rw [f];simp)).2;have es:aY x.op x.d (x.ks.map λk=>pre.getD k.toNat 0) [] 0=if aE (pre.getD a.toNat 0)=true then pre.getD a.toNat 0 else 0:=by rw [o,f];rfl
   rw [es] at g⊢;cases v:aE (pre.getD a.toNat 0) with
   | false=>rw [v] at g;exact absurd rfl g
   | true=>rw [if_pos rfl];exact⟨p,r,y,z,t,q,by omega,by omega,by omega,by omega,λ_=>⟨v,a,f,ka⟩,by omega,by omega,by omega,by omega⟩
  ·
   have hl:(x.ks.length:Int)=2:=by have:=u (by rw [o];decide);rw [o] at this;exact this
   obtain⟨a,b,f⟩:=D hl;have ka:=B a (m a (by rw [f];simp)).1 (m a (by rw [f];simp)).2;have kb:=B b (m b (by rw [f];simp)).1 (m b (by rw [f];simp)).2;have es:aY x.op x.d (x.ks.map λk=>pre.getD k.toNat 0) [] 0=if pre.getD a.toNat 0=pre.getD b.toNat 0/\aE (pre.getD a.toNat 0)=true then pre.getD a.toNat 0 else 0:=by rw [o,f];rfl
   rw [es] at g⊢;by_cases e:pre.getD a.toNat 0=pre.getD b.toNat 0/\aE (pre.getD a.toNat 0)=true
   .rw [if_pos e];rw [<-e.1] at kb;exact⟨p,r,y,z,t,q,by omega,by omega,by omega,by omega,by omega,λ_ _=>⟨e.2,a,b,f,ka,kb⟩,by omega,by omega,by omega⟩
   .rw [if_neg e] at g;exact absurd rfl g
  ·
   have hl:(x.ks.length:Int)=2:=by have:=u (by rw [o];decide);rw [o] at this;exact this
   obtain⟨a,b,f⟩:=D hl;have ka:=B a (m a (by rw [f];simp)).1 (m a (by rw [f];simp)).2;have kb:=B b (m b (by rw [f];simp)).1 (m b (by rw [f];simp)).2;have es:aY x.op x.d (x.ks.map λk=>pre.getD k.toNat 0) [] 0=if pre.getD a.toNat 0=pre.getD b.toNat 0/\aE (pre.getD a.toNat 0)=true then pre.getD a.toNat 0 else 0:=by rw [o,f];rfl
   rw [es] at g⊢;by_cases e:pre.getD a.toNat 0=pre.getD b.toNat 0/\aE (pre.getD a.toNat 0)=true
   .rw [if_pos e];rw [<-e.1] at kb;exact⟨p,r,y,z,t,q,by omega,by omega,by omega,by omega,by omega,λ_ _=>⟨e.2,a,b,f,ka,kb⟩,by omega,by omega,by omega⟩
   .rw [if_neg e] at g;exact absurd rfl g
  ·
   have hl:(x.ks.length:Int)=2:=by have:=u (by rw [o];decide);rw [o] at this;exact this
   obtain⟨a,b,f⟩:=D hl;have ka:=B a (m a (by rw [f];simp)).1 (m a (by rw [f];simp)).2;have kb:=B b (m b (by rw [f];simp)).1 (m b (by rw [f];simp)).2;have es:aY x.op x.d (x.ks.map λk=>pre.getD k.toNat 0) [] 0=if pre.getD a.toNat 0=pre.getD b.toNat 0/\aE (pre.getD a.toNat 0)=true then pre.getD a.toNat 0 else 0:=by rw [o,f];rfl
   rw [es] at g⊢;by_cases e:pre.getD a.toNat 0=pre.getD b.toNat 0/\aE (pre.getD a.toNat 0)=true
   .rw [if_pos e];rw [<-e.1] at kb;exact⟨p,r,y,z,t,q,by omega,by omega,by omega,by omega,by omega,λ_ _=>⟨e.2,a,b,f,ka,kb⟩,by omega,by omega,by omega⟩
   .rw [if_neg e] at g;exact absurd rfl g
  ·
   have hl:(x.ks.length:Int)=2:=by have:=u (by rw [o];decide);rw [o] at this;exact this
   obtain⟨a,b,f⟩:=D hl;have ka:=B a (m a (by rw [f];simp)).1 (m a (by rw [f];simp)).2;have kb:=B b (m b (by rw [f];simp)).1 (m b (by rw [f];simp)).2;have es:aY x.op x.d (x.ks.map λk=>pre.getD k.toNat 0) [] 0=if pre.getD a.toNat 0=pre.getD b.toNat 0/\aE (pre.getD a.toNat 0)=true then pre.getD a.toNat 0 else 0:=by rw [o,f];rfl
   rw [es] at g⊢;by_cases e:pre.getD a.toNat 0=pre.getD b.toNat 0/\aE (pre.getD a.toNat 0)=true
   .rw [if_pos e];rw [<-e.1] at kb;exact⟨p,r,y,z,t,q,by omega,by omega,by omega,by omega,by omega,λ_ _=>⟨e.2,a,b,f,ka,kb⟩,by omega,by omega,by omega⟩
   .rw [if_neg e] at g;exact absurd rfl g
  ·
   have hl:(x.ks.length:Int)=2:=by have:=u (by rw [o];decide);rw [o] at this;exact this
   obtain⟨a,b,f⟩:=D hl;have ka:=B a (m a (by rw [f];simp)).1 (m a (by rw [f];simp)).2;have kb:=B b (m b (by rw [f];simp)).1 (m b (by rw [f];simp)).2;have es:aY x.op x.d (x.ks.map λk=>pre.getD k.toNat 0) [] 0=if pre.getD a.toNat 0=pre.getD b.toNat 0/\aE (pre.getD a.toNat 0)=true then pre.getD a.toNat 0 else 0:=by rw [o,f];rfl
   rw [es] at g⊢;by_cases e:pre.getD a.toNat 0=pre.getD b.toNat 0/\aE (pre.getD a.toNat 0)=true
   .rw [if_pos e];rw [<-e.1] at kb;exact⟨p,r,y,z,t,q,by omega,by omega,by omega,by omega,by omega,λ_ _=>⟨e.2,a,b,f,ka,kb⟩,by omega,by omega,by omega⟩
   .rw [if_neg e] at g;exact absurd rfl g
  ·
   have hl:(x.ks.length:Int)=2:=by have:=u (by rw [o];decide);rw [o] at this;exact this
   obtain⟨a,b,f⟩:=D hl;have ka:=B a (m a (by rw [f];simp)).1 (m a (by rw [f];simp)).2;have kb:=B b (m b (by rw [f];simp)).1 (m b (by rw [f];simp)).2;have es:aY x.op x.d (x.ks.map λk=>pre.getD k.toNat 0) [] 0=if pre.getD a.toNat 0=pre.getD b.toNat 0/\aE (pre.getD a.toNat 0)=true then 1 else 0:=by rw [o,f];rfl
   rw [es] at g⊢;by_cases e:pre.getD a.toNat 0=pre.getD b.toNat 0/\aE (pre.getD a.toNat 0)=true
   .rw [if_pos e];rw [<-e.1] at kb;exact⟨p,r,y,z,t,q,by omega,by omega,by omega,by omega,by omega,by omega,λ_=>⟨rfl,a,b,_,e.2,f,ka,kb⟩,by omega,by omega⟩
   .rw [if_neg e] at g;exact absurd rfl g
  ·
   have hl:(x.ks.length:Int)=1:=by have:=u (by rw [o];decide);rw [o] at this;exact this
   obtain⟨a,f⟩:=F hl;have ka:=B a (m a (by rw [f];simp)).1 (m a (by rw [f];simp)).2;have es:aY x.op x.d (x.ks.map λk=>pre.getD k.toNat 0) [] 0=if aE (pre.getD a.toNat 0)=true then pre.getD a.toNat 0 else 0:=by rw [o,f];rfl
   rw [es] at g⊢;cases v:aE (pre.getD a.toNat 0) with
   | false=>rw [v] at g;exact absurd rfl g
   | true=>
    rw [if_pos rfl];have w: 0<=x.n/\x.n<=8:=by unfold eL at I;rw [if_neg (by omega),if_neg (by omega),if_pos o] at I;simpa using I
    exact⟨p,r,y,z,t,q,by omega,by omega,by omega,by omega,λ_=>⟨v,a,f,ka⟩,by omega,by omega,λ_=>w,by omega⟩
  ·
   have hl:(x.ks.length:Int)=2:=by have:=u (by rw [o];decide);rw [o] at this;exact this
   have es:aY x.op x.d (x.ks.map λk=>pre.getD k.toNat 0) [] 0=if(x.ks.map λk=>pre.getD k.toNat 0)= [5,4] then 4 else 0:=by rw [o];rfl
   rw [es] at g⊢;by_cases e:(x.ks.map λk=>pre.getD k.toNat 0)= [5,4]
   .rw [if_pos e];have C:=l (λs hs=>by
     rw [e] at hs;simp only [QN,RR,or_false] at hs;rcases hs with rfl | rfl <;> rfl)
    exact⟨p,r,y,z,t,q,by omega,by omega,by omega,by omega,by omega,by omega,by omega,by omega,λ_ _ _=>⟨λ_=>rfl,C⟩⟩
   .rw [if_neg e] at g;exact absurd rfl g
  ·
   have hl:(x.ks.length:Int)=3:=by have:=u (by rw [o];decide);rw [o] at this;exact this
   have es:aY x.op x.d (x.ks.map λk=>pre.getD k.toNat 0) [] 0=if(x.ks.map λk=>pre.getD k.toNat 0)= [5,4,4] then 5 else 0:=by rw [o];rfl
   rw [es] at g⊢;by_cases e:(x.ks.map λk=>pre.getD k.toNat 0)= [5,4,4]
   .rw [if_pos e];have C:=l (λs hs=>by
     rw [e] at hs;simp only [QN,RR,or_false] at hs;rcases hs with rfl | rfl | rfl <;> rfl)
    exact⟨p,r,y,z,t,q,by omega,by omega,by omega,by omega,by omega,by omega,by omega,by omega,λ_ _ _=>⟨λ_=>rfl,C⟩⟩
   .rw [if_neg e] at g;exact absurd rfl g
theorem pZ{a:As}{es:Bool}(h:(bE a).2.1=0):px (jT a es (bE a).1)/\(∀d∈a.ds,d.ar.length<=8):=by
 unfold bE at h⊢;by_cases p: 30 < a.ds.length
 .rw [if_pos p] at h;exact absurd (show(2:Int)=0 from h) (by decide)
 rw [if_neg p] at h⊢;by_cases g:(eG [] 0 a.ds).1≠0
 .rw [if_pos g] at h;exact absurd h g
 rw [if_neg g] at h⊢;by_cases c3: 200 < a.ns.length
 .rw [if_pos c3] at h;exact absurd (show(2:Int)=0 from h) (by decide)
 rw [if_neg c3] at h⊢;have f:∀d∈a.ds,d.nm.size<=12/\d.ar.length<=8/\∀s∈d.ar,s=4:=λd e=>by obtain⟨j,y⟩:=RJ e;obtain⟨m,o,B,_⟩:=xr (xl (by simpa using g) j d y);exact⟨m,o,B⟩
 unfold iI at h⊢;by_cases l:(dN a.ds a.ns 0 []).2.1≠0
 .rw [if_pos l] at h;exact absurd h l
 rw [if_neg l] at h⊢;by_cases q: 200 < a.hs.length
 .rw [if_pos q] at h;exact absurd (show(2:Int)=0 from h) (by decide)
 rw [if_neg q] at h⊢;by_cases b:(eH (dN a.ds a.ns 0 []).1 a.hs 0).1≠0
 .rw [if_pos b] at h;exact absurd h b
 rw [if_neg b];obtain⟨t,u,v,w⟩:=wu (ds:=a.ds) (r:=a.ns) (i:=0) (ss:= []) rfl (by simpa using l);rw [RO] at u;rw [u] at b⊢;refine⟨⟨v,by show a.ns.length<=200;omega,by show a.ds.length<=30;omega,by show a.hs.length<=200;omega,λd e=>(f d e).1,λi x s A hs=> ?_,DF (show(eH t a.hs 0).1=0 by simpa using b)⟩,λd e=>(f d e).2.1⟩;obtain⟨m,o⟩:=w i x A;rw [Rh,RO] at m o;have C:i < t.length:=(QC.1 hs).1;replace hs:t[i]? =some s:=hs;rw [o] at hs;simp only [Qy] at hs;subst hs;exact Nf (c:=jT a es t) (x:=x) (i:=i) (pre:=t.take i) (by rw [Rw];omega) (λk z=>by show t[k]? =_;rw [S7 z]) f m
theorem Gq{a:As}(h:(bE a).2.1=0):(bE a).2.2=0:=by
 unfold bE at h⊢;by_cases f: 30 < a.ds.length
 .rw [if_pos f] at h;exact absurd (show(2:Int)=0 from h) (by decide)
 rw [if_neg f] at h⊢;by_cases b:(eG [] 0 a.ds).1≠0
 .rw [if_pos b] at h;exact absurd h b
 rw [if_neg b] at h⊢;by_cases c3: 200 < a.ns.length
 .rw [if_pos c3] at h;exact absurd (show(2:Int)=0 from h) (by decide)
 rw [if_neg c3] at h⊢;unfold iI at h⊢;by_cases c:(dN a.ds a.ns 0 []).2.1≠0
 .rw [if_pos c] at h;exact absurd h c
 rw [if_neg c] at h⊢;by_cases g: 200 < a.hs.length
 .rw [if_pos g] at h;exact absurd (show(2:Int)=0 from h) (by decide)
 rw [if_neg g] at h⊢;by_cases e:(eH (dN a.ds a.ns 0 []).1 a.hs 0).1≠0
 .rw [if_pos e] at h;exact absurd h e
 rw [if_neg e]
def uu(a:As):List T:=if(bE a).2.1=0 then uv a (bE a).1.isEmpty (bE a).1 else [T.ae true,T.ae true,T.ae true,ti (bE a).2.1,ti (bE a).2.2]
theorem PE{a:As}(wf:n7 a)(j:∀d∈a.ds,d.nm.size<=9223372036854775807):Or (.call 9) [AG a] []=some (uu a):=by
 obtain⟨x,c,f⟩:=F3 (a:=a) j;unfold uu;by_cases h:(bE a).2.1=0
 .obtain⟨ok,e⟩:=pZ (es:=(bE a).1.isEmpty) h;have g:(bE a).2.2=0:=by
   exact Gq h
  rw [if_pos h];replace c:Or (.call 22) [AG a] []=some [x,ti (bE a).2.1,ti (bE a).2.2]:=c;rw [h,g] at c;exact s9 wf ok (λd i=>by have:=e d i;omega) c f
 .have b:((bE a).2.1==0)=false:=by simpa using h
  rw [if_neg h];refine ah ?_;rw [e9];simp only [aK,aP,bA,ba,f,a8,c,b,QG]
end Go.Aev.Gen
