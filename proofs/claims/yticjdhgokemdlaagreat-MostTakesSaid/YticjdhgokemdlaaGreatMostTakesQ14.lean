import Derived.Test.YticjdhgokemdlaaGreatMostTakesQ12
import Derived.Test.YticjdhgokemdlaaGreatMostTakesQ13
set_option linter.unusedSimpArgs false
set_option linter.unusedVariables false
namespace Go.Aev.Wd.Lg
open Go Go.Aev Go.Aev.Gen Go.Aev.Wd
abbrev Vl:=Nm×Nm
def VB(m:Nat)(v:Vl):Prop:=QB m (nv v.1)/\QB m (nv v.2)
theorem VB.mono{m k:Nat}{v:Vl}(h:VB m v)(hk:m<=k):VB k v:=⟨h.1.mono hk,h.2.mono hk⟩
def gT(a b:Vl):Vl:=(some (nv a.1+nv b.1),some (nv a.2+nv b.2))
def wP(a b:Vl):Vl:=(some (nv a.1 - nv b.1),some (nv a.2 - nv b.2))
def dB(a:Vl)(k:Nm):Vl:=(some (nv a.1 * nv k),some (nv a.2 * nv k))
def c7(a b:Vl):Int:=if cq (nv a.1) (nv b.1)=0 then cq (nv a.2) (nv b.2) else cq (nv a.1) (nv b.1)
structure Sz (n:Nat) (rows:List R):Prop where
 n:n<=12
 m:rows.length<=40
 tv:∀r∈rows, -1000000<=r.tv/\r.tv<=1000000
def aQ(rows:List R)(i:Nat):R:=rows.getD i default
theorem tH{rows:List R}{i:Nat}(h:i < rows.length):rows[i]? =some (aQ rows i):=by
 unfold aQ
 rw [List.getD_eq_getElem?_getD,List.getElem?_eq_getElem h];rfl
theorem im{rows:List R}{i:Nat}(h:i < rows.length):aQ rows i∈rows:=List.mem_of_getElem? (tH h)
def upV(n:Nat)(rows:List R)(v:Nat):Vl:=if v < n then(none,none) else(some ((aQ rows (v - n)).tv:Rat),if(aQ rows (v - n)).kd=2 then some ((-1:Int):Rat) else none)
def loB(n:Nat)(rows:List R)(v:Nat):Bool:= !decide (v < n) && decide ((aQ rows (v - n)).kd=3)
def loV(n:Nat)(rows:List R)(v:Nat):Vl:=if loB n rows v=true then(some ((aQ rows (v - n)).tv:Rat),none) else(none,none)
theorem kr(m:Nat):QB m 0:=⟨by simp,by simpa using Nat.one_le_two_pow⟩
theorem fL{m:Nat}{c:Int}(h:c.natAbs<=2 ^ m):QB m (c:Rat):=⟨h,Nat.one_le_two_pow⟩
theorem xv{v n:Nat}(h:¬v < n)(hv:v<=1000):IntKind.i64.wrap ((v:Int) - (n:Int))= ((v - n:Nat):Int):=by
 rw [Go.Aev.wr (by omega)];omega
section
variable {n:Nat} {rows:List R} (sz:Sz n rows) (er eb ev eg:Bool) (bas:List Nat) (val:List Vl) (gol:List Nm)
include sz
def vAt(val:List Vl)(v:Nat):Vl:=val.getD v (none,none)
omit sz in
def d7(n:Nat)(rows:List R)(val:List Vl)(v:Nat)(w:Int):Bool:=
 if w > 0 then decide (v < n) || decide (c7 (vAt val v) (upV n rows v) < 0) else !loB n rows v || decide (c7 (vAt val v) (loV n rows v) > 0)
end
open Go Go.Aev Go.Aev.Gen Go.Aev.Wd
def cAt(cel:List (List Nm))(i:Nat):List Nm:=cel.getD i []
theorem vh{cel:List (List Nm)}{i:Nat}(h:i < cel.length):cel[i]? =some (cAt cel i):=by
 unfold cAt
 rw [List.getD_eq_getElem?_getD,List.getElem?_eq_getElem h];rfl
abbrev Ln:=List (Nat×Nat)
def bJ(l:Ln):List (List T×T):=l.map fun p=>([ti (p.1:Int)],ti (p.2:Int))
def ci(v:Nat):Ln->Option Nat
 | []=>none
 | p::r=>if v=p.1 then some p.2 else ci v r
def eX(v i:Nat):Ln->Ln
 | []=> [(v,i)]
 | p::r=>if v=p.1 then(v,i)::r else p::eX v i r
def fv(v:Nat):Ln->Ln
 | []=> []
 | p::r=>if v=p.1 then r else p::fv v r
theorem oO(u v i:Nat):∀(l:Ln),ci u (eX v i l)=if u=v then some i else ci u l
 | []=>by simp [eX,ci]
 | p::r=>by
  have:=oO u v i r
  rw [eX]
  by_cases h:v=p.1
  ·rw [if_pos h]
   simp only [ci]
   by_cases h2:u=v
   ·simp [h2]
   ·have h3:¬u=p.1:=by rw [<-h];exact h2
    simp [h2,h3]
  ·rw [if_neg h]
   simp only [ci,this]
   by_cases h2:u=p.1
   ·have h3:¬u=v:=fun e=>h (by rw [<-e,h2])
    rw [if_pos h2,if_neg h3,if_pos h2]
   ·rw [if_neg h2,if_neg h2]
def ig:Ln->Prop
 | []=>True
 | p::r=>ci p.1 r=none/\ig r
theorem lT(u v:Nat):∀(l:Ln),ig l->ci u (fv v l)=if u=v then none else ci u l
 | [],_=>by simp [fv,ci]
 | p::r,h=>by
  have:=lT u v r h.2
  rw [fv]
  by_cases hv:v=p.1
  ·rw [if_pos hv]
   by_cases h2:u=v
   ·rw [if_pos h2,h2,hv];exact h.1
   ·rw [if_neg h2,ci,if_neg (by rw [<-hv];exact h2)]
  ·rw [if_neg hv]
   simp only [ci,this]
   by_cases h2:u=p.1
   ·have h3:¬u=v:=fun e=>hv (by rw [<-e,h2])
    rw [if_pos h2,if_neg h3,if_pos h2]
   ·rw [if_neg h2,if_neg h2]
theorem yl(v i:Nat):∀(l:Ln),ig l->ig (eX v i l)
 | [],_=>⟨rfl,trivial⟩
 | p::r,h=>by
  rw [eX]
  by_cases hv:v=p.1
  ·rw [if_pos hv];exact⟨by rw [hv];exact h.1,h.2⟩
  ·rw [if_neg hv]
   refine⟨?_,yl v i r h.2⟩
   rw [oO,if_neg (fun e=>hv e.symm)]
   exact h.1
theorem sG(v:Nat):∀(l:Ln),ig l->ig (fv v l)
 | [],_=>trivial
 | p::r,h=>by
  rw [fv]
  by_cases hv:v=p.1
  ·rw [if_pos hv];exact h.2
  ·rw [if_neg hv]
   refine⟨?_,sG v r h.2⟩
   rw [lT _ _ _ h.2,if_neg (fun e=>hv e.symm)]
   exact h.1
structure TL where
 bas:List Nat
 mp:Ln
 cel:List (List Nm)
 val:List Vl
 gol:List Nm
structure Fl where
 er:Bool
 eb:Bool
 ec:Bool
 ev:Bool
 eg:Bool
open Go Go.Aev Go.Aev.Gen Go.Aev.Wd
def nAt(l:List Nm)(v:Nat):Nm:=l.getD v none
theorem l0{l:List Nm}{i:Nat}(h:i < l.length):l[i]? =some (nAt l i):=by
 unfold nAt
 rw [List.getD_eq_getElem?_getD,List.getElem?_eq_getElem h];rfl
def mvF(v:Nat)(by_:Vl):List Nat->List (List Nm)->List Vl->List Vl
 | b::bs,x::xs,val=>mvF v by_ bs xs (val.set b (gT (vAt val b) (dB by_ (nAt x v))))
 | _,_,val=>val
theorem kK{val:List Vl}{i:Nat}(h:i < val.length)(x:Vl)(j:Nat):vAt (val.set i x) j=if j=i then x else vAt val j:=by
 unfold vAt
 rw [List.getD_eq_getElem?_getD,List.getD_eq_getElem?_getD,List.getElem?_set]
 by_cases hj:j=i
 ·subst hj;simp [h]
 ·have:¬i=j:=fun e=>hj e.symm
  simp [hj,this]
structure Shp (n m:Nat) (t:TL):Prop where
 b:t.bas.length=m
 c:t.cel.length=m
 r:∀x∈t.cel,x.length=n+m
 v:t.val.length=n+m
 lt:∀b∈t.bas,b < n+m
 nd:t.bas.Nodup
theorem Shp.row{n m:Nat}{t:TL}(h:Shp n m t){i:Nat}(hi:i < m):(cAt t.cel i).length=n+m:=h.r _ (List.mem_of_getElem? (vh (by rw [h.c];exact hi)))
theorem xL(v:Nat)(by_:Vl):∀(bs:List Nat) (xs:List (List Nm)) (val:List Vl),(mvF v by_ bs xs val).length=val.length
 | [],_,_=>by simp [mvF]
 | _::_,[],_=>by simp [mvF]
 | b::bs,x::xs,val=>by rw [mvF,xL];simp
section
variable {n:Nat} {rows:List R} (f:Fl) (t:TL)
def mvL(v:Nat)(w:Vl)(t:TL):TL:=⟨t.bas,t.mp,t.cel,mvF v w t.bas t.cel (t.val.set v (gT (vAt t.val v) w)),t.gol⟩
end
open Go Go.Aev Go.Aev.Gen Go.Aev.Wd
def pl(x y:Nm):Nm:=some (nv x+nv y)
def mi(x y:Nm):Nm:=some (nv x - nv y)
def tm(x y:Nm):Nm:=some (nv x * nv y)
def ov(x y:Nm):Nm:=some (nv x / nv y)
def ng(x:Nm):Nm:=some (-(nv x))
def iN(x:Int):Nm:=some (x:Rat)
abbrev QN(m:Nat)(x:Nm):Prop:=QB m (nv x)
abbrev NL(x:Nm):List T:= [tb (decide ((nv x).num < 0)),T.str (aI (dz (nv x).num)),tb (nc x),T.str (nd x)]
theorem p63{m k:Nat}{x y:Nm}(hp:QN m x)(hq:QN k y)(h:m+k+1<=6300):Or (.call 63) [EN x,EN y] []=some (NL (pl x y)):=t63 hp hq h
theorem Ch{m k:Nat}{x y:Nm}(hp:QN m x)(hq:QN k y)(h:m+k+1<=6300):Or (.call 121) [EN x,EN y] []=some (NL (mi x y)):=Df hp hq h
theorem p64{m k:Nat}{x y:Nm}(hp:QN m x)(hq:QN k y)(h:m+k<=6300):Or (.call 64) [EN x,EN y] []=some (NL (tm x y)):=t64 hp hq h
theorem p83{m k:Nat}{x y:Nm}(hp:QN m x)(hq:QN k y)(h:m+k<=6300)(h0:nv y≠0):Or (.call 83) [EN x,EN y] []=some (NL (ov x y))/\QN (m+k) (ov x y):=t83 hp hq h h0
theorem BT(x:Nm):Or (.call 120) [EN x] []=some (NL (ng x)):=yI x
theorem p32(x:Int)(h: -9223372036854775808<=x/\x < 9223372036854775808):Or (.call 32) [I x] []=some (NL (iN x)):=t32 x h
theorem kX(q:Rat):q.num.sign=0↔q=0:=by rw [Int.sign_eq_zero_iff_zero,Rat.num_eq_zero]
abbrev bxN(x:Nm):Blk:=Blk.box [B (decide ((nv x).num < 0)),AV.t (T.str (aI (dz (nv x).num))),B (nc x),AV.t (T.str (nd x))]
def sbF(c:Nm):List Nm->List Nm->List Nm
 | r::rs,y::ys=>(if nv r=0 then y else pl y (tm c r))::sbF c rs ys
 | _,ys=>ys
def gh(row:List Nm)(v:Nat)(l:List Nm):List Nm:=if nv (nAt l v)=0 then l else sbF (nAt l v) row (l.set v none)
theorem CY{α:Type}(a:List α)(b v:α)(r:List α)(i:Nat)(h:a.length=i):(a++b::r).set i v=a++v::r:=by
 subst h;simp
def scF(row:List Nm)(v i:Nat):Nat->List (List Nm)->List (List Nm)
 | _,[]=> []
 | k,x::xs=>(if k=i then x else gh row v x)::scF row v i (k+1) xs
def prF(x:List Nm)(v b:Nat):List Nm:=((x.map fun y=>ng (ov y (nAt x v))).set v none).set b (ov (iN 1) (nAt x v))
def pvL(i v b:Nat)(row:List Nm)(eg:Bool)(t:TL):TL:=
 ⟨t.bas.set i v,eX v i (fv b t.mp),(scF row v i 0 t.cel).set i row,t.val,if eg then t.gol else gh row v t.gol⟩
theorem pd(row:List Nm)(v i:Nat):∀(xs:List (List Nm)) (k:Nat),(scF row v i k xs).length=xs.length
 | [],_=>rfl
 | x::xs,k=>by simp [scF,pd row v i xs (k+1)]
section
variable {n:Nat} {rows:List R} (f:Fl) (t:TL)
theorem Bf{k:Nat}(h:k<=100000):ap (k:Int) (k:Int)=some ():=by
 unfold ap
 rw [if_pos ⟨by omega,by omega,by unfold lim;omega⟩]
end
open Go Go.Aev Go.Aev.Gen Go.Aev.Wd
section
variable {n:Nat} {rows:List R} (f:Fl) (t:TL)
end
def enF(n:Nat)(rows:List R)(val:List Vl)(way:Int):List Nm->Nat->Option Nat
 | [],_=>none
 | x::xs,v=>if nv x≠0/\d7 n rows val v (way * (nv x).num.sign)=true then some v else enF n rows val way xs (v+1)
def stW(n:Nat)(rows:List R)(b:Nat)(way:Int)(i v:Nat)(t:TL):Vl:=dB (wP (if way > 0 then loV n rows b else upV n rows b) (vAt t.val b)) (ov (iN 1) (nAt (cAt t.cel i) v))
def stL(n:Nat)(rows:List R)(eg:Bool)(b:Nat)(way:Int)(i v:Nat)(t:TL):TL:=
 pvL i v b (prF (cAt t.cel i) v b) eg (mvL v (stW n rows b way i v t) t)
theorem ms(q:Rat):q.num.sign=1\/q.num.sign= -1\/q.num.sign=0:=by
 rcases Int.lt_trichotomy q.num 0 with h | h | h
 ·exact .inr (.inl (Int.sign_eq_neg_one_of_neg h))
 ·exact .inr (.inr (by rw [h];rfl))
 ·exact .inl (Int.sign_eq_one_of_pos h)
theorem Shp.mv{n m:Nat}{t:TL}(h:Shp n m t)(v:Nat)(w:Vl):Shp n m (mvL v w t) where
 b:=h.b
 c:=h.c
 r:=h.r
 v:=by show(mvF _ _ _ _ _).length=_;rw [xL,List.length_set];exact h.v
 lt:=h.lt
 nd:=h.nd
section
variable {n:Nat} {rows:List R} (f:Fl) (t:TL)
end
section
variable {n:Nat} {rows:List R} (f:Fl) (t:TL)
end
end Go.Aev.Wd.Lg
