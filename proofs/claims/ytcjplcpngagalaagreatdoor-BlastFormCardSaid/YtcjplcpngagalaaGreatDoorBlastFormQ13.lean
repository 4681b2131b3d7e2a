import Derived.Test.YtcjplcpngagalaaGreatDoorBlastFormQ8
import Derived.Test.YtcjplcpngagalaaGreatDoorBlastFormQ12
set_option linter.all false
namespace Go.Aev.Gen
open Go Go.Aev Go.IntKind
abbrev ML:Nat:=8796093022208
structure Va where
 em:Bool
 n:Int
 d:Int
 ec:Bool
 cs:List (Int×Int)
 r:Int
structure En where
 ea:Bool
 ar:List Int
 to:Va
structure Me where
 em:Bool
 er:Bool
 rs:List En
 re:Va
def HD(l:List (Int×Int)):List (List T):=l.map λp=> [ti p.1,ti p.2]
def cT(v:Va):T:=bif v.em && v.cs.isEmpty then T.af v.ec else T.ad 2 v.ec (HD v.cs)
def ba(l:List En):List (List T):=l.map λe=> [T.ad 1 e.ea (enc e.ar),ti e.to.n,ti e.to.d,cT e.to,ti e.to.r]
def mT(m:Me):T:=bif m.em && m.rs.isEmpty then T.af m.er else T.ad 5 m.er (ba m.rs)
structure yA (m:Me):Prop where
 re:m.re.cs.length<=ML
 rs:∀e∈m.rs,e.to.cs.length<=ML
 rcc:m.re.ec=true->m.re.cs= []
 MZ:∀e∈m.rs,e.to.ec=true->e.to.cs= []
 ea:∀e∈m.rs,e.ea=true->e.ar= []
open Go Go.Aev Go.IntKind
def s4(v u:Va):Prop:=v.n=u.n/\v.d=u.d/\v.cs=u.cs/\v.r=u.r
def qF:List En->List En->Prop
 | [],[]=>True
 | e::r,x::t=>(e.ar=x.ar/\s4 e.to x.to)/\qF r t
 | _,_=>False
def kZ:List Me->List Me->Prop
 | [],[]=>True
 | m::r,x::t=>(qF m.rs x.rs/\s4 m.re x.re)/\kZ r t
 | _,_=>False
theorem s4.rfl{v:Va}:s4 v v:=⟨.refl _, .refl _, .refl _, .refl _⟩
theorem qF.rfl:∀{l:List En},qF l l
 | []=>trivial
 | _::_=>⟨⟨.refl _, .rfl⟩,qF.rfl⟩
theorem kZ.rfl:∀{l:List Me},kZ l l
 | []=>trivial
 | _::_=>⟨⟨.rfl, .rfl⟩,kZ.rfl⟩
theorem kZ.app:∀{a b c d:List Me},kZ a b->kZ c d->kZ (a++c) (b++d)
 | [],[],_,_,_,h=>h
 | _::_,_::_,_,_,h,e=>⟨h.1,kZ.app h.2 e⟩
 | [],_::_,_,_,h,_=>h.elim
 | _::_,[],_,_,h,_=>h.elim
structure MX (m:Me):Prop where
 rl:m.rs.length<=1000
 re:m.re.cs.length<=ML
 rs:∀e∈m.rs,e.to.cs.length<=ML/\e.ar.length<=1000
structure ER (m:Me):Prop where
 rl:m.rs.length<=1000
 al:∀e∈m.rs,e.ar.length<=1000
abbrev fz:ab:=ab.box [I 0,I 0]
def dI(s:Int):Nat:=(s - 10).toNat
theorem Im{s:Int}:aF s=true↔10 < s/\s<=18:=by simp [aF]
structure MV (ds:List Dc) (ms:List Me):Prop where
 dl:ds.length<=100
 ml:ms.length=ds.length
 wf:∀m∈ms,yA m
 ok:∀m∈ms,ER m
open Go Go.Aev Go.IntKind
theorem uu(s:Int):Or (.call 20) [I s] []=some [ti (if aF s=true then((dI s:Nat):Int) else 0)]:=by
 refine ah ?_;rw [Ga];simp only [FH];cases h:aF s with
 | true=>
  have c:=Im.1 h;have a:(decide (s > 10) && decide (s<=18))=true:=by simpa [aF] using h
  have b:i64.wrap (s - 10)= ((dI s:Nat):Int):=by rw [wr (by omega)];unfold dI;omega
  simp only [a,bt,b,↓reduceIte]
 | false=>
  have a:(decide (s > 10) && decide (s<=18))=false:=by simpa [aF] using h
  simp only [a,bB,NA,↓reduceIte]
structure MW (a:As) (ms:List Me):Prop where
 aw:lX a
 nm:∀d∈a.ds,d.nm.size<=9223372036854775807
 wf:∀m∈ms,yA m
end Go.Aev.Gen
