import Derived.Test.YtcjplcpngagalaaDoorBlastNoneQ8
import Derived.Test.YtcjplcpngagalaaDoorBlastNoneQ12
set_option linter.all false
namespace Go.Aev.Gen
open Go Go.Aev
abbrev ML:Nat:=8796093022208
structure Va where
 em:Bool
 n:Int
 d:Int
 ec:Bool
 cs:List (Int×Int)
 r:Int
structure En where
 ea:Bool
 ar:List Int
 to:Va
structure Me where
 em:Bool
 er:Bool
 rs:List En
 re:Va
def Gp(l:List (Int×Int)):List (List T):=l.map λp=> [ti p.1,ti p.2]
def cT(v:Va):T:=bif v.em && v.cs.isEmpty then T.af v.ec else T.ad 2 v.ec (Gp v.cs)
def aY(l:List En):List (List T):=l.map λe=> [T.ad 1 e.ea (enc e.ar),ti e.to.n,ti e.to.d,cT e.to,ti e.to.r]
def mT(m:Me):T:=bif m.em && m.rs.isEmpty then T.af m.er else T.ad 5 m.er (aY m.rs)
structure xJ (m:Me):Prop where
 re:m.re.cs.length<=ML
 rs:∀e∈m.rs,e.to.cs.length<=ML
 rcc:m.re.ec=true->m.re.cs= []
 Ln:∀e∈m.rs,e.to.ec=true->e.to.cs= []
 ea:∀e∈m.rs,e.ea=true->e.ar= []
open Go Go.Aev
def su(v u:Va):Prop:=v.n=u.n/\v.d=u.d/\v.cs=u.cs/\v.r=u.r
def p8:List En->List En->Prop
 | [],[]=>True
 | e::r,x::t=>(e.ar=x.ar/\su e.to x.to)/\p8 r t
 | _,_=>False
def kH:List Me->List Me->Prop
 | [],[]=>True
 | m::r,x::t=>(p8 m.rs x.rs/\su m.re x.re)/\kH r t
 | _,_=>False
theorem su.rfl{v:Va}:su v v:=⟨.refl _, .refl _, .refl _, .refl _⟩
theorem p8.rfl:∀{l:List En},p8 l l
 | []=>trivial
 | _::_=>⟨⟨.refl _, .rfl⟩,p8.rfl⟩
theorem kH.rfl:∀{l:List Me},kH l l
 | []=>trivial
 | _::_=>⟨⟨.rfl, .rfl⟩,kH.rfl⟩
theorem kH.app:∀{a b c d:List Me},kH a b->kH c d->kH (a++c) (b++d)
 | [],[],_,_,_,h=>h
 | _::_,_::_,_,_,h,e=>⟨h.1,kH.app h.2 e⟩
 | [],_::_,_,_,h,_=>h.elim
 | _::_,[],_,_,h,_=>h.elim
structure Ll (m:Me):Prop where
 rl:m.rs.length<=1000
 re:m.re.cs.length<=ML
 rs:∀e∈m.rs,e.to.cs.length<=ML/\e.ar.length<=1000
structure DN (m:Me):Prop where
 rl:m.rs.length<=1000
 al:∀e∈m.rs,e.ar.length<=1000
abbrev fz:ab:=ab.box [I 0,I 0]
structure Lj (ds:List Dc) (ms:List Me):Prop where
 dl:ds.length<=100
 ml:ms.length=ds.length
 wf:∀m∈ms,xJ m
 ok:∀m∈ms,DN m
open Go Go.Aev
structure Lk (a:As) (ms:List Me):Prop where
 aw:lD a
 nm:∀d∈a.ds,d.nm.size<=9223372036854775807
 wf:∀m∈ms,xJ m
end Go.Aev.Gen
