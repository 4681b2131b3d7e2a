import Derived.Test.YticjdhgokemdlaaMostSureQ5
import Derived.Test.YticjdhgokemdlaaChecked
import Derived.KernelRfl
set_option linter.all false
namespace Go.Aev.Gen
open Go Go.Aev Go.IntKind
def Jg{a R:Type}[Inhabited a](m:Option a)(k:a->Option R):Option R:=ab none m k
theorem Dq{b R:Type}[Inhabited b](a:b)(k:b->Option R):Jg (some a) k=k a:=rfl
abbrev Ji(n:Int):T:= .int .i64 n
abbrev Jb(b:Bool):T:= .bool b
abbrev Jl(k:Nat)(e:Bool)(l:List (List T)):AV:= .t (.ae k e l)
abbrev Js(s:ByteArray):AV:= .t (.str s)
abbrev Jo(k:Nat):AV:= .own (.c k)
abbrev Jr(k:Nat):AV:= .ref (.c k) 0
abbrev Ja(b:Bool)(s:ByteArray)(c:Bool)(t:ByteArray):AV:= .agg [B b,Js s,B c,Js t]
abbrev Jw(v:Int):Int:=i64.wrap (v+1)
abbrev JL:=List (List T)
def G0(m:Option (List T))(k:Int->Int->Option (List T)):Option (List T):=ab none m λl=>ab none l.head? λa=>ab none (T.int? .i64 a) λb=>ab none l.tail.head? λc=>ab none (T.int? .i64 c) λd=>k b d
def G1(i:Int)(L:JL)(k:(Bool×JL)->Int->Int->Option (List T)):Option (List T):=ab none (if 0<=i/\i < (L.length:Int) then some () else none) λ_=>ab none L[i.toNat]? λl=>ab none l.head? λa=>ab none l.tail.head? λb=>ab none l.tail.tail.head? λc=>ab none (T.aP 1 a) λd=>ab none (T.int? .i64 b) λe=>ab none (T.int? .i64 c) λf=>k d e f
def G2(i:Int)(L:JL)(k:Int->Option (List T)):Option (List T):=ab none (if 0<=i/\i < (L.length:Int) then some () else none) λ_=>ab none L[i.toNat]? λl=>ab none l.head? λa=>ab none (T.int? .i64 a) λb=>k b
def G3(m:Option (List T))(k:Bool->Option (List T)):Option (List T):=ab none m λl=>ab none l.head? λa=>ab none a.bool? λb=>k b
def G4(m:Option (List T))(k:(Bool×JL)->Option (List T)):Option (List T):=ab none m λl=>ab none l.head? λa=>ab none (T.aP 1 a) λb=>k b
def G5(c:Option Bool)(m:Option (List T))(k:Bool->Option (List T)):Option (List T):=ab none m λl=>ab c l.head? λa=>ab c a.bool? λb=>k b
def G6(c:Option Bool)(m:Option (List T))(k:(Bool×JL)->Option (List T)):Option (List T):=ab none m λl=>ab c l.head? λa=>ab c (T.aP 4 a) λb=>k b
def G7(c:Option Bool)(m:Option (List T))(k:Bool->ByteArray->Bool->ByteArray->Option (List T)):Option (List T):=ab none m λl=>ab c l.head? λa=>ab c a.bool? λb=>ab c l.tail.head? λd=>ab c d.bw λe=>ab c l.tail.tail.head? λf=>ab c f.bool? λg=>ab c l.tail.tail.tail.head? λh=>ab c h.bw λi=>k b e g i
def G8(c:Option Bool)(m:Option (List T))(k:Int->Option (List T)):Option (List T):=ab none m λl=>ab c l.head? λa=>ab c (T.int? .i64 a) λb=>k b
def G9(m:Option (List T))(k:Int->Option (List T)):Option (List T):=ab none m λl=>ab none l.head? λa=>ab none (T.int? .i64 a) λb=>k b
def bM(m:Option (List T))(k:Bool->ByteArray->Option (List T)):Option (List T):=ab none m λl=>ab none l.head? λa=>ab none a.bool? λb=>ab none l.tail.head? λc=>ab none c.bw λd=>k b d
def aX(m:Option (List T))(k:Bool->ByteArray->Bool->ByteArray->Option (List T)):Option (List T):=ab none m λl=>ab none l.head? λa=>ab none a.bool? λb=>ab none l.tail.head? λc=>ab none c.bw λd=>ab none l.tail.tail.head? λe=>ab none e.bool? λf=>ab none l.tail.tail.tail.head? λg=>ab none g.bw λh=>k b d f h
def pn(c:Option Bool)(i:Int)(L:JL)(k:Int->Option (List T)):Option (List T):=ab c (if 0<=i/\i < (L.length:Int) then some () else none) λ_=>ab c L[i.toNat]? λl=>ab c l.head? λa=>ab c (T.int? .i64 a) λb=>k b
def zj(m:Option (List T))(k:(Bool×JL)->Option (List T)):Option (List T):=ab none m λl=>ab none l.head? λa=>ab none (T.aP 4 a) λb=>k b
def zk(m:Option (List T))(k:(List T)->(Bool×JL)->Bool->ByteArray->Bool->ByteArray->Option (List T)):Option (List T):=ab none m λl=>ab none l.head? λa=>ab none (T.aP 4 a) λb=>ab none l.tail.head? λc=>ab none c.bool? λd=>ab none l.tail.tail.head? λe=>ab none e.bw λf=>ab none l.tail.tail.tail.head? λg=>ab none g.bool? λh=>ab none l.tail.tail.tail.tail.head? λi=>ab none i.bw λj=>k l b d f h j
def po(m:Option T)(k:Bool->Option (List T)):Option (List T):=ab none m λl=>ab none l.bool? λa=>k a
def qE(i:Int)(L:JL)(k:Int->Int->Option (List T)):Option (List T):=ab none (if 0<=i/\i < (L.length:Int) then some () else none) λ_=>ab none L[i.toNat]? λl=>ab none l.head? λa=>ab none l.tail.head? λb=>ab none (T.int? .i64 a) λc=>ab none (T.int? .i64 b) λd=>k c d
def iq(i:Int)(L:JL)(k:Bool->ByteArray->Bool->ByteArray->Option (List T)):Option (List T):=ab none (if 0<=i/\i < (L.length:Int) then some () else none) λ_=>ab none L[i.toNat]? λl=>ab none l.head? λa=>ab none l.tail.head? λb=>ab none l.tail.tail.head? λc=>ab none l.tail.tail.tail.head? λd=>ab none a.bool? λe=>ab none b.bw λf=>ab none c.bool? λg=>ab none d.bw λh=>k e f g h
def qF(m:Option (List T))(k:Bool->ByteArray->Bool->ByteArray->Int->Option (List T)):Option (List T):=ab none m λl=>ab none l.head? λa=>ab none a.bool? λb=>ab none l.tail.head? λc=>ab none c.bw λd=>ab none (List.drop 2 l).head? λe=>ab none e.bool? λf=>ab none (List.drop 2 l).tail.head? λg=>ab none g.bw λh=>ab none (List.drop 2 (List.drop 2 l)).head? λi=>ab none (T.int? .i64 i) λj=>k b d f h j
def qG(m:Option (List T))(k:Bool->ByteArray->Int->Option (List T)):Option (List T):=ab none m λl=>ab none l.head? λa=>ab none a.bool? λb=>ab none l.tail.head? λc=>ab none c.bw λd=>ab none (List.drop 2 l).head? λe=>ab none (T.int? .i64 e) λf=>k b d f
def vl(m:Option (List T))(k:(Bool×JL)->(Bool×JL)->Option (List T)):Option (List T):=ab none m λl=>ab none l.head? λa=>ab none (T.aP 1 a) λb=>ab none l.tail.head? λc=>ab none (T.aP 1 c) λd=>k b d
def fB(i:Int)(L:JL)(k:Int->Option (List T)):Option (List T):=ab none (if 0<=i/\i < (L.length:Int) then some () else none) λ_=>ab none L[i.toNat]? λl=>ab none l.head? λa=>ab none (T.int? u32 a) λb=>k b
def ir(m:Option (List T))(k:Int->Option (List T)):Option (List T):=ab none m λl=>ab none l.head? λa=>ab none (T.int? u32 a) λb=>k b
def zl(m:Option (List T))(k:(Bool×JL)->Int->Option (List T)):Option (List T):=ab none m λl=>ab none l.head? λa=>ab none (T.aP 1 a) λb=>ab none l.tail.head? λc=>ab none (T.int? u32 c) λd=>k b d
def zm(c:Option Bool)(i:Int)(L:JL)(k:Bool->ByteArray->Bool->ByteArray->Option (List T)):Option (List T):=ab c (if 0<=i/\i < (L.length:Int) then some () else none) λ_=>ab c L[i.toNat]? λl=>ab c l.head? λa=>ab c l.tail.head? λb=>ab c l.tail.tail.head? λd=>ab c l.tail.tail.tail.head? λe=>ab c a.bool? λf=>ab c b.bw λg=>ab c d.bool? λh=>ab c e.bw λj=>k f g h j
def sR(m:Option (List T))(k:Bool->Int->Int->Option (List T)):Option (List T):=ab none m λl=>ab none l.head? λa=>ab none a.bool? λb=>ab none l.tail.head? λc=>ab none (T.int? .i64 c) λd=>ab none l.tail.tail.head? λe=>ab none (T.int? .i64 e) λf=>k b d f
def qH(c:Option Bool)(m:Option (List T))(k:Int->Option (List T)):Option (List T):=ab c m λl=>ab c l.head? λa=>ab c (T.int? u32 a) λb=>k b
def sS(c:Option Bool)(m:Option (List T))(k:Int->Option (List T)):Option (List T):=ab none m λl=>ab c l.head? λa=>ab c (T.int? u64 a) λb=>k b
def zn(m:Option (List T))(k:(Bool×JL)->Bool->Option (List T)):Option (List T):=ab none m λl=>ab none l.head? λa=>ab none (T.aP 1 a) λb=>ab none l.tail.head? λc=>ab none c.bool? λd=>k b d
def vo(m:Option (List T))(k:Bool->(Bool×JL)->Option (List T)):Option (List T):=ab none m λl=>ab none l.head? λa=>ab none a.bool? λb=>ab none ((List.drop 1 l).head?.bind λz=>T.aP 1 z) λc=>k b c
def vr(m:Option (List T))(k:Int->Bool->Option (List T)):Option (List T):=ab none m λl=>ab none l.head? λa=>ab none (T.int? .i64 a) λb=>ab none l.tail.head? λc=>ab none c.bool? λd=>k b d
def zo(c:Option Bool)(m:Option (List T))(k:Int->Int->Option (List T)):Option (List T):=ab none m λl=>ab c l.head? λa=>ab c (T.int? .i64 a) λb=>ab c l.tail.head? λd=>ab c (T.int? .i64 d) λe=>k b e
def De(m:Option (List T))(k:Bool->(Bool×JL)->Option (List T)):Option (List T):=ab none m λl=>ab none l.head? λe=>ab none (List.drop 1 l).head? λa=>ab none a.bool? λb=>ab none (List.drop 1 l).tail.head? λc=>ab none (T.aP 1 c) λd=>k b d
def Df(m:Option (List T))(k:Bool->(Bool×JL)->Bool->(Bool×JL)->Option (List T)):Option (List T):=ab none m λl=>ab none l.head? λi=>ab none l.tail.head? λj=>ab none (List.drop 2 l).head? λa=>ab none a.bool? λb=>ab none (List.drop 2 l).tail.head? λc=>ab none (T.aP 1 c) λd=>ab none (List.drop 2 (List.drop 2 l)).head? λe=>ab none e.bool? λf=>ab none (List.drop 2 (List.drop 2 l)).tail.head? λg=>ab none (T.aP 1 g) λh=>k b d f h
def Dh(m:Option (List T))(k:T->Option (List T)):Option (List T):=ab none m λl=>ab none l.head? λa=>k a
def Di(m:Option (List T))(k:Int->Option (List T)):Option (List T):=ab none m λl=>ab none l.head? λa=>ab none (T.int? u64 a) λb=>k b
def Dj(m:Option (List T))(k:Bool->(Bool×JL)->Bool->(Bool×JL)->Option (List T)):Option (List T):=ab none m λl=>ab none l.head? λi=>ab none (List.drop 1 l).head? λa=>ab none a.bool? λb=>ab none (List.drop 1 l).tail.head? λc=>ab none (T.aP 1 c) λd=>ab none (List.drop 1 l).tail.tail.head? λe=>ab none e.bool? λf=>ab none (List.drop 1 l).tail.tail.tail.head? λg=>ab none (T.aP 1 g) λh=>k b d f h
def vu(m:Option (List T))(k:Int->(Bool×JL)->(Bool×JL)->(List (List T×T))->(Bool×List Row)->(Bool×JL)->(Bool×JL)->Option (List T)):Option (List T):=ab none m λl=>ab none l.head? λe=>ab none (T.int? .i64 e) λf=>ab none l.tail.head? λg=>ab none (T.aP 3 g) λh=>ab none l.tail.tail.head? λi=>ab none (T.aP 1 i) λj=>ab none l.tail.tail.tail.head? λn=>ab none (iy n) λo=>ab none l.tail.tail.tail.tail.head? λp=>ab none (kI p) λq=>ab none l.tail.tail.tail.tail.tail.head? λa=>ab none (T.aP 8 a) λb=>ab none l.tail.tail.tail.tail.tail.tail.head? λc=>ab none (T.aP 4 c) λd=>k f h j o q b d
def vw(m:Option (List T))(k:(Bool×JL)->Bool->Int->(Bool×JL)->(Bool×List Row)->(Bool×JL)->(List (List T×T))->(Bool×JL)->(Bool×JL)->Option (List T)):Option (List T):=ab none m λl=>ab none l.head? λg=>ab none (T.aP 4 g) λh=>ab none l.tail.head? λi=>ab none i.bool? λj=>ab none (List.drop 2 l).head? λn=>ab none (T.int? .i64 n) λo=>ab none (List.drop 2 l).tail.head? λp=>ab none (T.aP 3 p) λq=>ab none (List.drop 2 l).tail.tail.head? λt=>ab none (List.drop 2 l).tail.tail.tail.head? λu=>ab none (List.drop 2 l).tail.tail.tail.tail.head? λa=>ab none (kI a) λb=>ab none (List.drop 2 l).tail.tail.tail.tail.tail.head? λr=>ab none (List.drop 2 l).tail.tail.tail.tail.tail.tail.head? λs=>ab none ((List.drop 7 (List.drop 2 l)).head?.bind λz=>T.aP 1 z) λc=>ab none ((List.drop 7 (List.drop 2 l)).tail.head?.bind λz=>iy z) λd=>ab none ((List.drop 7 (List.drop 2 l)).tail.tail.head?.bind λz=>T.aP 8 z) λe=>ab none ((List.drop 7 (List.drop 2 l)).tail.tail.tail.head?.bind λz=>T.aP 4 z) λf=>k h j o q b c d e f
def mU(m:Option (List T))(k:(Bool×JL)->Bool->Option (List T)):Option (List T):=ab none m λl=>ab none l.head? λa=>ab none (T.aP 2 a) λb=>ab none l.tail.head? λc=>ab none c.bool? λd=>k b d
def zp(m:Option (List T))(k:(Bool×JL)->(Bool×JL)->Bool->Int->(Bool×JL)->(Bool×List Row)->(Bool×JL)->(Bool×JL)->(List (List T×T))->(Bool×JL)->Option (List T)):Option (List T):=ab none m λl=>ab none l.head? λh=>ab none (T.aP 4 h) λi=>ab none l.tail.head? λj=>ab none (T.aP 4 j) λn=>ab none l.tail.tail.head? λo=>ab none o.bool? λp=>ab none (List.drop 3 l).head? λq=>ab none (T.int? .i64 q) λr=>ab none (List.drop 3 l).tail.head? λs=>ab none (T.aP 3 s) λt=>ab none (List.drop 3 l).tail.tail.head? λu=>ab none (List.drop 3 l).tail.tail.tail.head? λv=>ab none (List.drop 3 l).tail.tail.tail.tail.head? λa=>ab none (kI a) λb=>ab none (List.drop 3 l).tail.tail.tail.tail.tail.head? λw=>ab none (List.drop 3 l).tail.tail.tail.tail.tail.tail.head? λc=>ab none (T.aP 4 c) λd=>ab none ((List.drop 7 (List.drop 3 l)).head?.bind λz=>T.aP 1 z) λe=>ab none ((List.drop 7 (List.drop 3 l)).tail.head?.bind λz=>iy z) λf=>ab none ((List.drop 7 (List.drop 3 l)).tail.tail.head?.bind λz=>T.aP 8 z) λg=>k i n p r t b d e f g
def vA(m:Option (List T))(k:(Bool×JL)->Int->(Bool×JL)->(Bool×List Row)->(Bool×JL)->(Bool×JL)->(List (List T×T))->(Bool×JL)->Option (List T)):Option (List T):=ab none m λl=>ab none l.head? λf=>ab none (T.aP 4 f) λg=>ab none (List.drop 1 l).head? λh=>ab none (T.int? .i64 h) λi=>ab none (List.drop 1 l).tail.head? λj=>ab none (T.aP 3 j) λn=>ab none (List.drop 1 l).tail.tail.head? λr=>ab none (List.drop 1 l).tail.tail.tail.head? λs=>ab none (List.drop 1 l).tail.tail.tail.tail.head? λo=>ab none (kI o) λp=>ab none (List.drop 1 l).tail.tail.tail.tail.tail.head? λq=>ab none (List.drop 1 l).tail.tail.tail.tail.tail.tail.head? λa=>ab none (T.aP 4 a) λb=>ab none ((List.drop 7 (List.drop 1 l)).head?.bind λz=>T.aP 1 z) λc=>ab none ((List.drop 7 (List.drop 1 l)).tail.head?.bind λz=>iy z) λd=>ab none ((List.drop 7 (List.drop 1 l)).tail.tail.head?.bind λz=>T.aP 8 z) λe=>k g i n p b c d e
def vB(m:Option (List T))(k:Int->Int->Bool->Option (List T)):Option (List T):=ab none m λl=>ab none l.head? λa=>ab none (T.int? .i64 a) λb=>ab none l.tail.head? λc=>ab none (T.int? .i64 c) λd=>ab none (List.drop 2 l).head? λe=>ab none e.bool? λf=>k b d f
def fb{a:Type}[Inhabited a](i:Int)(L:List a)(k:a->Option (List T)):Option (List T):=ab none (if 0<=i/\i < (L.length:Int) then some () else none) λ_=>ab none L[i.toNat]? λl=>k l
def vC(m:Option (List T))(k:Bool->ByteArray->Bool->ByteArray->Bool->ByteArray->Bool->ByteArray->Option (List T)):Option (List T):=ab none m λl=>ab none l.head? λg=>ab none l.tail.head? λh=>ab none l.tail.tail.head? λi=>ab none l.tail.tail.tail.head? λj=>ab none l.tail.tail.tail.tail.head? λn=>ab none l.tail.tail.tail.tail.tail.head? λo=>ab none l.tail.tail.tail.tail.tail.tail.head? λp=>ab none l.tail.tail.tail.tail.tail.tail.tail.head? λq=>ab none g.bool? λr=>ab none h.bw λs=>ab none i.bool? λa=>ab none j.bw λb=>ab none n.bool? λc=>ab none o.bw λd=>ab none p.bool? λe=>ab none q.bw λf=>k r s a b c d e f
def gx(m:Option (List T))(k:Bool->ByteArray->Bool->ByteArray->Option (List T)):Option (List T):=ab none m λl=>ab none l.head? λa=>ab none l.tail.head? λb=>ab none l.tail.tail.head? λc=>ab none l.tail.tail.tail.head? λd=>ab none a.bool? λe=>ab none b.bw λf=>ab none c.bool? λg=>ab none d.bw λh=>k e f g h
def lp(m:Option (List T))(k:(Bool×JL)->Int->(Bool×JL)->(Bool×List Row)->(Bool×JL)->(List (List T×T))->(Bool×JL)->(Bool×JL)->Option (List T)):Option (List T):=ab none m λl=>ab none l.head? λe=>ab none (T.aP 4 e) λf=>ab none (List.drop 1 l).head? λg=>ab none (T.int? .i64 g) λh=>ab none (List.drop 1 l).tail.head? λi=>ab none (T.aP 3 i) λj=>ab none (List.drop 1 l).tail.tail.head? λr=>ab none (List.drop 1 l).tail.tail.tail.head? λs=>ab none (List.drop 1 l).tail.tail.tail.tail.head? λn=>ab none (kI n) λo=>ab none (List.drop 1 l).tail.tail.tail.tail.tail.head? λp=>ab none (List.drop 1 l).tail.tail.tail.tail.tail.tail.head? λq=>ab none ((List.drop 7 (List.drop 1 l)).head?.bind λz=>T.aP 1 z) λa=>ab none ((List.drop 7 (List.drop 1 l)).tail.head?.bind λz=>iy z) λb=>ab none ((List.drop 7 (List.drop 1 l)).tail.tail.head?.bind λz=>T.aP 8 z) λc=>ab none ((List.drop 7 (List.drop 1 l)).tail.tail.tail.head?.bind λz=>T.aP 4 z) λd=>k f h j o a b c d
def gL(m:Option (List T))(k:Bool->ByteArray->Bool->ByteArray->Bool->ByteArray->Bool->ByteArray->Bool->Option (List T)):Option (List T):=ab none m λl=>ab none l.head? λi=>ab none i.bool? λj=>ab none l.tail.head? λn=>ab none n.bw λo=>ab none l.tail.tail.head? λp=>ab none p.bool? λq=>ab none l.tail.tail.tail.head? λr=>ab none r.bw λs=>ab none l.tail.tail.tail.tail.head? λt=>ab none t.bool? λu=>ab none l.tail.tail.tail.tail.tail.head? λa=>ab none a.bw λb=>ab none l.tail.tail.tail.tail.tail.tail.head? λc=>ab none c.bool? λd=>ab none l.tail.tail.tail.tail.tail.tail.tail.head? λe=>ab none e.bw λf=>ab none (List.drop 8 l).head? λg=>ab none g.bool? λh=>k j o q s u b d f h
def jm(i:Int)(L:JL)(k:Bool->ByteArray->Bool->ByteArray->Bool->ByteArray->Bool->ByteArray->Option (List T)):Option (List T):=ab none (if 0<=i/\i < (L.length:Int) then some () else none) λ_=>ab none L[i.toNat]? λl=>ab none l.head? λg=>ab none l.tail.head? λh=>ab none l.tail.tail.head? λj=>ab none l.tail.tail.tail.head? λm=>ab none l.tail.tail.tail.tail.head? λn=>ab none l.tail.tail.tail.tail.tail.head? λo=>ab none l.tail.tail.tail.tail.tail.tail.head? λp=>ab none l.tail.tail.tail.tail.tail.tail.tail.head? λq=>ab none g.bool? λr=>ab none h.bw λs=>ab none j.bool? λa=>ab none m.bw λb=>ab none n.bool? λc=>ab none o.bw λd=>ab none p.bool? λe=>ab none q.bw λf=>k r s a b c d e f
def dL(m:Option (List T))(k:Bool->ByteArray->Bool->ByteArray->Bool->ByteArray->Bool->ByteArray->Option (List T)):Option (List T):=ab none m λl=>ab none l.head? λg=>ab none g.bool? λh=>ab none l.tail.head? λi=>ab none i.bw λj=>ab none l.tail.tail.head? λn=>ab none n.bool? λo=>ab none l.tail.tail.tail.head? λp=>ab none p.bw λq=>ab none l.tail.tail.tail.tail.head? λr=>ab none r.bool? λs=>ab none l.tail.tail.tail.tail.tail.head? λa=>ab none a.bw λb=>ab none l.tail.tail.tail.tail.tail.tail.head? λc=>ab none c.bool? λd=>ab none l.tail.tail.tail.tail.tail.tail.tail.head? λe=>ab none e.bw λf=>k h j o q s b d f
def eB(m:Option (List T))(k:Int->(Bool×JL)->(Bool×List Row)->(Bool×JL)->(List (List T×T))->(Bool×JL)->(Bool×JL)->Option (List T)):Option (List T):=ab none m λl=>ab none l.head? λe=>ab none (T.int? .i64 e) λf=>ab none l.tail.head? λg=>ab none (T.aP 3 g) λh=>ab none l.tail.tail.head? λn=>ab none l.tail.tail.tail.head? λo=>ab none l.tail.tail.tail.tail.head? λi=>ab none (kI i) λj=>ab none l.tail.tail.tail.tail.tail.head? λp=>ab none l.tail.tail.tail.tail.tail.tail.head? λq=>ab none ((List.drop 7 l).head?.bind λz=>T.aP 1 z) λa=>ab none ((List.drop 7 l).tail.head?.bind λz=>iy z) λb=>ab none ((List.drop 7 l).tail.tail.head?.bind λz=>T.aP 8 z) λc=>ab none ((List.drop 7 l).tail.tail.tail.head?.bind λz=>T.aP 4 z) λd=>k f h j a b c d
def zq(i:Int)(L:JL)(k:Bool->ByteArray->Bool->ByteArray->Option (List T)):Option (List T):=ab none (if 0<=i/\i < (L.length:Int) then some () else none) λ_=>ab none L[i.toNat]? λl=>ab none (List.drop 4 l).head? λa=>ab none (List.drop 4 l).tail.head? λb=>ab none (List.drop 4 l).tail.tail.head? λc=>ab none (List.drop 4 l).tail.tail.tail.head? λd=>ab none a.bool? λe=>ab none b.bw λf=>ab none c.bool? λg=>ab none d.bw λh=>k e f g h
def pq(c:Option Bool)(i:Int)(L:JL)(k:Bool->ByteArray->Bool->ByteArray->Bool->ByteArray->Bool->ByteArray->Option (List T)):Option (List T):=ab c (if 0<=i/\i < (L.length:Int) then some () else none) λ_=>ab c L[i.toNat]? λl=>ab c l.head? λh=>ab c l.tail.head? λj=>ab c l.tail.tail.head? λm=>ab c l.tail.tail.tail.head? λn=>ab c l.tail.tail.tail.tail.head? λo=>ab c l.tail.tail.tail.tail.tail.head? λp=>ab c l.tail.tail.tail.tail.tail.tail.head? λq=>ab c l.tail.tail.tail.tail.tail.tail.tail.head? λr=>ab c h.bool? λs=>ab c j.bw λt=>ab c m.bool? λa=>ab c n.bw λb=>ab c o.bool? λd=>ab c p.bw λe=>ab c q.bool? λf=>ab c r.bw λg=>k s t a b d e f g
def zr(m:Option (List T))(k:(Bool×JL)->Int->Int->Option (List T)):Option (List T):=ab none m λl=>ab none l.head? λa=>ab none l.tail.head? λb=>ab none l.tail.tail.head? λc=>ab none (T.aP 1 a) λd=>ab none (T.int? .i64 b) λe=>ab none (T.int? .i64 c) λf=>k d e f
def zt(c:Option Bool)(m:Option (List T))(k:Int->Option (List T)):Option (List T):=ab c m λl=>ab c (List.drop 1 l).head? λa=>ab c (T.int? .i64 a) λb=>k b
def zu(m:Option (List T))(k:Int->Option (List T)):Option (List T):=ab none m λl=>ab none (List.drop 2 l).head? λa=>ab none (T.int? .i64 a) λb=>k b
def qI(m:Option (List T))(k:(List T)->Int->Bool->ByteArray->Bool->ByteArray->Bool->ByteArray->Bool->ByteArray->Option (List T)):Option (List T):=ab none m λl=>ab none l.head? λi=>ab none (T.int? .i64 i) λj=>ab none l.tail.head? λn=>ab none n.bool? λo=>ab none l.tail.tail.head? λp=>ab none p.bw λq=>ab none l.tail.tail.tail.head? λr=>ab none r.bool? λs=>ab none l.tail.tail.tail.tail.head? λt=>ab none t.bw λu=>ab none l.tail.tail.tail.tail.tail.head? λa=>ab none a.bool? λb=>ab none l.tail.tail.tail.tail.tail.tail.head? λc=>ab none c.bw λd=>ab none l.tail.tail.tail.tail.tail.tail.tail.head? λe=>ab none e.bool? λf=>ab none l.tail.tail.tail.tail.tail.tail.tail.tail.head? λg=>ab none g.bw λh=>k l j o q s u b d f h
def kz(m:Option T)(k:Int->Option (List T)):Option (List T):=ab none m λl=>ab none (T.int? .i64 l) λa=>k a
def n7(m:Option T)(k:(Bool×JL)->Option (List T)):Option (List T):=ab none m λl=>ab none (T.aP 3 l) λa=>k a
def n8(m:Option T)(k:(Bool×List Row)->Option (List T)):Option (List T):=ab none m λl=>ab none (kI l) λa=>k a
def vD(m:Option (List T))(k:(List T)->Bool->Bool->ByteArray->Bool->ByteArray->Bool->ByteArray->Bool->ByteArray->Option (List T)):Option (List T):=ab none m λl=>ab none l.head? λv=>ab none (List.drop 1 l).head? λj=>ab none j.bool? λn=>ab none (List.drop 1 (List.drop 1 l)).head? λo=>ab none o.bool? λp=>ab none (List.drop 1 (List.drop 1 l)).tail.head? λq=>ab none q.bw λr=>ab none (List.drop 1 (List.drop 1 l)).tail.tail.head? λs=>ab none s.bool? λt=>ab none (List.drop 1 (List.drop 1 l)).tail.tail.tail.head? λu=>ab none u.bw λa=>ab none (List.drop 1 (List.drop 1 l)).tail.tail.tail.tail.head? λb=>ab none b.bool? λc=>ab none (List.drop 1 (List.drop 1 l)).tail.tail.tail.tail.tail.head? λd=>ab none d.bw λe=>ab none (List.drop 1 (List.drop 1 l)).tail.tail.tail.tail.tail.tail.head? λf=>ab none f.bool? λg=>ab none (List.drop 1 (List.drop 1 l)).tail.tail.tail.tail.tail.tail.tail.head? λh=>ab none h.bw λi=>k l n p r t a c e g i
def vE(m:Option (List T))(k:(List T)->(Bool×JL)->Int->Option (List T)):Option (List T):=ab none m λl=>ab none (l.head?.bind λz=>T.aP 4 z) λa=>ab none l.tail.head? λb=>ab none (T.int? .i64 b) λc=>k l a c
def Dk(c:Option Bool)(i:Int)(L:JL)(k:Int->Int->Option (List T)):Option (List T):=ab c (if 0<=i/\i < (L.length:Int) then some () else none) λ_=>ab c L[i.toNat]? λl=>ab c l.head? λa=>ab c l.tail.head? λb=>ab c (T.int? .i64 a) λd=>ab c (T.int? .i64 b) λe=>k d e
def zw(i:Int)(L:JL)(k:Int->Option (List T)):Option (List T):=ab none (if 0<=i/\i < (L.length:Int) then some () else none) λ_=>ab none L[i.toNat]? λl=>ab none (List.drop 1 l).head? λa=>ab none (T.int? .i64 a) λb=>k b
def Dl(c:Option Bool)(m:Option (List T))(k:T->Option (List T)):Option (List T):=ab none m λl=>ab c l.head? λa=>k a
def Dm(c:Option Bool)(i:Int)(L:JL)(k:(Bool×JL)->Int->Int->Option (List T)):Option (List T):=ab c (if 0<=i/\i < (L.length:Int) then some () else none) λ_=>ab c L[i.toNat]? λl=>ab c l.head? λa=>ab c l.tail.head? λb=>ab c l.tail.tail.head? λd=>ab c (T.aP 1 a) λe=>ab c (T.int? .i64 b) λf=>ab c (T.int? .i64 d) λg=>k e f g
def zx(i:Int)(L:JL)(k:Int->Option (List T)):Option (List T):=ab none (if 0<=i/\i < (L.length:Int) then some () else none) λ_=>ab none L[i.toNat]? λl=>ab none (List.drop 2 l).head? λa=>ab none (T.int? .i64 a) λb=>k b
def vF(i:Int)(L:JL)(k:(Bool×JL)->Option (List T)):Option (List T):=ab none (if 0<=i/\i < (L.length:Int) then some () else none) λ_=>ab none L[i.toNat]? λl=>ab none l.head? λa=>ab none (T.aP 1 a) λb=>k b
def Dn(c:Option Bool)(i:Int)(L:JL)(k:Int->Option (List T)):Option (List T):=ab c (if 0<=i/\i < (L.length:Int) then some () else none) λ_=>ab c L[i.toNat]? λl=>ab c (List.drop 1 l).head? λa=>ab c (T.int? .i64 a) λb=>k b
def zy(m:Option (List T))(k:(List T)->Int->Int->Int->Option (List T)):Option (List T):=ab none m λl=>ab none l.head? λa=>ab none (T.int? .i64 a) λb=>ab none l.tail.head? λc=>ab none (T.int? .i64 c) λd=>ab none l.tail.tail.head? λe=>ab none (T.int? .i64 e) λf=>k l b d f
def vG(m:Option T)(k:(Bool×JL)->Option (List T)):Option (List T):=ab none m λl=>ab none (T.aP 2 l) λa=>k a
def Dp(m:Option (List T))(k:Int->(Bool×JL)->(Bool×JL)->Int->Int->Option (List T)):Option (List T):=ab none m λl=>ab none l.head? λa=>ab none (T.int? .i64 a) λb=>ab none l.tail.head? λc=>ab none (T.aP 2 c) λd=>ab none l.tail.tail.head? λe=>ab none (T.aP 2 e) λf=>ab none l.tail.tail.tail.head? λg=>ab none (T.int? .i64 g) λh=>ab none l.tail.tail.tail.tail.head? λi=>ab none (T.int? .i64 i) λj=>k b d f h j
def zz(c:Option Bool)(i:Int)(L:JL)(k:(Bool×JL)->Option (List T)):Option (List T):=ab c (if 0<=i/\i < (L.length:Int) then some () else none) λ_=>ab c L[i.toNat]? λl=>ab c l.head? λa=>ab c (T.aP 1 a) λb=>k b
def zA(c:Option Bool)(m:Option (List T))(k:Int->Option (List T)):Option (List T):=ab c m λl=>ab c l.head? λa=>ab c (T.int? .i64 a) λb=>k b
def zB(c:Option Bool)(i:Int)(L:JL)(k:Int->Option (List T)):Option (List T):=ab c (if 0<=i/\i < (L.length:Int) then some () else none) λ_=>ab c L[i.toNat]? λl=>ab c (List.drop 2 l).head? λa=>ab c (T.int? .i64 a) λb=>k b
abbrev Y0:=λd q1 e f g h j k l m a b c=>([aa.box [I d,Jl 3 q1 e,Jo 1,Jo 2,Jo 3,Jo 4,Jo 5],aa.sl false 1 f g,aa.mp false [Ck.i i64] (Ck.i i64) h,aa.rows j 1 0 4 k l,aa.sl false 8 m a,aa.sl false 4 b c]:List aa)
abbrev Y1:=λa q1=>([aa.sl false 1 a q1]:List aa)
abbrev Y3:=λa q1 b c=>([aa.sl false 1 a q1,aa.sl false 1 b c]:List aa)
abbrev Y7:=λa q1 b c=>([aa.box [I a,I q1],aa.box [I b,I c]]:List aa)
abbrev Y9:=λa q1=>([aa.box [I a,I q1]]:List aa)
abbrev lA:=λf q1 g h j k l m n o a b c d e=>([aa.box [I f,Jl 3 q1 g,Jo 1,Jo 2,Jo 3,Jo 4,Jo 6],aa.sl false 1 h j,aa.mp false [Ck.i i64] (Ck.i i64) k,aa.rows l 1 0 4 m n,aa.sl false 8 o a,aa.sl false 4 b c,aa.sl false 4 d e]:List aa)
abbrev mj:=λd q1 e f g h j k l m a b c=>([aa.box [I d,Jl 3 q1 e,Jo 1,Jo 2,Jo 6,Jo 4,Jo 5],aa.sl false 1 f g,aa.mp false [Ck.i i64] (Ck.i i64) h,aa.dead,aa.sl false 8 j k,aa.sl false 4 l m,aa.rows a 1 0 4 b c]:List aa)
abbrev oq:=λa q1 b c d e f g=>([aa.box [B a,Js q1,B b,Js c],aa.box [B d,Js e,B f,Js g]]:List aa)
abbrev ot:=λf q1 g h j k l m n o a b c d e=>([aa.box [I f,Jl 3 q1 g,Jo 1,Jo 2,Jo 6,Jo 4,Jo 7],aa.sl false 1 h j,aa.mp false [Ck.i i64] (Ck.i i64) k,aa.dead,aa.sl false 8 l m,aa.sl false 4 n o,aa.rows a 1 0 4 b c,aa.sl false 4 d e]:List aa)
abbrev wL:=λa q1 b c d e f g=>([aa.box [I a,I q1],aa.box [I b,I c],aa.box [B d,Js e,B f,Js g]]:List aa)
abbrev wM:=λa q1 b c d e f g h=>([aa.sl false 4 a q1,aa.box [I b],aa.box [Jo 3],aa.sl false 4 c d,aa.box [B e,Js f,B g,Js h]]:List aa)
abbrev zK:=λe q1 f g h i j k l m a b c d=>([aa.box [B e,Js q1,B f,Js g],aa.sl false 4 h i,aa.box [B j,Js k,B l,Js m],aa.box [Jl 1 a b,I c,I d]]:List aa)
abbrev zL:=λd q1 e f g h j k l m a b c=>([aa.box [I d,Jl 3 q1 e,Jo 1,Jo 2,Jo 3,Jo 4,Jl 4 f g],aa.sl false 1 h j,aa.mp false [Ck.i i64] (Ck.i i64) k,aa.rows l 1 0 4 m a,aa.sl false 8 b c]:List aa)
abbrev zM:=λm q1 n o p q r s t u a b c d e f g h j k l=>([aa.box [I m,Jl 3 q1 n,Jo 1,Jo 2,Jo 3,Jo 4,Jo 5],aa.sl false 1 o p,aa.mp false [Ck.i i64] (Ck.i i64) q,aa.rows r 1 0 4 s t,aa.sl false 8 u a,aa.sl false 4 b c,aa.box [B d,Js e,B f,Js g,B h,Js j,B k,Js l]]:List aa)
abbrev zN:=λk q1 l m n o p q r s a b c d e f g h j=>([aa.box [I k,Jl 3 q1 l,Jo 1,Jo 2,Jo 3,Jo 4,Jo 5],aa.sl false 1 m n,aa.mp false [Ck.i i64] (Ck.i i64) o,aa.rows p 1 0 4 q r,aa.sl false 8 s a,aa.sl false 4 b c,aa.sl false 4 d e,aa.box [B f,Js g,B h,Js j]]:List aa)
abbrev zO:=λg q1 h j k l m n o p a b c d e f=>([aa.box [I g,Jl 3 q1 h,Jo 1,Jo 2,Jo 3,Jo 4,Jo 5],aa.sl false 1 j k,aa.mp false [Ck.i i64] (Ck.i i64) l,aa.rows m 1 0 4 n o,aa.sl false 8 p a,aa.sl false 4 b c,aa.box [I d],aa.box [Jo 8],aa.sl false 4 e f]:List aa)
abbrev zP:=λa q1 b c d=>([aa.sl false 4 a q1,aa.box [I b],aa.box [Jo 3],aa.sl false 4 c d]:List aa)
abbrev zQ:=λf q1 g h j k l m n o a b c d e=>([aa.box [I f,Jl 3 q1 g,Jo 1,Jo 2,Jo 3,Jo 4,Jo 5],aa.sl false 1 h j,aa.mp false [Ck.i i64] (Ck.i i64) k,aa.rows l 1 0 4 m n,aa.sl false 8 o a,aa.sl false 4 b c,aa.sl false 4 d e]:List aa)
theorem GD:type_of% @Dq/\type_of% @G0.eq_1/\type_of% @G1.eq_1/\type_of% @G2.eq_1/\type_of% @G3.eq_1/\type_of% @G4.eq_1/\type_of% @G5.eq_1/\type_of% @G6.eq_1/\type_of% @G7.eq_1/\type_of% @G8.eq_1/\type_of% @G9.eq_1/\type_of% @bM.eq_1/\type_of% @aX.eq_1/\type_of% @pn.eq_1/\type_of% @zj.eq_1/\type_of% @zk.eq_1/\type_of% @po.eq_1/\type_of% @qE.eq_1/\type_of% @iq.eq_1/\type_of% @qF.eq_1/\type_of% @qG.eq_1/\type_of% @vl.eq_1/\type_of% @fB.eq_1/\type_of% @ir.eq_1/\type_of% @zl.eq_1/\type_of% @zm.eq_1/\type_of% @sR.eq_1/\type_of% @qH.eq_1/\type_of% @sS.eq_1/\type_of% @zn.eq_1/\type_of% @vo.eq_1/\type_of% @vr.eq_1/\type_of% @zo.eq_1/\type_of% @De.eq_1/\type_of% @Df.eq_1/\type_of% @Dh.eq_1/\type_of% @Di.eq_1/\type_of% @Dj.eq_1/\type_of% @vu.eq_1/\type_of% @vw.eq_1/\type_of% @mU.eq_1/\type_of% @zp.eq_1/\type_of% @vA.eq_1/\type_of% @vB.eq_1/\type_of% @fb.eq_1/\type_of% @vC.eq_1/\type_of% @gx.eq_1/\type_of% @lp.eq_1/\type_of% @gL.eq_1/\type_of% @jm.eq_1/\type_of% @dL.eq_1/\type_of% @eB.eq_1/\type_of% @zq.eq_1/\type_of% @pq.eq_1/\type_of% @zr.eq_1/\type_of% @zt.eq_1/\type_of% @zu.eq_1/\type_of% @qI.eq_1/\type_of% @kz.eq_1/\type_of% @n7.eq_1/\type_of% @n8.eq_1/\type_of% @vD.eq_1/\type_of% @vE.eq_1/\type_of% @Dk.eq_1/\type_of% @zw.eq_1/\type_of% @Dl.eq_1/\type_of% @Dm.eq_1/\type_of% @zx.eq_1/\type_of% @vF.eq_1/\type_of% @Dn.eq_1/\type_of% @zy.eq_1/\type_of% @vG.eq_1/\type_of% @Dp.eq_1/\type_of% @zz.eq_1/\type_of% @zA.eq_1/\type_of% @zB.eq_1:=⟨@Dq,@G0.eq_1,@G1.eq_1,@G2.eq_1,@G3.eq_1,@G4.eq_1,@G5.eq_1,@G6.eq_1,@G7.eq_1,@G8.eq_1,@G9.eq_1,@bM.eq_1,@aX.eq_1,@pn.eq_1,@zj.eq_1,@zk.eq_1,@po.eq_1,@qE.eq_1,@iq.eq_1,@qF.eq_1,@qG.eq_1,@vl.eq_1,@fB.eq_1,@ir.eq_1,@zl.eq_1,@zm.eq_1,@sR.eq_1,@qH.eq_1,@sS.eq_1,@zn.eq_1,@vo.eq_1,@vr.eq_1,@zo.eq_1,@De.eq_1,@Df.eq_1,@Dh.eq_1,@Di.eq_1,@Dj.eq_1,@vu.eq_1,@vw.eq_1,@mU.eq_1,@zp.eq_1,@vA.eq_1,@vB.eq_1,@fb.eq_1,@vC.eq_1,@gx.eq_1,@lp.eq_1,@gL.eq_1,@jm.eq_1,@dL.eq_1,@eB.eq_1,@zq.eq_1,@pq.eq_1,@zr.eq_1,@zt.eq_1,@zu.eq_1,@qI.eq_1,@kz.eq_1,@n7.eq_1,@n8.eq_1,@vD.eq_1,@vE.eq_1,@Dk.eq_1,@zw.eq_1,@Dl.eq_1,@Dm.eq_1,@zx.eq_1,@vF.eq_1,@Dn.eq_1,@zy.eq_1,@vG.eq_1,@Dp.eq_1,@zz.eq_1,@zA.eq_1,@zB.eq_1⟩
open Go Go.Aev
noncomputable abbrev aq:=Go.Proofs.Try.prog
def ann:cE:={
 live:=(λf r=>match f,r with
  | 11,6=>some [(0,none),(1,none),(4,none),(5,none)]
  | 31,8=>some [(2,none),(4,none),(5,none)]
  | 22,6=>some [(1,none),(4,none),(21,none),(22,none),(23,none)]
  | 73,1=>some [(0,none),(1,none)]
  | 51,6=>some [(1,none),(5,none),(13,none),(14,none),(15,none)]
  | 54,8=>some [(4,none),(43,none),(44,none),(45,none)]
  | 85,4=>some [(0,none),(1,none),(4,none),(5,none),(14,none),(15,none),(16,none)]
  | 83,2=>some [(4,none),(5,none),(6,none)]
  | 80,6=>some [(0,none),(1,none),(5,none)]
  | 72,3=>some [(1,none),(3,none),(12,none),(13,none)]
  | 34,2=>some [(0,none),(1,none),(7,none),(8,none)]
  | 90,1=>some [(0,none)]
  | 91,10=>some [(0,none),(8,none),(9,none),(10,some 1)]
  | 91,15=>some [(8,none),(9,none),(10,some 1),(11,none),(12,none),(13,none)]
  | 91,19=>some [(8,none),(9,none),(10,some 1),(11,none),(12,none),(13,none),(15,none),(16,none)]
  | 91,27=>some [(8,none),(9,none),(10,some 1),(11,none),(12,none),(13,none),(15,none),(17,none),(167,none),(168,none),(169,none)]
  | 89,3=>some [(1,none),(5,none),(17,none),(18,none),(19,none)]
  | 89,7=>some [(1,none),(5,none),(6,none),(7,none),(8,none),(17,none),(18,none),(19,none),(24,none),(25,none),(26,none)]
  | 95,4=>some [(0,none),(1,none),(6,none),(7,none),(8,none)]
  | 97,4=>some [(1,none),(5,none),(6,none),(18,none),(19,none),(20,none)]
  | 98,3=>some [(0,none),(1,none),(2,none),(7,none),(8,none),(12,none),(13,none)]
  | 99,4=>some [(0,none),(1,none),(6,none),(7,none),(20,none),(21,none),(22,none)]
  | 99,15=>some [(0,none),(1,none),(6,none),(10,none),(58,none),(59,none),(60,none)]
  | 100,6=>some [(1,none),(5,none),(6,none),(20,none),(21,none),(22,none)]
  | 101,4=>some [(1,none),(5,none),(6,none),(13,none),(14,none),(15,none)]
  | 9,11=>some [(0,none),(1,none),(2,none),(5,none),(9,none),(13,none),(73,none),(74,none),(75,none)]
  | 9,18=>some [(2,none),(9,none),(13,none),(18,none),(102,none),(103,none),(104,none)]
  | 10,10=>some [(2,none),(3,none),(9,none),(11,some 3),(32,none),(33,none),(34,none)]
  | 6,4=>some [(0,none),(4,none),(11,none)]
  | 6,7=>some [(0,none),(4,none),(11,none),(12,none)]
  | 5,3=>some [(0,none),(1,none),(2,none),(6,none),(7,none),(8,none)]
  | 5,10=>some [(2,none),(6,none),(7,none),(9,none)]
  | 19,3=>some [(1,none),(4,none),(5,none),(8,none),(9,none),(10,none)]
  | 25,3=>some [(3,some 4),(6,none),(7,none),(8,none)]
  | 28,5=>some [(2,none),(7,none),(9,none),(10,none),(11,none),(18,none),(19,none),(20,none)]
  | 28,8=>some [(2,none),(7,none),(9,none),(10,none),(11,none),(12,none),(13,none),(18,none),(19,none),(20,none),(26,none),(27,none),(28,none)]
  | 15,3=>some [(0,none),(1,none),(5,some 3000001),(5,some 5101004),(5,some 7000004),(21,none),(22,none),(23,none)]
  | 15,7=>some [(0,none),(1,none),(5,some 3000001),(5,some 5101004),(5,some 7000004),(6,none),(8,none),(21,none),(22,none),(23,none),(34,none),(35,none),(36,none)]
  | 16,1=>some [(0,none),(1,none)]
  | 16,10=>some [(0,none),(1,none),(6,none),(7,none),(8,none),(9,none),(38,none),(39,none),(40,none)]
  | 17,4=>some [(4,some 2),(5,none),(10,none),(11,none),(12,none)]
  | 18,3=>some [(0,none),(2,none),(31,none),(32,none),(33,none)]
  | 18,8=>some [(0,none),(2,none),(10,none),(31,none),(32,none),(33,none),(54,none),(55,none),(56,none)]
  | 18,14=>some [(0,none),(2,none)]
  | 18,16=>some [(0,none),(2,none),(15,none),(16,none),(100,none),(101,none),(102,none)]
  | 20,4=>some [(3,none),(4,some 4),(17,none),(18,none),(19,none)]
  | 32,2=>some [(0,none),(1,none),(7,none),(8,none)]
  | 36,3=>some [(0,none),(4,none),(5,none),(15,none),(16,none),(17,none)]
  | 38,5=>some [(0,none),(7,none),(8,none),(41,none),(42,none),(43,none)]
  | 44,3=>some [(0,none),(1,none),(5,none),(26,none),(27,none),(28,none)]
  | 45,5=>some [(0,none),(1,none),(5,none),(6,none),(7,none),(8,none),(45,none),(46,none),(47,none)]
  | 45,13=>some [(0,none),(1,none),(5,none),(6,none),(8,none),(11,none),(75,none),(76,none)]
  | 48,6=>some [(1,none),(2,none),(3,none),(7,none),(9,none),(10,none),(11,none),(12,none),(24,none),(25,none),(26,none)]
  | 49,3=>some [(0,none),(1,none),(2,none),(7,none),(17,none),(18,none)]
  | 50,3=>some [(0,none),(2,none),(3,none),(14,none),(15,none)]
  | 77,2=>some [(0,none),(1,none),(7,none),(8,none)]
  | 78,5=>some [(4,none),(16,none),(17,none),(18,none)]
  | 79,3=>some [(1,none),(4,none),(5,none),(9,none),(10,none),(11,none)]
  | 69,4=>some [(0,none),(4,none),(18,none),(19,none),(20,none)]
  | 3,10=>some [(0,none),(1,none),(2,none),(3,none),(10,none),(11,none),(14,none),(15,none),(18,none),(19,some 1000001),(20,none)]
  | _,_=>none),
 join:=(λf r=>match f,r with
  | 3,13=>some [(0,none),(1,none),(3,none),(10,none),(11,none),(14,none),(15,none),(18,none),(19,some 999999)]
  | _,_=>none),
 sig:=(λf=>match f with
  | 97=>some ⟨[.own 1],[]⟩
  | 75=>some ⟨[.own 1],[]⟩
  | 15=>some ⟨[.new [.f (.i .i64), .t (.l 3), .own 1, .mp false [.i .i64] (.i .i64), .rows 1 0 4, .own 8, .own 4]],[]⟩
  | _=>none),
 iu:=(λf=>match f with
  | 98=>some [true,false,false]
  | 16=>some [true,false]
  | 18=>some [true,false,false]
  | 20=>some [true]
  | 38=>some [true,false,false]
  | 44=>some [true,false,false]
  | 45=>some [true,false,false]
  | 48=>some [true,false,false]
  | 49=>some [true,false,false]
  | 69=>some [true,true,true]
  | 71=>some [false,false,false,true,true,true,true]
  | _=>none),
 deep:=(λf=>match f with
  | 36=>true
  | 37=>true
  | 39=>true
  | 40=>true
  | 50=>true
  | _=>false),
 app:=(λd=>match d with
  | some 11=>true
  | some 16=>true
  | _=>false),
 Ac:=(λf m=>match f with
  | 98=>⟨[.f .b],[.sl 1]⟩
  | 16=>⟨[.own 4, .f .b],[.box [.f (.i .i64), .t (.l 3), .same 1, .same 2, .rows 1 0 4, .same 4, .same 5], .sl 1, .mp false [.i .i64] (.i .i64), .dead, .sl 8, .sl 4]⟩
  | 18=>⟨[.t (.l 4), .own 4, .f .b],[.box [.f (.i .i64), .t (.l 3), .same 1, .same 2, .rows 1 0 4, .same 4, .t (.l 4)], .sl 1, .mp false [.i .i64] (.i .i64), .dead, .sl 8, .dead]⟩
  | 20=>if m=4007 then⟨[.own 4],[.box [.f (.i .i64), .t (.l 3), .same 1, .same 2, .rows 1 0 4, .same 4, .t (.l 4)], .sl 1, .mp false [.i .i64] (.i .i64), .dead, .sl 8]⟩ else⟨[.own 4],[.box [.f (.i .i64), .t (.l 3), .same 1, .same 2, .rows 1 0 4, .same 4, .same 5], .sl 1, .mp false [.i .i64] (.i .i64), .dead, .sl 8, .sl 4]⟩
  | 38=>⟨[.own 4],[.box [.f (.i .i64), .t (.l 3), .same 1, .same 2, .rows 1 0 4, .same 4, .same 5], .sl 1, .mp false [.i .i64] (.i .i64), .dead, .sl 8, .sl 4]⟩
  | 44=>⟨[],[.box [.f (.i .i64), .t (.l 3), .same 1, .same 2, .rows 1 0 4, .same 4, .same 5], .sl 1, .mp false [.i .i64] (.i .i64), .dead, .sl 8, .sl 4]⟩
  | 45=>⟨[],[.box [.f (.i .i64), .t (.l 3), .same 1, .same 2, .rows 1 0 4, .same 4, .same 5], .sl 1, .mp false [.i .i64] (.i .i64), .dead, .sl 8, .sl 4]⟩
  | 48=>⟨[.f (.i .i64), .agg [.f .b, .f .s, .f .b, .f .s, .f .b, .f .s, .f .b, .f .s], .f .b],[.box [.f (.i .i64), .t (.l 3), .same 1, .same 2, .rows 1 0 4, .same 4, .same 5], .sl 1, .mp false [.i .i64] (.i .i64), .dead, .sl 8, .sl 4]⟩
  | 49=>⟨[.own 4],[.box [.f (.i .i64), .t (.l 3), .same 1, .same 2, .rows 1 0 4, .same 4, .same 5], .sl 1, .mp false [.i .i64] (.i .i64), .dead, .sl 8, .sl 4]⟩
  | 69=>⟨[],[.sl 4, .box [.f (.i .i64)], .box [.same 3], .sl 4]⟩
  | 71=>⟨[],[.box [.ref 4 0], .box [.f .b], .box [.f .b, .f .s, .f .b, .f .s, .f .b, .f .s, .f .b, .f .s], .box [.f (.i .i64)], .box [.f (.i .i64), .t (.l 3), .same 5, .same 6, .rows 1 0 4, .same 8, .same 9], .sl 1, .mp false [.i .i64] (.i .i64), .dead, .sl 8, .sl 4]⟩
  | _=>⟨[],[]⟩),
 wr:=(λf=>f==8),
 nH:=(λd t=>match d,t with
  | some 53,77=>1
  | some 54,77=>3
  | _,_=>0),
 st:=(λd=>match d with
  | some 50=>true
  | some 30=>true
  | some 37=>true
  | some 103=>true
  | some 34=>true
  | some 67=>true
  | some 93=>true
  | some 127=>true
  | some 129=>true
  | some 78=>true
  | some 49=>true
  | _=>false),
 ld:=(λd=>match d with
  | some 99=>true
  | some 88=>true
  | _=>false),
 sx:=(λd=>match d with
  | some 103=>true
  | some 34=>true
  | some 67=>true
  | some 93=>true
  | some 127=>true
  | some 129=>true
  | _=>false)}
theorem hm:aq.follows .mixedOrders=true:=by kernel_rfl
noncomputable abbrev vW:Key:=aZ aq 11 true 6 [(0,none),(1,none),(4,none),(5,none)] (0,0)
noncomputable abbrev vQ:Key:=aZ aq 31 true 8 [(2,none),(4,none),(5,none)] (0,0)
noncomputable abbrev vR:Key:=aZ aq 22 true 6 [(1,none),(4,none),(21,none),(22,none),(23,none)] (0,0)
noncomputable abbrev vS:Key:=aZ aq 54 true 8 [(4,none),(43,none),(44,none),(45,none)] (0,0)
theorem e7(O:aA)(er:Bool)(r:JL)(n:Int):aE aq ann O (Key.call 11) [Jl 3 er r,I n] []=
 (bif bif decide (n < 0) then true else decide (n > 12) then G0 (O (.call 12) [I 3,I (-1)] []) λn a=>some [Ji n,Ji a] else bif decide ((r.length:Int) > 40) then G0 (O (.call 12) [I 2,I 0] []) λn a=>some [Ji n,Ji a] else O vW [Jl 3 er r,I n,Jr 0,I 0] [aa.box [I 0,I 0]]):=by kernel_rfl
theorem e8(O:aA)(a b:Int):aE aq ann O (Key.call 12) [I a,I b] []=
 (some [Ji a,Ji b]):=by kernel_rfl
theorem Fo(O:aA)(e:Bool)(d:JL)(f c a b:Int):aE aq ann O vW [Jl 3 e d,I f,Jr 0,I c] (Y9 a b)=
 (bif decide (c < (d.length:Int)) then G1 c d λp n g=>G0 (O (.call 31) [AV.agg [Jl 1 p.fst p.snd,I n,I g],I f] []) λn i=>bif !n==0 then G0 (O (.call 12) [I n,I c] []) λn h=>some [Ji n,Ji h] else O vW [Jl 3 e d,I f,Jr 0,I (Jw c)] (Y9 a b) else some [Ji 0,Ji 0]):=by kernel_rfl
theorem AH(O:aA)(d:Bool)(c:JL)(a e f:Int):aE aq ann O (Key.call 31) [AV.agg [Jl 1 d c,I a,I e],I f] []=
 (bif bif decide (f < 0) then true else decide (f > 12) then G0 (O (.call 12) [I 3,I (-1)] []) λn b=>some [Ji n,Ji b] else bif bif bif !a==1 then !a==2 else false then !a==3 else false then G0 (O (.call 12) [I 4,I 0] []) λn b=>some [Ji n,Ji b] else bif decide ((c.length:Int) > f) then G0 (O (.call 12) [I 9,I 0] []) λn b=>some [Ji n,Ji b] else O vQ [Jr 0,Jr 1,I 0] [aa.box [Jl 1 d c,I a,I e],aa.box [I 0,I 0]]):=by kernel_rfl
theorem Fc(O:aA)(i e c f g:Int)(d:Bool)(a:JL):aE aq ann O vQ [Jr 0,Jr 1,I i] [aa.box [Jl 1 d a,I e,I c],aa.box [I f,I g]]=
 (bif decide (i < (a.length:Int)) then G2 i a λn=>G3 (O (.call 13) [I n] []) λb=>bif !b then G0 (O (.call 12) [I 3,I i] []) λn h=>some [Ji n,Ji h] else O vQ [Jr 0,Jr 1,I (Jw i)] [aa.box [Jl 1 d a,I e,I c],aa.box [I f,I g]] else G3 (O (.call 13) [I c] []) λb=>bif !b then G0 (O (.call 12) [I 3,I (a.length:Int)] []) λn h=>some [Ji n,Ji h] else some [Ji 0,Ji 0]):=by kernel_rfl
theorem AI(O:aA)(a:Int):aE aq ann O (Key.call 13) [I a] []=
 (some [Jb (bif decide (a<=1000000) then decide (a>=(-1000000)) else false)]):=by kernel_rfl
theorem Fe(O:aA)(er:Bool)(r:JL)(n:Int):aE aq ann O (Key.call 22) [Jl 3 er r,I n] []=
 (bif bif decide (n < 0) then true else decide (n > 12) then some [Ji 3,Ji (-1)] else bif decide ((r.length:Int) > 40) then some [Ji 2,Ji 0] else O vR [I n,Jr 0,Jl 3 er r,I (r.length:Int),I 0] [aa.box [I 0,I 0]]):=by kernel_rfl
theorem Ff(O:aA)(g f a b c:Int)(d:Bool)(e:JL):aE aq ann O vR [I g,Jr 0,Jl 3 d e,I f,I a] (Y9 b c)=
 (bif decide (a < f) then G1 a e λp n h=>G0 (O (.call 54) [AV.agg [Jl 1 p.fst p.snd,I n,I h],I g] []) λn i=>bif !n==0 then some [Ji n,Ji a] else O vR [I g,Jr 0,Jl 3 d e,I f,I (Jw a)] (Y9 b c) else some [Ji 0,Ji 0]):=by kernel_rfl
theorem LY(O:aA)(d:Bool)(c:JL)(a b e:Int):aE aq ann O (Key.call 54) [AV.agg [Jl 1 d c,I a,I b],I e] []=
 (bif bif decide (e < 0) then true else decide (e > 12) then some [Ji 3,Ji (-1)] else bif bif bif !a==1 then !a==2 else false then !a==3 else false then some [Ji 4,Ji 0] else bif decide ((c.length:Int) > e) then some [Ji 9,Ji 0] else G4 (O (.call 75) [Jl 1 d c] []) λp=>Jg (small 8 (p.snd.length+ [[Ji b]].length)) λx=>O vS [Jr 0,Jo 1,I (↑(p.snd++ [[Ji b]]).length:Int),I 0] [aa.box [I 0,I 0],aa.sl false 1 (p.fst && false) (p.snd++ [[Ji b]])]):=by kernel_rfl
theorem Fm(O:aA)(a:Bool)(b:JL):aE aq ann O (Key.call 75) [Jl 1 a b] []=
 (bif a then some [T.aO true] else Jg (small 8 (0+b.length)) λx=>some [T.ae 1 false b]):=by kernel_rfl
theorem Fg(O:aA)(e a c d:Int)(f:Bool)(g:JL):aE aq ann O vS [Jr 0,Jo 1,I e,I a] [aa.box [I c,I d],aa.sl false 1 f g]=
 (bif decide (a < e) then G2 a g λn=>G3 (O (.call 76) [I n] []) λb=>bif !b then some [Ji 3,Ji a] else O vS [Jr 0,Jo 1,I e,I (Jw a)] [aa.box [I c,I d],aa.sl false 1 f g] else some [Ji 0,Ji 0]):=by kernel_rfl
theorem Mb(O:aA)(a:Int):aE aq ann O (Key.call 76) [I a] []=
 (some [Jb (bif decide (a>=(-1000000)) then decide (a<=1000000) else false)]):=by kernel_rfl
open Go Go.Aev
noncomputable abbrev Or:aA:=mF aq ann
abbrev ti(n:Int):T:= .int .i64 n
abbrev tb(b:Bool):T:= .bool b
abbrev o0:AV:=AV.own (Id.c 0)
abbrev o1:AV:=AV.own (Id.c 1)
abbrev r0:AV:=AV.ref (Id.c 0) 0
theorem bz{c:Type}{l:List c}{i:Nat}{r:c}{b:List c}(h:l.drop i=r::b):l[i]? =some r/\i < l.length/\l.drop (i+1)=b:=by
 have a:i < l.length:=by
  rcases Wb i l.length with g | g
  .exact g
  .rw [U9 g] at h;cases h
 rw [UB a] at h;simp only [UT] at h;exact⟨by rw [SZ a,h.1],a,h.2⟩
theorem bF{a:Type}{l:List a}{i:Nat}(h:l.drop i= []):l.length<=i:=by simpa using h
def enc(l:List Int):List (List T):=l.map λr=> [ti r]
theorem bN(l:List Int):(enc l).length=l.length:=by simp [enc]
theorem fW{l:List Int}{i:Nat}{r:Int}(h:l[i]? =some r):(enc l)[((i:Nat):Int).toNat]? =some [ti r]:=by simp [enc,h]
abbrev ae(e:Bool)(l:List Int):AV:=AV.t (T.ae 1 e (enc l))
structure R where
 e:Bool
 of:List Int
 kd:Int
 tv:Int
 deriving Inhabited
def eR(r:R):List T:= [T.ae 1 r.e (enc r.of),ti r.kd,ti r.tv]
def cV(l:List R):List (List T):=l.map eR
theorem bB(l:List R):(cV l).length=l.length:=by simp [cV]
theorem eC{l:List R}{i:Nat}{r:R}(h:l[i]? =some r):(cV l)[((i:Nat):Int).toNat]? =some [T.ae 1 r.e (enc r.of),ti r.kd,ti r.tv]:=by simp [cV,h,eR]
abbrev LR(e:Bool)(l:List R):AV:=AV.t (T.ae 3 e (cV l))
theorem next(i:Nat)(h:i<=100000):i64.wrap ((i:Int)+1)= ((i+1:Nat):Int):=by rw [wr (by omega)];omega
theorem jE{bs n:Nat}(h:n<=100000):small bs n=some ():=by unfold small;rw [if_pos (.inl (by unfold gf;omega))]
theorem ou(a b:Int):(a==b)=decide (a=b):=by by_cases h:a=b <;> simp [h]
theorem OF(a b:Int):mm false a b=min a b:=by simp only [mm,cond_false];split <;> omega
open Go Go.Aev
abbrev fl(p:Int×Int):Option (List T):=some [ti p.1,ti p.2]
theorem s8(a b:Int):Or (.call 12) [I a,I b] []=some [ti a,ti b]:=an (by rw [e8])
theorem uL(a:Int):Or (.call 13) [I a] []=some [tb (decide (a<=1000000/\a>= -1000000))]:=by refine an ?_;rw [AI];simp only [fE,<-UH]
theorem IZ(c:Int):Or (.call 76) [I c] []=some [tb (decide (c>= -1000000/\c<=1000000))]:=by refine an ?_;rw [Mb];simp only [fE,<-UH]
theorem QJ(l:List Int)(e:Bool)(b:e=true->l= [])(c:l.length<=1000):∃x a,Or (.call 75) [ae e l] []=some [x]/\x.aP 1=some (a,enc l)/\(a=true->l= []):=by
 cases e with
 | true=>obtain rfl:=b rfl;exact⟨T.aO true,true,an (by rw [Fm];simp only [ak,↓reduceIte,Int.reduceBEq,Int.reduceEq,GD]),by simp [T.aP,enc],λ_=>rfl⟩
 | false=>refine⟨T.ae 1 false (enc l),false,an ?_,rQ _ _ _,λh=>by cases h⟩;have:small 8 (0+l.length)=some ():=jE (by omega);rw [Fm];simp only [ak,↓reduceIte,Int.reduceBEq,Int.reduceEq,GD,bN,this]
theorem QI(l:List Int)(e:Bool)(d:e=true->l= [])(f:l.length<=1000):∃x c,Or (.call 75) [ae e l] []=some [x]/\x.aP 1=some (c,enc l):=by obtain⟨x,c,a,b,_⟩:=QJ l e d f;exact⟨x,c,a,b⟩
def jt:List Int->Nat->Int×Int
 | [],_=>(0,0)
 | x::r,i=>if x>= -1000000/\x<=1000000 then jt r (i+1) else(3,(i:Int))
def ju(n:Nat)(r:R):Int×Int:=
 if(¬r.kd=1/\¬r.kd=2)/\¬r.kd=3 then(4,0) else if r.of.length > n then(9,0) else jt (r.of++ [r.tv]) 0
def iR(n:Nat):List R->Nat->Int×Int
 | [],_=>(0,0)
 | r::a,i=>if(ju n r).1=0 then iR n a (i+1) else((ju n r).1,(i:Int))
def mZ(n:Nat)(rows:List R):Int×Int:=if rows.length > 40 then(2,0) else iR n rows 0
theorem OY(xs:List Int)(e:Bool)(j:xs.length<=1000):∀(a:List Int) (i:Nat),xs.drop i=a->Or vS [r0,o1,I (xs.length:Int),I (i:Int)] [aa.box [I 0,I 0],aa.sl false 1 e (enc xs)]=fl (jt a i):=by
 intro a;induction a with
 | nil=>
  intro i h;refine an ?_;rw [Fg];have h1:¬(i:Int) < (xs.length:Int):=by have:=bF h;omega
  simp only [ak,↓reduceIte,Int.reduceBEq,Int.reduceEq,GD,h1,jt]
 | cons x a f=>
  intro i h;obtain⟨b,g,d⟩:=bz h;have h1:(i:Int) < (xs.length:Int):=by omega
  have c: 0<=(i:Int):=by omega
  refine an ?_;rw [Fg,jt];by_cases hb:x>= -1000000/\x<=1000000
  .simp only [ak,↓reduceIte,Int.reduceBEq,Int.reduceEq,GD,h1,c,and_self,bN,fW b,IZ,hb,decide_true,Th,next i (by omega),f (i+1) d]
  .simp only [ak,↓reduceIte,Int.reduceBEq,Int.reduceEq,GD,h1,c,and_self,bN,fW b,IZ,hb,decide_false,Tj]
theorem IW(r:R)(n:Nat)(i:n<=12)(g:r.e=true->r.of= []):Or (.call 54) [AV.agg [ae r.e r.of,I r.kd,I r.tv],I (n:Int)] []=fl (ju n r):=by
 have h1:¬((n:Int) < 0\/(n:Int) > 12):=by omega
 refine an ?_;rw [LY];unfold ju;by_cases a:(¬r.kd=1/\¬r.kd=2)/\¬r.kd=3
 .simp only [gX,fE,ou,<-decide_not,<-Ug,<-UH];simp only [ak,↓reduceIte,Int.reduceBEq,Int.reduceEq,GD,h1,a,not_false_eq_true,and_self]
 .rw [if_neg a];by_cases c:(r.of.length:Int) > (n:Int)
  .rw [if_pos (by omega)];simp only [gX,fE,ou,<-decide_not,<-Ug,<-UH];simp only [ak,↓reduceIte,Int.reduceBEq,Int.reduceEq,GD,h1,a,bN,c]
  .rw [if_neg (by omega)];obtain⟨x,f,h,k2⟩:=QI r.of r.e g (by omega);have d:=OY (r.of++ [r.tv]) (f && false) (by simp;omega) (r.of++ [r.tv]) 0 rfl;have b:enc r.of++ [[ti r.tv]]=enc (r.of++ [r.tv]):=by simp [enc]
   have hs:small 8 (r.of.length+ [[ti r.tv]].length)=some ():=jE (by simp;omega);simp only [WZ] at d;simp only [gX,fE,ou,<-decide_not,<-Ug,<-UH];simp only [ak,↓reduceIte,Int.reduceBEq,Int.reduceEq,GD,h1,a,bN,c,h,k2,hs,b];exact d
theorem OW(of:List Int)(e:Bool)(kd tv:Int)(n:of.length<=1000):∀(a:List Int) (i:Nat),of.drop i=a->i<=of.length->Or vQ [r0,AV.ref (Id.c 1) 0,I (i:Int)] [aa.box [ae e of,I kd,I tv],aa.box [I 0,I 0]]=fl (jt (a++ [tv]) i):=by
 intro a;induction a with
 | nil=>
  intro i h hi;have l:=bF h;obtain rfl:i=of.length:=by omega
  have h1:¬(of.length:Int) < (of.length:Int):=by omega
  refine an ?_;rw [Fc];simp only [S8,jt];by_cases d:tv<=1000000/\tv>= -1000000
  .have b:tv>= -1000000/\tv<=1000000:=by omega
   simp only [ak,↓reduceIte,Int.reduceBEq,Int.reduceEq,GD,bN,h1,uL,d,b,and_self,decide_true]
  .have b:¬(tv>= -1000000/\tv<=1000000):=by omega
   simp only [ak,↓reduceIte,Int.reduceBEq,Int.reduceEq,GD,bN,h1,uL,d,b,decide_false,s8]
 | cons x a k=>
  intro i h hi;obtain⟨f,m,j⟩:=bz h;have h1:(i:Int) < (of.length:Int):=by omega
  have g: 0<=(i:Int):=by omega
  refine an ?_;rw [Fc,S7,jt];by_cases d:x<=1000000/\x>= -1000000
  .have b:x>= -1000000/\x<=1000000:=by omega
   simp only [ak,↓reduceIte,Int.reduceBEq,Int.reduceEq,GD,h1,g,and_self,bN,fW f,uL,d,b,decide_true,next i (by omega),k (i+1) j (by omega)]
  .have b:¬(x>= -1000000/\x<=1000000):=by omega
   simp only [ak,↓reduceIte,Int.reduceBEq,Int.reduceEq,GD,h1,g,and_self,bN,fW f,uL,d,b,decide_false,s8]
theorem QC(r:R)(n:Nat)(d:n<=12):Or (.call 31) [AV.agg [ae r.e r.of,I r.kd,I r.tv],I (n:Int)] []=fl (ju n r):=by
 have h1:¬((n:Int) < 0\/(n:Int) > 12):=by omega
 refine an ?_;rw [AH];unfold ju;by_cases a:(¬r.kd=1/\¬r.kd=2)/\¬r.kd=3
 .simp only [gX,fE,ou,<-decide_not,<-Ug,<-UH];simp only [ak,↓reduceIte,Int.reduceBEq,Int.reduceEq,GD,h1,a,not_false_eq_true,and_self,s8]
 .rw [if_neg a];by_cases b:(r.of.length:Int) > (n:Int)
  .rw [if_pos (by omega)];simp only [gX,fE,ou,<-decide_not,<-Ug,<-UH];simp only [ak,↓reduceIte,Int.reduceBEq,Int.reduceEq,GD,h1,a,bN,b,s8]
  .rw [if_neg (by omega)];have c:=OW r.of r.e r.kd r.tv (by omega) r.of 0 rfl (by omega);simp only [gX,fE,ou,<-decide_not,<-Ug,<-UH];simp only [ak,↓reduceIte,Int.reduceBEq,Int.reduceEq,GD,h1,a,bN,b];exact c
theorem OX(rows:List R)(n:Nat)(e:Bool)(k:n<=12)(hr:∀r∈rows,r.e=true->r.of= [])(j:rows.length<=1000):∀(a:List R) (i:Nat),rows.drop i=a->
  Or vR [I (n:Int),r0,LR e rows,I (rows.length:Int),I (i:Int)] [aa.box [I 0,I 0]]=fl (iR n a i):=by
 intro a;induction a with
 | nil=>
  intro i h;refine an ?_;rw [Ff];have h1:¬(i:Int) < (rows.length:Int):=by have:=bF h;omega
  simp only [ak,↓reduceIte,Int.reduceBEq,Int.reduceEq,GD,h1,iR]
 | cons r a l=>
  intro i h;obtain⟨c,m,g⟩:=bz h;have h1:(i:Int) < (rows.length:Int):=by omega
  have d: 0<=(i:Int):=by omega
  have f:=IW r n k (hr r (SX c));refine an ?_;rw [Ff,iR];by_cases b:(ju n r).1=0
  .rw [if_pos b];simp only [ak,↓reduceIte,Int.reduceBEq,Int.reduceEq,GD,h1,d,and_self,bB,eC c,f,b,next i (by omega),l (i+1) g]
  .rw [if_neg b];simp only [ak,↓reduceIte,Int.reduceBEq,Int.reduceEq,GD,h1,d,and_self,bB,eC c,f,b]
theorem OZ(rows:List R)(n:Nat)(e:Bool)(k:n<=12)(j:rows.length<=1000):∀(a:List R) (i:Nat),rows.drop i=a->
  Or vW [LR e rows,I (n:Int),r0,I (i:Int)] [aa.box [I 0,I 0]]=fl (iR n a i):=by
 intro a;induction a with
 | nil=>
  intro i h;refine an ?_;rw [Fo];have h1:¬(i:Int) < (rows.length:Int):=by have:=bF h;omega
  simp only [ak,↓reduceIte,Int.reduceBEq,Int.reduceEq,GD,bB,h1,iR]
 | cons r a l=>
  intro i h;obtain⟨c,m,g⟩:=bz h;have h1:(i:Int) < (rows.length:Int):=by omega
  have d: 0<=(i:Int):=by omega
  have f:=QC r n k;refine an ?_;rw [Fo,iR];by_cases b:(ju n r).1=0
  .rw [if_pos b];simp only [ak,↓reduceIte,Int.reduceBEq,Int.reduceEq,GD,h1,d,and_self,bB,eC c,f,b,next i (by omega),l (i+1) g]
  .rw [if_neg b];simp only [ak,↓reduceIte,Int.reduceBEq,Int.reduceEq,GD,h1,d,and_self,bB,eC c,f,b,s8]
theorem QE(rows:List R)(n:Nat)(e:Bool)(b:n<=12)(hr:∀r∈rows,r.e=true->r.of= []):Or (.call 22) [LR e rows,I (n:Int)] []=fl (mZ n rows):=by
 have h1:¬((n:Int) < 0\/(n:Int) > 12):=by omega
 refine an ?_;rw [Fe];unfold mZ;simp only [gX,<-Ug];by_cases a:(rows.length:Int) > 40
 .rw [if_pos (by omega)];simp only [ak,↓reduceIte,Int.reduceBEq,Int.reduceEq,GD,h1,bB,a]
 .rw [if_neg (by omega)];simp only [ak,↓reduceIte,Int.reduceBEq,Int.reduceEq,GD,h1,bB,a];exact OX rows n e b hr (by omega) rows 0 rfl
theorem QL(rows:List R)(n:Nat)(e:Bool)(b:n<=12):Or (.call 11) [LR e rows,I (n:Int)] []=fl (mZ n rows):=by
 have h1:¬((n:Int) < 0\/(n:Int) > 12):=by omega
 refine an ?_;rw [e7];unfold mZ;simp only [gX,<-Ug];by_cases a:(rows.length:Int) > 40
 .rw [if_pos (by omega)];simp only [ak,↓reduceIte,Int.reduceBEq,Int.reduceEq,GD,h1,bB,a,s8]
 .rw [if_neg (by omega)];simp only [ak,↓reduceIte,Int.reduceBEq,Int.reduceEq,GD,h1,bB,a];exact OZ rows n e b (by omega) rows 0 rfl
open Go Go.Aev
def Bd(b:Int)(l:List Int):Prop:= ∀x∈l, -b<=x/\x<=b
theorem rM{a hi n:Int}(h: 0<=a/\a<=hi/\hi<=n):cT a hi n=some ():=by unfold cT;rw [if_pos h]
theorem yO(a:List Int)(b v:Int)(r:List Int)(i:Nat)(h:a.length=i):(a++b::r).set i v=a++v::r:=by subst h;simp
def gl(g:Nat):List Int->Nat
 | []=>g
 | x::l=>gl (Nat.gcd g x.natAbs) l
end Go.Aev.Gen
