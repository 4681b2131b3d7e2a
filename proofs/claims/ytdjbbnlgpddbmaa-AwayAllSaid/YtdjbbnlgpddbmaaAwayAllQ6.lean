import Derived.Test.YtdjbbnlgpddbmaaAwayAllQ5
import Derived.Test.YtdjbbnlgpddbmaaChecked
import Derived.KernelRfl
set_option linter.all false
namespace Go.Aev.Gen
open Go Go.Aev Go.IntKind
def Jg{a R:Type}[Inhabited a](m:Option a)(k:a->Option R):Option R:=aa none m k
theorem CF{b R:Type}[Inhabited b](a:b)(k:b->Option R):Jg (some a) k=k a:=rfl
abbrev Ji(n:Int):T:= .int .i64 n
abbrev Jb(b:Bool):T:= .bool b
abbrev Jl(k:Nat)(e:Bool)(l:List (List T)):AV:= .t (.ae k e l)
abbrev Js(s:ByteArray):AV:= .t (.str s)
abbrev Jo(k:Nat):AV:= .own (.c k)
abbrev Jr(k:Nat):AV:= .ref (.c k) 0
abbrev Ja(b:Bool)(s:ByteArray)(c:Bool)(t:ByteArray):AV:= .agg [B b,Js s,B c,Js t]
abbrev Jw(v:Int):Int:=i64.wrap (v+1)
abbrev JL:=List (List T)
def G0(m:Option (List T))(k:Int->Int->Option (List T)):Option (List T):=aa none m λl=>aa none l.head? λa=>aa none (T.int? .i64 a) λb=>aa none l.tail.head? λc=>aa none (T.int? .i64 c) λd=>k b d
def G1(i:Int)(L:JL)(k:(Bool×JL)->Int->Int->Option (List T)):Option (List T):=aa none (if 0<=i/\i < (L.length:Int) then some () else none) λ_=>aa none L[i.toNat]? λl=>aa none l.head? λa=>aa none l.tail.head? λb=>aa none l.tail.tail.head? λc=>aa none (T.aM 1 a) λd=>aa none (T.int? .i64 b) λe=>aa none (T.int? .i64 c) λf=>k d e f
def G2(i:Int)(L:JL)(k:Int->Option (List T)):Option (List T):=aa none (if 0<=i/\i < (L.length:Int) then some () else none) λ_=>aa none L[i.toNat]? λl=>aa none l.head? λa=>aa none (T.int? .i64 a) λb=>k b
def G3(m:Option (List T))(k:Bool->Option (List T)):Option (List T):=aa none m λl=>aa none l.head? λa=>aa none a.bool? λb=>k b
def G4(m:Option (List T))(k:(Bool×JL)->Option (List T)):Option (List T):=aa none m λl=>aa none l.head? λa=>aa none (T.aM 1 a) λb=>k b
def G5(c:Option Bool)(m:Option (List T))(k:Bool->Option (List T)):Option (List T):=aa none m λl=>aa c l.head? λa=>aa c a.bool? λb=>k b
def G6(c:Option Bool)(m:Option (List T))(k:(Bool×JL)->Option (List T)):Option (List T):=aa none m λl=>aa c l.head? λa=>aa c (T.aM 4 a) λb=>k b
def G7(c:Option Bool)(m:Option (List T))(k:Bool->ByteArray->Bool->ByteArray->Option (List T)):Option (List T):=aa none m λl=>aa c l.head? λa=>aa c a.bool? λb=>aa c l.tail.head? λd=>aa c d.bf λe=>aa c l.tail.tail.head? λf=>aa c f.bool? λg=>aa c l.tail.tail.tail.head? λh=>aa c h.bf λi=>k b e g i
def G8(c:Option Bool)(m:Option (List T))(k:Int->Option (List T)):Option (List T):=aa none m λl=>aa c l.head? λa=>aa c (T.int? .i64 a) λb=>k b
def G9(m:Option (List T))(k:Int->Option (List T)):Option (List T):=aa none m λl=>aa none l.head? λa=>aa none (T.int? .i64 a) λb=>k b
def bD(m:Option (List T))(k:Bool->ByteArray->Option (List T)):Option (List T):=aa none m λl=>aa none l.head? λa=>aa none a.bool? λb=>aa none l.tail.head? λc=>aa none c.bf λd=>k b d
def bp(m:Option (List T))(k:Bool->ByteArray->Bool->ByteArray->Option (List T)):Option (List T):=aa none m λl=>aa none l.head? λa=>aa none a.bool? λb=>aa none l.tail.head? λc=>aa none c.bf λd=>aa none l.tail.tail.head? λe=>aa none e.bool? λf=>aa none l.tail.tail.tail.head? λg=>aa none g.bf λh=>k b d f h
def B8(c:Option Bool)(i:Int)(L:JL)(k:Int->Option (List T)):Option (List T):=aa c (if 0<=i/\i < (L.length:Int) then some () else none) λ_=>aa c L[i.toNat]? λl=>aa c l.head? λa=>aa c (T.int? .i64 a) λb=>k b
def B9(m:Option (List T))(k:(Bool×JL)->Option (List T)):Option (List T):=aa none m λl=>aa none l.head? λa=>aa none (T.aM 4 a) λb=>k b
def Ca(m:Option (List T))(k:(List T)->(Bool×JL)->Bool->ByteArray->Bool->ByteArray->Option (List T)):Option (List T):=aa none m λl=>aa none l.head? λa=>aa none (T.aM 4 a) λb=>aa none l.tail.head? λc=>aa none c.bool? λd=>aa none l.tail.tail.head? λe=>aa none e.bf λf=>aa none l.tail.tail.tail.head? λg=>aa none g.bool? λh=>aa none l.tail.tail.tail.tail.head? λi=>aa none i.bf λj=>k l b d f h j
def Cb(m:Option T)(k:Bool->Option (List T)):Option (List T):=aa none m λl=>aa none l.bool? λa=>k a
def tO(i:Int)(L:JL)(k:Int->Int->Option (List T)):Option (List T):=aa none (if 0<=i/\i < (L.length:Int) then some () else none) λ_=>aa none L[i.toNat]? λl=>aa none l.head? λa=>aa none l.tail.head? λb=>aa none (T.int? .i64 a) λc=>aa none (T.int? .i64 b) λd=>k c d
def oD(i:Int)(L:JL)(k:Bool->ByteArray->Bool->ByteArray->Option (List T)):Option (List T):=aa none (if 0<=i/\i < (L.length:Int) then some () else none) λ_=>aa none L[i.toNat]? λl=>aa none l.head? λa=>aa none l.tail.head? λb=>aa none l.tail.tail.head? λc=>aa none l.tail.tail.tail.head? λd=>aa none a.bool? λe=>aa none b.bf λf=>aa none c.bool? λg=>aa none d.bf λh=>k e f g h
def pD(m:Option (List T))(k:Bool->ByteArray->Bool->ByteArray->Int->Option (List T)):Option (List T):=aa none m λl=>aa none l.head? λa=>aa none a.bool? λb=>aa none l.tail.head? λc=>aa none c.bf λd=>aa none (List.drop 2 l).head? λe=>aa none e.bool? λf=>aa none (List.drop 2 l).tail.head? λg=>aa none g.bf λh=>aa none (List.drop 2 (List.drop 2 l)).head? λi=>aa none (T.int? .i64 i) λj=>k b d f h j
def pE(m:Option (List T))(k:Bool->ByteArray->Int->Option (List T)):Option (List T):=aa none m λl=>aa none l.head? λa=>aa none a.bool? λb=>aa none l.tail.head? λc=>aa none c.bf λd=>aa none (List.drop 2 l).head? λe=>aa none (T.int? .i64 e) λf=>k b d f
def tP(m:Option (List T))(k:(Bool×JL)->(Bool×JL)->Option (List T)):Option (List T):=aa none m λl=>aa none l.head? λa=>aa none (T.aM 1 a) λb=>aa none l.tail.head? λc=>aa none (T.aM 1 c) λd=>k b d
def eV(i:Int)(L:JL)(k:Int->Option (List T)):Option (List T):=aa none (if 0<=i/\i < (L.length:Int) then some () else none) λ_=>aa none L[i.toNat]? λl=>aa none l.head? λa=>aa none (T.int? u32 a) λb=>k b
def gM(m:Option (List T))(k:Int->Option (List T)):Option (List T):=aa none m λl=>aa none l.head? λa=>aa none (T.int? u32 a) λb=>k b
def ye(m:Option (List T))(k:(Bool×JL)->Int->Option (List T)):Option (List T):=aa none m λl=>aa none l.head? λa=>aa none (T.aM 1 a) λb=>aa none l.tail.head? λc=>aa none (T.int? u32 c) λd=>k b d
def Cc(c:Option Bool)(i:Int)(L:JL)(k:Bool->ByteArray->Bool->ByteArray->Option (List T)):Option (List T):=aa c (if 0<=i/\i < (L.length:Int) then some () else none) λ_=>aa c L[i.toNat]? λl=>aa c l.head? λa=>aa c l.tail.head? λb=>aa c l.tail.tail.head? λd=>aa c l.tail.tail.tail.head? λe=>aa c a.bool? λf=>aa c b.bf λg=>aa c d.bool? λh=>aa c e.bf λj=>k f g h j
def Cd(m:Option (List T))(k:Bool->Int->Int->Option (List T)):Option (List T):=aa none m λl=>aa none l.head? λa=>aa none a.bool? λb=>aa none l.tail.head? λc=>aa none (T.int? .i64 c) λd=>aa none l.tail.tail.head? λe=>aa none (T.int? .i64 e) λf=>k b d f
def pF(c:Option Bool)(m:Option (List T))(k:Int->Option (List T)):Option (List T):=aa c m λl=>aa c l.head? λa=>aa c (T.int? u32 a) λb=>k b
def rA(c:Option Bool)(m:Option (List T))(k:Int->Option (List T)):Option (List T):=aa none m λl=>aa c l.head? λa=>aa c (T.int? u64 a) λb=>k b
def yf(m:Option (List T))(k:(Bool×JL)->Bool->Option (List T)):Option (List T):=aa none m λl=>aa none l.head? λa=>aa none (T.aM 1 a) λb=>aa none l.tail.head? λc=>aa none c.bool? λd=>k b d
def tQ(m:Option (List T))(k:Bool->(Bool×JL)->Option (List T)):Option (List T):=aa none m λl=>aa none l.head? λa=>aa none a.bool? λb=>aa none ((List.drop 1 l).head?.bind λz=>T.aM 1 z) λc=>k b c
def tR(m:Option (List T))(k:Int->Bool->Option (List T)):Option (List T):=aa none m λl=>aa none l.head? λa=>aa none (T.int? .i64 a) λb=>aa none l.tail.head? λc=>aa none c.bool? λd=>k b d
def yg(c:Option Bool)(m:Option (List T))(k:Int->Int->Option (List T)):Option (List T):=aa none m λl=>aa c l.head? λa=>aa c (T.int? .i64 a) λb=>aa c l.tail.head? λd=>aa c (T.int? .i64 d) λe=>k b e
def Ce(m:Option (List T))(k:Bool->(Bool×JL)->Option (List T)):Option (List T):=aa none m λl=>aa none l.head? λe=>aa none (List.drop 1 l).head? λa=>aa none a.bool? λb=>aa none (List.drop 1 l).tail.head? λc=>aa none (T.aM 1 c) λd=>k b d
def Cf(m:Option (List T))(k:Bool->(Bool×JL)->Bool->(Bool×JL)->Option (List T)):Option (List T):=aa none m λl=>aa none l.head? λi=>aa none l.tail.head? λj=>aa none (List.drop 2 l).head? λa=>aa none a.bool? λb=>aa none (List.drop 2 l).tail.head? λc=>aa none (T.aM 1 c) λd=>aa none (List.drop 2 (List.drop 2 l)).head? λe=>aa none e.bool? λf=>aa none (List.drop 2 (List.drop 2 l)).tail.head? λg=>aa none (T.aM 1 g) λh=>k b d f h
def Cg(m:Option (List T))(k:T->Option (List T)):Option (List T):=aa none m λl=>aa none l.head? λa=>k a
def Ch(m:Option (List T))(k:Int->Option (List T)):Option (List T):=aa none m λl=>aa none l.head? λa=>aa none (T.int? u64 a) λb=>k b
def Ci(m:Option (List T))(k:Bool->(Bool×JL)->Bool->(Bool×JL)->Option (List T)):Option (List T):=aa none m λl=>aa none l.head? λi=>aa none (List.drop 1 l).head? λa=>aa none a.bool? λb=>aa none (List.drop 1 l).tail.head? λc=>aa none (T.aM 1 c) λd=>aa none (List.drop 1 l).tail.tail.head? λe=>aa none e.bool? λf=>aa none (List.drop 1 l).tail.tail.tail.head? λg=>aa none (T.aM 1 g) λh=>k b d f h
def yh(m:Option (List T))(k:Int->(Bool×JL)->(Bool×JL)->(List (List T×T))->(Bool×List Row)->(Bool×JL)->(Bool×JL)->Option (List T)):Option (List T):=aa none m λl=>aa none l.head? λe=>aa none (T.int? .i64 e) λf=>aa none l.tail.head? λg=>aa none (T.aM 3 g) λh=>aa none l.tail.tail.head? λi=>aa none (T.aM 1 i) λj=>aa none l.tail.tail.tail.head? λn=>aa none (lM n) λo=>aa none l.tail.tail.tail.tail.head? λp=>aa none (jN p) λq=>aa none l.tail.tail.tail.tail.tail.head? λa=>aa none (T.aM 8 a) λb=>aa none l.tail.tail.tail.tail.tail.tail.head? λc=>aa none (T.aM 4 c) λd=>k f h j o q b d
def yk(m:Option (List T))(k:(Bool×JL)->Bool->Int->(Bool×JL)->(Bool×List Row)->(Bool×JL)->(List (List T×T))->(Bool×JL)->(Bool×JL)->Option (List T)):Option (List T):=aa none m λl=>aa none l.head? λg=>aa none (T.aM 4 g) λh=>aa none l.tail.head? λi=>aa none i.bool? λj=>aa none (List.drop 2 l).head? λn=>aa none (T.int? .i64 n) λo=>aa none (List.drop 2 l).tail.head? λp=>aa none (T.aM 3 p) λq=>aa none (List.drop 2 l).tail.tail.head? λt=>aa none (List.drop 2 l).tail.tail.tail.head? λu=>aa none (List.drop 2 l).tail.tail.tail.tail.head? λa=>aa none (jN a) λb=>aa none (List.drop 2 l).tail.tail.tail.tail.tail.head? λr=>aa none (List.drop 2 l).tail.tail.tail.tail.tail.tail.head? λs=>aa none ((List.drop 7 (List.drop 2 l)).head?.bind λz=>T.aM 1 z) λc=>aa none ((List.drop 7 (List.drop 2 l)).tail.head?.bind λz=>lM z) λd=>aa none ((List.drop 7 (List.drop 2 l)).tail.tail.head?.bind λz=>T.aM 8 z) λe=>aa none ((List.drop 7 (List.drop 2 l)).tail.tail.tail.head?.bind λz=>T.aM 4 z) λf=>k h j o q b c d e f
def rB(m:Option (List T))(k:(Bool×JL)->Bool->Option (List T)):Option (List T):=aa none m λl=>aa none l.head? λa=>aa none (T.aM 2 a) λb=>aa none l.tail.head? λc=>aa none c.bool? λd=>k b d
def Cj(m:Option (List T))(k:(Bool×JL)->(Bool×JL)->Bool->Int->(Bool×JL)->(Bool×List Row)->(Bool×JL)->(Bool×JL)->(List (List T×T))->(Bool×JL)->Option (List T)):Option (List T):=aa none m λl=>aa none l.head? λh=>aa none (T.aM 4 h) λi=>aa none l.tail.head? λj=>aa none (T.aM 4 j) λn=>aa none l.tail.tail.head? λo=>aa none o.bool? λp=>aa none (List.drop 3 l).head? λq=>aa none (T.int? .i64 q) λr=>aa none (List.drop 3 l).tail.head? λs=>aa none (T.aM 3 s) λt=>aa none (List.drop 3 l).tail.tail.head? λu=>aa none (List.drop 3 l).tail.tail.tail.head? λv=>aa none (List.drop 3 l).tail.tail.tail.tail.head? λa=>aa none (jN a) λb=>aa none (List.drop 3 l).tail.tail.tail.tail.tail.head? λw=>aa none (List.drop 3 l).tail.tail.tail.tail.tail.tail.head? λc=>aa none (T.aM 4 c) λd=>aa none ((List.drop 7 (List.drop 3 l)).head?.bind λz=>T.aM 1 z) λe=>aa none ((List.drop 7 (List.drop 3 l)).tail.head?.bind λz=>lM z) λf=>aa none ((List.drop 7 (List.drop 3 l)).tail.tail.head?.bind λz=>T.aM 8 z) λg=>k i n p r t b d e f g
def Cl(m:Option (List T))(k:(Bool×JL)->Int->(Bool×JL)->(Bool×List Row)->(Bool×JL)->(Bool×JL)->(List (List T×T))->(Bool×JL)->Option (List T)):Option (List T):=aa none m λl=>aa none l.head? λf=>aa none (T.aM 4 f) λg=>aa none (List.drop 1 l).head? λh=>aa none (T.int? .i64 h) λi=>aa none (List.drop 1 l).tail.head? λj=>aa none (T.aM 3 j) λn=>aa none (List.drop 1 l).tail.tail.head? λr=>aa none (List.drop 1 l).tail.tail.tail.head? λs=>aa none (List.drop 1 l).tail.tail.tail.tail.head? λo=>aa none (jN o) λp=>aa none (List.drop 1 l).tail.tail.tail.tail.tail.head? λq=>aa none (List.drop 1 l).tail.tail.tail.tail.tail.tail.head? λa=>aa none (T.aM 4 a) λb=>aa none ((List.drop 7 (List.drop 1 l)).head?.bind λz=>T.aM 1 z) λc=>aa none ((List.drop 7 (List.drop 1 l)).tail.head?.bind λz=>lM z) λd=>aa none ((List.drop 7 (List.drop 1 l)).tail.tail.head?.bind λz=>T.aM 8 z) λe=>k g i n p b c d e
def yl(m:Option (List T))(k:Int->Int->Bool->Option (List T)):Option (List T):=aa none m λl=>aa none l.head? λa=>aa none (T.int? .i64 a) λb=>aa none l.tail.head? λc=>aa none (T.int? .i64 c) λd=>aa none (List.drop 2 l).head? λe=>aa none e.bool? λf=>k b d f
def ff{a:Type}[Inhabited a](i:Int)(L:List a)(k:a->Option (List T)):Option (List T):=aa none (if 0<=i/\i < (L.length:Int) then some () else none) λ_=>aa none L[i.toNat]? λl=>k l
def ym(m:Option (List T))(k:Bool->ByteArray->Bool->ByteArray->Bool->ByteArray->Bool->ByteArray->Option (List T)):Option (List T):=aa none m λl=>aa none l.head? λg=>aa none l.tail.head? λh=>aa none l.tail.tail.head? λi=>aa none l.tail.tail.tail.head? λj=>aa none l.tail.tail.tail.tail.head? λn=>aa none l.tail.tail.tail.tail.tail.head? λo=>aa none l.tail.tail.tail.tail.tail.tail.head? λp=>aa none l.tail.tail.tail.tail.tail.tail.tail.head? λq=>aa none g.bool? λr=>aa none h.bf λs=>aa none i.bool? λa=>aa none j.bf λb=>aa none n.bool? λc=>aa none o.bf λd=>aa none p.bool? λe=>aa none q.bf λf=>k r s a b c d e f
def gN(m:Option (List T))(k:Bool->ByteArray->Bool->ByteArray->Option (List T)):Option (List T):=aa none m λl=>aa none l.head? λa=>aa none l.tail.head? λb=>aa none l.tail.tail.head? λc=>aa none l.tail.tail.tail.head? λd=>aa none a.bool? λe=>aa none b.bf λf=>aa none c.bool? λg=>aa none d.bf λh=>k e f g h
def oE(m:Option (List T))(k:(Bool×JL)->Int->(Bool×JL)->(Bool×List Row)->(Bool×JL)->(List (List T×T))->(Bool×JL)->(Bool×JL)->Option (List T)):Option (List T):=aa none m λl=>aa none l.head? λe=>aa none (T.aM 4 e) λf=>aa none (List.drop 1 l).head? λg=>aa none (T.int? .i64 g) λh=>aa none (List.drop 1 l).tail.head? λi=>aa none (T.aM 3 i) λj=>aa none (List.drop 1 l).tail.tail.head? λr=>aa none (List.drop 1 l).tail.tail.tail.head? λs=>aa none (List.drop 1 l).tail.tail.tail.tail.head? λn=>aa none (jN n) λo=>aa none (List.drop 1 l).tail.tail.tail.tail.tail.head? λp=>aa none (List.drop 1 l).tail.tail.tail.tail.tail.tail.head? λq=>aa none ((List.drop 7 (List.drop 1 l)).head?.bind λz=>T.aM 1 z) λa=>aa none ((List.drop 7 (List.drop 1 l)).tail.head?.bind λz=>lM z) λb=>aa none ((List.drop 7 (List.drop 1 l)).tail.tail.head?.bind λz=>T.aM 8 z) λc=>aa none ((List.drop 7 (List.drop 1 l)).tail.tail.tail.head?.bind λz=>T.aM 4 z) λd=>k f h j o a b c d
def gO(m:Option (List T))(k:Bool->ByteArray->Bool->ByteArray->Bool->ByteArray->Bool->ByteArray->Bool->Option (List T)):Option (List T):=aa none m λl=>aa none l.head? λi=>aa none i.bool? λj=>aa none l.tail.head? λn=>aa none n.bf λo=>aa none l.tail.tail.head? λp=>aa none p.bool? λq=>aa none l.tail.tail.tail.head? λr=>aa none r.bf λs=>aa none l.tail.tail.tail.tail.head? λt=>aa none t.bool? λu=>aa none l.tail.tail.tail.tail.tail.head? λa=>aa none a.bf λb=>aa none l.tail.tail.tail.tail.tail.tail.head? λc=>aa none c.bool? λd=>aa none l.tail.tail.tail.tail.tail.tail.tail.head? λe=>aa none e.bf λf=>aa none (List.drop 8 l).head? λg=>aa none g.bool? λh=>k j o q s u b d f h
def jE(i:Int)(L:JL)(k:Bool->ByteArray->Bool->ByteArray->Bool->ByteArray->Bool->ByteArray->Option (List T)):Option (List T):=aa none (if 0<=i/\i < (L.length:Int) then some () else none) λ_=>aa none L[i.toNat]? λl=>aa none l.head? λg=>aa none l.tail.head? λh=>aa none l.tail.tail.head? λj=>aa none l.tail.tail.tail.head? λm=>aa none l.tail.tail.tail.tail.head? λn=>aa none l.tail.tail.tail.tail.tail.head? λo=>aa none l.tail.tail.tail.tail.tail.tail.head? λp=>aa none l.tail.tail.tail.tail.tail.tail.tail.head? λq=>aa none g.bool? λr=>aa none h.bf λs=>aa none j.bool? λa=>aa none m.bf λb=>aa none n.bool? λc=>aa none o.bf λd=>aa none p.bool? λe=>aa none q.bf λf=>k r s a b c d e f
def eW(m:Option (List T))(k:Bool->ByteArray->Bool->ByteArray->Bool->ByteArray->Bool->ByteArray->Option (List T)):Option (List T):=aa none m λl=>aa none l.head? λg=>aa none g.bool? λh=>aa none l.tail.head? λi=>aa none i.bf λj=>aa none l.tail.tail.head? λn=>aa none n.bool? λo=>aa none l.tail.tail.tail.head? λp=>aa none p.bf λq=>aa none l.tail.tail.tail.tail.head? λr=>aa none r.bool? λs=>aa none l.tail.tail.tail.tail.tail.head? λa=>aa none a.bf λb=>aa none l.tail.tail.tail.tail.tail.tail.head? λc=>aa none c.bool? λd=>aa none l.tail.tail.tail.tail.tail.tail.tail.head? λe=>aa none e.bf λf=>k h j o q s b d f
def gg(m:Option (List T))(k:Int->(Bool×JL)->(Bool×List Row)->(Bool×JL)->(List (List T×T))->(Bool×JL)->(Bool×JL)->Option (List T)):Option (List T):=aa none m λl=>aa none l.head? λe=>aa none (T.int? .i64 e) λf=>aa none l.tail.head? λg=>aa none (T.aM 3 g) λh=>aa none l.tail.tail.head? λn=>aa none l.tail.tail.tail.head? λo=>aa none l.tail.tail.tail.tail.head? λi=>aa none (jN i) λj=>aa none l.tail.tail.tail.tail.tail.head? λp=>aa none l.tail.tail.tail.tail.tail.tail.head? λq=>aa none ((List.drop 7 l).head?.bind λz=>T.aM 1 z) λa=>aa none ((List.drop 7 l).tail.head?.bind λz=>lM z) λb=>aa none ((List.drop 7 l).tail.tail.head?.bind λz=>T.aM 8 z) λc=>aa none ((List.drop 7 l).tail.tail.tail.head?.bind λz=>T.aM 4 z) λd=>k f h j a b c d
def yn(i:Int)(L:JL)(k:Bool->ByteArray->Bool->ByteArray->Option (List T)):Option (List T):=aa none (if 0<=i/\i < (L.length:Int) then some () else none) λ_=>aa none L[i.toNat]? λl=>aa none (List.drop 4 l).head? λa=>aa none (List.drop 4 l).tail.head? λb=>aa none (List.drop 4 l).tail.tail.head? λc=>aa none (List.drop 4 l).tail.tail.tail.head? λd=>aa none a.bool? λe=>aa none b.bf λf=>aa none c.bool? λg=>aa none d.bf λh=>k e f g h
def oF(c:Option Bool)(i:Int)(L:JL)(k:Bool->ByteArray->Bool->ByteArray->Bool->ByteArray->Bool->ByteArray->Option (List T)):Option (List T):=aa c (if 0<=i/\i < (L.length:Int) then some () else none) λ_=>aa c L[i.toNat]? λl=>aa c l.head? λh=>aa c l.tail.head? λj=>aa c l.tail.tail.head? λm=>aa c l.tail.tail.tail.head? λn=>aa c l.tail.tail.tail.tail.head? λo=>aa c l.tail.tail.tail.tail.tail.head? λp=>aa c l.tail.tail.tail.tail.tail.tail.head? λq=>aa c l.tail.tail.tail.tail.tail.tail.tail.head? λr=>aa c h.bool? λs=>aa c j.bf λt=>aa c m.bool? λa=>aa c n.bf λb=>aa c o.bool? λd=>aa c p.bf λe=>aa c q.bool? λf=>aa c r.bf λg=>k s t a b d e f g
def yo(m:Option (List T))(k:(Bool×JL)->Int->Int->Option (List T)):Option (List T):=aa none m λl=>aa none l.head? λa=>aa none l.tail.head? λb=>aa none l.tail.tail.head? λc=>aa none (T.aM 1 a) λd=>aa none (T.int? .i64 b) λe=>aa none (T.int? .i64 c) λf=>k d e f
def yp(c:Option Bool)(m:Option (List T))(k:Int->Option (List T)):Option (List T):=aa c m λl=>aa c (List.drop 1 l).head? λa=>aa c (T.int? .i64 a) λb=>k b
def yq(m:Option (List T))(k:Int->Option (List T)):Option (List T):=aa none m λl=>aa none (List.drop 2 l).head? λa=>aa none (T.int? .i64 a) λb=>k b
def Cm(m:Option (List T))(k:(List T)->Int->Bool->ByteArray->Bool->ByteArray->Bool->ByteArray->Bool->ByteArray->Option (List T)):Option (List T):=aa none m λl=>aa none l.head? λi=>aa none (T.int? .i64 i) λj=>aa none l.tail.head? λn=>aa none n.bool? λo=>aa none l.tail.tail.head? λp=>aa none p.bf λq=>aa none l.tail.tail.tail.head? λr=>aa none r.bool? λs=>aa none l.tail.tail.tail.tail.head? λt=>aa none t.bf λu=>aa none l.tail.tail.tail.tail.tail.head? λa=>aa none a.bool? λb=>aa none l.tail.tail.tail.tail.tail.tail.head? λc=>aa none c.bf λd=>aa none l.tail.tail.tail.tail.tail.tail.tail.head? λe=>aa none e.bool? λf=>aa none l.tail.tail.tail.tail.tail.tail.tail.tail.head? λg=>aa none g.bf λh=>k l j o q s u b d f h
def Cn(m:Option T)(k:Int->Option (List T)):Option (List T):=aa none m λl=>aa none (T.int? .i64 l) λa=>k a
def Co(m:Option T)(k:(Bool×JL)->Option (List T)):Option (List T):=aa none m λl=>aa none (T.aM 3 l) λa=>k a
def Cp(m:Option T)(k:(Bool×List Row)->Option (List T)):Option (List T):=aa none m λl=>aa none (jN l) λa=>k a
def Cq(m:Option (List T))(k:(List T)->Bool->Bool->ByteArray->Bool->ByteArray->Bool->ByteArray->Bool->ByteArray->Option (List T)):Option (List T):=aa none m λl=>aa none l.head? λv=>aa none (List.drop 1 l).head? λj=>aa none j.bool? λn=>aa none (List.drop 1 (List.drop 1 l)).head? λo=>aa none o.bool? λp=>aa none (List.drop 1 (List.drop 1 l)).tail.head? λq=>aa none q.bf λr=>aa none (List.drop 1 (List.drop 1 l)).tail.tail.head? λs=>aa none s.bool? λt=>aa none (List.drop 1 (List.drop 1 l)).tail.tail.tail.head? λu=>aa none u.bf λa=>aa none (List.drop 1 (List.drop 1 l)).tail.tail.tail.tail.head? λb=>aa none b.bool? λc=>aa none (List.drop 1 (List.drop 1 l)).tail.tail.tail.tail.tail.head? λd=>aa none d.bf λe=>aa none (List.drop 1 (List.drop 1 l)).tail.tail.tail.tail.tail.tail.head? λf=>aa none f.bool? λg=>aa none (List.drop 1 (List.drop 1 l)).tail.tail.tail.tail.tail.tail.tail.head? λh=>aa none h.bf λi=>k l n p r t a c e g i
def tS(m:Option (List T))(k:(List T)->(Bool×JL)->Int->Option (List T)):Option (List T):=aa none m λl=>aa none (l.head?.bind λz=>T.aM 4 z) λa=>aa none l.tail.head? λb=>aa none (T.int? .i64 b) λc=>k l a c
def Cr(c:Option Bool)(i:Int)(L:JL)(k:Int->Int->Option (List T)):Option (List T):=aa c (if 0<=i/\i < (L.length:Int) then some () else none) λ_=>aa c L[i.toNat]? λl=>aa c l.head? λa=>aa c l.tail.head? λb=>aa c (T.int? .i64 a) λd=>aa c (T.int? .i64 b) λe=>k d e
def Cs(i:Int)(L:JL)(k:Int->Option (List T)):Option (List T):=aa none (if 0<=i/\i < (L.length:Int) then some () else none) λ_=>aa none L[i.toNat]? λl=>aa none (List.drop 1 l).head? λa=>aa none (T.int? .i64 a) λb=>k b
def Ct(c:Option Bool)(m:Option (List T))(k:T->Option (List T)):Option (List T):=aa none m λl=>aa c l.head? λa=>k a
def Cu(c:Option Bool)(i:Int)(L:JL)(k:(Bool×JL)->Int->Int->Option (List T)):Option (List T):=aa c (if 0<=i/\i < (L.length:Int) then some () else none) λ_=>aa c L[i.toNat]? λl=>aa c l.head? λa=>aa c l.tail.head? λb=>aa c l.tail.tail.head? λd=>aa c (T.aM 1 a) λe=>aa c (T.int? .i64 b) λf=>aa c (T.int? .i64 d) λg=>k e f g
def Cv(i:Int)(L:JL)(k:Int->Option (List T)):Option (List T):=aa none (if 0<=i/\i < (L.length:Int) then some () else none) λ_=>aa none L[i.toNat]? λl=>aa none (List.drop 2 l).head? λa=>aa none (T.int? .i64 a) λb=>k b
def Cw(i:Int)(L:JL)(k:(Bool×JL)->Option (List T)):Option (List T):=aa none (if 0<=i/\i < (L.length:Int) then some () else none) λ_=>aa none L[i.toNat]? λl=>aa none l.head? λa=>aa none (T.aM 1 a) λb=>k b
def Cx(c:Option Bool)(i:Int)(L:JL)(k:Int->Option (List T)):Option (List T):=aa c (if 0<=i/\i < (L.length:Int) then some () else none) λ_=>aa c L[i.toNat]? λl=>aa c (List.drop 1 l).head? λa=>aa c (T.int? .i64 a) λb=>k b
def Cy(m:Option (List T))(k:(List T)->Int->Int->Int->Option (List T)):Option (List T):=aa none m λl=>aa none l.head? λa=>aa none (T.int? .i64 a) λb=>aa none l.tail.head? λc=>aa none (T.int? .i64 c) λd=>aa none l.tail.tail.head? λe=>aa none (T.int? .i64 e) λf=>k l b d f
def Cz(m:Option T)(k:(Bool×JL)->Option (List T)):Option (List T):=aa none m λl=>aa none (T.aM 2 l) λa=>k a
def CA(m:Option (List T))(k:Int->(Bool×JL)->(Bool×JL)->Int->Int->Option (List T)):Option (List T):=aa none m λl=>aa none l.head? λa=>aa none (T.int? .i64 a) λb=>aa none l.tail.head? λc=>aa none (T.aM 2 c) λd=>aa none l.tail.tail.head? λe=>aa none (T.aM 2 e) λf=>aa none l.tail.tail.tail.head? λg=>aa none (T.int? .i64 g) λh=>aa none l.tail.tail.tail.tail.head? λi=>aa none (T.int? .i64 i) λj=>k b d f h j
def CB(c:Option Bool)(i:Int)(L:JL)(k:(Bool×JL)->Option (List T)):Option (List T):=aa c (if 0<=i/\i < (L.length:Int) then some () else none) λ_=>aa c L[i.toNat]? λl=>aa c l.head? λa=>aa c (T.aM 1 a) λb=>k b
def CC(c:Option Bool)(m:Option (List T))(k:Int->Option (List T)):Option (List T):=aa c m λl=>aa c l.head? λa=>aa c (T.int? .i64 a) λb=>k b
def CD(c:Option Bool)(i:Int)(L:JL)(k:Int->Option (List T)):Option (List T):=aa c (if 0<=i/\i < (L.length:Int) then some () else none) λ_=>aa c L[i.toNat]? λl=>aa c (List.drop 2 l).head? λa=>aa c (T.int? .i64 a) λb=>k b
abbrev Y0:=λd q1 e f g h j k l m a b c=>([ab.box [I d,Jl 3 q1 e,Jo 1,Jo 2,Jo 3,Jo 4,Jo 5],ab.sl false 1 f g,ab.mp false [Ck.i i64] (Ck.i i64) h,ab.rows j 1 0 4 k l,ab.sl false 8 m a,ab.sl false 4 b c]:List ab)
abbrev Y1:=λa q1=>([ab.sl false 1 a q1]:List ab)
abbrev Y3:=λa q1 b c=>([ab.sl false 1 a q1,ab.sl false 1 b c]:List ab)
abbrev Y9:=λa q1=>([ab.box [I a,I q1]]:List ab)
abbrev lB:=λd q1 e f g h j k l m a b c=>([ab.box [I d,Jl 3 q1 e,Jo 1,Jo 2,Jo 6,Jo 4,Jo 5],ab.sl false 1 f g,ab.mp false [Ck.i i64] (Ck.i i64) h,ab.dead,ab.sl false 8 j k,ab.sl false 4 l m,ab.rows a 1 0 4 b c]:List ab)
abbrev pT:=λa q1 b c d e f g=>([ab.box [B a,Js q1,B b,Js c],ab.box [B d,Js e,B f,Js g]]:List ab)
abbrev uR:=λa q1 b c d e f g h=>([ab.sl false 4 a q1,ab.box [I b],ab.box [Jo 3],ab.sl false 4 c d,ab.box [B e,Js f,B g,Js h]]:List ab)
abbrev yA:=λm q1 n o p q r s t u a b c d e f g h j k l=>([ab.box [I m,Jl 3 q1 n,Jo 1,Jo 2,Jo 3,Jo 4,Jo 5],ab.sl false 1 o p,ab.mp false [Ck.i i64] (Ck.i i64) q,ab.rows r 1 0 4 s t,ab.sl false 8 u a,ab.sl false 4 b c,ab.box [B d,Js e,B f,Js g,B h,Js j,B k,Js l]]:List ab)
abbrev yB:=λk q1 l m n o p q r s a b c d e f g h j=>([ab.box [I k,Jl 3 q1 l,Jo 1,Jo 2,Jo 3,Jo 4,Jo 5],ab.sl false 1 m n,ab.mp false [Ck.i i64] (Ck.i i64) o,ab.rows p 1 0 4 q r,ab.sl false 8 s a,ab.sl false 4 b c,ab.sl false 4 d e,ab.box [B f,Js g,B h,Js j]]:List ab)
abbrev yC:=λg q1 h j k l m n o p a b c d e f=>([ab.box [I g,Jl 3 q1 h,Jo 1,Jo 2,Jo 3,Jo 4,Jo 5],ab.sl false 1 j k,ab.mp false [Ck.i i64] (Ck.i i64) l,ab.rows m 1 0 4 n o,ab.sl false 8 p a,ab.sl false 4 b c,ab.box [I d],ab.box [Jo 8],ab.sl false 4 e f]:List ab)
abbrev yD:=λa q1 b c d=>([ab.sl false 4 a q1,ab.box [I b],ab.box [Jo 3],ab.sl false 4 c d]:List ab)
theorem GD:type_of% @CF/\type_of% @G0.eq_1/\type_of% @G1.eq_1/\type_of% @G2.eq_1/\type_of% @G3.eq_1/\type_of% @G4.eq_1/\type_of% @G5.eq_1/\type_of% @G6.eq_1/\type_of% @G7.eq_1/\type_of% @G8.eq_1/\type_of% @G9.eq_1/\type_of% @bD.eq_1/\type_of% @bp.eq_1/\type_of% @B8.eq_1/\type_of% @B9.eq_1/\type_of% @Ca.eq_1/\type_of% @Cb.eq_1/\type_of% @tO.eq_1/\type_of% @oD.eq_1/\type_of% @pD.eq_1/\type_of% @pE.eq_1/\type_of% @tP.eq_1/\type_of% @eV.eq_1/\type_of% @gM.eq_1/\type_of% @ye.eq_1/\type_of% @Cc.eq_1/\type_of% @Cd.eq_1/\type_of% @pF.eq_1/\type_of% @rA.eq_1/\type_of% @yf.eq_1/\type_of% @tQ.eq_1/\type_of% @tR.eq_1/\type_of% @yg.eq_1/\type_of% @Ce.eq_1/\type_of% @Cf.eq_1/\type_of% @Cg.eq_1/\type_of% @Ch.eq_1/\type_of% @Ci.eq_1/\type_of% @yh.eq_1/\type_of% @yk.eq_1/\type_of% @rB.eq_1/\type_of% @Cj.eq_1/\type_of% @Cl.eq_1/\type_of% @yl.eq_1/\type_of% @ff.eq_1/\type_of% @ym.eq_1/\type_of% @gN.eq_1/\type_of% @oE.eq_1/\type_of% @gO.eq_1/\type_of% @jE.eq_1/\type_of% @eW.eq_1/\type_of% @gg.eq_1/\type_of% @yn.eq_1/\type_of% @oF.eq_1/\type_of% @yo.eq_1/\type_of% @yp.eq_1/\type_of% @yq.eq_1/\type_of% @Cm.eq_1/\type_of% @Cn.eq_1/\type_of% @Co.eq_1/\type_of% @Cp.eq_1/\type_of% @Cq.eq_1/\type_of% @tS.eq_1/\type_of% @Cr.eq_1/\type_of% @Cs.eq_1/\type_of% @Ct.eq_1/\type_of% @Cu.eq_1/\type_of% @Cv.eq_1/\type_of% @Cw.eq_1/\type_of% @Cx.eq_1/\type_of% @Cy.eq_1/\type_of% @Cz.eq_1/\type_of% @CA.eq_1/\type_of% @CB.eq_1/\type_of% @CC.eq_1/\type_of% @CD.eq_1:=⟨@CF,@G0.eq_1,@G1.eq_1,@G2.eq_1,@G3.eq_1,@G4.eq_1,@G5.eq_1,@G6.eq_1,@G7.eq_1,@G8.eq_1,@G9.eq_1,@bD.eq_1,@bp.eq_1,@B8.eq_1,@B9.eq_1,@Ca.eq_1,@Cb.eq_1,@tO.eq_1,@oD.eq_1,@pD.eq_1,@pE.eq_1,@tP.eq_1,@eV.eq_1,@gM.eq_1,@ye.eq_1,@Cc.eq_1,@Cd.eq_1,@pF.eq_1,@rA.eq_1,@yf.eq_1,@tQ.eq_1,@tR.eq_1,@yg.eq_1,@Ce.eq_1,@Cf.eq_1,@Cg.eq_1,@Ch.eq_1,@Ci.eq_1,@yh.eq_1,@yk.eq_1,@rB.eq_1,@Cj.eq_1,@Cl.eq_1,@yl.eq_1,@ff.eq_1,@ym.eq_1,@gN.eq_1,@oE.eq_1,@gO.eq_1,@jE.eq_1,@eW.eq_1,@gg.eq_1,@yn.eq_1,@oF.eq_1,@yo.eq_1,@yp.eq_1,@yq.eq_1,@Cm.eq_1,@Cn.eq_1,@Co.eq_1,@Cp.eq_1,@Cq.eq_1,@tS.eq_1,@Cr.eq_1,@Cs.eq_1,@Ct.eq_1,@Cu.eq_1,@Cv.eq_1,@Cw.eq_1,@Cx.eq_1,@Cy.eq_1,@Cz.eq_1,@CA.eq_1,@CB.eq_1,@CC.eq_1,@CD.eq_1⟩
open Go Go.Aev Go.IntKind
noncomputable abbrev aq:=Go.Proofs.Try.prog
def ann:bZ:={
 live:=(λf r=>match f,r with
  | 10,6=>some [(1,none),(4,none),(21,none),(22,none),(23,none)]
  | 56,1=>some [(0,none),(1,none)]
  | 66,6=>some [(1,none),(5,none),(13,none),(14,none),(15,none)]
  | 31,8=>some [(4,none),(43,none),(44,none),(45,none)]
  | 79,4=>some [(0,none),(1,none),(4,none),(5,none),(14,none),(15,none),(16,none)]
  | 80,2=>some [(4,none),(5,none),(6,none)]
  | 84,6=>some [(0,none),(1,none),(5,none)]
  | 85,3=>some [(1,none),(3,none),(12,none),(13,none)]
  | 75,2=>some [(0,none),(1,none),(7,none),(8,none)]
  | 86,1=>some [(0,none)]
  | 87,10=>some [(0,none),(8,none),(9,none),(10,some 1)]
  | 87,15=>some [(8,none),(9,none),(10,some 1),(11,none),(12,none),(13,none)]
  | 87,19=>some [(8,none),(9,none),(10,some 1),(11,none),(12,none),(13,none),(15,none),(16,none)]
  | 87,27=>some [(8,none),(9,none),(10,some 1),(11,none),(12,none),(13,none),(15,none),(17,none),(167,none),(168,none),(169,none)]
  | 92,3=>some [(1,none),(5,none),(17,none),(18,none),(19,none)]
  | 92,7=>some [(1,none),(5,none),(6,none),(7,none),(8,none),(17,none),(18,none),(19,none),(24,none),(25,none),(26,none)]
  | 93,4=>some [(0,none),(1,none),(6,none),(7,none),(8,none)]
  | 95,4=>some [(1,none),(5,none),(6,none),(18,none),(19,none),(20,none)]
  | 96,3=>some [(0,none),(1,none),(2,none),(7,none),(8,none),(12,none),(13,none)]
  | 97,4=>some [(0,none),(1,none),(6,none),(7,none),(20,none),(21,none),(22,none)]
  | 97,15=>some [(0,none),(1,none),(6,none),(10,none),(58,none),(59,none),(60,none)]
  | 98,6=>some [(1,none),(5,none),(6,none),(20,none),(21,none),(22,none)]
  | 99,4=>some [(1,none),(5,none),(6,none),(13,none),(14,none),(15,none)]
  | 14,3=>some [(0,none),(1,none),(5,some 3000001),(5,some 5101004),(5,some 7000004),(21,none),(22,none),(23,none)]
  | 14,7=>some [(0,none),(1,none),(5,some 3000001),(5,some 5101004),(5,some 7000004),(6,none),(8,none),(21,none),(22,none),(23,none),(34,none),(35,none),(36,none)]
  | 15,1=>some [(0,none),(1,none)]
  | 15,10=>some [(0,none),(1,none),(6,none),(7,none),(8,none),(9,none),(38,none),(39,none),(40,none)]
  | 17,4=>some [(4,some 2),(5,none),(10,none),(11,none),(12,none)]
  | 16,4=>some [(3,none),(4,some 4),(17,none),(18,none),(19,none)]
  | 32,2=>some [(0,none),(1,none),(7,none),(8,none)]
  | 35,3=>some [(0,none),(4,none),(5,none),(15,none),(16,none),(17,none)]
  | 38,5=>some [(0,none),(7,none),(8,none),(41,none),(42,none),(43,none)]
  | 43,3=>some [(0,none),(1,none),(5,none),(26,none),(27,none),(28,none)]
  | 44,5=>some [(0,none),(1,none),(5,none),(6,none),(7,none),(8,none),(45,none),(46,none),(47,none)]
  | 44,13=>some [(0,none),(1,none),(5,none),(6,none),(8,none),(11,none),(75,none),(76,none)]
  | 45,3=>some [(0,none),(2,none),(3,none),(14,none),(15,none)]
  | 33,5=>some [(4,none),(16,none),(17,none),(18,none)]
  | 34,3=>some [(1,none),(4,none),(5,none),(9,none),(10,none),(11,none)]
  | 74,4=>some [(0,none),(4,none),(18,none),(19,none),(20,none)]
  | 7,6=>some [(0,none),(1,none),(2,none),(7,none),(9,some 3),(30,none),(31,none),(32,none)]
  | 7,14=>some [(2,none),(7,none),(9,some 3),(15,none),(66,none),(67,none),(68,none)]
  | 7,17=>some [(2,none),(7,none),(9,some 3),(15,none),(17,none),(66,none),(67,none),(68,none),(72,none),(73,none),(74,none)]
  | 9,4=>some [(0,none),(1,none),(5,none)]
  | 19,9=>some [(1,none),(2,none),(3,none),(5,none),(6,none),(32,none),(33,none),(34,none)]
  | 19,14=>some [(1,none),(2,none),(3,none),(5,none),(6,none),(43,none),(44,none)]
  | 20,4=>some [(1,none),(5,none),(8,some 1000004),(9,some 1000004),(10,none),(15,none),(16,none),(17,none)]
  | 21,6=>some [(3,none),(4,none),(6,none),(8,none),(9,none),(11,none),(38,none),(39,none)]
  | 47,1=>some [(0,none)]
  | 49,1=>some [(0,none),(1,none)]
  | 50,4=>some [(1,none),(2,none),(21,none),(22,none)]
  | 53,3=>some [(3,some 1),(6,none),(7,none),(8,none)]
  | 54,1=>some [(0,none),(1,none)]
  | 55,4=>some [(0,none),(1,none),(6,none),(8,none)]
  | 55,12=>some [(0,none),(1,none),(6,none),(8,none),(11,none),(53,none),(54,none),(55,none)]
  | 55,19=>some [(1,none),(6,none),(8,some 1000001),(11,none),(14,none),(15,none),(68,none),(69,none),(70,none)]
  | 67,4=>some [(0,none),(1,none),(5,none)]
  | 8,7=>some [(0,none),(1,none),(2,none),(3,none),(8,none),(9,none),(38,none),(39,none),(40,none)]
  | 23,4=>some [(1,none),(2,none),(3,none),(8,none),(10,none),(11,none),(16,none),(17,none),(18,none)]
  | 58,3=>some [(1,none),(2,none),(3,none),(6,none),(7,none),(14,none),(15,none),(16,none)]
  | 5,5=>some [(0,none),(1,none),(5,none),(18,none),(19,none)]
  | 5,14=>some [(0,none),(5,none),(9,none),(37,none),(38,none)]
  | _,_=>none),
 join:=(λf r=>match f,r with
  | 5,18=>some [(0,none),(5,none),(9,some 999999)]
  | _,_=>none),
 sig:=(λf=>match f with
  | 95=>some ⟨[.own 1],[]⟩
  | 68=>some ⟨[.own 1],[]⟩
  | 14=>some ⟨[.new [.f (.i .i64), .t (.l 3), .own 1, .mp false [.i .i64] (.i .i64), .rows 1 0 4, .own 8, .own 4]],[]⟩
  | 52=>some ⟨[.own 1],[]⟩
  | 53=>some ⟨[.own 1],[]⟩
  | 47=>some ⟨[.own 1],[]⟩
  | _=>none),
 gQ:=(λf=>match f with
  | 96=>some [true,false,false]
  | 15=>some [true,false]
  | 16=>some [true]
  | 38=>some [true,false,false]
  | 43=>some [true,false,false]
  | 44=>some [true,false,false]
  | 74=>some [true,true,true]
  | 51=>some [false,true,true,true]
  | 50=>some [true]
  | _=>none),
 deep:=(λf=>match f with
  | 35=>true
  | 37=>true
  | 39=>true
  | 40=>true
  | 45=>true
  | _=>false),
 app:=(λd=>match d with
  | some 11=>true
  | some 16=>true
  | _=>false),
 yS:=(λf m=>match f with
  | 96=>⟨[.f .b],[.sl 1]⟩
  | 15=>⟨[.own 4, .f .b],[.box [.f (.i .i64), .t (.l 3), .same 1, .same 2, .rows 1 0 4, .same 4, .same 5], .sl 1, .mp false [.i .i64] (.i .i64), .dead, .sl 8, .sl 4]⟩
  | 16=>if m=4007 then⟨[.own 4],[.box [.f (.i .i64), .t (.l 3), .same 1, .same 2, .rows 1 0 4, .same 4, .t (.l 4)], .sl 1, .mp false [.i .i64] (.i .i64), .dead, .sl 8]⟩ else⟨[.own 4],[.box [.f (.i .i64), .t (.l 3), .same 1, .same 2, .rows 1 0 4, .same 4, .same 5], .sl 1, .mp false [.i .i64] (.i .i64), .dead, .sl 8, .sl 4]⟩
  | 38=>⟨[.own 4],[.box [.f (.i .i64), .t (.l 3), .same 1, .same 2, .rows 1 0 4, .same 4, .same 5], .sl 1, .mp false [.i .i64] (.i .i64), .dead, .sl 8, .sl 4]⟩
  | 43=>⟨[],[.box [.f (.i .i64), .t (.l 3), .same 1, .same 2, .rows 1 0 4, .same 4, .same 5], .sl 1, .mp false [.i .i64] (.i .i64), .dead, .sl 8, .sl 4]⟩
  | 44=>⟨[],[.box [.f (.i .i64), .t (.l 3), .same 1, .same 2, .rows 1 0 4, .same 4, .same 5], .sl 1, .mp false [.i .i64] (.i .i64), .dead, .sl 8, .sl 4]⟩
  | 74=>⟨[],[.sl 4, .box [.f (.i .i64)], .box [.same 3], .sl 4]⟩
  | 51=>⟨[],[.box [.f (.i .i64)], .box [.own 4], .box [.own 4], .dead, .dead]⟩
  | 50=>⟨[.agg [.own 1, .f (.i .i64), .f (.i .i64)]],[.dead]⟩
  | _=>⟨[],[]⟩),
 mQ:=(λd t=>match d,t with
  | some 53,83=>1
  | some 54,83=>3
  | _,_=>0),
 st:=(λd=>match d with
  | some 50=>true
  | some 30=>true
  | some 37=>true
  | some 103=>true
  | some 34=>true
  | some 67=>true
  | some 93=>true
  | some 127=>true
  | some 129=>true
  | some 78=>true
  | some 49=>true
  | _=>false),
 sx:=(λd=>match d with
  | some 103=>true
  | some 34=>true
  | some 67=>true
  | some 93=>true
  | some 127=>true
  | some 129=>true
  | _=>false)}
theorem hm:aq.follows .mixedOrders=true:=by kernel_rfl
noncomputable abbrev ug:Key:=aW aq 10 true 6 [(1,none),(4,none),(21,none),(22,none),(23,none)] (0,0)
noncomputable abbrev uk:Key:=aW aq 31 true 8 [(4,none),(43,none),(44,none),(45,none)] (0,0)
theorem Ep(O:az)(er:Bool)(r:JL)(n:Int):aD aq ann O (Key.call 10) [Jl 3 er r,I n] []=
 (bif bif decide (n < 0) then true else decide (n > 12) then some [Ji 3,Ji (-1)] else bif decide ((r.length:Int) > 40) then some [Ji 2,Ji 0] else O ug [I n,Jr 0,Jl 3 er r,I (r.length:Int),I 0] [ab.box [I 0,I 0]]):=by kernel_rfl
theorem Er(O:az)(g f a b c:Int)(d:Bool)(e:JL):aD aq ann O ug [I g,Jr 0,Jl 3 d e,I f,I a] (Y9 b c)=
 (bif decide (a < f) then G1 a e λp n h=>G0 (O (.call 31) [AV.agg [Jl 1 p.fst p.snd,I n,I h],I g] []) λn i=>bif !n==0 then some [Ji n,Ji a] else O ug [I g,Jr 0,Jl 3 d e,I f,I (Jw a)] (Y9 b c) else some [Ji 0,Ji 0]):=by kernel_rfl
theorem Lo(O:az)(d:Bool)(c:JL)(a b e:Int):aD aq ann O (Key.call 31) [AV.agg [Jl 1 d c,I a,I b],I e] []=
 (bif bif decide (e < 0) then true else decide (e > 12) then some [Ji 3,Ji (-1)] else bif bif bif !a==1 then !a==2 else false then !a==3 else false then some [Ji 4,Ji 0] else bif decide ((c.length:Int) > e) then some [Ji 9,Ji 0] else G4 (O (.call 68) [Jl 1 d c] []) λp=>Jg (bw 8 (p.snd.length+ [[Ji b]].length)) λx=>O uk [Jr 0,Jo 1,I (↑(p.snd++ [[Ji b]]).length:Int),I 0] [ab.box [I 0,I 0],ab.sl false 1 (p.fst && false) (p.snd++ [[Ji b]])]):=by kernel_rfl
theorem EE(O:az)(a:Bool)(b:JL):aD aq ann O (Key.call 68) [Jl 1 a b] []=
 (bif a then some [T.aL true] else Jg (bw 8 (0+b.length)) λx=>some [T.ae 1 false b]):=by kernel_rfl
theorem Es(O:az)(e a c d:Int)(f:Bool)(g:JL):aD aq ann O uk [Jr 0,Jo 1,I e,I a] [ab.box [I c,I d],ab.sl false 1 f g]=
 (bif decide (a < e) then G2 a g λn=>G3 (O (.call 69) [I n] []) λb=>bif !b then some [Ji 3,Ji a] else O uk [Jr 0,Jo 1,I e,I (Jw a)] [ab.box [I c,I d],ab.sl false 1 f g] else some [Ji 0,Ji 0]):=by kernel_rfl
theorem LJ(O:az)(a:Int):aD aq ann O (Key.call 69) [I a] []=
 (some [Jb (bif decide (a>=(-1000000)) then decide (a<=1000000) else false)]):=by kernel_rfl
open Go Go.Aev Go.IntKind
noncomputable abbrev Or:az:=lX aq ann
abbrev ti(n:Int):T:= .int .i64 n
abbrev tb(b:Bool):T:= .bool b
abbrev o0:AV:=AV.own (Id.c 0)
abbrev o1:AV:=AV.own (Id.c 1)
abbrev r0:AV:=AV.ref (Id.c 0) 0
theorem bR{c:Type}{l:List c}{i:Nat}{r:c}{b:List c}(h:l.drop i=r::b):l[i]? =some r/\i < l.length/\l.drop (i+1)=b:=by
 have a:i < l.length:=by
  rcases UG i l.length with g | g
  .exact g
  .rw [Vs g] at h;cases h
 rw [TW a] at h;simp only [TJ] at h;exact⟨by rw [RR a,h.1],a,h.2⟩
theorem bU{a:Type}{l:List a}{i:Nat}(h:l.drop i= []):l.length<=i:=by simpa using h
def enc(l:List Int):List (List T):=l.map λr=> [ti r]
theorem bH(l:List Int):(enc l).length=l.length:=by simp [enc]
theorem dE{l:List Int}{i:Nat}{r:Int}(h:l[i]? =some r):(enc l)[((i:Nat):Int).toNat]? =some [ti r]:=by simp [enc,h]
abbrev ae(e:Bool)(l:List Int):AV:=AV.t (T.ae 1 e (enc l))
structure R where
 e:Bool
 of:List Int
 kd:Int
 tv:Int
 deriving Inhabited
def eR(r:R):List T:= [T.ae 1 r.e (enc r.of),ti r.kd,ti r.tv]
def eF(l:List R):List (List T):=l.map eR
theorem cY(l:List R):(eF l).length=l.length:=by simp [eF]
theorem fT{l:List R}{i:Nat}{r:R}(h:l[i]? =some r):(eF l)[((i:Nat):Int).toNat]? =some [T.ae 1 r.e (enc r.of),ti r.kd,ti r.tv]:=by simp [eF,h,eR]
abbrev LR(e:Bool)(l:List R):AV:=AV.t (T.ae 3 e (eF l))
theorem next(i:Nat)(h:i<=100000):i64.wrap ((i:Int)+1)= ((i+1:Nat):Int):=by rw [wr (by omega)];omega
theorem iD{bs n:Nat}(h:n<=100000):bw bs n=some ():=by unfold bw;rw [if_pos (.inl (by unfold eH;omega))]
theorem rU(a b:Int):(a==b)=decide (a=b):=by by_cases h:a=b <;> simp [h]
theorem nQ{a b:Int}(c: -1000000<=a/\a<=1000000)(hb: -1000000<=b/\b<=1000000): -1000000000000<=a * b/\a * b<=1000000000000:=by have h1:a.natAbs * b.natAbs<=1000000 * 1000000:=Vn (by omega) (by omega);rw [<-Ss] at h1;omega
theorem Ay(a b:Int):mm true a b=max a b:=by simp only [mm,cond_true];split <;> omega
theorem Gr(a b:Int):mm false a b=min a b:=by simp only [mm,cond_false];split <;> omega
open Go Go.Aev Go.IntKind
abbrev fl(p:Int×Int):Option (List T):=some [ti p.1,ti p.2]
theorem Ik(c:Int):Or (.call 69) [I c] []=some [tb (decide (c>= -1000000/\c<=1000000))]:=by refine an ?_;rw [LJ];simp only [lJ,<-TK]
theorem Bx(l:List Int)(e:Bool)(b:e=true->l= [])(hl:l.length<=1000):∃x a,Or (.call 68) [ae e l] []=some [x]/\x.aM 1=some (a,enc l)/\(a=true->l= []):=by
 cases e with
 | true=>obtain rfl:=b rfl;exact⟨T.aL true,true,an (by rw [EE];simp only [aj,↓reduceIte,Int.reduceBEq,Int.reduceEq,GD]),by simp [T.aM,enc],λ_=>rfl⟩
 | false=>refine⟨T.ae 1 false (enc l),false,an ?_,o8 _ _ _,λh=>by cases h⟩;have:bw 8 (0+l.length)=some ():=iD (by omega);rw [EE];simp only [aj,↓reduceIte,Int.reduceBEq,Int.reduceEq,GD,bH,this]
theorem Ij(l:List Int)(e:Bool)(d:e=true->l= [])(hl:l.length<=1000):∃x c,Or (.call 68) [ae e l] []=some [x]/\x.aM 1=some (c,enc l):=by obtain⟨x,c,a,b,_⟩:=Bx l e d hl;exact⟨x,c,a,b⟩
def jM:List Int->Nat->Int×Int
 | [],_=>(0,0)
 | x::r,i=>if x>= -1000000/\x<=1000000 then jM r (i+1) else(3,(i:Int))
def gp(n:Nat)(r:R):Int×Int:=
 if(¬r.kd=1/\¬r.kd=2)/\¬r.kd=3 then(4,0) else if r.of.length > n then(9,0) else jM (r.of++ [r.tv]) 0
def mq(n:Nat):List R->Nat->Int×Int
 | [],_=>(0,0)
 | r::a,i=>if(gp n r).1=0 then mq n a (i+1) else((gp n r).1,(i:Int))
def rY(n:Nat)(rows:List R):Int×Int:=if rows.length > 40 then(2,0) else mq n rows 0
theorem N2(xs:List Int)(e:Bool)(hn:xs.length<=1000):∀(a:List Int) (i:Nat),xs.drop i=a->Or uk [r0,o1,I (xs.length:Int),I (i:Int)] [ab.box [I 0,I 0],ab.sl false 1 e (enc xs)]=fl (jM a i):=by
 intro a;induction a with
 | nil=>
  intro i h;refine an ?_;rw [Es];have h1:¬(i:Int) < (xs.length:Int):=by have:=bU h;omega
  simp only [aj,↓reduceIte,Int.reduceBEq,Int.reduceEq,GD,h1,jM]
 | cons x a f=>
  intro i h;obtain⟨b,g,d⟩:=bR h;have h1:(i:Int) < (xs.length:Int):=by omega
  have c: 0<=(i:Int):=by omega
  refine an ?_;rw [Es,jM];by_cases hb:x>= -1000000/\x<=1000000
  .simp only [aj,↓reduceIte,Int.reduceBEq,Int.reduceEq,GD,h1,c,and_self,bH,dE b,Ik,hb,decide_true,Sl,next i (by omega),f (i+1) d]
  .simp only [aj,↓reduceIte,Int.reduceBEq,Int.reduceEq,GD,h1,c,and_self,bH,dE b,Ik,hb,decide_false,Sw]
theorem Bu(r:R)(n:Nat)(hn:n<=12)(d:r.e=true->r.of= []):Or (.call 31) [AV.agg [ae r.e r.of,I r.kd,I r.tv],I (n:Int)] []=fl (gp n r):=by
 have h1:¬((n:Int) < 0\/(n:Int) > 12):=by omega
 refine an ?_;rw [Lo];unfold gp;by_cases hk:(¬r.kd=1/\¬r.kd=2)/\¬r.kd=3
 .simp only [im,lJ,rU,<-decide_not,<-S7,<-TK];simp only [aj,↓reduceIte,Int.reduceBEq,Int.reduceEq,GD,h1,hk,not_false_eq_true,and_self]
 .rw [if_neg hk];by_cases hl:(r.of.length:Int) > (n:Int)
  .rw [if_pos (by omega)];simp only [im,lJ,rU,<-decide_not,<-S7,<-TK];simp only [aj,↓reduceIte,Int.reduceBEq,Int.reduceEq,GD,h1,hk,bH,hl]
  .rw [if_neg (by omega)];obtain⟨x,c,f,k2⟩:=Ij r.of r.e d (by omega);have b:=N2 (r.of++ [r.tv]) (c && false) (by simp;omega) (r.of++ [r.tv]) 0 rfl;have a:enc r.of++ [[ti r.tv]]=enc (r.of++ [r.tv]):=by simp [enc]
   have hs:bw 8 (r.of.length+ [[ti r.tv]].length)=some ():=iD (by simp;omega);simp only [TS] at b;simp only [im,lJ,rU,<-decide_not,<-S7,<-TK];simp only [aj,↓reduceIte,Int.reduceBEq,Int.reduceEq,GD,h1,hk,bH,hl,f,k2,hs,a];exact b
theorem N1(rows:List R)(n:Nat)(e:Bool)(hn:n<=12)(hr:∀r∈rows,r.e=true->r.of= [])(j:rows.length<=1000):∀(a:List R) (i:Nat),rows.drop i=a->
  Or ug [I (n:Int),r0,LR e rows,I (rows.length:Int),I (i:Int)] [ab.box [I 0,I 0]]=fl (mq n a i):=by
 intro a;induction a with
 | nil=>
  intro i h;refine an ?_;rw [Er];have h1:¬(i:Int) < (rows.length:Int):=by have:=bU h;omega
  simp only [aj,↓reduceIte,Int.reduceBEq,Int.reduceEq,GD,h1,mq]
 | cons r a k=>
  intro i h;obtain⟨c,l,g⟩:=bR h;have h1:(i:Int) < (rows.length:Int):=by omega
  have d: 0<=(i:Int):=by omega
  have f:=Bu r n hn (hr r (RN c));refine an ?_;rw [Er,mq];by_cases b:(gp n r).1=0
  .rw [if_pos b];simp only [aj,↓reduceIte,Int.reduceBEq,Int.reduceEq,GD,h1,d,and_self,cY,fT c,f,b,next i (by omega),k (i+1) g]
  .rw [if_neg b];simp only [aj,↓reduceIte,Int.reduceBEq,Int.reduceEq,GD,h1,d,and_self,cY,fT c,f,b]
theorem PI(rows:List R)(n:Nat)(e:Bool)(hn:n<=12)(hr:∀r∈rows,r.e=true->r.of= []):Or (.call 10) [LR e rows,I (n:Int)] []=fl (rY n rows):=by
 have h1:¬((n:Int) < 0\/(n:Int) > 12):=by omega
 refine an ?_;rw [Ep];unfold rY;simp only [im,<-S7];by_cases a:(rows.length:Int) > 40
 .rw [if_pos (by omega)];simp only [aj,↓reduceIte,Int.reduceBEq,Int.reduceEq,GD,h1,cY,a]
 .rw [if_neg (by omega)];simp only [aj,↓reduceIte,Int.reduceBEq,Int.reduceEq,GD,h1,cY,a];exact N1 rows n e hn hr (by omega) rows 0 rfl
open Go Go.Aev Go.IntKind
def Bd(b:Int)(l:List Int):Prop:= ∀x∈l, -b<=x/\x<=b
theorem sw{a hi n:Int}(h: 0<=a/\a<=hi/\hi<=n):cU a hi n=some ():=by unfold cU;rw [if_pos h]
theorem IX(l:List Int)(j:Nat):sub 0 (j:Int) (enc l)=enc (l.take j):=by simp [sub,enc,List.map_take]
theorem zF{l:List Int}{i:Nat}(hi:i < l.length)(v:Int):bt (i:Int).toNat 0 [ti v] (enc l)=some (enc (l.set i v)):=by have h1:(enc l)[((i:Nat):Int).toNat]? =some [ti l[i]]:=dE (RR hi);simp only [bt,h1];simp [bE,enc,Uk]
theorem po(a:List Int)(b v:Int)(r:List Int)(i:Nat)(h:a.length=i):(a++b::r).set i v=a++v::r:=by subst h;simp
def fm(l:List Int):Nat->Nat
 | 0=>0
 | k+1=>if l.getD k 0=0 then fm l k else k+1
def bz(l:List Int):List Int:=l.take (fm l l.length)
theorem u4(l:List Int):(bz l).length<=l.length:=by unfold bz;rw [SD];omega
theorem yV{b:Int}{l:List Int}(h:Bd b l):Bd b (bz l):=λx a=>h x (Td a)
theorem xJ{l:List Int}{k:Nat}(hk:k < l.length):(l.take (k+1))[k]? =some (l.getD k 0):=by rw [TA,if_pos (by omega),RR hk];simp [RO,hk]
theorem m9{l:List Int}{k:Nat}(hk:k<=l.length):(l.take k).length=k:=by rw [SD];omega
def gl(g:Nat):List Int->Nat
 | []=>g
 | x::l=>gl (Nat.gcd g x.natAbs) l
theorem natAbs_tmod(a b:Int):(a.tmod b).natAbs=a.natAbs % b.natAbs:=Int.natAbs_tmod a b
theorem FN(a b:Int):Nat.gcd b.natAbs (a.tmod b).natAbs=Nat.gcd a.natAbs b.natAbs:=by rw [natAbs_tmod,We b.natAbs,<-Nat.gcd_rec,We]
theorem FR{b:Nat}:∀{l:List Int} {g:Nat},g<=b->Bd b l->gl g l<=b
 | [],g,a,_=>a
 | x::l,g,a,hl=>by
  rw [gl];refine FR ?_ (λy hy=>hl y (RM _ hy));have h1:=hl x RL;rcases Ul g with h | h
  .subst h;rw [Vr];omega
  .exact Sh (Wh _ h) a
theorem wc:∀(l:List Int) (g:Nat),gl g l=Nat.gcd g (gl 0 l)
 | [],g=>by simp [gl]
 | x::l,g=>by rw [gl,wc l,gl,wc l (Nat.gcd 0 _),Vr,Nat.gcd_assoc]
theorem mI:∀{l:List Int} {g:Nat} {x:Int},x∈l->(gl g l:Int) ∣ x
 | y::l,g,x,a=>by
  rw [gl];rcases RV.1 a with rfl | h
  .rw [wc];exact SB.2 (Nat.dvd_trans (Ug _ _) (Uy _ _))
  .exact mI h
theorem qD(l:List Int)(g:Nat):gl g l ∣ g:=by rw [wc];exact Ug _ _
theorem o5{l:List Int}{g:Nat}{x:Int}(b:x∈l)(a:x≠0): 0 < gl g l:=by
 rcases Ul (gl g l) with h | h
 .have:=mI (g:=g) b;rw [h] at this;exact absurd (by simpa using this) a
 .exact h
end Go.Aev.Gen
