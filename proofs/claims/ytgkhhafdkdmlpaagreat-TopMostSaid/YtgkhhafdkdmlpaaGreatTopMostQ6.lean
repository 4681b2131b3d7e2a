import Derived.Test.YtgkhhafdkdmlpaaGreatTopMostQ5
import Derived.Test.YtgkhhafdkdmlpaaGreatChecked
import Derived.KernelRfl
set_option linter.all false
namespace Go.Aev.Gen
open Go Go.Aev Go.IntKind
def Jg{a R:Type}[Inhabited a](m:Option a)(k:a->Option R):Option R:=aa none m k
theorem CP{b R:Type}[Inhabited b](a:b)(k:b->Option R):Jg (some a) k=k a:=rfl
abbrev Ji(n:Int):T:= .int .i64 n
abbrev Jb(b:Bool):T:= .bool b
abbrev Jl(k:Nat)(e:Bool)(l:List (List T)):AV:= .t (.ae k e l)
abbrev Js(s:ByteArray):AV:= .t (.str s)
abbrev Jo(k:Nat):AV:= .own (.c k)
abbrev Jr(k:Nat):AV:= .ref (.c k) 0
abbrev Ja(b:Bool)(s:ByteArray)(c:Bool)(t:ByteArray):AV:= .agg [B b,Js s,B c,Js t]
abbrev Jw(v:Int):Int:=i64.wrap (v+1)
abbrev JL:=List (List T)
def G0(m:Option (List T))(k:Int->Int->Option (List T)):Option (List T):=aa none m λl=>aa none l.head? λa=>aa none (T.int? .i64 a) λb=>aa none l.tail.head? λc=>aa none (T.int? .i64 c) λd=>k b d
def G1(i:Int)(L:JL)(k:(Bool×JL)->Int->Int->Option (List T)):Option (List T):=aa none (if 0<=i/\i < (L.length:Int) then some () else none) λ_=>aa none L[i.toNat]? λl=>aa none l.head? λa=>aa none l.tail.head? λb=>aa none l.tail.tail.head? λc=>aa none (T.aP 1 a) λd=>aa none (T.int? .i64 b) λe=>aa none (T.int? .i64 c) λf=>k d e f
def G2(i:Int)(L:JL)(k:Int->Option (List T)):Option (List T):=aa none (if 0<=i/\i < (L.length:Int) then some () else none) λ_=>aa none L[i.toNat]? λl=>aa none l.head? λa=>aa none (T.int? .i64 a) λb=>k b
def G3(m:Option (List T))(k:Bool->Option (List T)):Option (List T):=aa none m λl=>aa none l.head? λa=>aa none a.bool? λb=>k b
def G4(m:Option (List T))(k:(Bool×JL)->Option (List T)):Option (List T):=aa none m λl=>aa none l.head? λa=>aa none (T.aP 1 a) λb=>k b
def G5(c:Option Bool)(m:Option (List T))(k:Bool->Option (List T)):Option (List T):=aa none m λl=>aa c l.head? λa=>aa c a.bool? λb=>k b
def G6(c:Option Bool)(m:Option (List T))(k:(Bool×JL)->Option (List T)):Option (List T):=aa none m λl=>aa c l.head? λa=>aa c (T.aP 4 a) λb=>k b
def G7(c:Option Bool)(m:Option (List T))(k:Bool->ByteArray->Bool->ByteArray->Option (List T)):Option (List T):=aa none m λl=>aa c l.head? λa=>aa c a.bool? λb=>aa c l.tail.head? λd=>aa c d.bx λe=>aa c l.tail.tail.head? λf=>aa c f.bool? λg=>aa c l.tail.tail.tail.head? λh=>aa c h.bx λi=>k b e g i
def G8(c:Option Bool)(m:Option (List T))(k:Int->Option (List T)):Option (List T):=aa none m λl=>aa c l.head? λa=>aa c (T.int? .i64 a) λb=>k b
def G9(m:Option (List T))(k:Int->Option (List T)):Option (List T):=aa none m λl=>aa none l.head? λa=>aa none (T.int? .i64 a) λb=>k b
def bO(m:Option (List T))(k:Bool->ByteArray->Option (List T)):Option (List T):=aa none m λl=>aa none l.head? λa=>aa none a.bool? λb=>aa none l.tail.head? λc=>aa none c.bx λd=>k b d
def aV(m:Option (List T))(k:Bool->ByteArray->Bool->ByteArray->Option (List T)):Option (List T):=aa none m λl=>aa none l.head? λa=>aa none a.bool? λb=>aa none l.tail.head? λc=>aa none c.bx λd=>aa none l.tail.tail.head? λe=>aa none e.bool? λf=>aa none l.tail.tail.tail.head? λg=>aa none g.bx λh=>k b d f h
def pb(c:Option Bool)(i:Int)(L:JL)(k:Int->Option (List T)):Option (List T):=aa c (if 0<=i/\i < (L.length:Int) then some () else none) λ_=>aa c L[i.toNat]? λl=>aa c l.head? λa=>aa c (T.int? .i64 a) λb=>k b
def yJ(m:Option (List T))(k:(Bool×JL)->Option (List T)):Option (List T):=aa none m λl=>aa none l.head? λa=>aa none (T.aP 4 a) λb=>k b
def yK(m:Option (List T))(k:(List T)->(Bool×JL)->Bool->ByteArray->Bool->ByteArray->Option (List T)):Option (List T):=aa none m λl=>aa none l.head? λa=>aa none (T.aP 4 a) λb=>aa none l.tail.head? λc=>aa none c.bool? λd=>aa none l.tail.tail.head? λe=>aa none e.bx λf=>aa none l.tail.tail.tail.head? λg=>aa none g.bool? λh=>aa none l.tail.tail.tail.tail.head? λi=>aa none i.bx λj=>k l b d f h j
def pc(m:Option T)(k:Bool->Option (List T)):Option (List T):=aa none m λl=>aa none l.bool? λa=>k a
def qg(i:Int)(L:JL)(k:Int->Int->Option (List T)):Option (List T):=aa none (if 0<=i/\i < (L.length:Int) then some () else none) λ_=>aa none L[i.toNat]? λl=>aa none l.head? λa=>aa none l.tail.head? λb=>aa none (T.int? .i64 a) λc=>aa none (T.int? .i64 b) λd=>k c d
def hZ(i:Int)(L:JL)(k:Bool->ByteArray->Bool->ByteArray->Option (List T)):Option (List T):=aa none (if 0<=i/\i < (L.length:Int) then some () else none) λ_=>aa none L[i.toNat]? λl=>aa none l.head? λa=>aa none l.tail.head? λb=>aa none l.tail.tail.head? λc=>aa none l.tail.tail.tail.head? λd=>aa none a.bool? λe=>aa none b.bx λf=>aa none c.bool? λg=>aa none d.bx λh=>k e f g h
def ql(m:Option (List T))(k:Bool->ByteArray->Bool->ByteArray->Int->Option (List T)):Option (List T):=aa none m λl=>aa none l.head? λa=>aa none a.bool? λb=>aa none l.tail.head? λc=>aa none c.bx λd=>aa none (List.drop 2 l).head? λe=>aa none e.bool? λf=>aa none (List.drop 2 l).tail.head? λg=>aa none g.bx λh=>aa none (List.drop 2 (List.drop 2 l)).head? λi=>aa none (T.int? .i64 i) λj=>k b d f h j
def qm(m:Option (List T))(k:Bool->ByteArray->Int->Option (List T)):Option (List T):=aa none m λl=>aa none l.head? λa=>aa none a.bool? λb=>aa none l.tail.head? λc=>aa none c.bx λd=>aa none (List.drop 2 l).head? λe=>aa none (T.int? .i64 e) λf=>k b d f
def uO(m:Option (List T))(k:(Bool×JL)->(Bool×JL)->Option (List T)):Option (List T):=aa none m λl=>aa none l.head? λa=>aa none (T.aP 1 a) λb=>aa none l.tail.head? λc=>aa none (T.aP 1 c) λd=>k b d
def ft(i:Int)(L:JL)(k:Int->Option (List T)):Option (List T):=aa none (if 0<=i/\i < (L.length:Int) then some () else none) λ_=>aa none L[i.toNat]? λl=>aa none l.head? λa=>aa none (T.int? u32 a) λb=>k b
def ic(m:Option (List T))(k:Int->Option (List T)):Option (List T):=aa none m λl=>aa none l.head? λa=>aa none (T.int? u32 a) λb=>k b
def yL(m:Option (List T))(k:(Bool×JL)->Int->Option (List T)):Option (List T):=aa none m λl=>aa none l.head? λa=>aa none (T.aP 1 a) λb=>aa none l.tail.head? λc=>aa none (T.int? u32 c) λd=>k b d
def yM(c:Option Bool)(i:Int)(L:JL)(k:Bool->ByteArray->Bool->ByteArray->Option (List T)):Option (List T):=aa c (if 0<=i/\i < (L.length:Int) then some () else none) λ_=>aa c L[i.toNat]? λl=>aa c l.head? λa=>aa c l.tail.head? λb=>aa c l.tail.tail.head? λd=>aa c l.tail.tail.tail.head? λe=>aa c a.bool? λf=>aa c b.bx λg=>aa c d.bool? λh=>aa c e.bx λj=>k f g h j
def yN(m:Option (List T))(k:Bool->Int->Int->Option (List T)):Option (List T):=aa none m λl=>aa none l.head? λa=>aa none a.bool? λb=>aa none l.tail.head? λc=>aa none (T.int? .i64 c) λd=>aa none l.tail.tail.head? λe=>aa none (T.int? .i64 e) λf=>k b d f
def qn(c:Option Bool)(m:Option (List T))(k:Int->Option (List T)):Option (List T):=aa c m λl=>aa c l.head? λa=>aa c (T.int? u32 a) λb=>k b
def sA(c:Option Bool)(m:Option (List T))(k:Int->Option (List T)):Option (List T):=aa none m λl=>aa c l.head? λa=>aa c (T.int? u64 a) λb=>k b
def yO(m:Option (List T))(k:(Bool×JL)->Bool->Option (List T)):Option (List T):=aa none m λl=>aa none l.head? λa=>aa none (T.aP 1 a) λb=>aa none l.tail.head? λc=>aa none c.bool? λd=>k b d
def uP(m:Option (List T))(k:Bool->(Bool×JL)->Option (List T)):Option (List T):=aa none m λl=>aa none l.head? λa=>aa none a.bool? λb=>aa none ((List.drop 1 l).head?.bind λz=>T.aP 1 z) λc=>k b c
def uQ(m:Option (List T))(k:Int->Bool->Option (List T)):Option (List T):=aa none m λl=>aa none l.head? λa=>aa none (T.int? .i64 a) λb=>aa none l.tail.head? λc=>aa none c.bool? λd=>k b d
def yP(c:Option Bool)(m:Option (List T))(k:Int->Int->Option (List T)):Option (List T):=aa none m λl=>aa c l.head? λa=>aa c (T.int? .i64 a) λb=>aa c l.tail.head? λd=>aa c (T.int? .i64 d) λe=>k b e
def Cx(m:Option (List T))(k:Bool->(Bool×JL)->Option (List T)):Option (List T):=aa none m λl=>aa none l.head? λe=>aa none (List.drop 1 l).head? λa=>aa none a.bool? λb=>aa none (List.drop 1 l).tail.head? λc=>aa none (T.aP 1 c) λd=>k b d
def Cy(m:Option (List T))(k:Bool->(Bool×JL)->Bool->(Bool×JL)->Option (List T)):Option (List T):=aa none m λl=>aa none l.head? λi=>aa none l.tail.head? λj=>aa none (List.drop 2 l).head? λa=>aa none a.bool? λb=>aa none (List.drop 2 l).tail.head? λc=>aa none (T.aP 1 c) λd=>aa none (List.drop 2 (List.drop 2 l)).head? λe=>aa none e.bool? λf=>aa none (List.drop 2 (List.drop 2 l)).tail.head? λg=>aa none (T.aP 1 g) λh=>k b d f h
def Cz(m:Option (List T))(k:T->Option (List T)):Option (List T):=aa none m λl=>aa none l.head? λa=>k a
def CA(m:Option (List T))(k:Int->Option (List T)):Option (List T):=aa none m λl=>aa none l.head? λa=>aa none (T.int? u64 a) λb=>k b
def CB(m:Option (List T))(k:Bool->(Bool×JL)->Bool->(Bool×JL)->Option (List T)):Option (List T):=aa none m λl=>aa none l.head? λi=>aa none (List.drop 1 l).head? λa=>aa none a.bool? λb=>aa none (List.drop 1 l).tail.head? λc=>aa none (T.aP 1 c) λd=>aa none (List.drop 1 l).tail.tail.head? λe=>aa none e.bool? λf=>aa none (List.drop 1 l).tail.tail.tail.head? λg=>aa none (T.aP 1 g) λh=>k b d f h
def yQ(m:Option (List T))(k:Int->(Bool×JL)->(Bool×JL)->(List (List T×T))->(Bool×List Row)->(Bool×JL)->(Bool×JL)->Option (List T)):Option (List T):=aa none m λl=>aa none l.head? λe=>aa none (T.int? .i64 e) λf=>aa none l.tail.head? λg=>aa none (T.aP 3 g) λh=>aa none l.tail.tail.head? λi=>aa none (T.aP 1 i) λj=>aa none l.tail.tail.tail.head? λn=>aa none (il n) λo=>aa none l.tail.tail.tail.tail.head? λp=>aa none (kg p) λq=>aa none l.tail.tail.tail.tail.tail.head? λa=>aa none (T.aP 8 a) λb=>aa none l.tail.tail.tail.tail.tail.tail.head? λc=>aa none (T.aP 4 c) λd=>k f h j o q b d
def yR(m:Option (List T))(k:(Bool×JL)->Bool->Int->(Bool×JL)->(Bool×List Row)->(Bool×JL)->(List (List T×T))->(Bool×JL)->(Bool×JL)->Option (List T)):Option (List T):=aa none m λl=>aa none l.head? λg=>aa none (T.aP 4 g) λh=>aa none l.tail.head? λi=>aa none i.bool? λj=>aa none (List.drop 2 l).head? λn=>aa none (T.int? .i64 n) λo=>aa none (List.drop 2 l).tail.head? λp=>aa none (T.aP 3 p) λq=>aa none (List.drop 2 l).tail.tail.head? λt=>aa none (List.drop 2 l).tail.tail.tail.head? λu=>aa none (List.drop 2 l).tail.tail.tail.tail.head? λa=>aa none (kg a) λb=>aa none (List.drop 2 l).tail.tail.tail.tail.tail.head? λr=>aa none (List.drop 2 l).tail.tail.tail.tail.tail.tail.head? λs=>aa none ((List.drop 7 (List.drop 2 l)).head?.bind λz=>T.aP 1 z) λc=>aa none ((List.drop 7 (List.drop 2 l)).tail.head?.bind λz=>il z) λd=>aa none ((List.drop 7 (List.drop 2 l)).tail.tail.head?.bind λz=>T.aP 8 z) λe=>aa none ((List.drop 7 (List.drop 2 l)).tail.tail.tail.head?.bind λz=>T.aP 4 z) λf=>k h j o q b c d e f
def qo(m:Option (List T))(k:(Bool×JL)->Bool->Option (List T)):Option (List T):=aa none m λl=>aa none l.head? λa=>aa none (T.aP 2 a) λb=>aa none l.tail.head? λc=>aa none c.bool? λd=>k b d
def yS(m:Option (List T))(k:(Bool×JL)->(Bool×JL)->Bool->Int->(Bool×JL)->(Bool×List Row)->(Bool×JL)->(Bool×JL)->(List (List T×T))->(Bool×JL)->Option (List T)):Option (List T):=aa none m λl=>aa none l.head? λh=>aa none (T.aP 4 h) λi=>aa none l.tail.head? λj=>aa none (T.aP 4 j) λn=>aa none l.tail.tail.head? λo=>aa none o.bool? λp=>aa none (List.drop 3 l).head? λq=>aa none (T.int? .i64 q) λr=>aa none (List.drop 3 l).tail.head? λs=>aa none (T.aP 3 s) λt=>aa none (List.drop 3 l).tail.tail.head? λu=>aa none (List.drop 3 l).tail.tail.tail.head? λv=>aa none (List.drop 3 l).tail.tail.tail.tail.head? λa=>aa none (kg a) λb=>aa none (List.drop 3 l).tail.tail.tail.tail.tail.head? λw=>aa none (List.drop 3 l).tail.tail.tail.tail.tail.tail.head? λc=>aa none (T.aP 4 c) λd=>aa none ((List.drop 7 (List.drop 3 l)).head?.bind λz=>T.aP 1 z) λe=>aa none ((List.drop 7 (List.drop 3 l)).tail.head?.bind λz=>il z) λf=>aa none ((List.drop 7 (List.drop 3 l)).tail.tail.head?.bind λz=>T.aP 8 z) λg=>k i n p r t b d e f g
def uR(m:Option (List T))(k:(Bool×JL)->Int->(Bool×JL)->(Bool×List Row)->(Bool×JL)->(Bool×JL)->(List (List T×T))->(Bool×JL)->Option (List T)):Option (List T):=aa none m λl=>aa none l.head? λf=>aa none (T.aP 4 f) λg=>aa none (List.drop 1 l).head? λh=>aa none (T.int? .i64 h) λi=>aa none (List.drop 1 l).tail.head? λj=>aa none (T.aP 3 j) λn=>aa none (List.drop 1 l).tail.tail.head? λr=>aa none (List.drop 1 l).tail.tail.tail.head? λs=>aa none (List.drop 1 l).tail.tail.tail.tail.head? λo=>aa none (kg o) λp=>aa none (List.drop 1 l).tail.tail.tail.tail.tail.head? λq=>aa none (List.drop 1 l).tail.tail.tail.tail.tail.tail.head? λa=>aa none (T.aP 4 a) λb=>aa none ((List.drop 7 (List.drop 1 l)).head?.bind λz=>T.aP 1 z) λc=>aa none ((List.drop 7 (List.drop 1 l)).tail.head?.bind λz=>il z) λd=>aa none ((List.drop 7 (List.drop 1 l)).tail.tail.head?.bind λz=>T.aP 8 z) λe=>k g i n p b c d e
def uS(m:Option (List T))(k:Int->Int->Bool->Option (List T)):Option (List T):=aa none m λl=>aa none l.head? λa=>aa none (T.int? .i64 a) λb=>aa none l.tail.head? λc=>aa none (T.int? .i64 c) λd=>aa none (List.drop 2 l).head? λe=>aa none e.bool? λf=>k b d f
def eZ{a:Type}[Inhabited a](i:Int)(L:List a)(k:a->Option (List T)):Option (List T):=aa none (if 0<=i/\i < (L.length:Int) then some () else none) λ_=>aa none L[i.toNat]? λl=>k l
def yT(m:Option (List T))(k:Bool->ByteArray->Bool->ByteArray->Bool->ByteArray->Bool->ByteArray->Option (List T)):Option (List T):=aa none m λl=>aa none l.head? λg=>aa none l.tail.head? λh=>aa none l.tail.tail.head? λi=>aa none l.tail.tail.tail.head? λj=>aa none l.tail.tail.tail.tail.head? λn=>aa none l.tail.tail.tail.tail.tail.head? λo=>aa none l.tail.tail.tail.tail.tail.tail.head? λp=>aa none l.tail.tail.tail.tail.tail.tail.tail.head? λq=>aa none g.bool? λr=>aa none h.bx λs=>aa none i.bool? λa=>aa none j.bx λb=>aa none n.bool? λc=>aa none o.bx λd=>aa none p.bool? λe=>aa none q.bx λf=>k r s a b c d e f
def gr(m:Option (List T))(k:Bool->ByteArray->Bool->ByteArray->Option (List T)):Option (List T):=aa none m λl=>aa none l.head? λa=>aa none l.tail.head? λb=>aa none l.tail.tail.head? λc=>aa none l.tail.tail.tail.head? λd=>aa none a.bool? λe=>aa none b.bx λf=>aa none c.bool? λg=>aa none d.bx λh=>k e f g h
def lT(m:Option (List T))(k:(Bool×JL)->Int->(Bool×JL)->(Bool×List Row)->(Bool×JL)->(List (List T×T))->(Bool×JL)->(Bool×JL)->Option (List T)):Option (List T):=aa none m λl=>aa none l.head? λe=>aa none (T.aP 4 e) λf=>aa none (List.drop 1 l).head? λg=>aa none (T.int? .i64 g) λh=>aa none (List.drop 1 l).tail.head? λi=>aa none (T.aP 3 i) λj=>aa none (List.drop 1 l).tail.tail.head? λr=>aa none (List.drop 1 l).tail.tail.tail.head? λs=>aa none (List.drop 1 l).tail.tail.tail.tail.head? λn=>aa none (kg n) λo=>aa none (List.drop 1 l).tail.tail.tail.tail.tail.head? λp=>aa none (List.drop 1 l).tail.tail.tail.tail.tail.tail.head? λq=>aa none ((List.drop 7 (List.drop 1 l)).head?.bind λz=>T.aP 1 z) λa=>aa none ((List.drop 7 (List.drop 1 l)).tail.head?.bind λz=>il z) λb=>aa none ((List.drop 7 (List.drop 1 l)).tail.tail.head?.bind λz=>T.aP 8 z) λc=>aa none ((List.drop 7 (List.drop 1 l)).tail.tail.tail.head?.bind λz=>T.aP 4 z) λd=>k f h j o a b c d
def gI(m:Option (List T))(k:Bool->ByteArray->Bool->ByteArray->Bool->ByteArray->Bool->ByteArray->Bool->Option (List T)):Option (List T):=aa none m λl=>aa none l.head? λi=>aa none i.bool? λj=>aa none l.tail.head? λn=>aa none n.bx λo=>aa none l.tail.tail.head? λp=>aa none p.bool? λq=>aa none l.tail.tail.tail.head? λr=>aa none r.bx λs=>aa none l.tail.tail.tail.tail.head? λt=>aa none t.bool? λu=>aa none l.tail.tail.tail.tail.tail.head? λa=>aa none a.bx λb=>aa none l.tail.tail.tail.tail.tail.tail.head? λc=>aa none c.bool? λd=>aa none l.tail.tail.tail.tail.tail.tail.tail.head? λe=>aa none e.bx λf=>aa none (List.drop 8 l).head? λg=>aa none g.bool? λh=>k j o q s u b d f h
def ja(i:Int)(L:JL)(k:Bool->ByteArray->Bool->ByteArray->Bool->ByteArray->Bool->ByteArray->Option (List T)):Option (List T):=aa none (if 0<=i/\i < (L.length:Int) then some () else none) λ_=>aa none L[i.toNat]? λl=>aa none l.head? λg=>aa none l.tail.head? λh=>aa none l.tail.tail.head? λj=>aa none l.tail.tail.tail.head? λm=>aa none l.tail.tail.tail.tail.head? λn=>aa none l.tail.tail.tail.tail.tail.head? λo=>aa none l.tail.tail.tail.tail.tail.tail.head? λp=>aa none l.tail.tail.tail.tail.tail.tail.tail.head? λq=>aa none g.bool? λr=>aa none h.bx λs=>aa none j.bool? λa=>aa none m.bx λb=>aa none n.bool? λc=>aa none o.bx λd=>aa none p.bool? λe=>aa none q.bx λf=>k r s a b c d e f
def dJ(m:Option (List T))(k:Bool->ByteArray->Bool->ByteArray->Bool->ByteArray->Bool->ByteArray->Option (List T)):Option (List T):=aa none m λl=>aa none l.head? λg=>aa none g.bool? λh=>aa none l.tail.head? λi=>aa none i.bx λj=>aa none l.tail.tail.head? λn=>aa none n.bool? λo=>aa none l.tail.tail.tail.head? λp=>aa none p.bx λq=>aa none l.tail.tail.tail.tail.head? λr=>aa none r.bool? λs=>aa none l.tail.tail.tail.tail.tail.head? λa=>aa none a.bx λb=>aa none l.tail.tail.tail.tail.tail.tail.head? λc=>aa none c.bool? λd=>aa none l.tail.tail.tail.tail.tail.tail.tail.head? λe=>aa none e.bx λf=>k h j o q s b d f
def eu(m:Option (List T))(k:Int->(Bool×JL)->(Bool×List Row)->(Bool×JL)->(List (List T×T))->(Bool×JL)->(Bool×JL)->Option (List T)):Option (List T):=aa none m λl=>aa none l.head? λe=>aa none (T.int? .i64 e) λf=>aa none l.tail.head? λg=>aa none (T.aP 3 g) λh=>aa none l.tail.tail.head? λn=>aa none l.tail.tail.tail.head? λo=>aa none l.tail.tail.tail.tail.head? λi=>aa none (kg i) λj=>aa none l.tail.tail.tail.tail.tail.head? λp=>aa none l.tail.tail.tail.tail.tail.tail.head? λq=>aa none ((List.drop 7 l).head?.bind λz=>T.aP 1 z) λa=>aa none ((List.drop 7 l).tail.head?.bind λz=>il z) λb=>aa none ((List.drop 7 l).tail.tail.head?.bind λz=>T.aP 8 z) λc=>aa none ((List.drop 7 l).tail.tail.tail.head?.bind λz=>T.aP 4 z) λd=>k f h j a b c d
def yU(i:Int)(L:JL)(k:Bool->ByteArray->Bool->ByteArray->Option (List T)):Option (List T):=aa none (if 0<=i/\i < (L.length:Int) then some () else none) λ_=>aa none L[i.toNat]? λl=>aa none (List.drop 4 l).head? λa=>aa none (List.drop 4 l).tail.head? λb=>aa none (List.drop 4 l).tail.tail.head? λc=>aa none (List.drop 4 l).tail.tail.tail.head? λd=>aa none a.bool? λe=>aa none b.bx λf=>aa none c.bool? λg=>aa none d.bx λh=>k e f g h
def pd(c:Option Bool)(i:Int)(L:JL)(k:Bool->ByteArray->Bool->ByteArray->Bool->ByteArray->Bool->ByteArray->Option (List T)):Option (List T):=aa c (if 0<=i/\i < (L.length:Int) then some () else none) λ_=>aa c L[i.toNat]? λl=>aa c l.head? λh=>aa c l.tail.head? λj=>aa c l.tail.tail.head? λm=>aa c l.tail.tail.tail.head? λn=>aa c l.tail.tail.tail.tail.head? λo=>aa c l.tail.tail.tail.tail.tail.head? λp=>aa c l.tail.tail.tail.tail.tail.tail.head? λq=>aa c l.tail.tail.tail.tail.tail.tail.tail.head? λr=>aa c h.bool? λs=>aa c j.bx λt=>aa c m.bool? λa=>aa c n.bx λb=>aa c o.bool? λd=>aa c p.bx λe=>aa c q.bool? λf=>aa c r.bx λg=>k s t a b d e f g
def yV(m:Option (List T))(k:(Bool×JL)->Int->Int->Option (List T)):Option (List T):=aa none m λl=>aa none l.head? λa=>aa none l.tail.head? λb=>aa none l.tail.tail.head? λc=>aa none (T.aP 1 a) λd=>aa none (T.int? .i64 b) λe=>aa none (T.int? .i64 c) λf=>k d e f
def yW(c:Option Bool)(m:Option (List T))(k:Int->Option (List T)):Option (List T):=aa c m λl=>aa c (List.drop 1 l).head? λa=>aa c (T.int? .i64 a) λb=>k b
def yX(m:Option (List T))(k:Int->Option (List T)):Option (List T):=aa none m λl=>aa none (List.drop 2 l).head? λa=>aa none (T.int? .i64 a) λb=>k b
def qp(m:Option (List T))(k:(List T)->Int->Bool->ByteArray->Bool->ByteArray->Bool->ByteArray->Bool->ByteArray->Option (List T)):Option (List T):=aa none m λl=>aa none l.head? λi=>aa none (T.int? .i64 i) λj=>aa none l.tail.head? λn=>aa none n.bool? λo=>aa none l.tail.tail.head? λp=>aa none p.bx λq=>aa none l.tail.tail.tail.head? λr=>aa none r.bool? λs=>aa none l.tail.tail.tail.tail.head? λt=>aa none t.bx λu=>aa none l.tail.tail.tail.tail.tail.head? λa=>aa none a.bool? λb=>aa none l.tail.tail.tail.tail.tail.tail.head? λc=>aa none c.bx λd=>aa none l.tail.tail.tail.tail.tail.tail.tail.head? λe=>aa none e.bool? λf=>aa none l.tail.tail.tail.tail.tail.tail.tail.tail.head? λg=>aa none g.bx λh=>k l j o q s u b d f h
def lU(m:Option T)(k:Int->Option (List T)):Option (List T):=aa none m λl=>aa none (T.int? .i64 l) λa=>k a
def nQ(m:Option T)(k:(Bool×JL)->Option (List T)):Option (List T):=aa none m λl=>aa none (T.aP 3 l) λa=>k a
def nR(m:Option T)(k:(Bool×List Row)->Option (List T)):Option (List T):=aa none m λl=>aa none (kg l) λa=>k a
def uT(m:Option (List T))(k:(List T)->Bool->Bool->ByteArray->Bool->ByteArray->Bool->ByteArray->Bool->ByteArray->Option (List T)):Option (List T):=aa none m λl=>aa none l.head? λv=>aa none (List.drop 1 l).head? λj=>aa none j.bool? λn=>aa none (List.drop 1 (List.drop 1 l)).head? λo=>aa none o.bool? λp=>aa none (List.drop 1 (List.drop 1 l)).tail.head? λq=>aa none q.bx λr=>aa none (List.drop 1 (List.drop 1 l)).tail.tail.head? λs=>aa none s.bool? λt=>aa none (List.drop 1 (List.drop 1 l)).tail.tail.tail.head? λu=>aa none u.bx λa=>aa none (List.drop 1 (List.drop 1 l)).tail.tail.tail.tail.head? λb=>aa none b.bool? λc=>aa none (List.drop 1 (List.drop 1 l)).tail.tail.tail.tail.tail.head? λd=>aa none d.bx λe=>aa none (List.drop 1 (List.drop 1 l)).tail.tail.tail.tail.tail.tail.head? λf=>aa none f.bool? λg=>aa none (List.drop 1 (List.drop 1 l)).tail.tail.tail.tail.tail.tail.tail.head? λh=>aa none h.bx λi=>k l n p r t a c e g i
def uU(m:Option (List T))(k:(List T)->(Bool×JL)->Int->Option (List T)):Option (List T):=aa none m λl=>aa none (l.head?.bind λz=>T.aP 4 z) λa=>aa none l.tail.head? λb=>aa none (T.int? .i64 b) λc=>k l a c
def CC(c:Option Bool)(i:Int)(L:JL)(k:Int->Int->Option (List T)):Option (List T):=aa c (if 0<=i/\i < (L.length:Int) then some () else none) λ_=>aa c L[i.toNat]? λl=>aa c l.head? λa=>aa c l.tail.head? λb=>aa c (T.int? .i64 a) λd=>aa c (T.int? .i64 b) λe=>k d e
def CD(i:Int)(L:JL)(k:Int->Option (List T)):Option (List T):=aa none (if 0<=i/\i < (L.length:Int) then some () else none) λ_=>aa none L[i.toNat]? λl=>aa none (List.drop 1 l).head? λa=>aa none (T.int? .i64 a) λb=>k b
def CE(c:Option Bool)(m:Option (List T))(k:T->Option (List T)):Option (List T):=aa none m λl=>aa c l.head? λa=>k a
def CF(c:Option Bool)(i:Int)(L:JL)(k:(Bool×JL)->Int->Int->Option (List T)):Option (List T):=aa c (if 0<=i/\i < (L.length:Int) then some () else none) λ_=>aa c L[i.toNat]? λl=>aa c l.head? λa=>aa c l.tail.head? λb=>aa c l.tail.tail.head? λd=>aa c (T.aP 1 a) λe=>aa c (T.int? .i64 b) λf=>aa c (T.int? .i64 d) λg=>k e f g
def CG(i:Int)(L:JL)(k:Int->Option (List T)):Option (List T):=aa none (if 0<=i/\i < (L.length:Int) then some () else none) λ_=>aa none L[i.toNat]? λl=>aa none (List.drop 2 l).head? λa=>aa none (T.int? .i64 a) λb=>k b
def CH(i:Int)(L:JL)(k:(Bool×JL)->Option (List T)):Option (List T):=aa none (if 0<=i/\i < (L.length:Int) then some () else none) λ_=>aa none L[i.toNat]? λl=>aa none l.head? λa=>aa none (T.aP 1 a) λb=>k b
def CI(c:Option Bool)(i:Int)(L:JL)(k:Int->Option (List T)):Option (List T):=aa c (if 0<=i/\i < (L.length:Int) then some () else none) λ_=>aa c L[i.toNat]? λl=>aa c (List.drop 1 l).head? λa=>aa c (T.int? .i64 a) λb=>k b
def CJ(m:Option (List T))(k:(List T)->Int->Int->Int->Option (List T)):Option (List T):=aa none m λl=>aa none l.head? λa=>aa none (T.int? .i64 a) λb=>aa none l.tail.head? λc=>aa none (T.int? .i64 c) λd=>aa none l.tail.tail.head? λe=>aa none (T.int? .i64 e) λf=>k l b d f
def CK(m:Option T)(k:(Bool×JL)->Option (List T)):Option (List T):=aa none m λl=>aa none (T.aP 2 l) λa=>k a
def CL(m:Option (List T))(k:Int->(Bool×JL)->(Bool×JL)->Int->Int->Option (List T)):Option (List T):=aa none m λl=>aa none l.head? λa=>aa none (T.int? .i64 a) λb=>aa none l.tail.head? λc=>aa none (T.aP 2 c) λd=>aa none l.tail.tail.head? λe=>aa none (T.aP 2 e) λf=>aa none l.tail.tail.tail.head? λg=>aa none (T.int? .i64 g) λh=>aa none l.tail.tail.tail.tail.head? λi=>aa none (T.int? .i64 i) λj=>k b d f h j
def CM(c:Option Bool)(i:Int)(L:JL)(k:(Bool×JL)->Option (List T)):Option (List T):=aa c (if 0<=i/\i < (L.length:Int) then some () else none) λ_=>aa c L[i.toNat]? λl=>aa c l.head? λa=>aa c (T.aP 1 a) λb=>k b
def CN(c:Option Bool)(m:Option (List T))(k:Int->Option (List T)):Option (List T):=aa c m λl=>aa c l.head? λa=>aa c (T.int? .i64 a) λb=>k b
def CO(c:Option Bool)(i:Int)(L:JL)(k:Int->Option (List T)):Option (List T):=aa c (if 0<=i/\i < (L.length:Int) then some () else none) λ_=>aa c L[i.toNat]? λl=>aa c (List.drop 2 l).head? λa=>aa c (T.int? .i64 a) λb=>k b
abbrev Y0:=λd q1 e q3 f g h j k l a b c=>([ab.box [I d,Jl 3 q1 e,Jo 1,Jo 2,Jo 3,Jo 4,Jo 5],ab.sl false 1 q3 f,ab.mp false [Ck.i i64] (Ck.i i64) g,ab.rows h 1 0 4 j k,ab.sl false 8 l a,ab.sl false 4 b c]:List ab)
abbrev Y1:=λa q1=>([ab.sl false 1 a q1]:List ab)
abbrev Y3:=λa q1 b q3=>([ab.sl false 1 a q1,ab.sl false 1 b q3]:List ab)
abbrev Y7:=λa q1 b q3=>([ab.box [I a,I q1],ab.box [I b,I q3]]:List ab)
abbrev Y9:=λa q1=>([ab.box [I a,I q1]]:List ab)
abbrev kP:=λf q1 g q3 h j k l m n a b c d e=>([ab.box [I f,Jl 3 q1 g,Jo 1,Jo 2,Jo 3,Jo 4,Jo 6],ab.sl false 1 q3 h,ab.mp false [Ck.i i64] (Ck.i i64) j,ab.rows k 1 0 4 l m,ab.sl false 8 n a,ab.sl false 4 b c,ab.sl false 4 d e]:List ab)
abbrev lV:=λd q1 e q3 f g h j k l a b c=>([ab.box [I d,Jl 3 q1 e,Jo 1,Jo 2,Jo 6,Jo 4,Jo 5],ab.sl false 1 q3 f,ab.mp false [Ck.i i64] (Ck.i i64) g,ab.dead,ab.sl false 8 h j,ab.sl false 4 k l,ab.rows a 1 0 4 b c]:List ab)
abbrev n6:=λa q1 b q3 c d e f=>([ab.box [B a,Js q1,B b,Js q3],ab.box [B c,Js d,B e,Js f]]:List ab)
abbrev n7:=λf q1 g q3 h j k l m n a b c d e=>([ab.box [I f,Jl 3 q1 g,Jo 1,Jo 2,Jo 6,Jo 4,Jo 7],ab.sl false 1 q3 h,ab.mp false [Ck.i i64] (Ck.i i64) j,ab.dead,ab.sl false 8 k l,ab.sl false 4 m n,ab.rows a 1 0 4 b c,ab.sl false 4 d e]:List ab)
abbrev vP:=λa q1 b q3 c d e f=>([ab.box [I a,I q1],ab.box [I b,I q3],ab.box [B c,Js d,B e,Js f]]:List ab)
abbrev vQ:=λa q1 b q3 c d e f g=>([ab.sl false 4 a q1,ab.box [I b],ab.box [Jo 3],ab.sl false 4 q3 c,ab.box [B d,Js e,B f,Js g]]:List ab)
abbrev zb:=λe q1 f q3 g h i j k l a b c d=>([ab.box [B e,Js q1,B f,Js q3],ab.sl false 4 g h,ab.box [B i,Js j,B k,Js l],ab.box [Jl 1 a b,I c,I d]]:List ab)
abbrev zd:=λd q1 e q3 f g h j k l a b c=>([ab.box [I d,Jl 3 q1 e,Jo 1,Jo 2,Jo 3,Jo 4,Jl 4 q3 f],ab.sl false 1 g h,ab.mp false [Ck.i i64] (Ck.i i64) j,ab.rows k 1 0 4 l a,ab.sl false 8 b c]:List ab)
abbrev ze:=λm q1 n q3 o p q r s t a b c d e f g h j k l=>([ab.box [I m,Jl 3 q1 n,Jo 1,Jo 2,Jo 3,Jo 4,Jo 5],ab.sl false 1 q3 o,ab.mp false [Ck.i i64] (Ck.i i64) p,ab.rows q 1 0 4 r s,ab.sl false 8 t a,ab.sl false 4 b c,ab.box [B d,Js e,B f,Js g,B h,Js j,B k,Js l]]:List ab)
abbrev zf:=λk q1 l q3 m n o p q r a b c d e f g h j=>([ab.box [I k,Jl 3 q1 l,Jo 1,Jo 2,Jo 3,Jo 4,Jo 5],ab.sl false 1 q3 m,ab.mp false [Ck.i i64] (Ck.i i64) n,ab.rows o 1 0 4 p q,ab.sl false 8 r a,ab.sl false 4 b c,ab.sl false 4 d e,ab.box [B f,Js g,B h,Js j]]:List ab)
abbrev zg:=λg q1 h q3 j k l m n o a b c d e f=>([ab.box [I g,Jl 3 q1 h,Jo 1,Jo 2,Jo 3,Jo 4,Jo 5],ab.sl false 1 q3 j,ab.mp false [Ck.i i64] (Ck.i i64) k,ab.rows l 1 0 4 m n,ab.sl false 8 o a,ab.sl false 4 b c,ab.box [I d],ab.box [Jo 8],ab.sl false 4 e f]:List ab)
abbrev zh:=λa q1 b q3 c=>([ab.sl false 4 a q1,ab.box [I b],ab.box [Jo 3],ab.sl false 4 q3 c]:List ab)
abbrev zi:=λf q1 g q3 h j k l m n a b c d e=>([ab.box [I f,Jl 3 q1 g,Jo 1,Jo 2,Jo 3,Jo 4,Jo 5],ab.sl false 1 q3 h,ab.mp false [Ck.i i64] (Ck.i i64) j,ab.rows k 1 0 4 l m,ab.sl false 8 n a,ab.sl false 4 b c,ab.sl false 4 d e]:List ab)
theorem GD:type_of% @CP/\type_of% @G0.eq_1/\type_of% @G1.eq_1/\type_of% @G2.eq_1/\type_of% @G3.eq_1/\type_of% @G4.eq_1/\type_of% @G5.eq_1/\type_of% @G6.eq_1/\type_of% @G7.eq_1/\type_of% @G8.eq_1/\type_of% @G9.eq_1/\type_of% @bO.eq_1/\type_of% @aV.eq_1/\type_of% @pb.eq_1/\type_of% @yJ.eq_1/\type_of% @yK.eq_1/\type_of% @pc.eq_1/\type_of% @qg.eq_1/\type_of% @hZ.eq_1/\type_of% @ql.eq_1/\type_of% @qm.eq_1/\type_of% @uO.eq_1/\type_of% @ft.eq_1/\type_of% @ic.eq_1/\type_of% @yL.eq_1/\type_of% @yM.eq_1/\type_of% @yN.eq_1/\type_of% @qn.eq_1/\type_of% @sA.eq_1/\type_of% @yO.eq_1/\type_of% @uP.eq_1/\type_of% @uQ.eq_1/\type_of% @yP.eq_1/\type_of% @Cx.eq_1/\type_of% @Cy.eq_1/\type_of% @Cz.eq_1/\type_of% @CA.eq_1/\type_of% @CB.eq_1/\type_of% @yQ.eq_1/\type_of% @yR.eq_1/\type_of% @qo.eq_1/\type_of% @yS.eq_1/\type_of% @uR.eq_1/\type_of% @uS.eq_1/\type_of% @eZ.eq_1/\type_of% @yT.eq_1/\type_of% @gr.eq_1/\type_of% @lT.eq_1/\type_of% @gI.eq_1/\type_of% @ja.eq_1/\type_of% @dJ.eq_1/\type_of% @eu.eq_1/\type_of% @yU.eq_1/\type_of% @pd.eq_1/\type_of% @yV.eq_1/\type_of% @yW.eq_1/\type_of% @yX.eq_1/\type_of% @qp.eq_1/\type_of% @lU.eq_1/\type_of% @nQ.eq_1/\type_of% @nR.eq_1/\type_of% @uT.eq_1/\type_of% @uU.eq_1/\type_of% @CC.eq_1/\type_of% @CD.eq_1/\type_of% @CE.eq_1/\type_of% @CF.eq_1/\type_of% @CG.eq_1/\type_of% @CH.eq_1/\type_of% @CI.eq_1/\type_of% @CJ.eq_1/\type_of% @CK.eq_1/\type_of% @CL.eq_1/\type_of% @CM.eq_1/\type_of% @CN.eq_1/\type_of% @CO.eq_1:=⟨@CP,@G0.eq_1,@G1.eq_1,@G2.eq_1,@G3.eq_1,@G4.eq_1,@G5.eq_1,@G6.eq_1,@G7.eq_1,@G8.eq_1,@G9.eq_1,@bO.eq_1,@aV.eq_1,@pb.eq_1,@yJ.eq_1,@yK.eq_1,@pc.eq_1,@qg.eq_1,@hZ.eq_1,@ql.eq_1,@qm.eq_1,@uO.eq_1,@ft.eq_1,@ic.eq_1,@yL.eq_1,@yM.eq_1,@yN.eq_1,@qn.eq_1,@sA.eq_1,@yO.eq_1,@uP.eq_1,@uQ.eq_1,@yP.eq_1,@Cx.eq_1,@Cy.eq_1,@Cz.eq_1,@CA.eq_1,@CB.eq_1,@yQ.eq_1,@yR.eq_1,@qo.eq_1,@yS.eq_1,@uR.eq_1,@uS.eq_1,@eZ.eq_1,@yT.eq_1,@gr.eq_1,@lT.eq_1,@gI.eq_1,@ja.eq_1,@dJ.eq_1,@eu.eq_1,@yU.eq_1,@pd.eq_1,@yV.eq_1,@yW.eq_1,@yX.eq_1,@qp.eq_1,@lU.eq_1,@nQ.eq_1,@nR.eq_1,@uT.eq_1,@uU.eq_1,@CC.eq_1,@CD.eq_1,@CE.eq_1,@CF.eq_1,@CG.eq_1,@CH.eq_1,@CI.eq_1,@CJ.eq_1,@CK.eq_1,@CL.eq_1,@CM.eq_1,@CN.eq_1,@CO.eq_1⟩
open Go Go.Aev Go.IntKind
noncomputable abbrev ar:=Go.Proofs.Tryz.prog
def ann:cG:={
 live:=(λf r=>match f,r with
  | 30,6=>some [(1,none),(4,none),(21,none),(22,none),(23,none)]
  | 77,1=>some [(0,none),(1,none)]
  | 50,6=>some [(1,none),(5,none),(13,none),(14,none),(15,none)]
  | 53,8=>some [(4,none),(43,none),(44,none),(45,none)]
  | 82,4=>some [(0,none),(1,none),(4,none),(5,none),(14,none),(15,none),(16,none)]
  | 99,2=>some [(4,none),(5,none),(6,none)]
  | 80,6=>some [(0,none),(1,none),(5,none)]
  | 76,3=>some [(1,none),(3,none),(12,none),(13,none)]
  | 33,2=>some [(0,none),(1,none),(7,none),(8,none)]
  | 105,1=>some [(0,none)]
  | 133,10=>some [(0,none),(8,none),(9,none),(10,some 1)]
  | 133,15=>some [(8,none),(9,none),(10,some 1),(11,none),(12,none),(13,none)]
  | 133,19=>some [(8,none),(9,none),(10,some 1),(11,none),(12,none),(13,none),(15,none),(16,none)]
  | 133,27=>some [(8,none),(9,none),(10,some 1),(11,none),(12,none),(13,none),(15,none),(17,none),(167,none),(168,none),(169,none)]
  | 104,3=>some [(1,none),(5,none),(17,none),(18,none),(19,none)]
  | 104,7=>some [(1,none),(5,none),(6,none),(7,none),(8,none),(17,none),(18,none),(19,none),(24,none),(25,none),(26,none)]
  | 171,4=>some [(0,none),(1,none),(6,none),(7,none),(8,none)]
  | 173,4=>some [(1,none),(5,none),(6,none),(18,none),(19,none),(20,none)]
  | 174,3=>some [(0,none),(1,none),(2,none),(7,none),(8,none),(12,none),(13,none)]
  | 175,4=>some [(0,none),(1,none),(6,none),(7,none),(20,none),(21,none),(22,none)]
  | 175,15=>some [(0,none),(1,none),(6,none),(10,none),(58,none),(59,none),(60,none)]
  | 176,6=>some [(1,none),(5,none),(6,none),(20,none),(21,none),(22,none)]
  | 177,4=>some [(1,none),(5,none),(6,none),(13,none),(14,none),(15,none)]
  | 9,11=>some [(0,none),(1,none),(2,none),(5,none),(9,none),(13,none),(73,none),(74,none),(75,none)]
  | 9,18=>some [(2,none),(9,none),(13,none),(18,none),(102,none),(103,none),(104,none)]
  | 10,10=>some [(2,none),(3,none),(9,none),(11,some 3),(32,none),(33,none),(34,none)]
  | 16,3=>some [(1,none),(4,none),(5,none),(8,none),(9,none),(10,none)]
  | 26,3=>some [(3,some 4),(6,none),(7,none),(8,none)]
  | 28,5=>some [(2,none),(7,none),(9,none),(10,none),(11,none),(18,none),(19,none),(20,none)]
  | 28,8=>some [(2,none),(7,none),(9,none),(10,none),(11,none),(12,none),(13,none),(18,none),(19,none),(20,none),(26,none),(27,none),(28,none)]
  | 12,3=>some [(0,none),(1,none),(5,some 3000001),(5,some 5101004),(5,some 7000004),(21,none),(22,none),(23,none)]
  | 12,7=>some [(0,none),(1,none),(5,some 3000001),(5,some 5101004),(5,some 7000004),(6,none),(8,none),(21,none),(22,none),(23,none),(34,none),(35,none),(36,none)]
  | 13,1=>some [(0,none),(1,none)]
  | 13,10=>some [(0,none),(1,none),(6,none),(7,none),(8,none),(9,none),(38,none),(39,none),(40,none)]
  | 14,4=>some [(4,some 2),(5,none),(10,none),(11,none),(12,none)]
  | 15,3=>some [(0,none),(2,none),(31,none),(32,none),(33,none)]
  | 15,8=>some [(0,none),(2,none),(10,none),(31,none),(32,none),(33,none),(54,none),(55,none),(56,none)]
  | 15,14=>some [(0,none),(2,none)]
  | 15,16=>some [(0,none),(2,none),(15,none),(16,none),(100,none),(101,none),(102,none)]
  | 17,4=>some [(3,none),(4,some 4),(17,none),(18,none),(19,none)]
  | 31,2=>some [(0,none),(1,none),(7,none),(8,none)]
  | 35,3=>some [(0,none),(4,none),(5,none),(15,none),(16,none),(17,none)]
  | 37,5=>some [(0,none),(7,none),(8,none),(41,none),(42,none),(43,none)]
  | 43,3=>some [(0,none),(1,none),(5,none),(26,none),(27,none),(28,none)]
  | 44,5=>some [(0,none),(1,none),(5,none),(6,none),(7,none),(8,none),(45,none),(46,none),(47,none)]
  | 44,13=>some [(0,none),(1,none),(5,none),(6,none),(8,none),(11,none),(75,none),(76,none)]
  | 47,6=>some [(1,none),(2,none),(3,none),(7,none),(9,none),(10,none),(11,none),(12,none),(24,none),(25,none),(26,none)]
  | 48,3=>some [(0,none),(1,none),(2,none),(7,none),(17,none),(18,none)]
  | 49,3=>some [(0,none),(2,none),(3,none),(14,none),(15,none)]
  | 97,2=>some [(0,none),(1,none),(7,none),(8,none)]
  | 19,5=>some [(4,none),(16,none),(17,none),(18,none)]
  | 20,3=>some [(1,none),(4,none),(5,none),(9,none),(10,none),(11,none)]
  | 73,4=>some [(0,none),(4,none),(18,none),(19,none),(20,none)]
  | 3,3=>some [(1,none),(2,none),(3,none),(4,none),(11,some 3),(12,none)]
  | 3,12=>some [(11,none),(13,none),(14,none),(15,none),(16,none),(17,none),(18,none),(19,none),(20,none),(21,none)]
  | 4,3=>some [(0,none),(1,none),(2,none),(7,some 3),(8,none)]
  | 23,9=>some [(4,none),(6,none),(7,none),(10,some 6101001),(38,none),(39,none),(40,none)]
  | 23,13=>some [(4,none),(6,none),(7,none),(10,some 999998)]
  | 57,4=>some [(1,none),(2,none),(15,none),(16,none)]
  | 57,13=>some [(1,none),(2,none),(41,none),(42,none),(43,none)]
  | 62,3=>some [(1,none),(2,none),(3,none),(7,none),(8,none),(9,none)]
  | 85,6=>some [(1,none),(2,none),(24,none),(25,none),(26,none)]
  | 88,9=>some [(3,none),(4,none),(8,none),(9,none),(12,none),(13,none)]
  | 88,25=>some [(8,none),(9,none),(13,none),(19,none),(106,none),(107,none),(108,none)]
  | 89,3=>some [(0,none),(3,none),(9,none),(10,none),(11,none)]
  | 89,11=>some [(6,none),(25,none),(26,none),(27,none)]
  | 91,4=>some [(0,none),(1,none),(5,none),(6,none),(20,none),(21,none),(22,none)]
  | 91,11=>some [(0,none),(1,none),(5,none),(6,none),(9,none),(61,none),(62,none),(63,none)]
  | 91,17=>some [(0,none),(6,none),(14,none),(107,none),(108,none),(109,none)]
  | 92,3=>some [(0,none),(1,none),(5,none),(17,none),(18,none),(19,none)]
  | 92,9=>some [(0,none),(1,none),(6,none),(7,none),(8,none),(17,none),(18,none),(19,none),(54,none),(55,none),(56,none)]
  | 93,4=>some [(0,none),(1,none),(7,none),(8,none),(19,none),(20,none),(21,none)]
  | 94,5=>some [(2,none),(3,none),(5,none),(17,none),(18,none),(19,none)]
  | 108,2=>some [(0,none),(1,none),(8,none),(9,none),(10,none)]
  | 111,2=>some [(0,none),(3,none)]
  | 113,2=>some [(2,none),(6,none)]
  | 113,4=>some [(2,none),(6,none),(7,none),(8,none),(28,none),(29,none),(30,none)]
  | 113,14=>some [(2,none),(6,none),(7,none),(88,none),(89,none),(90,none)]
  | 113,22=>some [(2,none),(6,none),(13,none),(112,none),(113,none),(114,none)]
  | 115,5=>some [(0,none),(1,none),(4,none),(5,none),(30,none),(31,none),(32,none)]
  | 116,3=>some [(0,none),(4,none),(11,none),(12,none),(13,none)]
  | 116,11=>some [(0,none),(4,none),(7,none)]
  | 117,4=>some [(0,none),(5,none),(6,none),(7,none)]
  | 117,12=>some [(0,none),(5,none),(6,none),(7,none),(8,none),(75,none),(76,none),(77,none)]
  | 120,8=>some [(1,none),(5,none),(7,none),(26,none),(27,none),(28,none)]
  | 121,3=>some [(0,none),(1,none),(5,none),(19,none),(20,none)]
  | 121,9=>some [(0,none),(5,none),(7,none),(29,none),(30,none),(31,none)]
  | 121,14=>some [(0,none),(5,none),(7,none),(10,none)]
  | 121,17=>some [(0,none),(5,none),(7,none),(10,none),(43,none),(44,none),(45,none)]
  | 121,20=>some [(0,none),(5,none),(7,none),(10,none),(11,none),(12,none),(43,none),(44,none),(45,none),(52,none),(53,none),(54,none)]
  | 124,2=>some [(0,none),(3,none),(10,none),(11,none),(12,none)]
  | 126,8=>some [(2,none),(3,none),(5,none),(28,none),(29,none),(30,none)]
  | 128,2=>some [(0,none),(6,none),(16,none),(17,none),(18,none)]
  | 128,8=>some [(0,none),(6,none),(8,none),(9,none),(16,none),(17,none),(18,none),(34,none),(35,none),(36,none)]
  | 131,2=>some [(3,none),(9,none),(10,none),(11,none)]
  | 132,2=>some [(2,none),(3,none),(10,none),(11,none),(12,none)]
  | 132,5=>some [(2,none),(3,none),(5,none),(6,none),(10,none),(11,none),(12,none),(20,none),(21,none),(22,none)]
  | 139,1=>some [(0,none)]
  | 139,3=>some [(0,none),(3,none),(13,none),(14,none),(15,none)]
  | 140,3=>some [(3,none),(6,none),(7,none),(8,none)]
  | 142,5=>some [(0,none),(1,none),(5,none),(6,none)]
  | 149,2=>some [(0,none),(1,none),(7,none),(8,none)]
  | 155,3=>some [(0,none),(1,none),(2,none),(16,none),(17,none),(18,none)]
  | 156,4=>some [(1,none),(2,none),(15,none),(16,none),(17,none)]
  | 158,4=>some [(0,none),(1,none),(4,none),(16,none),(17,none),(18,none)]
  | 158,13=>some [(0,none),(4,none),(7,none),(43,none),(44,none),(45,none)]
  | 158,18=>some [(0,none),(4,none),(7,none),(43,none),(44,none),(45,none),(53,none),(54,none),(55,none)]
  | 161,3=>some [(0,none),(1,none),(2,none),(3,none),(9,none),(17,none),(18,none)]
  | 161,8=>some [(0,none),(1,none),(2,none),(3,none),(9,none),(11,none)]
  | 161,13=>some [(0,none),(1,none),(2,none),(3,none),(9,none),(11,none),(12,none),(13,none),(33,none),(34,none),(35,none)]
  | 162,4=>some [(0,none),(1,none),(12,none),(13,none)]
  | 163,7=>some [(0,none),(1,none),(6,none),(7,none),(40,none),(41,none)]
  | 163,12=>some [(0,none),(1,none),(6,none),(7,none),(54,none),(55,none)]
  | 163,15=>some [(0,none),(1,none),(6,none),(7,none),(9,none),(54,none),(55,none),(58,none),(59,none),(60,none)]
  | 165,4=>some [(1,none),(6,none),(7,none),(11,none),(12,none),(13,none)]
  | 178,3=>some [(0,none),(6,none),(9,none),(10,none),(11,none)]
  | 179,2=>some [(0,none),(1,none),(2,none),(3,none),(8,none),(9,none)]
  | 183,5=>some [(1,none),(2,none),(5,none),(14,none),(15,none),(16,none)]
  | 184,5=>some [(0,none),(3,none),(5,none),(37,none),(38,none)]
  | 184,10=>some [(0,none),(3,none),(5,none),(50,none),(51,none),(52,none)]
  | 185,5=>some [(0,none),(5,none),(18,none),(19,none),(20,none)]
  | 185,12=>some [(0,none),(5,none),(40,none),(41,none),(42,none)]
  | 187,2=>some [(0,none),(1,none),(7,none),(8,none)]
  | 193,3=>some [(0,none),(2,none),(8,none),(14,none),(15,none),(16,none)]
  | 194,2=>some [(1,none),(10,none),(11,none),(12,none)]
  | 195,17=>some [(0,none),(14,none),(15,none),(20,none),(156,none),(157,none),(158,none)]
  | 200,1=>some [(0,none),(1,none),(2,none),(6,none)]
  | 200,4=>some [(0,none),(1,none),(2,none),(6,none),(7,none)]
  | 201,4=>some [(0,none),(6,none),(7,none),(8,none),(9,none)]
  | 201,8=>some [(0,none),(6,none),(7,none),(10,none)]
  | 202,5=>some [(0,none),(1,none),(6,none),(7,none),(8,none),(9,none)]
  | 204,2=>some [(0,none),(6,none),(7,none)]
  | 205,3=>some [(0,none),(1,none),(2,none),(7,none),(8,none)]
  | 205,5=>some [(0,none),(1,none),(2,none),(7,none),(8,none)]
  | 205,14=>some [(0,none),(1,none),(2,none),(7,none),(8,none),(9,none)]
  | 205,20=>some [(0,none),(1,none),(2,none),(7,none),(8,none),(10,none)]
  | 207,3=>some [(0,none),(1,none),(9,none),(10,none)]
  | 207,5=>some [(0,none),(1,none),(9,none),(10,none)]
  | 207,1000000=>some [(0,none),(1,none),(9,none),(10,none)]
  | 208,3=>some [(0,none),(1,none),(10,none),(11,none)]
  | 208,5=>some [(0,none),(1,none),(10,none),(11,none)]
  | 208,13=>some [(0,none),(1,none),(10,none),(11,none)]
  | 208,15=>some [(0,none),(1,none),(10,none),(11,none)]
  | 208,1000000=>some [(0,none),(1,none),(10,none),(11,none)]
  | 211,3=>some [(6,none),(11,none),(12,none),(13,none)]
  | 215,9=>some [(0,none),(5,none),(7,none),(9,none),(10,none),(32,none),(33,none),(34,none)]
  | 219,2=>some [(3,none),(5,none),(6,none),(15,none),(16,none)]
  | 222,3=>some [(1,none),(2,none),(15,none),(16,none)]
  | 222,11=>some [(1,none),(4,none),(5,none),(27,none),(28,none),(29,none)]
  | 226,2=>some [(0,none),(3,none),(10,none),(11,none),(12,none)]
  | 227,3=>some [(1,none),(2,none),(9,none),(19,none)]
  | 228,3=>some [(0,none),(3,none),(9,none),(10,none),(11,none)]
  | 228,11=>some [(6,none),(25,none),(26,none),(27,none)]
  | 232,1=>some [(0,none),(2,none),(3,none),(8,none)]
  | 240,2=>some [(0,none),(1,none),(2,none),(3,none),(4,none),(10,none),(11,none)]
  | 241,3=>some [(3,none),(6,none),(7,none),(8,none)]
  | 245,2=>some [(2,none),(5,none),(6,none),(7,none)]
  | 249,1=>some [(0,none),(1,none),(2,none),(3,none),(8,none)]
  | 249,4=>some [(0,none),(1,none),(2,none),(3,none),(8,none),(9,none)]
  | 250,4=>some [(0,none),(3,none),(8,none),(9,none),(10,none),(11,none)]
  | 250,8=>some [(0,none),(3,none),(8,none),(9,none),(12,none)]
  | 251,5=>some [(0,none),(1,none),(8,none),(9,none),(10,none),(11,none)]
  | 253,2=>some [(0,none),(8,none),(9,none)]
  | 254,3=>some [(0,none),(1,none),(2,none),(3,none),(9,none),(10,none)]
  | 254,5=>some [(0,none),(1,none),(2,none),(3,none),(9,none),(10,none)]
  | 254,14=>some [(0,none),(1,none),(2,none),(3,none),(9,none),(10,none),(11,none)]
  | 254,20=>some [(0,none),(1,none),(2,none),(3,none),(9,none),(10,none),(12,none)]
  | 255,3=>some [(0,none),(1,none),(4,none),(11,none),(12,none)]
  | 255,5=>some [(0,none),(1,none),(4,none),(11,none),(12,none)]
  | 255,1000000=>some [(0,none),(1,none),(4,none),(11,none),(12,none)]
  | 256,3=>some [(0,none),(1,none),(4,none),(12,none),(13,none)]
  | 256,5=>some [(0,none),(1,none),(4,none),(12,none),(13,none)]
  | 256,13=>some [(0,none),(1,none),(4,none),(12,none),(13,none)]
  | 256,15=>some [(0,none),(1,none),(4,none),(12,none),(13,none)]
  | 256,1000000=>some [(0,none),(1,none),(4,none),(12,none),(13,none)]
  | 258,1=>some [(0,none),(2,none),(3,none),(4,none),(10,none)]
  | _,_=>none),
 join:=(λ_ _=>none),
 sig:=(λf=>match f with
  | 173=>some ⟨[.own 1],[]⟩
  | 60=>some ⟨[.own 1],[]⟩
  | 12=>some ⟨[.new [.f (.i .i64), .t (.l 3), .own 1, .mp false [.i .i64] (.i .i64), .rows 1 0 4, .own 8, .own 4]],[]⟩
  | 4=>some ⟨[.own 3],[]⟩
  | 110=>some ⟨[.new [.t (.l 1), .t (.l 1), .t (.l 1), .mp false [.i .i64] .b]],[]⟩
  | _=>none),
 ig:=(λf=>match f with
  | 174=>some [true,false,false]
  | 13=>some [true,false]
  | 15=>some [true,false,false]
  | 17=>some [true]
  | 37=>some [true,false,false]
  | 43=>some [true,false,false]
  | 44=>some [true,false,false]
  | 47=>some [true,false,false]
  | 48=>some [true,false,false]
  | 73=>some [true,true,true]
  | 75=>some [false,false,false,true,true,true,true]
  | 61=>some [true,false]
  | 139=>some [true]
  | 178=>some [true,false]
  | 147=>some [true,false,false]
  | 148=>some [true,false]
  | 111=>some [true]
  | 116=>some [true]
  | 91=>some [true,false]
  | 93=>some [true,false]
  | 92=>some [true,false]
  | 163=>some [true,false]
  | _=>none),
 deep:=(λf=>match f with
  | 35=>true
  | 36=>true
  | 38=>true
  | 39=>true
  | 49=>true
  | 87=>true
  | _=>false),
 app:=(λd=>match d with
  | some 11=>true
  | some 16=>true
  | some 14=>true
  | _=>false),
 zB:=(λf m=>match f with
  | 174=>⟨[.f .b],[.sl 1]⟩
  | 13=>⟨[.own 4, .f .b],[.box [.f (.i .i64), .t (.l 3), .same 1, .same 2, .rows 1 0 4, .same 4, .same 5], .sl 1, .mp false [.i .i64] (.i .i64), .dead, .sl 8, .sl 4]⟩
  | 15=>⟨[.t (.l 4), .own 4, .f .b],[.box [.f (.i .i64), .t (.l 3), .same 1, .same 2, .rows 1 0 4, .same 4, .t (.l 4)], .sl 1, .mp false [.i .i64] (.i .i64), .dead, .sl 8, .dead]⟩
  | 17=>if m=4007 then⟨[.own 4],[.box [.f (.i .i64), .t (.l 3), .same 1, .same 2, .rows 1 0 4, .same 4, .t (.l 4)], .sl 1, .mp false [.i .i64] (.i .i64), .dead, .sl 8]⟩ else⟨[.own 4],[.box [.f (.i .i64), .t (.l 3), .same 1, .same 2, .rows 1 0 4, .same 4, .same 5], .sl 1, .mp false [.i .i64] (.i .i64), .dead, .sl 8, .sl 4]⟩
  | 37=>⟨[.own 4],[.box [.f (.i .i64), .t (.l 3), .same 1, .same 2, .rows 1 0 4, .same 4, .same 5], .sl 1, .mp false [.i .i64] (.i .i64), .dead, .sl 8, .sl 4]⟩
  | 43=>⟨[],[.box [.f (.i .i64), .t (.l 3), .same 1, .same 2, .rows 1 0 4, .same 4, .same 5], .sl 1, .mp false [.i .i64] (.i .i64), .dead, .sl 8, .sl 4]⟩
  | 44=>⟨[],[.box [.f (.i .i64), .t (.l 3), .same 1, .same 2, .rows 1 0 4, .same 4, .same 5], .sl 1, .mp false [.i .i64] (.i .i64), .dead, .sl 8, .sl 4]⟩
  | 47=>⟨[.f (.i .i64), .agg [.f .b, .f .s, .f .b, .f .s, .f .b, .f .s, .f .b, .f .s], .f .b],[.box [.f (.i .i64), .t (.l 3), .same 1, .same 2, .rows 1 0 4, .same 4, .same 5], .sl 1, .mp false [.i .i64] (.i .i64), .dead, .sl 8, .sl 4]⟩
  | 48=>⟨[.own 4],[.box [.f (.i .i64), .t (.l 3), .same 1, .same 2, .rows 1 0 4, .same 4, .same 5], .sl 1, .mp false [.i .i64] (.i .i64), .dead, .sl 8, .sl 4]⟩
  | 73=>⟨[],[.sl 4, .box [.f (.i .i64)], .box [.same 3], .sl 4]⟩
  | 75=>⟨[],[.box [.ref 4 0], .box [.f .b], .box [.f .b, .f .s, .f .b, .f .s, .f .b, .f .s, .f .b, .f .s], .box [.f (.i .i64)], .box [.f (.i .i64), .t (.l 3), .same 5, .same 6, .rows 1 0 4, .same 8, .same 9], .sl 1, .mp false [.i .i64] (.i .i64), .dead, .sl 8, .sl 4]⟩
  | 61=>⟨[.agg [.f (.i .i64), .t (.l 1), .t (.l 1), .t (.l 2), .t (.l 9), .f (.i .i64)]],[.box [.t (.l 2), .t (.l 1), .t (.l 6), .t (.l 1), .t (.l 6), .t (.l 1), .t (.l 9), .same 1, .f (.i .i64), .f (.i .i64)], .mp false [.i .i64] .b]⟩
  | 139=>⟨[.f (.i .i64)],[.box [.t (.l 1), .t (.l 1), .t (.l 1), .same 1], .mp false [.i .i64] .b]⟩
  | 178=>⟨[.f .b, .f (.i .i64)],[.box [.t (.l 1), .t (.l 1), .t (.l 1), .same 1], .mp false [.i .i64] .b]⟩
  | 147=>⟨[],[.box [.t (.l 1), .t (.l 1), .t (.l 1), .same 1], .mp false [.i .i64] .b]⟩
  | 148=>⟨[.f .b],[.box [.t (.l 1), .t (.l 1), .t (.l 1), .same 1], .mp false [.i .i64] .b]⟩
  | 111=>⟨[.f (.i .i64)],[.box [.f (.i .i64), .t (.l 1), .f .b, .ref 1 0, .t (.l 1), .f (.i .i64), .t (.l 9)], .box [.t (.l 1), .t (.l 1), .t (.l 1), .same 2], .mp false [.i .i64] .b]⟩
  | 116=>⟨[.f .b, .f (.i .i64)],[.box [.f (.i .i64), .t (.l 1), .f .b, .ref 1 0, .t (.l 1), .f (.i .i64), .t (.l 9)], .box [.t (.l 1), .t (.l 1), .t (.l 1), .same 2], .mp false [.i .i64] .b]⟩
  | 91=>⟨[.t (.l 1)],[.box [.t (.l 2), .t (.l 1), .t (.l 6), .t (.l 1), .t (.l 6), .t (.l 1), .t (.l 9), .same 1, .f (.i .i64), .f (.i .i64)], .mp false [.i .i64] .b]⟩
  | 93=>⟨[.t (.l 2), .f .b, .f .b],[.box [.t (.l 2), .t (.l 1), .t (.l 6), .t (.l 1), .t (.l 6), .t (.l 1), .t (.l 9), .same 1, .f (.i .i64), .f (.i .i64)], .mp false [.i .i64] .b]⟩
  | 92=>⟨[.f .b],[.box [.t (.l 2), .t (.l 1), .t (.l 6), .t (.l 1), .t (.l 6), .t (.l 1), .t (.l 9), .same 1, .f (.i .i64), .f (.i .i64)], .mp false [.i .i64] .b]⟩
  | 163=>⟨[.f (.i .i64), .t (.l 1)],[.box [.t (.l 3), .t (.l 1), .f (.i .i64), .t (.l 3), .t (.l 9), .t (.l 2), .f .b]]⟩
  | _=>⟨[],[]⟩),
 wr:=(λf=>f==0),
 nk:=(λd t=>match d,t with
  | some 53,94=>1
  | some 54,94=>3
  | some 51,74=>1
  | some 52,74=>3
  | _,_=>0),
 st:=(λd=>match d with
  | some 89=>true
  | some 50=>true
  | some 30=>true
  | some 37=>true
  | some 103=>true
  | some 34=>true
  | some 67=>true
  | some 93=>true
  | some 127=>true
  | some 129=>true
  | some 78=>true
  | some 49=>true
  | _=>false),
 ld:=(λd=>match d with
  | some 89=>true
  | some 6=>true
  | _=>false),
 sx:=(λd=>match d with
  | some 103=>true
  | some 34=>true
  | some 67=>true
  | some 93=>true
  | some 127=>true
  | some 129=>true
  | _=>false)}
theorem hm:ar.follows .mixedOrders=true:=by kernel_rfl
noncomputable abbrev vf:Key:=aZ ar 30 true 6 [(1,none),(4,none),(21,none),(22,none),(23,none)] (0,0)
noncomputable abbrev vg:Key:=aZ ar 53 true 8 [(4,none),(43,none),(44,none),(45,none)] (0,0)
theorem Et(O:aB)(er:Bool)(r:JL)(n:Int):aF ar ann O (Key.call 30) [Jl 3 er r,I n] []=
 (bif bif decide (n < 0) then true else decide (n > 12) then some [Ji 3,Ji (-1)] else bif decide ((r.length:Int) > 40) then some [Ji 2,Ji 0] else O vf [I n,Jr 0,Jl 3 er r,I (r.length:Int),I 0] [ab.box [I 0,I 0]]):=by kernel_rfl
theorem Eu(O:aB)(g f a b c:Int)(d:Bool)(e:JL):aF ar ann O vf [I g,Jr 0,Jl 3 d e,I f,I a] (Y9 b c)=
 (bif decide (a < f) then G1 a e λp n h=>G0 (O (.call 53) [AV.agg [Jl 1 p.fst p.snd,I n,I h],I g] []) λn i=>bif !n==0 then some [Ji n,Ji a] else O vf [I g,Jr 0,Jl 3 d e,I f,I (Jw a)] (Y9 b c) else some [Ji 0,Ji 0]):=by kernel_rfl
theorem KS(O:aB)(d:Bool)(c:JL)(a b e:Int):aF ar ann O (Key.call 53) [AV.agg [Jl 1 d c,I a,I b],I e] []=
 (bif bif decide (e < 0) then true else decide (e > 12) then some [Ji 3,Ji (-1)] else bif bif bif !a==1 then !a==2 else false then !a==3 else false then some [Ji 4,Ji 0] else bif decide ((c.length:Int) > e) then some [Ji 9,Ji 0] else G4 (O (.call 60) [Jl 1 d c] []) λp=>Jg (bY 8 (p.snd.length+ [[Ji b]].length)) λx=>O vg [Jr 0,Jo 1,I (↑(p.snd++ [[Ji b]]).length:Int),I 0] [ab.box [I 0,I 0],ab.sl false 1 (p.fst && false) (p.snd++ [[Ji b]])]):=by kernel_rfl
theorem EA(O:aB)(a:Bool)(b:JL):aF ar ann O (Key.call 60) [Jl 1 a b] []=
 (bif a then some [T.aT true] else Jg (bY 8 (0+b.length)) λx=>some [T.ae 1 false b]):=by kernel_rfl
theorem Ev(O:aB)(e a c d:Int)(f:Bool)(g:JL):aF ar ann O vg [Jr 0,Jo 1,I e,I a] [ab.box [I c,I d],ab.sl false 1 f g]=
 (bif decide (a < e) then G2 a g λn=>G3 (O (.call 79) [I n] []) λb=>bif !b then some [Ji 3,Ji a] else O vg [Jr 0,Jo 1,I e,I (Jw a)] [ab.box [I c,I d],ab.sl false 1 f g] else some [Ji 0,Ji 0]):=by kernel_rfl
theorem K1(O:aB)(a:Int):aF ar ann O (Key.call 79) [I a] []=
 (some [Jb (bif decide (a>=(-1000000)) then decide (a<=1000000) else false)]):=by kernel_rfl
open Go Go.Aev Go.IntKind
noncomputable abbrev Or:aB:=mn ar ann
abbrev ti(n:Int):T:= .int .i64 n
abbrev tb(b:Bool):T:= .bool b
abbrev o0:AV:=AV.own (Id.c 0)
abbrev o1:AV:=AV.own (Id.c 1)
abbrev r0:AV:=AV.ref (Id.c 0) 0
theorem bG{c:Type}{l:List c}{i:Nat}{r:c}{b:List c}(h:l.drop i=r::b):l[i]? =some r/\i < l.length/\l.drop (i+1)=b:=by
 have a:i < l.length:=by
  rcases UE i l.length with g | g
  .exact g
  .rw [TE g] at h;cases h
 rw [Ta a] at h;simp only [TD] at h;exact⟨by rw [Rv a,h.1],a,h.2⟩
theorem bP{a:Type}{l:List a}{i:Nat}(h:l.drop i= []):l.length<=i:=by simpa using h
def enc(l:List Int):List (List T):=l.map λr=> [ti r]
theorem dC(l:List Int):(enc l).length=l.length:=by simp [enc]
theorem jB{l:List Int}{i:Nat}{r:Int}(h:l[i]? =some r):(enc l)[((i:Nat):Int).toNat]? =some [ti r]:=by simp [enc,h]
abbrev ae(e:Bool)(l:List Int):AV:=AV.t (T.ae 1 e (enc l))
structure R where
 e:Bool
 of:List Int
 kd:Int
 tv:Int
 deriving Inhabited
def eR(r:R):List T:= [T.ae 1 r.e (enc r.of),ti r.kd,ti r.tv]
def bX(l:List R):List (List T):=l.map eR
theorem cu(l:List R):(bX l).length=l.length:=by simp [bX]
theorem gy{l:List R}{i:Nat}{r:R}(h:l[i]? =some r):(bX l)[((i:Nat):Int).toNat]? =some [T.ae 1 r.e (enc r.of),ti r.kd,ti r.tv]:=by simp [bX,h,eR]
abbrev LR(e:Bool)(l:List R):AV:=AV.t (T.ae 3 e (bX l))
theorem next(i:Nat)(h:i<=100000):i64.wrap ((i:Int)+1)= ((i+1:Nat):Int):=by rw [wr (by omega)];omega
theorem lK{bs n:Nat}(h:n<=100000):bY bs n=some ():=by unfold bY;rw [if_pos (.inl (by unfold fV;omega))]
theorem sU(a b:Int):(a==b)=decide (a=b):=by by_cases h:a=b <;> simp [h]
theorem Nr(a b:Int):mm false a b=min a b:=by simp only [mm,cond_false];split <;> omega
open Go Go.Aev Go.IntKind
abbrev fl(p:Int×Int):Option (List T):=some [ti p.1,ti p.2]
theorem H8(c:Int):Or (.call 79) [I c] []=some [tb (decide (c>= -1000000/\c<=1000000))]:=by refine ao ?_;rw [K1];simp only [pv,<-T9]
theorem Pk(l:List Int)(e:Bool)(b:e=true->l= [])(c:l.length<=1000):∃x a,Or (.call 60) [ae e l] []=some [x]/\x.aP 1=some (a,enc l)/\(a=true->l= []):=by
 cases e with
 | true=>obtain rfl:=b rfl;exact⟨T.aT true,true,ao (by rw [EA];simp only [al,↓reduceIte,Int.reduceBEq,Int.reduceEq,GD]),by simp [T.aP,enc],λ_=>rfl⟩
 | false=>refine⟨T.ae 1 false (enc l),false,ao ?_,tN _ _ _,λh=>by cases h⟩;have:bY 8 (0+l.length)=some ():=lK (by omega);rw [EA];simp only [al,↓reduceIte,Int.reduceBEq,Int.reduceEq,GD,dC,this]
theorem Pj(l:List Int)(e:Bool)(d:e=true->l= [])(f:l.length<=1000):∃x c,Or (.call 60) [ae e l] []=some [x]/\x.aP 1=some (c,enc l):=by obtain⟨x,c,a,b,_⟩:=Pk l e d f;exact⟨x,c,a,b⟩
def kW:List Int->Nat->Int×Int
 | [],_=>(0,0)
 | x::r,i=>if x>= -1000000/\x<=1000000 then kW r (i+1) else(3,(i:Int))
def kX(n:Nat)(r:R):Int×Int:=
 if(¬r.kd=1/\¬r.kd=2)/\¬r.kd=3 then(4,0) else if r.of.length > n then(9,0) else kW (r.of++ [r.tv]) 0
def mL(n:Nat):List R->Nat->Int×Int
 | [],_=>(0,0)
 | r::a,i=>if(kX n r).1=0 then mL n a (i+1) else((kX n r).1,(i:Int))
def sY(n:Nat)(rows:List R):Int×Int:=if rows.length > 40 then(2,0) else mL n rows 0
theorem NM(xs:List Int)(e:Bool)(j:xs.length<=1000):∀(a:List Int) (i:Nat),xs.drop i=a->Or vg [r0,o1,I (xs.length:Int),I (i:Int)] [ab.box [I 0,I 0],ab.sl false 1 e (enc xs)]=fl (kW a i):=by
 intro a;induction a with
 | nil=>
  intro i h;refine ao ?_;rw [Ev];have h1:¬(i:Int) < (xs.length:Int):=by have:=bP h;omega
  simp only [al,↓reduceIte,Int.reduceBEq,Int.reduceEq,GD,h1,kW]
 | cons x a f=>
  intro i h;obtain⟨b,g,d⟩:=bG h;have h1:(i:Int) < (xs.length:Int):=by omega
  have c: 0<=(i:Int):=by omega
  refine ao ?_;rw [Ev,kW];by_cases hb:x>= -1000000/\x<=1000000
  .simp only [al,↓reduceIte,Int.reduceBEq,Int.reduceEq,GD,h1,c,and_self,dC,jB b,H8,hb,decide_true,RH,next i (by omega),f (i+1) d]
  .simp only [al,↓reduceIte,Int.reduceBEq,Int.reduceEq,GD,h1,c,and_self,dC,jB b,H8,hb,decide_false,RJ]
theorem H5(r:R)(n:Nat)(i:n<=12)(g:r.e=true->r.of= []):Or (.call 53) [AV.agg [ae r.e r.of,I r.kd,I r.tv],I (n:Int)] []=fl (kX n r):=by
 have h1:¬((n:Int) < 0\/(n:Int) > 12):=by omega
 refine ao ?_;rw [KS];unfold kX;by_cases a:(¬r.kd=1/\¬r.kd=2)/\¬r.kd=3
 .simp only [kf,pv,sU,<-decide_not,<-Tg,<-T9];simp only [al,↓reduceIte,Int.reduceBEq,Int.reduceEq,GD,h1,a,not_false_eq_true,and_self]
 .rw [if_neg a];by_cases c:(r.of.length:Int) > (n:Int)
  .rw [if_pos (by omega)];simp only [kf,pv,sU,<-decide_not,<-Tg,<-T9];simp only [al,↓reduceIte,Int.reduceBEq,Int.reduceEq,GD,h1,a,dC,c]
  .rw [if_neg (by omega)];obtain⟨x,f,h,k2⟩:=Pj r.of r.e g (by omega);have d:=NM (r.of++ [r.tv]) (f && false) (by simp;omega) (r.of++ [r.tv]) 0 rfl;have b:enc r.of++ [[ti r.tv]]=enc (r.of++ [r.tv]):=by simp [enc]
   have hs:bY 8 (r.of.length+ [[ti r.tv]].length)=some ():=lK (by simp;omega);simp only [U0] at d;simp only [kf,pv,sU,<-decide_not,<-Tg,<-T9];simp only [al,↓reduceIte,Int.reduceBEq,Int.reduceEq,GD,h1,a,dC,c,h,k2,hs,b];exact d
theorem NK(rows:List R)(n:Nat)(e:Bool)(k:n<=12)(l:∀r∈rows,r.e=true->r.of= [])(j:rows.length<=1000):∀(a:List R) (i:Nat),rows.drop i=a->
  Or vf [I (n:Int),r0,LR e rows,I (rows.length:Int),I (i:Int)] [ab.box [I 0,I 0]]=fl (mL n a i):=by
 intro a;induction a with
 | nil=>
  intro i h;refine ao ?_;rw [Eu];have h1:¬(i:Int) < (rows.length:Int):=by have:=bP h;omega
  simp only [al,↓reduceIte,Int.reduceBEq,Int.reduceEq,GD,h1,mL]
 | cons r a m=>
  intro i h;obtain⟨c,o,g⟩:=bG h;have h1:(i:Int) < (rows.length:Int):=by omega
  have d: 0<=(i:Int):=by omega
  have f:=H5 r n k (l r (Rt c));refine ao ?_;rw [Eu,mL];by_cases b:(kX n r).1=0
  .rw [if_pos b];simp only [al,↓reduceIte,Int.reduceBEq,Int.reduceEq,GD,h1,d,and_self,cu,gy c,f,b,next i (by omega),m (i+1) g]
  .rw [if_neg b];simp only [al,↓reduceIte,Int.reduceBEq,Int.reduceEq,GD,h1,d,and_self,cu,gy c,f,b]
theorem Pb(rows:List R)(n:Nat)(e:Bool)(b:n<=12)(c:∀r∈rows,r.e=true->r.of= []):Or (.call 30) [LR e rows,I (n:Int)] []=fl (sY n rows):=by
 have h1:¬((n:Int) < 0\/(n:Int) > 12):=by omega
 refine ao ?_;rw [Et];unfold sY;simp only [kf,<-Tg];by_cases a:(rows.length:Int) > 40
 .rw [if_pos (by omega)];simp only [al,↓reduceIte,Int.reduceBEq,Int.reduceEq,GD,h1,cu,a]
 .rw [if_neg (by omega)];simp only [al,↓reduceIte,Int.reduceBEq,Int.reduceEq,GD,h1,cu,a];exact NK rows n e b c (by omega) rows 0 rfl
open Go Go.Aev Go.IntKind
def Bd(b:Int)(l:List Int):Prop:= ∀x∈l, -b<=x/\x<=b
theorem tC{a hi n:Int}(h: 0<=a/\a<=hi/\hi<=n):cZ a hi n=some ():=by unfold cZ;rw [if_pos h]
theorem yf(a:List Int)(b v:Int)(r:List Int)(i:Nat)(h:a.length=i):(a++b::r).set i v=a++v::r:=by subst h;simp
def gl(g:Nat):List Int->Nat
 | []=>g
 | x::l=>gl (Nat.gcd g x.natAbs) l
end Go.Aev.Gen
