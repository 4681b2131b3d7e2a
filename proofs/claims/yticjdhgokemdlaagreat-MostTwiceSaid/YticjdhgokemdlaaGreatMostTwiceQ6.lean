import Derived.Test.YticjdhgokemdlaaGreatMostTwiceQ5
import Derived.Test.YticjdhgokemdlaaGreatChecked
import Derived.KernelRfl
set_option linter.all false
namespace Go.Aev.Gen
open Go Go.Aev Go.IntKind
def Jg{a R:Type}[Inhabited a](m:Option a)(k:a->Option R):Option R:=ae none m k
theorem EW{b R:Type}[Inhabited b](a:b)(k:b->Option R):Jg (some a) k=k a:=rfl
abbrev Ji(n:Int):T:= .int .i64 n
abbrev Jb(b:Bool):T:= .bool b
abbrev Jl(k:Nat)(e:Bool)(l:List (List T)):AV:= .t (.aa k e l)
abbrev Js(s:ByteArray):AV:= .t (.str s)
abbrev Jo(k:Nat):AV:= .own (.c k)
abbrev Jr(k:Nat):AV:= .ref (.c k) 0
abbrev Ja(b:Bool)(s:ByteArray)(c:Bool)(t:ByteArray):AV:= .agg [B b,Js s,B c,Js t]
abbrev Jw(v:Int):Int:=i64.wrap (v+1)
abbrev JL:=List (List T)
def G0(m:Option (List T))(k:Int->Int->Option (List T)):Option (List T):=ae none m λl=>ae none l.head? λa=>ae none (T.int? .i64 a) λb=>ae none l.tail.head? λc=>ae none (T.int? .i64 c) λd=>k b d
def G1(i:Int)(L:JL)(k:(Bool×JL)->Int->Int->Option (List T)):Option (List T):=ae none (if 0<=i/\i < (L.length:Int) then some () else none) λ_=>ae none L[i.toNat]? λl=>ae none l.head? λa=>ae none l.tail.head? λb=>ae none l.tail.tail.head? λc=>ae none (T.aQ 1 a) λd=>ae none (T.int? .i64 b) λe=>ae none (T.int? .i64 c) λf=>k d e f
def G2(i:Int)(L:JL)(k:Int->Option (List T)):Option (List T):=ae none (if 0<=i/\i < (L.length:Int) then some () else none) λ_=>ae none L[i.toNat]? λl=>ae none l.head? λa=>ae none (T.int? .i64 a) λb=>k b
def G3(m:Option (List T))(k:Bool->Option (List T)):Option (List T):=ae none m λl=>ae none l.head? λa=>ae none a.bool? λb=>k b
def G4(m:Option (List T))(k:(Bool×JL)->Option (List T)):Option (List T):=ae none m λl=>ae none l.head? λa=>ae none (T.aQ 1 a) λb=>k b
def G5(c:Option Bool)(m:Option (List T))(k:Bool->Option (List T)):Option (List T):=ae none m λl=>ae c l.head? λa=>ae c a.bool? λb=>k b
def G6(c:Option Bool)(m:Option (List T))(k:(Bool×JL)->Option (List T)):Option (List T):=ae none m λl=>ae c l.head? λa=>ae c (T.aQ 4 a) λb=>k b
def G7(c:Option Bool)(m:Option (List T))(k:Bool->ByteArray->Bool->ByteArray->Option (List T)):Option (List T):=ae none m λl=>ae c l.head? λa=>ae c a.bool? λb=>ae c l.tail.head? λd=>ae c d.bC λe=>ae c l.tail.tail.head? λf=>ae c f.bool? λg=>ae c l.tail.tail.tail.head? λh=>ae c h.bC λi=>k b e g i
def G8(c:Option Bool)(m:Option (List T))(k:Int->Option (List T)):Option (List T):=ae none m λl=>ae c l.head? λa=>ae c (T.int? .i64 a) λb=>k b
def G9(m:Option (List T))(k:Int->Option (List T)):Option (List T):=ae none m λl=>ae none l.head? λa=>ae none (T.int? .i64 a) λb=>k b
def bW(m:Option (List T))(k:Bool->ByteArray->Option (List T)):Option (List T):=ae none m λl=>ae none l.head? λa=>ae none a.bool? λb=>ae none l.tail.head? λc=>ae none c.bC λd=>k b d
def bc(m:Option (List T))(k:Bool->ByteArray->Bool->ByteArray->Option (List T)):Option (List T):=ae none m λl=>ae none l.head? λa=>ae none a.bool? λb=>ae none l.tail.head? λc=>ae none c.bC λd=>ae none l.tail.tail.head? λe=>ae none e.bool? λf=>ae none l.tail.tail.tail.head? λg=>ae none g.bC λh=>k b d f h
def pU(c:Option Bool)(i:Int)(L:JL)(k:Int->Option (List T)):Option (List T):=ae c (if 0<=i/\i < (L.length:Int) then some () else none) λ_=>ae c L[i.toNat]? λl=>ae c l.head? λa=>ae c (T.int? .i64 a) λb=>k b
def AK(m:Option (List T))(k:(Bool×JL)->Option (List T)):Option (List T):=ae none m λl=>ae none l.head? λa=>ae none (T.aQ 4 a) λb=>k b
def AL(m:Option (List T))(k:(List T)->(Bool×JL)->Bool->ByteArray->Bool->ByteArray->Option (List T)):Option (List T):=ae none m λl=>ae none l.head? λa=>ae none (T.aQ 4 a) λb=>ae none l.tail.head? λc=>ae none c.bool? λd=>ae none l.tail.tail.head? λe=>ae none e.bC λf=>ae none l.tail.tail.tail.head? λg=>ae none g.bool? λh=>ae none l.tail.tail.tail.tail.head? λi=>ae none i.bC λj=>k l b d f h j
def pV(m:Option T)(k:Bool->Option (List T)):Option (List T):=ae none m λl=>ae none l.bool? λa=>k a
def rF(i:Int)(L:JL)(k:Int->Int->Option (List T)):Option (List T):=ae none (if 0<=i/\i < (L.length:Int) then some () else none) λ_=>ae none L[i.toNat]? λl=>ae none l.head? λa=>ae none l.tail.head? λb=>ae none (T.int? .i64 a) λc=>ae none (T.int? .i64 b) λd=>k c d
def iO(i:Int)(L:JL)(k:Bool->ByteArray->Bool->ByteArray->Option (List T)):Option (List T):=ae none (if 0<=i/\i < (L.length:Int) then some () else none) λ_=>ae none L[i.toNat]? λl=>ae none l.head? λa=>ae none l.tail.head? λb=>ae none l.tail.tail.head? λc=>ae none l.tail.tail.tail.head? λd=>ae none a.bool? λe=>ae none b.bC λf=>ae none c.bool? λg=>ae none d.bC λh=>k e f g h
def rG(m:Option (List T))(k:Bool->ByteArray->Bool->ByteArray->Int->Option (List T)):Option (List T):=ae none m λl=>ae none l.head? λa=>ae none a.bool? λb=>ae none l.tail.head? λc=>ae none c.bC λd=>ae none (List.drop 2 l).head? λe=>ae none e.bool? λf=>ae none (List.drop 2 l).tail.head? λg=>ae none g.bC λh=>ae none (List.drop 2 (List.drop 2 l)).head? λi=>ae none (T.int? .i64 i) λj=>k b d f h j
def rH(m:Option (List T))(k:Bool->ByteArray->Int->Option (List T)):Option (List T):=ae none m λl=>ae none l.head? λa=>ae none a.bool? λb=>ae none l.tail.head? λc=>ae none c.bC λd=>ae none (List.drop 2 l).head? λe=>ae none (T.int? .i64 e) λf=>k b d f
def tX(m:Option (List T))(k:(Bool×JL)->(Bool×JL)->Option (List T)):Option (List T):=ae none m λl=>ae none l.head? λa=>ae none (T.aQ 1 a) λb=>ae none l.tail.head? λc=>ae none (T.aQ 1 c) λd=>k b d
def cN(i:Int)(L:JL)(k:Int->Option (List T)):Option (List T):=ae none (if 0<=i/\i < (L.length:Int) then some () else none) λ_=>ae none L[i.toNat]? λl=>ae none l.head? λa=>ae none (T.int? u32 a) λb=>k b
def dM(m:Option (List T))(k:Int->Option (List T)):Option (List T):=ae none m λl=>ae none l.head? λa=>ae none (T.int? u32 a) λb=>k b
def AM(m:Option (List T))(k:(Bool×JL)->Int->Option (List T)):Option (List T):=ae none m λl=>ae none l.head? λa=>ae none (T.aQ 1 a) λb=>ae none l.tail.head? λc=>ae none (T.int? u32 c) λd=>k b d
def AN(c:Option Bool)(i:Int)(L:JL)(k:Bool->ByteArray->Bool->ByteArray->Option (List T)):Option (List T):=ae c (if 0<=i/\i < (L.length:Int) then some () else none) λ_=>ae c L[i.toNat]? λl=>ae c l.head? λa=>ae c l.tail.head? λb=>ae c l.tail.tail.head? λd=>ae c l.tail.tail.tail.head? λe=>ae c a.bool? λf=>ae c b.bC λg=>ae c d.bool? λh=>ae c e.bC λj=>k f g h j
def pW(m:Option (List T))(k:Bool->Int->Int->Option (List T)):Option (List T):=ae none m λl=>ae none l.head? λa=>ae none a.bool? λb=>ae none l.tail.head? λc=>ae none (T.int? .i64 c) λd=>ae none l.tail.tail.head? λe=>ae none (T.int? .i64 e) λf=>k b d f
def mG(c:Option Bool)(m:Option (List T))(k:Int->Option (List T)):Option (List T):=ae c m λl=>ae c l.head? λa=>ae c (T.int? u32 a) λb=>k b
def tY(c:Option Bool)(m:Option (List T))(k:Int->Option (List T)):Option (List T):=ae none m λl=>ae c l.head? λa=>ae c (T.int? u64 a) λb=>k b
def AO(m:Option (List T))(k:(Bool×JL)->Bool->Option (List T)):Option (List T):=ae none m λl=>ae none l.head? λa=>ae none (T.aQ 1 a) λb=>ae none l.tail.head? λc=>ae none c.bool? λd=>k b d
def wV(m:Option (List T))(k:Bool->(Bool×JL)->Option (List T)):Option (List T):=ae none m λl=>ae none l.head? λa=>ae none a.bool? λb=>ae none ((List.drop 1 l).head?.bind λz=>T.aQ 1 z) λc=>k b c
def wW(m:Option (List T))(k:Int->Bool->Option (List T)):Option (List T):=ae none m λl=>ae none l.head? λa=>ae none (T.int? .i64 a) λb=>ae none l.tail.head? λc=>ae none c.bool? λd=>k b d
def AP(c:Option Bool)(m:Option (List T))(k:Int->Int->Option (List T)):Option (List T):=ae none m λl=>ae c l.head? λa=>ae c (T.int? .i64 a) λb=>ae c l.tail.head? λd=>ae c (T.int? .i64 d) λe=>k b e
def bS(m:Option (List T))(k:Bool->(Bool×JL)->Option (List T)):Option (List T):=ae none m λl=>ae none l.head? λe=>ae none (List.drop 1 l).head? λa=>ae none a.bool? λb=>ae none (List.drop 1 l).tail.head? λc=>ae none (T.aQ 1 c) λd=>k b d
def tZ(m:Option (List T))(k:Bool->(Bool×JL)->Bool->(Bool×JL)->Option (List T)):Option (List T):=ae none m λl=>ae none l.head? λi=>ae none l.tail.head? λj=>ae none (List.drop 2 l).head? λa=>ae none a.bool? λb=>ae none (List.drop 2 l).tail.head? λc=>ae none (T.aQ 1 c) λd=>ae none (List.drop 2 (List.drop 2 l)).head? λe=>ae none e.bool? λf=>ae none (List.drop 2 (List.drop 2 l)).tail.head? λg=>ae none (T.aQ 1 g) λh=>k b d f h
def fF(m:Option (List T))(k:T->Option (List T)):Option (List T):=ae none m λl=>ae none l.head? λa=>k a
def rI(m:Option (List T))(k:Int->Option (List T)):Option (List T):=ae none m λl=>ae none l.head? λa=>ae none (T.int? u64 a) λb=>k b
def jW(m:Option (List T))(k:Bool->(Bool×JL)->Bool->(Bool×JL)->Option (List T)):Option (List T):=ae none m λl=>ae none l.head? λi=>ae none (List.drop 1 l).head? λa=>ae none a.bool? λb=>ae none (List.drop 1 l).tail.head? λc=>ae none (T.aQ 1 c) λd=>ae none (List.drop 1 l).tail.tail.head? λe=>ae none e.bool? λf=>ae none (List.drop 1 l).tail.tail.tail.head? λg=>ae none (T.aQ 1 g) λh=>k b d f h
def AQ(m:Option (List T))(k:Int->(Bool×JL)->(Bool×JL)->(List (List T×T))->(Bool×List Row)->(Bool×JL)->(Bool×JL)->Option (List T)):Option (List T):=ae none m λl=>ae none l.head? λe=>ae none (T.int? .i64 e) λf=>ae none l.tail.head? λg=>ae none (T.aQ 3 g) λh=>ae none l.tail.tail.head? λi=>ae none (T.aQ 1 i) λj=>ae none l.tail.tail.tail.head? λn=>ae none (iS n) λo=>ae none l.tail.tail.tail.tail.head? λp=>ae none (kV p) λq=>ae none l.tail.tail.tail.tail.tail.head? λa=>ae none (T.aQ 8 a) λb=>ae none l.tail.tail.tail.tail.tail.tail.head? λc=>ae none (T.aQ 4 c) λd=>k f h j o q b d
def AR(m:Option (List T))(k:(Bool×JL)->Bool->Int->(Bool×JL)->(Bool×List Row)->(Bool×JL)->(List (List T×T))->(Bool×JL)->(Bool×JL)->Option (List T)):Option (List T):=ae none m λl=>ae none l.head? λg=>ae none (T.aQ 4 g) λh=>ae none l.tail.head? λi=>ae none i.bool? λj=>ae none (List.drop 2 l).head? λn=>ae none (T.int? .i64 n) λo=>ae none (List.drop 2 l).tail.head? λp=>ae none (T.aQ 3 p) λq=>ae none (List.drop 2 l).tail.tail.head? λt=>ae none (List.drop 2 l).tail.tail.tail.head? λu=>ae none (List.drop 2 l).tail.tail.tail.tail.head? λa=>ae none (kV a) λb=>ae none (List.drop 2 l).tail.tail.tail.tail.tail.head? λr=>ae none (List.drop 2 l).tail.tail.tail.tail.tail.tail.head? λs=>ae none ((List.drop 7 (List.drop 2 l)).head?.bind λz=>T.aQ 1 z) λc=>ae none ((List.drop 7 (List.drop 2 l)).tail.head?.bind λz=>iS z) λd=>ae none ((List.drop 7 (List.drop 2 l)).tail.tail.head?.bind λz=>T.aQ 8 z) λe=>ae none ((List.drop 7 (List.drop 2 l)).tail.tail.tail.head?.bind λz=>T.aQ 4 z) λf=>k h j o q b c d e f
def rJ(m:Option (List T))(k:(Bool×JL)->Bool->Option (List T)):Option (List T):=ae none m λl=>ae none l.head? λa=>ae none (T.aQ 2 a) λb=>ae none l.tail.head? λc=>ae none c.bool? λd=>k b d
def AS(m:Option (List T))(k:(Bool×JL)->(Bool×JL)->Bool->Int->(Bool×JL)->(Bool×List Row)->(Bool×JL)->(Bool×JL)->(List (List T×T))->(Bool×JL)->Option (List T)):Option (List T):=ae none m λl=>ae none l.head? λh=>ae none (T.aQ 4 h) λi=>ae none l.tail.head? λj=>ae none (T.aQ 4 j) λn=>ae none l.tail.tail.head? λo=>ae none o.bool? λp=>ae none (List.drop 3 l).head? λq=>ae none (T.int? .i64 q) λr=>ae none (List.drop 3 l).tail.head? λs=>ae none (T.aQ 3 s) λt=>ae none (List.drop 3 l).tail.tail.head? λu=>ae none (List.drop 3 l).tail.tail.tail.head? λv=>ae none (List.drop 3 l).tail.tail.tail.tail.head? λa=>ae none (kV a) λb=>ae none (List.drop 3 l).tail.tail.tail.tail.tail.head? λw=>ae none (List.drop 3 l).tail.tail.tail.tail.tail.tail.head? λc=>ae none (T.aQ 4 c) λd=>ae none ((List.drop 7 (List.drop 3 l)).head?.bind λz=>T.aQ 1 z) λe=>ae none ((List.drop 7 (List.drop 3 l)).tail.head?.bind λz=>iS z) λf=>ae none ((List.drop 7 (List.drop 3 l)).tail.tail.head?.bind λz=>T.aQ 8 z) λg=>k i n p r t b d e f g
def wX(m:Option (List T))(k:(Bool×JL)->Int->(Bool×JL)->(Bool×List Row)->(Bool×JL)->(Bool×JL)->(List (List T×T))->(Bool×JL)->Option (List T)):Option (List T):=ae none m λl=>ae none l.head? λf=>ae none (T.aQ 4 f) λg=>ae none (List.drop 1 l).head? λh=>ae none (T.int? .i64 h) λi=>ae none (List.drop 1 l).tail.head? λj=>ae none (T.aQ 3 j) λn=>ae none (List.drop 1 l).tail.tail.head? λr=>ae none (List.drop 1 l).tail.tail.tail.head? λs=>ae none (List.drop 1 l).tail.tail.tail.tail.head? λo=>ae none (kV o) λp=>ae none (List.drop 1 l).tail.tail.tail.tail.tail.head? λq=>ae none (List.drop 1 l).tail.tail.tail.tail.tail.tail.head? λa=>ae none (T.aQ 4 a) λb=>ae none ((List.drop 7 (List.drop 1 l)).head?.bind λz=>T.aQ 1 z) λc=>ae none ((List.drop 7 (List.drop 1 l)).tail.head?.bind λz=>iS z) λd=>ae none ((List.drop 7 (List.drop 1 l)).tail.tail.head?.bind λz=>T.aQ 8 z) λe=>k g i n p b c d e
def wY(m:Option (List T))(k:Int->Int->Bool->Option (List T)):Option (List T):=ae none m λl=>ae none l.head? λa=>ae none (T.int? .i64 a) λb=>ae none l.tail.head? λc=>ae none (T.int? .i64 c) λd=>ae none (List.drop 2 l).head? λe=>ae none e.bool? λf=>k b d f
def fv{a:Type}[Inhabited a](i:Int)(L:List a)(k:a->Option (List T)):Option (List T):=ae none (if 0<=i/\i < (L.length:Int) then some () else none) λ_=>ae none L[i.toNat]? λl=>k l
def AT(m:Option (List T))(k:Bool->ByteArray->Bool->ByteArray->Bool->ByteArray->Bool->ByteArray->Option (List T)):Option (List T):=ae none m λl=>ae none l.head? λg=>ae none l.tail.head? λh=>ae none l.tail.tail.head? λi=>ae none l.tail.tail.tail.head? λj=>ae none l.tail.tail.tail.tail.head? λn=>ae none l.tail.tail.tail.tail.tail.head? λo=>ae none l.tail.tail.tail.tail.tail.tail.head? λp=>ae none l.tail.tail.tail.tail.tail.tail.tail.head? λq=>ae none g.bool? λr=>ae none h.bC λs=>ae none i.bool? λa=>ae none j.bC λb=>ae none n.bool? λc=>ae none o.bC λd=>ae none p.bool? λe=>ae none q.bC λf=>k r s a b c d e f
def gQ(m:Option (List T))(k:Bool->ByteArray->Bool->ByteArray->Option (List T)):Option (List T):=ae none m λl=>ae none l.head? λa=>ae none l.tail.head? λb=>ae none l.tail.tail.head? λc=>ae none l.tail.tail.tail.head? λd=>ae none a.bool? λe=>ae none b.bC λf=>ae none c.bool? λg=>ae none d.bC λh=>k e f g h
def mH(m:Option (List T))(k:(Bool×JL)->Int->(Bool×JL)->(Bool×List Row)->(Bool×JL)->(List (List T×T))->(Bool×JL)->(Bool×JL)->Option (List T)):Option (List T):=ae none m λl=>ae none l.head? λe=>ae none (T.aQ 4 e) λf=>ae none (List.drop 1 l).head? λg=>ae none (T.int? .i64 g) λh=>ae none (List.drop 1 l).tail.head? λi=>ae none (T.aQ 3 i) λj=>ae none (List.drop 1 l).tail.tail.head? λr=>ae none (List.drop 1 l).tail.tail.tail.head? λs=>ae none (List.drop 1 l).tail.tail.tail.tail.head? λn=>ae none (kV n) λo=>ae none (List.drop 1 l).tail.tail.tail.tail.tail.head? λp=>ae none (List.drop 1 l).tail.tail.tail.tail.tail.tail.head? λq=>ae none ((List.drop 7 (List.drop 1 l)).head?.bind λz=>T.aQ 1 z) λa=>ae none ((List.drop 7 (List.drop 1 l)).tail.head?.bind λz=>iS z) λb=>ae none ((List.drop 7 (List.drop 1 l)).tail.tail.head?.bind λz=>T.aQ 8 z) λc=>ae none ((List.drop 7 (List.drop 1 l)).tail.tail.tail.head?.bind λz=>T.aQ 4 z) λd=>k f h j o a b c d
def hY(m:Option (List T))(k:Bool->ByteArray->Bool->ByteArray->Bool->ByteArray->Bool->ByteArray->Bool->Option (List T)):Option (List T):=ae none m λl=>ae none l.head? λi=>ae none i.bool? λj=>ae none l.tail.head? λn=>ae none n.bC λo=>ae none l.tail.tail.head? λp=>ae none p.bool? λq=>ae none l.tail.tail.tail.head? λr=>ae none r.bC λs=>ae none l.tail.tail.tail.tail.head? λt=>ae none t.bool? λu=>ae none l.tail.tail.tail.tail.tail.head? λa=>ae none a.bC λb=>ae none l.tail.tail.tail.tail.tail.tail.head? λc=>ae none c.bool? λd=>ae none l.tail.tail.tail.tail.tail.tail.tail.head? λe=>ae none e.bC λf=>ae none (List.drop 8 l).head? λg=>ae none g.bool? λh=>k j o q s u b d f h
def jD(i:Int)(L:JL)(k:Bool->ByteArray->Bool->ByteArray->Bool->ByteArray->Bool->ByteArray->Option (List T)):Option (List T):=ae none (if 0<=i/\i < (L.length:Int) then some () else none) λ_=>ae none L[i.toNat]? λl=>ae none l.head? λg=>ae none l.tail.head? λh=>ae none l.tail.tail.head? λj=>ae none l.tail.tail.tail.head? λm=>ae none l.tail.tail.tail.tail.head? λn=>ae none l.tail.tail.tail.tail.tail.head? λo=>ae none l.tail.tail.tail.tail.tail.tail.head? λp=>ae none l.tail.tail.tail.tail.tail.tail.tail.head? λq=>ae none g.bool? λr=>ae none h.bC λs=>ae none j.bool? λa=>ae none m.bC λb=>ae none n.bool? λc=>ae none o.bC λd=>ae none p.bool? λe=>ae none q.bC λf=>k r s a b c d e f
def eu(m:Option (List T))(k:Bool->ByteArray->Bool->ByteArray->Bool->ByteArray->Bool->ByteArray->Option (List T)):Option (List T):=ae none m λl=>ae none l.head? λg=>ae none g.bool? λh=>ae none l.tail.head? λi=>ae none i.bC λj=>ae none l.tail.tail.head? λn=>ae none n.bool? λo=>ae none l.tail.tail.tail.head? λp=>ae none p.bC λq=>ae none l.tail.tail.tail.tail.head? λr=>ae none r.bool? λs=>ae none l.tail.tail.tail.tail.tail.head? λa=>ae none a.bC λb=>ae none l.tail.tail.tail.tail.tail.tail.head? λc=>ae none c.bool? λd=>ae none l.tail.tail.tail.tail.tail.tail.tail.head? λe=>ae none e.bC λf=>k h j o q s b d f
def eQ(m:Option (List T))(k:Int->(Bool×JL)->(Bool×List Row)->(Bool×JL)->(List (List T×T))->(Bool×JL)->(Bool×JL)->Option (List T)):Option (List T):=ae none m λl=>ae none l.head? λe=>ae none (T.int? .i64 e) λf=>ae none l.tail.head? λg=>ae none (T.aQ 3 g) λh=>ae none l.tail.tail.head? λn=>ae none l.tail.tail.tail.head? λo=>ae none l.tail.tail.tail.tail.head? λi=>ae none (kV i) λj=>ae none l.tail.tail.tail.tail.tail.head? λp=>ae none l.tail.tail.tail.tail.tail.tail.head? λq=>ae none ((List.drop 7 l).head?.bind λz=>T.aQ 1 z) λa=>ae none ((List.drop 7 l).tail.head?.bind λz=>iS z) λb=>ae none ((List.drop 7 l).tail.tail.head?.bind λz=>T.aQ 8 z) λc=>ae none ((List.drop 7 l).tail.tail.tail.head?.bind λz=>T.aQ 4 z) λd=>k f h j a b c d
def AU(i:Int)(L:JL)(k:Bool->ByteArray->Bool->ByteArray->Option (List T)):Option (List T):=ae none (if 0<=i/\i < (L.length:Int) then some () else none) λ_=>ae none L[i.toNat]? λl=>ae none (List.drop 4 l).head? λa=>ae none (List.drop 4 l).tail.head? λb=>ae none (List.drop 4 l).tail.tail.head? λc=>ae none (List.drop 4 l).tail.tail.tail.head? λd=>ae none a.bool? λe=>ae none b.bC λf=>ae none c.bool? λg=>ae none d.bC λh=>k e f g h
def pX(c:Option Bool)(i:Int)(L:JL)(k:Bool->ByteArray->Bool->ByteArray->Bool->ByteArray->Bool->ByteArray->Option (List T)):Option (List T):=ae c (if 0<=i/\i < (L.length:Int) then some () else none) λ_=>ae c L[i.toNat]? λl=>ae c l.head? λh=>ae c l.tail.head? λj=>ae c l.tail.tail.head? λm=>ae c l.tail.tail.tail.head? λn=>ae c l.tail.tail.tail.tail.head? λo=>ae c l.tail.tail.tail.tail.tail.head? λp=>ae c l.tail.tail.tail.tail.tail.tail.head? λq=>ae c l.tail.tail.tail.tail.tail.tail.tail.head? λr=>ae c h.bool? λs=>ae c j.bC λt=>ae c m.bool? λa=>ae c n.bC λb=>ae c o.bool? λd=>ae c p.bC λe=>ae c q.bool? λf=>ae c r.bC λg=>k s t a b d e f g
def AW(m:Option (List T))(k:(Bool×JL)->Int->Int->Option (List T)):Option (List T):=ae none m λl=>ae none l.head? λa=>ae none l.tail.head? λb=>ae none l.tail.tail.head? λc=>ae none (T.aQ 1 a) λd=>ae none (T.int? .i64 b) λe=>ae none (T.int? .i64 c) λf=>k d e f
def AX(c:Option Bool)(m:Option (List T))(k:Int->Option (List T)):Option (List T):=ae c m λl=>ae c (List.drop 1 l).head? λa=>ae c (T.int? .i64 a) λb=>k b
def AY(m:Option (List T))(k:Int->Option (List T)):Option (List T):=ae none m λl=>ae none (List.drop 2 l).head? λa=>ae none (T.int? .i64 a) λb=>k b
def rK(m:Option (List T))(k:(List T)->Int->Bool->ByteArray->Bool->ByteArray->Bool->ByteArray->Bool->ByteArray->Option (List T)):Option (List T):=ae none m λl=>ae none l.head? λi=>ae none (T.int? .i64 i) λj=>ae none l.tail.head? λn=>ae none n.bool? λo=>ae none l.tail.tail.head? λp=>ae none p.bC λq=>ae none l.tail.tail.tail.head? λr=>ae none r.bool? λs=>ae none l.tail.tail.tail.tail.head? λt=>ae none t.bC λu=>ae none l.tail.tail.tail.tail.tail.head? λa=>ae none a.bool? λb=>ae none l.tail.tail.tail.tail.tail.tail.head? λc=>ae none c.bC λd=>ae none l.tail.tail.tail.tail.tail.tail.tail.head? λe=>ae none e.bool? λf=>ae none l.tail.tail.tail.tail.tail.tail.tail.tail.head? λg=>ae none g.bC λh=>k l j o q s u b d f h
def dO(m:Option T)(k:Int->Option (List T)):Option (List T):=ae none m λl=>ae none (T.int? .i64 l) λa=>k a
def oE(m:Option T)(k:(Bool×JL)->Option (List T)):Option (List T):=ae none m λl=>ae none (T.aQ 3 l) λa=>k a
def oF(m:Option T)(k:(Bool×List Row)->Option (List T)):Option (List T):=ae none m λl=>ae none (kV l) λa=>k a
def wZ(m:Option (List T))(k:(List T)->Bool->Bool->ByteArray->Bool->ByteArray->Bool->ByteArray->Bool->ByteArray->Option (List T)):Option (List T):=ae none m λl=>ae none l.head? λv=>ae none (List.drop 1 l).head? λj=>ae none j.bool? λn=>ae none (List.drop 1 (List.drop 1 l)).head? λo=>ae none o.bool? λp=>ae none (List.drop 1 (List.drop 1 l)).tail.head? λq=>ae none q.bC λr=>ae none (List.drop 1 (List.drop 1 l)).tail.tail.head? λs=>ae none s.bool? λt=>ae none (List.drop 1 (List.drop 1 l)).tail.tail.tail.head? λu=>ae none u.bC λa=>ae none (List.drop 1 (List.drop 1 l)).tail.tail.tail.tail.head? λb=>ae none b.bool? λc=>ae none (List.drop 1 (List.drop 1 l)).tail.tail.tail.tail.tail.head? λd=>ae none d.bC λe=>ae none (List.drop 1 (List.drop 1 l)).tail.tail.tail.tail.tail.tail.head? λf=>ae none f.bool? λg=>ae none (List.drop 1 (List.drop 1 l)).tail.tail.tail.tail.tail.tail.tail.head? λh=>ae none h.bC λi=>k l n p r t a c e g i
def w7(m:Option (List T))(k:(List T)->(Bool×JL)->Int->Option (List T)):Option (List T):=ae none m λl=>ae none (l.head?.bind λz=>T.aQ 4 z) λa=>ae none l.tail.head? λb=>ae none (T.int? .i64 b) λc=>k l a c
def EP(c:Option Bool)(i:Int)(L:JL)(k:Int->Int->Option (List T)):Option (List T):=ae c (if 0<=i/\i < (L.length:Int) then some () else none) λ_=>ae c L[i.toNat]? λl=>ae c l.head? λa=>ae c l.tail.head? λb=>ae c (T.int? .i64 a) λd=>ae c (T.int? .i64 b) λe=>k d e
def ER(i:Int)(L:JL)(k:Int->Option (List T)):Option (List T):=ae none (if 0<=i/\i < (L.length:Int) then some () else none) λ_=>ae none L[i.toNat]? λl=>ae none (List.drop 1 l).head? λa=>ae none (T.int? .i64 a) λb=>k b
def jE(c:Option Bool)(m:Option (List T))(k:T->Option (List T)):Option (List T):=ae none m λl=>ae c l.head? λa=>k a
def ES(c:Option Bool)(i:Int)(L:JL)(k:(Bool×JL)->Int->Int->Option (List T)):Option (List T):=ae c (if 0<=i/\i < (L.length:Int) then some () else none) λ_=>ae c L[i.toNat]? λl=>ae c l.head? λa=>ae c l.tail.head? λb=>ae c l.tail.tail.head? λd=>ae c (T.aQ 1 a) λe=>ae c (T.int? .i64 b) λf=>ae c (T.int? .i64 d) λg=>k e f g
def AZ(i:Int)(L:JL)(k:Int->Option (List T)):Option (List T):=ae none (if 0<=i/\i < (L.length:Int) then some () else none) λ_=>ae none L[i.toNat]? λl=>ae none (List.drop 2 l).head? λa=>ae none (T.int? .i64 a) λb=>k b
def w9(i:Int)(L:JL)(k:(Bool×JL)->Option (List T)):Option (List T):=ae none (if 0<=i/\i < (L.length:Int) then some () else none) λ_=>ae none L[i.toNat]? λl=>ae none l.head? λa=>ae none (T.aQ 1 a) λb=>k b
def ET(c:Option Bool)(i:Int)(L:JL)(k:Int->Option (List T)):Option (List T):=ae c (if 0<=i/\i < (L.length:Int) then some () else none) λ_=>ae c L[i.toNat]? λl=>ae c (List.drop 1 l).head? λa=>ae c (T.int? .i64 a) λb=>k b
def kN(m:Option (List T))(k:(List T)->Int->Int->Int->Option (List T)):Option (List T):=ae none m λl=>ae none l.head? λa=>ae none (T.int? .i64 a) λb=>ae none l.tail.head? λc=>ae none (T.int? .i64 c) λd=>ae none l.tail.tail.head? λe=>ae none (T.int? .i64 e) λf=>k l b d f
def fG(m:Option T)(k:(Bool×JL)->Option (List T)):Option (List T):=ae none m λl=>ae none (T.aQ 2 l) λa=>k a
def EU(m:Option (List T))(k:Int->(Bool×JL)->(Bool×JL)->Int->Int->Option (List T)):Option (List T):=ae none m λl=>ae none l.head? λa=>ae none (T.int? .i64 a) λb=>ae none l.tail.head? λc=>ae none (T.aQ 2 c) λd=>ae none l.tail.tail.head? λe=>ae none (T.aQ 2 e) λf=>ae none l.tail.tail.tail.head? λg=>ae none (T.int? .i64 g) λh=>ae none l.tail.tail.tail.tail.head? λi=>ae none (T.int? .i64 i) λj=>k b d f h j
def A2(c:Option Bool)(i:Int)(L:JL)(k:(Bool×JL)->Option (List T)):Option (List T):=ae c (if 0<=i/\i < (L.length:Int) then some () else none) λ_=>ae c L[i.toNat]? λl=>ae c l.head? λa=>ae c (T.aQ 1 a) λb=>k b
def A3(c:Option Bool)(m:Option (List T))(k:Int->Option (List T)):Option (List T):=ae c m λl=>ae c l.head? λa=>ae c (T.int? .i64 a) λb=>k b
def A4(c:Option Bool)(i:Int)(L:JL)(k:Int->Option (List T)):Option (List T):=ae c (if 0<=i/\i < (L.length:Int) then some () else none) λ_=>ae c L[i.toNat]? λl=>ae c (List.drop 2 l).head? λa=>ae c (T.int? .i64 a) λb=>k b
abbrev Y0:=λd q1 e f g h j k l m a b c=>([ab.box [I d,Jl 3 q1 e,Jo 1,Jo 2,Jo 3,Jo 4,Jo 5],ab.sl false 1 f g,ab.mp false [Ck.i i64] (Ck.i i64) h,ab.rows j 1 0 4 k l,ab.sl false 8 m a,ab.sl false 4 b c]:List ab)
abbrev Y1:=λa q1=>([ab.sl false 1 a q1]:List ab)
abbrev Y2:=λa q1=>([ab.box [B a,AV.t q1]]:List ab)
abbrev Y3:=λa q1 b c=>([ab.sl false 1 a q1,ab.sl false 1 b c]:List ab)
abbrev Y4:=([ab.box [B false,AV.t (T.aK true)]]:List ab)
abbrev Y5:=([ab.box [B false,AV.t (T.aK true),B false,AV.t (T.aK true)]]:List ab)
abbrev Y6:=λa q1 b=>([ab.box [B a,Jl 1 q1 b]]:List ab)
abbrev Y7:=λa q1 b c=>([ab.box [I a,I q1],ab.box [I b,I c]]:List ab)
abbrev Y8:=λa q1 b c=>([ab.box [B a,AV.t q1,B b,AV.t c]]:List ab)
abbrev Y9:=λa q1=>([ab.box [I a,I q1]]:List ab)
abbrev lP:=λa q1 b=>([ab.box [B a,Jo 1],ab.sl false 1 q1 b]:List ab)
abbrev lQ:=λf q1 g h j k l m n o a b c d e=>([ab.box [I f,Jl 3 q1 g,Jo 1,Jo 2,Jo 3,Jo 4,Jo 6],ab.sl false 1 h j,ab.mp false [Ck.i i64] (Ck.i i64) k,ab.rows l 1 0 4 m n,ab.sl false 8 o a,ab.sl false 4 b c,ab.sl false 4 d e]:List ab)
abbrev mJ:=λd q1 e f g h j k l m a b c=>([ab.box [I d,Jl 3 q1 e,Jo 1,Jo 2,Jo 6,Jo 4,Jo 5],ab.sl false 1 f g,ab.mp false [Ck.i i64] (Ck.i i64) h,ab.dead,ab.sl false 8 j k,ab.sl false 4 l m,ab.rows a 1 0 4 b c]:List ab)
abbrev E4:=λa q1 b c d e=>([ab.box [B a,Jl 1 q1 b,B c,Jl 1 d e]]:List ab)
abbrev oO:=λa q1 b c d e f g=>([ab.box [B a,Js q1,B b,Js c],ab.box [B d,Js e,B f,Js g]]:List ab)
abbrev oP:=λf q1 g h j k l m n o a b c d e=>([ab.box [I f,Jl 3 q1 g,Jo 1,Jo 2,Jo 6,Jo 4,Jo 7],ab.sl false 1 h j,ab.mp false [Ck.i i64] (Ck.i i64) k,ab.dead,ab.sl false 8 l m,ab.sl false 4 n o,ab.rows a 1 0 4 b c,ab.sl false 4 d e]:List ab)
abbrev uD:=λa q1 b c=>([ab.box [B a,AV.t q1],ab.sl false 1 b c]:List ab)
abbrev x9:=λa q1 b c d e f g=>([ab.box [I a,I q1],ab.box [I b,I c],ab.box [B d,Js e,B f,Js g]]:List ab)
abbrev yc:=λa q1 b c d e f g h=>([ab.sl false 4 a q1,ab.box [I b],ab.box [Jo 3],ab.sl false 4 c d,ab.box [B e,Js f,B g,Js h]]:List ab)
abbrev Bf:=λe q1 f g h i j k l m a b c d=>([ab.box [B e,Js q1,B f,Js g],ab.sl false 4 h i,ab.box [B j,Js k,B l,Js m],ab.box [Jl 1 a b,I c,I d]]:List ab)
abbrev Bg:=λd q1 e f g h j k l m a b c=>([ab.box [I d,Jl 3 q1 e,Jo 1,Jo 2,Jo 3,Jo 4,Jl 4 f g],ab.sl false 1 h j,ab.mp false [Ck.i i64] (Ck.i i64) k,ab.rows l 1 0 4 m a,ab.sl false 8 b c]:List ab)
abbrev Bh:=λm q1 n o p q r s t u a b c d e f g h j k l=>([ab.box [I m,Jl 3 q1 n,Jo 1,Jo 2,Jo 3,Jo 4,Jo 5],ab.sl false 1 o p,ab.mp false [Ck.i i64] (Ck.i i64) q,ab.rows r 1 0 4 s t,ab.sl false 8 u a,ab.sl false 4 b c,ab.box [B d,Js e,B f,Js g,B h,Js j,B k,Js l]]:List ab)
abbrev Bi:=λk q1 l m n o p q r s a b c d e f g h j=>([ab.box [I k,Jl 3 q1 l,Jo 1,Jo 2,Jo 3,Jo 4,Jo 5],ab.sl false 1 m n,ab.mp false [Ck.i i64] (Ck.i i64) o,ab.rows p 1 0 4 q r,ab.sl false 8 s a,ab.sl false 4 b c,ab.sl false 4 d e,ab.box [B f,Js g,B h,Js j]]:List ab)
abbrev Bj:=λg q1 h j k l m n o p a b c d e f=>([ab.box [I g,Jl 3 q1 h,Jo 1,Jo 2,Jo 3,Jo 4,Jo 5],ab.sl false 1 j k,ab.mp false [Ck.i i64] (Ck.i i64) l,ab.rows m 1 0 4 n o,ab.sl false 8 p a,ab.sl false 4 b c,ab.box [I d],ab.box [Jo 8],ab.sl false 4 e f]:List ab)
abbrev Bk:=λa q1 b c d=>([ab.sl false 4 a q1,ab.box [I b],ab.box [Jo 3],ab.sl false 4 c d]:List ab)
abbrev Bl:=λf q1 g h j k l m n o a b c d e=>([ab.box [I f,Jl 3 q1 g,Jo 1,Jo 2,Jo 3,Jo 4,Jo 5],ab.sl false 1 h j,ab.mp false [Ck.i i64] (Ck.i i64) k,ab.rows l 1 0 4 m n,ab.sl false 8 o a,ab.sl false 4 b c,ab.sl false 4 d e]:List ab)
theorem GD:type_of% @EW/\type_of% @G0.eq_1/\type_of% @G1.eq_1/\type_of% @G2.eq_1/\type_of% @G3.eq_1/\type_of% @G4.eq_1/\type_of% @G5.eq_1/\type_of% @G6.eq_1/\type_of% @G7.eq_1/\type_of% @G8.eq_1/\type_of% @G9.eq_1/\type_of% @bW.eq_1/\type_of% @bc.eq_1/\type_of% @pU.eq_1/\type_of% @AK.eq_1/\type_of% @AL.eq_1/\type_of% @pV.eq_1/\type_of% @rF.eq_1/\type_of% @iO.eq_1/\type_of% @rG.eq_1/\type_of% @rH.eq_1/\type_of% @tX.eq_1/\type_of% @cN.eq_1/\type_of% @dM.eq_1/\type_of% @AM.eq_1/\type_of% @AN.eq_1/\type_of% @pW.eq_1/\type_of% @mG.eq_1/\type_of% @tY.eq_1/\type_of% @AO.eq_1/\type_of% @wV.eq_1/\type_of% @wW.eq_1/\type_of% @AP.eq_1/\type_of% @bS.eq_1/\type_of% @tZ.eq_1/\type_of% @fF.eq_1/\type_of% @rI.eq_1/\type_of% @jW.eq_1/\type_of% @AQ.eq_1/\type_of% @AR.eq_1/\type_of% @rJ.eq_1/\type_of% @AS.eq_1/\type_of% @wX.eq_1/\type_of% @wY.eq_1/\type_of% @fv.eq_1/\type_of% @AT.eq_1/\type_of% @gQ.eq_1/\type_of% @mH.eq_1/\type_of% @hY.eq_1/\type_of% @jD.eq_1/\type_of% @eu.eq_1/\type_of% @eQ.eq_1/\type_of% @AU.eq_1/\type_of% @pX.eq_1/\type_of% @AW.eq_1/\type_of% @AX.eq_1/\type_of% @AY.eq_1/\type_of% @rK.eq_1/\type_of% @dO.eq_1/\type_of% @oE.eq_1/\type_of% @oF.eq_1/\type_of% @wZ.eq_1/\type_of% @w7.eq_1/\type_of% @EP.eq_1/\type_of% @ER.eq_1/\type_of% @jE.eq_1/\type_of% @ES.eq_1/\type_of% @AZ.eq_1/\type_of% @w9.eq_1/\type_of% @ET.eq_1/\type_of% @kN.eq_1/\type_of% @fG.eq_1/\type_of% @EU.eq_1/\type_of% @A2.eq_1/\type_of% @A3.eq_1/\type_of% @A4.eq_1:=⟨@EW,@G0.eq_1,@G1.eq_1,@G2.eq_1,@G3.eq_1,@G4.eq_1,@G5.eq_1,@G6.eq_1,@G7.eq_1,@G8.eq_1,@G9.eq_1,@bW.eq_1,@bc.eq_1,@pU.eq_1,@AK.eq_1,@AL.eq_1,@pV.eq_1,@rF.eq_1,@iO.eq_1,@rG.eq_1,@rH.eq_1,@tX.eq_1,@cN.eq_1,@dM.eq_1,@AM.eq_1,@AN.eq_1,@pW.eq_1,@mG.eq_1,@tY.eq_1,@AO.eq_1,@wV.eq_1,@wW.eq_1,@AP.eq_1,@bS.eq_1,@tZ.eq_1,@fF.eq_1,@rI.eq_1,@jW.eq_1,@AQ.eq_1,@AR.eq_1,@rJ.eq_1,@AS.eq_1,@wX.eq_1,@wY.eq_1,@fv.eq_1,@AT.eq_1,@gQ.eq_1,@mH.eq_1,@hY.eq_1,@jD.eq_1,@eu.eq_1,@eQ.eq_1,@AU.eq_1,@pX.eq_1,@AW.eq_1,@AX.eq_1,@AY.eq_1,@rK.eq_1,@dO.eq_1,@oE.eq_1,@oF.eq_1,@wZ.eq_1,@w7.eq_1,@EP.eq_1,@ER.eq_1,@jE.eq_1,@ES.eq_1,@AZ.eq_1,@w9.eq_1,@ET.eq_1,@kN.eq_1,@fG.eq_1,@EU.eq_1,@A2.eq_1,@A3.eq_1,@A4.eq_1⟩
open Go Go.Aev
noncomputable abbrev ao:=Go.Proofs.Tryz.prog
def ann:cM:={
 live:=(λf r=>match f,r with
  | 49,6=>some [(0,none),(1,none),(4,none),(5,none)]
  | 14,2=>some [(0,none),(3,none)]
  | 15,2=>some [(0,none),(1,none),(5,none)]
  | 90,8=>some [(2,none),(4,none),(5,none)]
  | 71,2=>some [(0,none),(11,some 0),(12,some 0)]
  | 71,5=>some [(0,none),(13,none),(14,none)]
  | 44,3=>some [(1,none),(4,none),(5,none),(6,none)]
  | 52,6=>some [(1,none),(4,none),(21,none),(22,none),(23,none)]
  | 98,1=>some [(0,none),(1,none)]
  | 89,6=>some [(1,none),(5,none),(13,none),(14,none),(15,none)]
  | 111,3=>some [(0,none),(3,none),(4,none)]
  | 116,6=>some [(0,none),(1,none),(5,none)]
  | 91,3=>some [(0,none),(1,none),(2,none),(7,none),(28,none),(29,none),(30,none)]
  | 91,7=>some [(0,none),(1,none),(2,none),(7,none),(8,none),(9,none),(10,none),(28,none),(29,none),(30,none),(38,none),(39,none),(40,none)]
  | 96,8=>some [(4,none),(43,none),(44,none),(45,none)]
  | 16,3=>some [(0,none),(1,none),(5,some 0),(6,none)]
  | 109,4=>some [(0,none),(1,none),(4,none),(5,none),(14,none),(15,none),(16,none)]
  | 107,2=>some [(4,none),(5,none),(6,none)]
  | 103,6=>some [(0,none),(1,none),(5,none)]
  | 104,3=>some [(1,none),(3,none),(12,none),(13,none)]
  | 125,2=>some [(0,none),(3,none)]
  | 126,6=>some [(0,none),(1,none),(5,none),(6,none),(20,none),(21,none),(22,none)]
  | 127,4=>some [(1,none),(5,none),(6,none),(13,none),(14,none),(15,none)]
  | 55,2=>some [(0,none),(1,none),(7,none),(8,none)]
  | 134,1=>some [(0,none)]
  | 135,10=>some [(0,none),(8,none),(9,none),(10,some 1)]
  | 135,15=>some [(8,none),(9,none),(10,some 1),(11,none),(12,none),(13,none)]
  | 135,19=>some [(8,none),(9,none),(10,some 1),(11,none),(12,none),(13,none),(15,none),(16,none)]
  | 135,27=>some [(8,none),(9,none),(10,some 1),(11,none),(12,none),(13,none),(15,none),(17,none),(167,none),(168,none),(169,none)]
  | 133,3=>some [(1,none),(5,none),(17,none),(18,none),(19,none)]
  | 133,7=>some [(1,none),(5,none),(6,none),(7,none),(8,none),(17,none),(18,none),(19,none),(24,none),(25,none),(26,none)]
  | 141,4=>some [(0,none),(1,none),(6,none),(7,none),(8,none)]
  | 143,4=>some [(1,none),(5,none),(6,none),(18,none),(19,none),(20,none)]
  | 144,3=>some [(0,none),(1,none),(2,none),(7,none),(8,none),(12,none),(13,none)]
  | 145,4=>some [(0,none),(1,none),(6,none),(7,none),(20,none),(21,none),(22,none)]
  | 145,15=>some [(0,none),(1,none),(6,none),(10,none),(58,none),(59,none),(60,none)]
  | 146,6=>some [(1,none),(5,none),(6,none),(20,none),(21,none),(22,none)]
  | 147,4=>some [(1,none),(5,none),(6,none),(13,none),(14,none),(15,none)]
  | 149,4=>some [(0,none),(1,none),(6,none),(7,none),(8,none)]
  | 149,11=>some [(0,none),(1,none),(9,none)]
  | 149,17=>some [(9,none),(10,none),(11,some 0),(12,none),(13,none),(14,none)]
  | 149,21=>some [(9,none),(10,none),(11,some 0),(12,none),(13,none),(14,none),(16,none),(17,none)]
  | 149,27=>some [(9,none),(10,none),(11,some 0),(12,none),(13,none),(14,none),(16,none),(18,none),(19,none),(172,none),(173,none),(174,none)]
  | 149,41=>some [(9,none),(10,none),(11,some 0),(12,none),(13,none),(14,none),(16,none),(18,none),(233,none),(234,none),(235,none)]
  | 150,3=>some [(1,none),(5,none),(16,none),(17,none),(18,none)]
  | 151,6=>some [(0,none),(1,none),(5,none),(20,none),(21,none),(22,none)]
  | 3,9=>some [(0,none),(1,none),(2,none),(4,none),(5,none),(9,none),(14,none),(15,none),(16,none),(17,none),(18,none),(19,some 2),(20,none)]
  | 5,8=>some [(0,none),(1,none),(2,none),(7,none),(10,none),(11,none)]
  | 8,11=>some [(0,none),(1,none),(2,none),(5,none),(9,none),(13,none),(73,none),(74,none),(75,none)]
  | 8,18=>some [(2,none),(9,none),(13,none),(18,none),(102,none),(103,none),(104,none)]
  | 9,10=>some [(2,none),(3,none),(9,none),(11,some 3),(32,none),(33,none),(34,none)]
  | 10,8=>some [(4,none),(5,none),(12,none),(14,none),(15,none)]
  | 10,12=>some [(5,none),(12,none),(14,none),(16,none)]
  | 11,5=>some [(0,none),(1,none),(2,none),(5,none),(13,none),(14,none)]
  | 11,10=>some [(0,none),(1,none),(2,none),(5,none),(13,none),(15,none)]
  | 12,2=>some [(0,none),(1,none),(2,none),(7,none)]
  | 19,4=>some [(0,none),(4,none),(11,none)]
  | 19,7=>some [(0,none),(4,none),(11,none),(12,none)]
  | 20,3=>some [(0,none),(1,none),(2,none),(6,none),(7,none),(8,none)]
  | 20,10=>some [(2,none),(6,none),(7,none),(9,none)]
  | 22,2=>some [(0,none),(1,none),(2,none),(7,none)]
  | 22,7=>some [(0,none),(1,none),(2,none),(8,none)]
  | 27,3=>some [(1,none),(4,none),(5,none),(8,none),(9,none),(10,none)]
  | 28,3=>some [(3,some 4),(6,none),(7,none),(8,none)]
  | 31,5=>some [(2,none),(7,none),(9,none),(10,none),(11,none),(18,none),(19,none),(20,none)]
  | 31,8=>some [(2,none),(7,none),(9,none),(10,none),(11,none),(12,none),(13,none),(18,none),(19,none),(20,none),(26,none),(27,none),(28,none)]
  | 35,3=>some [(0,none),(1,none),(2,none),(3,none),(9,none),(10,none)]
  | 38,3=>some [(0,none),(1,none),(5,some 3000001),(5,some 5101004),(5,some 7000004),(21,none),(22,none),(23,none)]
  | 38,7=>some [(0,none),(1,none),(5,some 3000001),(5,some 5101004),(5,some 7000004),(6,none),(8,none),(21,none),(22,none),(23,none),(34,none),(35,none),(36,none)]
  | 39,1=>some [(0,none),(1,none)]
  | 39,10=>some [(0,none),(1,none),(6,none),(7,none),(8,none),(9,none),(38,none),(39,none),(40,none)]
  | 40,4=>some [(4,some 2),(5,none),(10,none),(11,none),(12,none)]
  | 41,3=>some [(0,none),(2,none),(31,none),(32,none),(33,none)]
  | 41,8=>some [(0,none),(2,none),(10,none),(31,none),(32,none),(33,none),(54,none),(55,none),(56,none)]
  | 41,14=>some [(0,none),(2,none)]
  | 41,16=>some [(0,none),(2,none),(15,none),(16,none),(100,none),(101,none),(102,none)]
  | 42,4=>some [(3,none),(4,some 4),(17,none),(18,none),(19,none)]
  | 51,2=>some [(0,none),(1,none),(5,none)]
  | 53,2=>some [(0,none),(1,none),(7,none),(8,none)]
  | 76,3=>some [(0,none),(4,none),(5,none),(15,none),(16,none),(17,none)]
  | 78,5=>some [(0,none),(7,none),(8,none),(41,none),(42,none),(43,none)]
  | 84,3=>some [(0,none),(1,none),(5,none),(26,none),(27,none),(28,none)]
  | 85,5=>some [(0,none),(1,none),(5,none),(6,none),(7,none),(8,none),(45,none),(46,none),(47,none)]
  | 85,13=>some [(0,none),(1,none),(5,none),(6,none),(8,none),(11,none),(75,none),(76,none)]
  | 86,6=>some [(1,none),(2,none),(3,none),(7,none),(9,none),(10,none),(11,none),(12,none),(24,none),(25,none),(26,none)]
  | 87,3=>some [(0,none),(1,none),(2,none),(7,none),(17,none),(18,none)]
  | 88,3=>some [(0,none),(2,none),(3,none),(14,none),(15,none)]
  | 97,2=>some [(0,none),(1,none),(7,none),(8,none)]
  | 100,5=>some [(4,none),(16,none),(17,none),(18,none)]
  | 101,3=>some [(1,none),(4,none),(5,none),(9,none),(10,none),(11,none)]
  | 123,4=>some [(0,none),(4,none),(18,none),(19,none),(20,none)]
  | _,_=>none),
 join:=(λ_ _=>none),
 sig:=(λf=>match f with
  | 143=>some ⟨[.own 1],[]⟩
  | 126=>some ⟨[.own 1],[]⟩
  | 127=>some ⟨[.own 1],[]⟩
  | 150=>some ⟨[.own 1],[]⟩
  | 151=>some ⟨[.own 1],[]⟩
  | 149=>some ⟨[.own 1, .own 1],[]⟩
  | 128=>some ⟨[.own 1],[]⟩
  | 38=>some ⟨[.new [.f (.i .i64), .t (.l 3), .own 1, .mp false [.i .i64] (.i .i64), .rows 1 0 4, .own 8, .own 4]],[]⟩
  | _=>none),
 iP:=(λf=>match f with
  | 144=>some [true,false,false]
  | 148=>some [true]
  | 91=>some [true]
  | 115=>some [true]
  | 94=>some [true]
  | 118=>some [true]
  | 125=>some [true]
  | 112=>some [true]
  | 114=>some [true]
  | 110=>some [true]
  | 113=>some [true]
  | 117=>some [true]
  | 71=>some [true]
  | 46=>some [true]
  | 47=>some [true]
  | 48=>some [true]
  | 74=>some [true]
  | 95=>some [true]
  | 138=>some [true,false,false,true]
  | 139=>some [true,false,false,true]
  | 39=>some [true,false]
  | 41=>some [true,false,false]
  | 42=>some [true]
  | 78=>some [true,false,false]
  | 84=>some [true,false,false]
  | 85=>some [true,false,false]
  | 86=>some [true,false,false]
  | 87=>some [true,false,false]
  | 123=>some [true,true,true]
  | 124=>some [false,false,false,true,true,true,true]
  | _=>none),
 deep:=(λf=>match f with
  | 76=>true
  | 77=>true
  | 79=>true
  | 80=>true
  | 88=>true
  | _=>false),
 app:=(λd=>match d with
  | some 11=>true
  | some 16=>true
  | _=>false),
 BG:=(λf m=>match f with
  | 144=>⟨[.f .b],[.sl 1]⟩
  | 148=>⟨[.ref 0 0],[.box [.f .b, .t (.l 1)]]⟩
  | 91=>⟨[.ref 0 0],[.box [.f .b, .t (.l 1)]]⟩
  | 115=>⟨[.ref 0 0],[.box [.f .b, .t (.l 1)]]⟩
  | 94=>⟨[.ref 0 0],[.box [.f .b, .t (.l 1)]]⟩
  | 118=>⟨[.ref 0 0],[.box [.f .b, .t (.l 1)]]⟩
  | 125=>if m=2 then⟨[.ref 0 0],[.box [.f .b, .t (.l 1)]]⟩ else⟨[.ref 0 0],[.box [.f .b, .t (.l 1)], .dead]⟩
  | 112=>⟨[.ref 0 0],[.box [.f .b, .t (.l 1)]]⟩
  | 114=>if m=4 then⟨[.no],[.box [.f .b, .t (.l 1), .f .b, .t (.l 1)]]⟩ else⟨[.ref 0 0],[.box [.f .b, .t (.l 1)]]⟩
  | 110=>⟨[.ref 0 0],[.box [.f .b, .t (.l 1)]]⟩
  | 113=>⟨[.ref 0 0],[.box [.f .b, .t (.l 1)]]⟩
  | 117=>⟨[.ref 0 0],[.box [.f .b, .t (.l 1)]]⟩
  | 46=>⟨[.ref 0 0],[.box [.f .b, .t (.l 1), .f .b, .t (.l 1)]]⟩
  | 47=>⟨[.ref 0 0],[.box [.f .b, .t (.l 1), .f .b, .t (.l 1)]]⟩
  | 48=>⟨[.ref 0 0],[.box [.f .b, .t (.l 1), .f .b, .t (.l 1)]]⟩
  | 74=>⟨[.ref 0 0],[.box [.f .b, .t (.l 1), .f .b, .t (.l 1)]]⟩
  | 95=>⟨[.ref 0 0],[.box [.f .b, .t (.l 1), .f .b, .t (.l 1)]]⟩
  | 71=>⟨[.ref 0 0],[.box [.f .b, .t (.l 1)]]⟩
  | 138=>⟨[.ref 0 0, .ref 1 0],[.box [.f .b, .t (.l 1)], .box [.f .b, .t (.l 1)]]⟩
  | 139=>⟨[.ref 0 0, .ref 1 0],[.box [.f .b, .t (.l 1)], .box [.f .b, .t (.l 1)]]⟩
  | 39=>⟨[.own 4, .f .b],[.box [.f (.i .i64), .t (.l 3), .same 1, .same 2, .rows 1 0 4, .same 4, .same 5], .sl 1, .mp false [.i .i64] (.i .i64), .dead, .sl 8, .sl 4]⟩
  | 41=>⟨[.t (.l 4), .own 4, .f .b],[.box [.f (.i .i64), .t (.l 3), .same 1, .same 2, .rows 1 0 4, .same 4, .t (.l 4)], .sl 1, .mp false [.i .i64] (.i .i64), .dead, .sl 8, .dead]⟩
  | 42=>if m=4007 then⟨[.own 4],[.box [.f (.i .i64), .t (.l 3), .same 1, .same 2, .rows 1 0 4, .same 4, .t (.l 4)], .sl 1, .mp false [.i .i64] (.i .i64), .dead, .sl 8]⟩ else⟨[.own 4],[.box [.f (.i .i64), .t (.l 3), .same 1, .same 2, .rows 1 0 4, .same 4, .same 5], .sl 1, .mp false [.i .i64] (.i .i64), .dead, .sl 8, .sl 4]⟩
  | 78=>⟨[.own 4],[.box [.f (.i .i64), .t (.l 3), .same 1, .same 2, .rows 1 0 4, .same 4, .same 5], .sl 1, .mp false [.i .i64] (.i .i64), .dead, .sl 8, .sl 4]⟩
  | 84=>⟨[],[.box [.f (.i .i64), .t (.l 3), .same 1, .same 2, .rows 1 0 4, .same 4, .same 5], .sl 1, .mp false [.i .i64] (.i .i64), .dead, .sl 8, .sl 4]⟩
  | 85=>⟨[],[.box [.f (.i .i64), .t (.l 3), .same 1, .same 2, .rows 1 0 4, .same 4, .same 5], .sl 1, .mp false [.i .i64] (.i .i64), .dead, .sl 8, .sl 4]⟩
  | 86=>⟨[.f (.i .i64), .agg [.f .b, .f .s, .f .b, .f .s, .f .b, .f .s, .f .b, .f .s], .f .b],[.box [.f (.i .i64), .t (.l 3), .same 1, .same 2, .rows 1 0 4, .same 4, .same 5], .sl 1, .mp false [.i .i64] (.i .i64), .dead, .sl 8, .sl 4]⟩
  | 87=>⟨[.own 4],[.box [.f (.i .i64), .t (.l 3), .same 1, .same 2, .rows 1 0 4, .same 4, .same 5], .sl 1, .mp false [.i .i64] (.i .i64), .dead, .sl 8, .sl 4]⟩
  | 123=>⟨[],[.sl 4, .box [.f (.i .i64)], .box [.same 3], .sl 4]⟩
  | 124=>⟨[],[.box [.ref 4 0], .box [.f .b], .box [.f .b, .f .s, .f .b, .f .s, .f .b, .f .s, .f .b, .f .s], .box [.f (.i .i64)], .box [.f (.i .i64), .t (.l 3), .same 5, .same 6, .rows 1 0 4, .same 8, .same 9], .sl 1, .mp false [.i .i64] (.i .i64), .dead, .sl 8, .sl 4]⟩
  | _=>⟨[],[]⟩),
 wr:=(λf=>f==13),
 nS:=(λd t=>match d,t with
  | some 53,114=>1
  | some 54,114=>3
  | _,_=>0),
 st:=(λd=>match d with
  | some 89=>true
  | some 50=>true
  | some 30=>true
  | some 37=>true
  | some 103=>true
  | some 34=>true
  | some 67=>true
  | some 93=>true
  | some 127=>true
  | some 129=>true
  | some 78=>true
  | some 49=>true
  | _=>false),
 ld:=(λd=>match d with
  | some 89=>true
  | _=>false),
 sx:=(λd=>match d with
  | some 103=>true
  | some 34=>true
  | some 67=>true
  | some 93=>true
  | some 127=>true
  | some 129=>true
  | _=>false)}
theorem hm:ao.follows .mixedOrders=true:=by kernel_rfl
noncomputable abbrev Mc:Key:=aT ao 49 true 6 [(0,none),(1,none),(4,none),(5,none)] (0,0)
noncomputable abbrev Ma:Key:=aT ao 90 true 8 [(2,none),(4,none),(5,none)] (0,0)
noncomputable abbrev xo:Key:=aT ao 52 true 6 [(1,none),(4,none),(21,none),(22,none),(23,none)] (0,0)
noncomputable abbrev xp:Key:=aT ao 96 true 8 [(4,none),(43,none),(44,none),(45,none)] (0,0)
theorem e7(O:au)(er:Bool)(r:JL)(n:Int):az ao ann O (Key.call 49) [Jl 3 er r,I n] []=
 (bif bif decide (n < 0) then true else decide (n > 12) then G0 (O (.call 21) [I 3,I (-1)] []) λn a=>some [Ji n,Ji a] else bif decide ((r.length:Int) > 40) then G0 (O (.call 21) [I 2,I 0] []) λn a=>some [Ji n,Ji a] else O Mc [Jl 3 er r,I n,Jr 0,I 0] [ab.box [I 0,I 0]]):=by kernel_rfl
theorem GG(O:au)(d:Bool)(c:JL)(a e f:Int):az ao ann O (Key.call 90) [AV.agg [Jl 1 d c,I a,I e],I f] []=
 (bif bif decide (f < 0) then true else decide (f > 12) then G0 (O (.call 21) [I 3,I (-1)] []) λn b=>some [Ji n,Ji b] else bif bif bif !a==1 then !a==2 else false then !a==3 else false then G0 (O (.call 21) [I 4,I 0] []) λn b=>some [Ji n,Ji b] else bif decide ((c.length:Int) > f) then G0 (O (.call 21) [I 9,I 0] []) λn b=>some [Ji n,Ji b] else O Ma [Jr 0,Jr 1,I 0] [ab.box [Jl 1 d c,I a,I e],ab.box [I 0,I 0]]):=by kernel_rfl
theorem yN(O:au)(a:Int):az ao ann O (Key.call 50) [I a] []=
 (some [Jb (bif decide (a<=1000000) then decide (a>=(-1000000)) else false)]):=by kernel_rfl
theorem GH(O:au)(er:Bool)(r:JL)(n:Int):az ao ann O (Key.call 52) [Jl 3 er r,I n] []=
 (bif bif decide (n < 0) then true else decide (n > 12) then some [Ji 3,Ji (-1)] else bif decide ((r.length:Int) > 40) then some [Ji 2,Ji 0] else O xo [I n,Jr 0,Jl 3 er r,I (r.length:Int),I 0] [ab.box [I 0,I 0]]):=by kernel_rfl
theorem GI(O:au)(g f a b c:Int)(d:Bool)(e:JL):az ao ann O xo [I g,Jr 0,Jl 3 d e,I f,I a] (Y9 b c)=
 (bif decide (a < f) then G1 a e λp n h=>G0 (O (.call 96) [AV.agg [Jl 1 p.fst p.snd,I n,I h],I g] []) λn i=>bif !n==0 then some [Ji n,Ji a] else O xo [I g,Jr 0,Jl 3 d e,I f,I (Jw a)] (Y9 b c) else some [Ji 0,Ji 0]):=by kernel_rfl
theorem NP(O:au)(d:Bool)(c:JL)(a b e:Int):az ao ann O (Key.call 96) [AV.agg [Jl 1 d c,I a,I b],I e] []=
 (bif bif decide (e < 0) then true else decide (e > 12) then some [Ji 3,Ji (-1)] else bif bif bif !a==1 then !a==2 else false then !a==3 else false then some [Ji 4,Ji 0] else bif decide ((c.length:Int) > e) then some [Ji 9,Ji 0] else G4 (O (.call 128) [Jl 1 d c] []) λp=>Jg (bu 8 (p.snd.length+ [[Ji b]].length)) λx=>O xp [Jr 0,Jo 1,I (↑(p.snd++ [[Ji b]]).length:Int),I 0] [ab.box [I 0,I 0],ab.sl false 1 (p.fst && false) (p.snd++ [[Ji b]])]):=by kernel_rfl
theorem yS(O:au)(a:Bool)(b:JL):az ao ann O (Key.call 128) [Jl 1 a b] []=
 (bif a then some [T.aK true] else Jg (bu 8 (0+b.length)) λx=>some [T.aa 1 false b]):=by kernel_rfl
theorem GJ(O:au)(e a c d:Int)(f:Bool)(g:JL):az ao ann O xp [Jr 0,Jo 1,I e,I a] [ab.box [I c,I d],ab.sl false 1 f g]=
 (bif decide (a < e) then G2 a g λn=>G3 (O (.call 129) [I n] []) λb=>bif !b then some [Ji 3,Ji a] else O xp [Jr 0,Jo 1,I e,I (Jw a)] [ab.box [I c,I d],ab.sl false 1 f g] else some [Ji 0,Ji 0]):=by kernel_rfl
theorem Ca(O:au)(a:Int):az ao ann O (Key.call 129) [I a] []=
 (some [Jb (bif decide (a>=(-1000000)) then decide (a<=1000000) else false)]):=by kernel_rfl
open Go Go.Aev
noncomputable abbrev Or:au:=mW ao ann
abbrev ti(n:Int):T:= .int .i64 n
abbrev tb(b:Bool):T:= .bool b
abbrev o0:AV:=AV.own (Id.c 0)
abbrev o1:AV:=AV.own (Id.c 1)
abbrev r0:AV:=AV.ref (Id.c 0) 0
theorem bt{c:Type}{l:List c}{i:Nat}{r:c}{b:List c}(h:l.drop i=r::b):l[i]? =some r/\i < l.length/\l.drop (i+1)=b:=by
 have a:i < l.length:=by
  rcases Xr i l.length with g | g
  .exact g
  .rw [Xz g] at h;cases h
 rw [W5 a] at h;simp only [Xn] at h;exact⟨by rw [Vd a,h.1],a,h.2⟩
theorem bw{a:Type}{l:List a}{i:Nat}(h:l.drop i= []):l.length<=i:=by simpa using h
def enc(l:List Int):List (List T):=l.map λr=> [ti r]
theorem cJ(l:List Int):(enc l).length=l.length:=by simp [enc]
theorem iV{l:List Int}{i:Nat}{r:Int}(h:l[i]? =some r):(enc l)[((i:Nat):Int).toNat]? =some [ti r]:=by simp [enc,h]
abbrev aa(e:Bool)(l:List Int):AV:=AV.t (T.aa 1 e (enc l))
structure R where
 e:Bool
 of:List Int
 kd:Int
 tv:Int
 deriving Inhabited
def eR(r:R):List T:= [T.aa 1 r.e (enc r.of),ti r.kd,ti r.tv]
def cU(l:List R):List (List T):=l.map eR
theorem bY(l:List R):(cU l).length=l.length:=by simp [cU]
theorem fK{l:List R}{i:Nat}{r:R}(h:l[i]? =some r):(cU l)[((i:Nat):Int).toNat]? =some [T.aa 1 r.e (enc r.of),ti r.kd,ti r.tv]:=by simp [cU,h,eR]
abbrev LR(e:Bool)(l:List R):AV:=AV.t (T.aa 3 e (cU l))
theorem next(i:Nat)(h:i<=100000):i64.wrap ((i:Int)+1)= ((i+1:Nat):Int):=by rw [wr (by omega)];omega
theorem iL{bs n:Nat}(h:n<=100000):bu bs n=some ():=by unfold bu;rw [if_pos (.inl (by unfold dY;omega))]
theorem oQ(a b:Int):(a==b)=decide (a=b):=by by_cases h:a=b <;> simp [h]
theorem I8(a b:Int):mm false a b=min a b:=by simp only [mm,cond_false];split <;> omega
open Go Go.Aev
abbrev fl(p:Int×Int):Option (List T):=some [ti p.1,ti p.2]
theorem KW(c:Int):Or (.call 129) [I c] []=some [tb (decide (c>= -1000000/\c<=1000000))]:=by refine al ?_;rw [Ca];simp only [eZ,<-W3]
theorem S8(l:List Int)(e:Bool)(a:e=true->l= [])(b:l.length<=1000):∃x e',Or (.call 128) [aa e l] []=some [x]/\x.aQ 1=some (e',enc l)/\(e'=true->l= []):=by
 cases e with
 | true=>obtain rfl:=a rfl;exact⟨T.aK true,true,al (by rw [yS];simp only [ai,↓reduceIte,Int.reduceBEq,Int.reduceEq,GD]),by simp [T.aQ,enc],λ_=>rfl⟩
 | false=>refine⟨T.aa 1 false (enc l),false,al ?_,qP _ _ _,λh=>by cases h⟩;have:bu 8 (0+l.length)=some ():=iL (by omega);rw [yS];simp only [ai,↓reduceIte,Int.reduceBEq,Int.reduceEq,GD,cJ,this]
theorem S7(l:List Int)(e:Bool)(c:e=true->l= [])(d:l.length<=1000):∃x e',Or (.call 128) [aa e l] []=some [x]/\x.aQ 1=some (e',enc l):=by obtain⟨x,e',a,b,_⟩:=S8 l e c d;exact⟨x,e',a,b⟩
def nw:List Int->Nat->Int×Int
 | [],_=>(0,0)
 | x::r,i=>if x>= -1000000/\x<=1000000 then nw r (i+1) else(3,(i:Int))
def ny(n:Nat)(r:R):Int×Int:=
 if(¬r.kd=1/\¬r.kd=2)/\¬r.kd=3 then(4,0) else if r.of.length > n then(9,0) else nw (r.of++ [r.tv]) 0
def qo(n:Nat):List R->Nat->Int×Int
 | [],_=>(0,0)
 | r::a,i=>if(ny n r).1=0 then qo n a (i+1) else((ny n r).1,(i:Int))
def yq(n:Nat)(rows:List R):Int×Int:=if rows.length > 40 then(2,0) else qo n rows 0
theorem Rl(xs:List Int)(e:Bool)(j:xs.length<=1000):∀(a:List Int) (i:Nat),xs.drop i=a->Or xp [r0,o1,I (xs.length:Int),I (i:Int)] [ab.box [I 0,I 0],ab.sl false 1 e (enc xs)]=fl (nw a i):=by
 intro a;induction a with
 | nil=>
  intro i h;refine al ?_;rw [GJ];have h1:¬(i:Int) < (xs.length:Int):=by have:=bw h;omega
  simp only [ai,↓reduceIte,Int.reduceBEq,Int.reduceEq,GD,h1,nw]
 | cons x a f=>
  intro i h;obtain⟨b,g,d⟩:=bt h;have h1:(i:Int) < (xs.length:Int):=by omega
  have c: 0<=(i:Int):=by omega
  refine al ?_;rw [GJ,nw];by_cases hb:x>= -1000000/\x<=1000000
  .simp only [ai,↓reduceIte,Int.reduceBEq,Int.reduceEq,GD,h1,c,and_self,cJ,iV b,KW,hb,decide_true,Vs,next i (by omega),f (i+1) d]
  .simp only [ai,↓reduceIte,Int.reduceBEq,Int.reduceEq,GD,h1,c,and_self,cJ,iV b,KW,hb,decide_false,Vv]
theorem KI(r:R)(n:Nat)(h:n<=12)(f:r.e=true->r.of= []):Or (.call 96) [AV.agg [aa r.e r.of,I r.kd,I r.tv],I (n:Int)] []=fl (ny n r):=by
 have h1:¬((n:Int) < 0\/(n:Int) > 12):=by omega
 refine al ?_;rw [NP];unfold ny;by_cases a:(¬r.kd=1/\¬r.kd=2)/\¬r.kd=3
 .simp only [jm,eZ,oQ,<-decide_not,<-WN,<-W3];simp only [ai,↓reduceIte,Int.reduceBEq,Int.reduceEq,GD,h1,a,not_false_eq_true,and_self]
 .rw [if_neg a];by_cases c:(r.of.length:Int) > (n:Int)
  .rw [if_pos (by omega)];simp only [jm,eZ,oQ,<-decide_not,<-WN,<-W3];simp only [ai,↓reduceIte,Int.reduceBEq,Int.reduceEq,GD,h1,a,cJ,c]
  .rw [if_neg (by omega)];obtain⟨x,e',g,k2⟩:=S7 r.of r.e f (by omega);have d:=Rl (r.of++ [r.tv]) (e' && false) (by simp;omega) (r.of++ [r.tv]) 0 rfl;have b:enc r.of++ [[ti r.tv]]=enc (r.of++ [r.tv]):=by simp [enc]
   have hs:bu 8 (r.of.length+ [[ti r.tv]].length)=some ():=iL (by simp;omega);simp only [YN] at d;simp only [jm,eZ,oQ,<-decide_not,<-WN,<-W3];simp only [ai,↓reduceIte,Int.reduceBEq,Int.reduceEq,GD,h1,a,cJ,c,g,k2,hs,b];exact d
theorem Rk(rows:List R)(n:Nat)(e:Bool)(k:n<=12)(l:∀r∈rows,r.e=true->r.of= [])(j:rows.length<=1000):∀(a:List R) (i:Nat),rows.drop i=a->
  Or xo [I (n:Int),r0,LR e rows,I (rows.length:Int),I (i:Int)] [ab.box [I 0,I 0]]=fl (qo n a i):=by
 intro a;induction a with
 | nil=>
  intro i h;refine al ?_;rw [GI];have h1:¬(i:Int) < (rows.length:Int):=by have:=bw h;omega
  simp only [ai,↓reduceIte,Int.reduceBEq,Int.reduceEq,GD,h1,qo]
 | cons r a m=>
  intro i h;obtain⟨c,o,g⟩:=bt h;have h1:(i:Int) < (rows.length:Int):=by omega
  have d: 0<=(i:Int):=by omega
  have f:=KI r n k (l r (Va c));refine al ?_;rw [GI,qo];by_cases b:(ny n r).1=0
  .rw [if_pos b];simp only [ai,↓reduceIte,Int.reduceBEq,Int.reduceEq,GD,h1,d,and_self,bY,fK c,f,b,next i (by omega),m (i+1) g]
  .rw [if_neg b];simp only [ai,↓reduceIte,Int.reduceBEq,Int.reduceEq,GD,h1,d,and_self,bY,fK c,f,b]
theorem SR(rows:List R)(n:Nat)(e:Bool)(b:n<=12)(c:∀r∈rows,r.e=true->r.of= []):Or (.call 52) [LR e rows,I (n:Int)] []=fl (yq n rows):=by
 have h1:¬((n:Int) < 0\/(n:Int) > 12):=by omega
 refine al ?_;rw [GH];unfold yq;simp only [jm,<-WN];by_cases a:(rows.length:Int) > 40
 .rw [if_pos (by omega)];simp only [ai,↓reduceIte,Int.reduceBEq,Int.reduceEq,GD,h1,bY,a]
 .rw [if_neg (by omega)];simp only [ai,↓reduceIte,Int.reduceBEq,Int.reduceEq,GD,h1,bY,a];exact Rk rows n e b c (by omega) rows 0 rfl
open Go Go.Aev
def Bd(b:Int)(l:List Int):Prop:= ∀x∈l, -b<=x/\x<=b
theorem vo{a hi n:Int}(h: 0<=a/\a<=hi/\hi<=n):bQ a hi n=some ():=by unfold bQ;rw [if_pos h]
theorem n9(a:List Int)(b v:Int)(r:List Int)(i:Nat)(h:a.length=i):(a++b::r).set i v=a++v::r:=by subst h;simp
def gl(g:Nat):List Int->Nat
 | []=>g
 | x::l=>gl (Nat.gcd g x.natAbs) l
theorem natAbs_tmod(a b:Int):(a.tmod b).natAbs=a.natAbs % b.natAbs:=Int.natAbs_tmod a b
end Go.Aev.Gen
