import Derived.Test.YticjdhgokemdlaaGreatMostTakesQ5
import Derived.Test.YticjdhgokemdlaaGreatChecked
import Derived.KernelRfl
set_option linter.unusedSimpArgs false
set_option linter.unusedVariables false
namespace Go.Aev.Gen
open Go Go.Aev
def Jg{α R:Type}[Inhabited α](m:Option α)(k:α->Option R):Option R:=gdK none m k
theorem JgS{α R:Type}[Inhabited α](a:α)(k:α->Option R):Jg (some a) k=k a:=rfl
abbrev Ji(n:Int):T:= .int .i64 n
abbrev Jb(b:Bool):T:= .bool b
abbrev Jl(k:Nat)(e:Bool)(l:List (List T)):AV:= .t (.lst k e l)
abbrev Js(s:ByteArray):AV:= .t (.str s)
abbrev Jo(k:Nat):AV:= .own (.c k)
abbrev Jr(k:Nat):AV:= .ref (.c k) 0
abbrev Ja(b:Bool)(s:ByteArray)(c:Bool)(t:ByteArray):AV:= .agg [B b,Js s,B c,Js t]
abbrev Jw(v:Int):Int:=IntKind.i64.wrap (v+1)
abbrev JL:=List (List T)
def G0(m:Option (List T))(k:Int->Int->Option (List T)):Option (List T):=gdK none m fun l=>gdK none l.head? fun a0=>gdK none (T.int? .i64 a0) fun a1=>gdK none l.tail.head? fun a2=>gdK none (T.int? .i64 a2) fun a3=>k a1 a3
def G1(i:Int)(L:JL)(k:(Bool×JL)->Int->Int->Option (List T)):Option (List T):=gdK none (if 0<=i/\i < (L.length:Int) then some () else none) fun _=>gdK none L[i.toNat]? fun l=>gdK none l.head? fun a0=>gdK none l.tail.head? fun a1=>gdK none l.tail.tail.head? fun a2=>gdK none (T.lst? 1 a0) fun a3=>gdK none (T.int? .i64 a1) fun a4=>gdK none (T.int? .i64 a2) fun a5=>k a3 a4 a5
def G2(i:Int)(L:JL)(k:Int->Option (List T)):Option (List T):=gdK none (if 0<=i/\i < (L.length:Int) then some () else none) fun _=>gdK none L[i.toNat]? fun l=>gdK none l.head? fun a0=>gdK none (T.int? .i64 a0) fun a1=>k a1
def G3(m:Option (List T))(k:Bool->Option (List T)):Option (List T):=gdK none m fun l=>gdK none l.head? fun a0=>gdK none a0.bool? fun a1=>k a1
def G4(m:Option (List T))(k:(Bool×JL)->Option (List T)):Option (List T):=gdK none m fun l=>gdK none l.head? fun a0=>gdK none (T.lst? 1 a0) fun a1=>k a1
def G5(c:Option Bool)(m:Option (List T))(k:Bool->Option (List T)):Option (List T):=gdK none m fun l=>gdK c l.head? fun a0=>gdK c a0.bool? fun a1=>k a1
def G6(c:Option Bool)(m:Option (List T))(k:(Bool×JL)->Option (List T)):Option (List T):=gdK none m fun l=>gdK c l.head? fun a0=>gdK c (T.lst? 4 a0) fun a1=>k a1
def G7(c:Option Bool)(m:Option (List T))(k:Bool->ByteArray->Bool->ByteArray->Option (List T)):Option (List T):=gdK none m fun l=>gdK c l.head? fun a0=>gdK c a0.bool? fun a1=>gdK c l.tail.head? fun a2=>gdK c a2.str? fun a3=>gdK c l.tail.tail.head? fun a4=>gdK c a4.bool? fun a5=>gdK c l.tail.tail.tail.head? fun a6=>gdK c a6.str? fun a7=>k a1 a3 a5 a7
def G8(c:Option Bool)(m:Option (List T))(k:Int->Option (List T)):Option (List T):=gdK none m fun l=>gdK c l.head? fun a0=>gdK c (T.int? .i64 a0) fun a1=>k a1
def G9(m:Option (List T))(k:Int->Option (List T)):Option (List T):=gdK none m fun l=>gdK none l.head? fun a0=>gdK none (T.int? .i64 a0) fun a1=>k a1
def G10(m:Option (List T))(k:Bool->ByteArray->Option (List T)):Option (List T):=gdK none m fun l=>gdK none l.head? fun a0=>gdK none a0.bool? fun a1=>gdK none l.tail.head? fun a2=>gdK none a2.str? fun a3=>k a1 a3
def G11(m:Option (List T))(k:Bool->ByteArray->Bool->ByteArray->Option (List T)):Option (List T):=gdK none m fun l=>gdK none l.head? fun a0=>gdK none a0.bool? fun a1=>gdK none l.tail.head? fun a2=>gdK none a2.str? fun a3=>gdK none l.tail.tail.head? fun a4=>gdK none a4.bool? fun a5=>gdK none l.tail.tail.tail.head? fun a6=>gdK none a6.str? fun a7=>k a1 a3 a5 a7
def G12(c:Option Bool)(i:Int)(L:JL)(k:Int->Option (List T)):Option (List T):=gdK c (if 0<=i/\i < (L.length:Int) then some () else none) fun _=>gdK c L[i.toNat]? fun l=>gdK c l.head? fun a0=>gdK c (T.int? .i64 a0) fun a1=>k a1
def G13(m:Option (List T))(k:(Bool×JL)->Option (List T)):Option (List T):=gdK none m fun l=>gdK none l.head? fun a0=>gdK none (T.lst? 4 a0) fun a1=>k a1
def G14(m:Option (List T))(k:(List T)->(Bool×JL)->Bool->ByteArray->Bool->ByteArray->Option (List T)):Option (List T):=gdK none m fun l=>gdK none l.head? fun a0=>gdK none (T.lst? 4 a0) fun a1=>gdK none l.tail.head? fun a2=>gdK none a2.bool? fun a3=>gdK none l.tail.tail.head? fun a4=>gdK none a4.str? fun a5=>gdK none l.tail.tail.tail.head? fun a6=>gdK none a6.bool? fun a7=>gdK none l.tail.tail.tail.tail.head? fun a8=>gdK none a8.str? fun a9=>k l a1 a3 a5 a7 a9
def G15(m:Option T)(k:Bool->Option (List T)):Option (List T):=gdK none m fun l=>gdK none l.bool? fun a0=>k a0
def G16(i:Int)(L:JL)(k:Int->Int->Option (List T)):Option (List T):=gdK none (if 0<=i/\i < (L.length:Int) then some () else none) fun _=>gdK none L[i.toNat]? fun l=>gdK none l.head? fun a0=>gdK none l.tail.head? fun a1=>gdK none (T.int? .i64 a0) fun a2=>gdK none (T.int? .i64 a1) fun a3=>k a2 a3
def G17(i:Int)(L:JL)(k:Bool->ByteArray->Bool->ByteArray->Option (List T)):Option (List T):=gdK none (if 0<=i/\i < (L.length:Int) then some () else none) fun _=>gdK none L[i.toNat]? fun l=>gdK none l.head? fun a0=>gdK none l.tail.head? fun a1=>gdK none l.tail.tail.head? fun a2=>gdK none l.tail.tail.tail.head? fun a3=>gdK none a0.bool? fun a4=>gdK none a1.str? fun a5=>gdK none a2.bool? fun a6=>gdK none a3.str? fun a7=>k a4 a5 a6 a7
def G18(m:Option (List T))(k:Bool->ByteArray->Bool->ByteArray->Int->Option (List T)):Option (List T):=gdK none m fun l=>gdK none l.head? fun a0=>gdK none a0.bool? fun a1=>gdK none l.tail.head? fun a2=>gdK none a2.str? fun a3=>gdK none (List.drop 2 l).head? fun a4=>gdK none a4.bool? fun a5=>gdK none (List.drop 2 l).tail.head? fun a6=>gdK none a6.str? fun a7=>gdK none (List.drop 2 (List.drop 2 l)).head? fun a8=>gdK none (T.int? .i64 a8) fun a9=>k a1 a3 a5 a7 a9
def G19(m:Option (List T))(k:Bool->ByteArray->Int->Option (List T)):Option (List T):=gdK none m fun l=>gdK none l.head? fun a0=>gdK none a0.bool? fun a1=>gdK none l.tail.head? fun a2=>gdK none a2.str? fun a3=>gdK none (List.drop 2 l).head? fun a4=>gdK none (T.int? .i64 a4) fun a5=>k a1 a3 a5
def G20(m:Option (List T))(k:(Bool×JL)->(Bool×JL)->Option (List T)):Option (List T):=gdK none m fun l=>gdK none l.head? fun a0=>gdK none (T.lst? 1 a0) fun a1=>gdK none l.tail.head? fun a2=>gdK none (T.lst? 1 a2) fun a3=>k a1 a3
def G21(i:Int)(L:JL)(k:Int->Option (List T)):Option (List T):=gdK none (if 0<=i/\i < (L.length:Int) then some () else none) fun _=>gdK none L[i.toNat]? fun l=>gdK none l.head? fun a0=>gdK none (T.int? IntKind.u32 a0) fun a1=>k a1
def G22(m:Option (List T))(k:Int->Option (List T)):Option (List T):=gdK none m fun l=>gdK none l.head? fun a0=>gdK none (T.int? IntKind.u32 a0) fun a1=>k a1
def G23(m:Option (List T))(k:(Bool×JL)->Int->Option (List T)):Option (List T):=gdK none m fun l=>gdK none l.head? fun a0=>gdK none (T.lst? 1 a0) fun a1=>gdK none l.tail.head? fun a2=>gdK none (T.int? IntKind.u32 a2) fun a3=>k a1 a3
def G24(c:Option Bool)(i:Int)(L:JL)(k:Bool->ByteArray->Bool->ByteArray->Option (List T)):Option (List T):=gdK c (if 0<=i/\i < (L.length:Int) then some () else none) fun _=>gdK c L[i.toNat]? fun l=>gdK c l.head? fun a0=>gdK c l.tail.head? fun a1=>gdK c l.tail.tail.head? fun a2=>gdK c l.tail.tail.tail.head? fun a3=>gdK c a0.bool? fun a4=>gdK c a1.str? fun a5=>gdK c a2.bool? fun a6=>gdK c a3.str? fun a7=>k a4 a5 a6 a7
def G25(m:Option (List T))(k:Bool->Int->Int->Option (List T)):Option (List T):=gdK none m fun l=>gdK none l.head? fun a0=>gdK none a0.bool? fun a1=>gdK none l.tail.head? fun a2=>gdK none (T.int? .i64 a2) fun a3=>gdK none l.tail.tail.head? fun a4=>gdK none (T.int? .i64 a4) fun a5=>k a1 a3 a5
def G26(c:Option Bool)(m:Option (List T))(k:Int->Option (List T)):Option (List T):=gdK c m fun l=>gdK c l.head? fun a0=>gdK c (T.int? IntKind.u32 a0) fun a1=>k a1
def G27(c:Option Bool)(m:Option (List T))(k:Int->Option (List T)):Option (List T):=gdK none m fun l=>gdK c l.head? fun a0=>gdK c (T.int? IntKind.u64 a0) fun a1=>k a1
def G28(m:Option (List T))(k:(Bool×JL)->Bool->Option (List T)):Option (List T):=gdK none m fun l=>gdK none l.head? fun a0=>gdK none (T.lst? 1 a0) fun a1=>gdK none l.tail.head? fun a2=>gdK none a2.bool? fun a3=>k a1 a3
def G29(m:Option (List T))(k:Bool->(Bool×JL)->Option (List T)):Option (List T):=gdK none m fun l=>gdK none l.head? fun a0=>gdK none a0.bool? fun a1=>gdK none ((List.drop 1 l).head?.bind fun z=>T.lst? 1 z) fun a2=>k a1 a2
def G30(m:Option (List T))(k:Int->Bool->Option (List T)):Option (List T):=gdK none m fun l=>gdK none l.head? fun a0=>gdK none (T.int? .i64 a0) fun a1=>gdK none l.tail.head? fun a2=>gdK none a2.bool? fun a3=>k a1 a3
def G31(c:Option Bool)(m:Option (List T))(k:Int->Int->Option (List T)):Option (List T):=gdK none m fun l=>gdK c l.head? fun a0=>gdK c (T.int? .i64 a0) fun a1=>gdK c l.tail.head? fun a2=>gdK c (T.int? .i64 a2) fun a3=>k a1 a3
def G32(m:Option (List T))(k:Bool->(Bool×JL)->Option (List T)):Option (List T):=gdK none m fun l=>gdK none l.head? fun a0=>gdK none (List.drop 1 l).head? fun a1=>gdK none a1.bool? fun a2=>gdK none (List.drop 1 l).tail.head? fun a3=>gdK none (T.lst? 1 a3) fun a4=>k a2 a4
def G33(m:Option (List T))(k:Bool->(Bool×JL)->Bool->(Bool×JL)->Option (List T)):Option (List T):=gdK none m fun l=>gdK none l.head? fun a0=>gdK none l.tail.head? fun a1=>gdK none (List.drop 2 l).head? fun a2=>gdK none a2.bool? fun a3=>gdK none (List.drop 2 l).tail.head? fun a4=>gdK none (T.lst? 1 a4) fun a5=>gdK none (List.drop 2 (List.drop 2 l)).head? fun a6=>gdK none a6.bool? fun a7=>gdK none (List.drop 2 (List.drop 2 l)).tail.head? fun a8=>gdK none (T.lst? 1 a8) fun a9=>k a3 a5 a7 a9
def G34(m:Option (List T))(k:T->Option (List T)):Option (List T):=gdK none m fun l=>gdK none l.head? fun a0=>k a0
def G35(m:Option (List T))(k:Int->Option (List T)):Option (List T):=gdK none m fun l=>gdK none l.head? fun a0=>gdK none (T.int? IntKind.u64 a0) fun a1=>k a1
def G36(m:Option (List T))(k:Bool->(Bool×JL)->Bool->(Bool×JL)->Option (List T)):Option (List T):=gdK none m fun l=>gdK none l.head? fun a0=>gdK none (List.drop 1 l).head? fun a1=>gdK none a1.bool? fun a2=>gdK none (List.drop 1 l).tail.head? fun a3=>gdK none (T.lst? 1 a3) fun a4=>gdK none (List.drop 1 l).tail.tail.head? fun a5=>gdK none a5.bool? fun a6=>gdK none (List.drop 1 l).tail.tail.tail.head? fun a7=>gdK none (T.lst? 1 a7) fun a8=>k a2 a4 a6 a8
def G37(m:Option (List T))(k:Int->(Bool×JL)->(Bool×JL)->(List (List T×T))->(Bool×List Row)->(Bool×JL)->(Bool×JL)->Option (List T)):Option (List T):=gdK none m fun l=>gdK none l.head? fun a0=>gdK none (T.int? .i64 a0) fun a1=>gdK none l.tail.head? fun a2=>gdK none (T.lst? 3 a2) fun a3=>gdK none l.tail.tail.head? fun a4=>gdK none (T.lst? 1 a4) fun a5=>gdK none l.tail.tail.tail.head? fun a6=>gdK none (eO a6) fun a7=>gdK none l.tail.tail.tail.tail.head? fun a8=>gdK none (eI a8) fun a9=>gdK none l.tail.tail.tail.tail.tail.head? fun a10=>gdK none (T.lst? 8 a10) fun a11=>gdK none l.tail.tail.tail.tail.tail.tail.head? fun a12=>gdK none (T.lst? 4 a12) fun a13=>k a1 a3 a5 a7 a9 a11 a13
def G38(m:Option (List T))(k:(Bool×JL)->Bool->Int->(Bool×JL)->(Bool×List Row)->(Bool×JL)->(List (List T×T))->(Bool×JL)->(Bool×JL)->Option (List T)):Option (List T):=gdK none m fun l=>gdK none l.head? fun a0=>gdK none (T.lst? 4 a0) fun a1=>gdK none l.tail.head? fun a2=>gdK none a2.bool? fun a3=>gdK none (List.drop 2 l).head? fun a4=>gdK none (T.int? .i64 a4) fun a5=>gdK none (List.drop 2 l).tail.head? fun a6=>gdK none (T.lst? 3 a6) fun a7=>gdK none (List.drop 2 l).tail.tail.head? fun a8=>gdK none (List.drop 2 l).tail.tail.tail.head? fun a9=>gdK none (List.drop 2 l).tail.tail.tail.tail.head? fun a10=>gdK none (eI a10) fun a11=>gdK none (List.drop 2 l).tail.tail.tail.tail.tail.head? fun a12=>gdK none (List.drop 2 l).tail.tail.tail.tail.tail.tail.head? fun a13=>gdK none ((List.drop 7 (List.drop 2 l)).head?.bind fun z=>T.lst? 1 z) fun a14=>gdK none ((List.drop 7 (List.drop 2 l)).tail.head?.bind fun z=>eO z) fun a15=>gdK none ((List.drop 7 (List.drop 2 l)).tail.tail.head?.bind fun z=>T.lst? 8 z) fun a16=>gdK none ((List.drop 7 (List.drop 2 l)).tail.tail.tail.head?.bind fun z=>T.lst? 4 z) fun a17=>k a1 a3 a5 a7 a11 a14 a15 a16 a17
def G39(m:Option (List T))(k:(Bool×JL)->Bool->Option (List T)):Option (List T):=gdK none m fun l=>gdK none l.head? fun a0=>gdK none (T.lst? 2 a0) fun a1=>gdK none l.tail.head? fun a2=>gdK none a2.bool? fun a3=>k a1 a3
def G40(m:Option (List T))(k:(Bool×JL)->(Bool×JL)->Bool->Int->(Bool×JL)->(Bool×List Row)->(Bool×JL)->(Bool×JL)->(List (List T×T))->(Bool×JL)->Option (List T)):Option (List T):=gdK none m fun l=>gdK none l.head? fun a0=>gdK none (T.lst? 4 a0) fun a1=>gdK none l.tail.head? fun a2=>gdK none (T.lst? 4 a2) fun a3=>gdK none l.tail.tail.head? fun a4=>gdK none a4.bool? fun a5=>gdK none (List.drop 3 l).head? fun a6=>gdK none (T.int? .i64 a6) fun a7=>gdK none (List.drop 3 l).tail.head? fun a8=>gdK none (T.lst? 3 a8) fun a9=>gdK none (List.drop 3 l).tail.tail.head? fun a10=>gdK none (List.drop 3 l).tail.tail.tail.head? fun a11=>gdK none (List.drop 3 l).tail.tail.tail.tail.head? fun a12=>gdK none (eI a12) fun a13=>gdK none (List.drop 3 l).tail.tail.tail.tail.tail.head? fun a14=>gdK none (List.drop 3 l).tail.tail.tail.tail.tail.tail.head? fun a15=>gdK none (T.lst? 4 a15) fun a16=>gdK none ((List.drop 7 (List.drop 3 l)).head?.bind fun z=>T.lst? 1 z) fun a17=>gdK none ((List.drop 7 (List.drop 3 l)).tail.head?.bind fun z=>eO z) fun a18=>gdK none ((List.drop 7 (List.drop 3 l)).tail.tail.head?.bind fun z=>T.lst? 8 z) fun a19=>k a1 a3 a5 a7 a9 a13 a16 a17 a18 a19
def G41(m:Option (List T))(k:(Bool×JL)->Int->(Bool×JL)->(Bool×List Row)->(Bool×JL)->(Bool×JL)->(List (List T×T))->(Bool×JL)->Option (List T)):Option (List T):=gdK none m fun l=>gdK none l.head? fun a0=>gdK none (T.lst? 4 a0) fun a1=>gdK none (List.drop 1 l).head? fun a2=>gdK none (T.int? .i64 a2) fun a3=>gdK none (List.drop 1 l).tail.head? fun a4=>gdK none (T.lst? 3 a4) fun a5=>gdK none (List.drop 1 l).tail.tail.head? fun a6=>gdK none (List.drop 1 l).tail.tail.tail.head? fun a7=>gdK none (List.drop 1 l).tail.tail.tail.tail.head? fun a8=>gdK none (eI a8) fun a9=>gdK none (List.drop 1 l).tail.tail.tail.tail.tail.head? fun a10=>gdK none (List.drop 1 l).tail.tail.tail.tail.tail.tail.head? fun a11=>gdK none (T.lst? 4 a11) fun a12=>gdK none ((List.drop 7 (List.drop 1 l)).head?.bind fun z=>T.lst? 1 z) fun a13=>gdK none ((List.drop 7 (List.drop 1 l)).tail.head?.bind fun z=>eO z) fun a14=>gdK none ((List.drop 7 (List.drop 1 l)).tail.tail.head?.bind fun z=>T.lst? 8 z) fun a15=>k a1 a3 a5 a9 a12 a13 a14 a15
def G42(m:Option (List T))(k:Int->Int->Bool->Option (List T)):Option (List T):=gdK none m fun l=>gdK none l.head? fun a0=>gdK none (T.int? .i64 a0) fun a1=>gdK none l.tail.head? fun a2=>gdK none (T.int? .i64 a2) fun a3=>gdK none (List.drop 2 l).head? fun a4=>gdK none a4.bool? fun a5=>k a1 a3 a5
def G43{α:Type}[Inhabited α](i:Int)(L:List α)(k:α->Option (List T)):Option (List T):=gdK none (if 0<=i/\i < (L.length:Int) then some () else none) fun _=>gdK none L[i.toNat]? fun l=>k l
def G44(m:Option (List T))(k:Bool->ByteArray->Bool->ByteArray->Bool->ByteArray->Bool->ByteArray->Option (List T)):Option (List T):=gdK none m fun l=>gdK none l.head? fun a0=>gdK none l.tail.head? fun a1=>gdK none l.tail.tail.head? fun a2=>gdK none l.tail.tail.tail.head? fun a3=>gdK none l.tail.tail.tail.tail.head? fun a4=>gdK none l.tail.tail.tail.tail.tail.head? fun a5=>gdK none l.tail.tail.tail.tail.tail.tail.head? fun a6=>gdK none l.tail.tail.tail.tail.tail.tail.tail.head? fun a7=>gdK none a0.bool? fun a8=>gdK none a1.str? fun a9=>gdK none a2.bool? fun a10=>gdK none a3.str? fun a11=>gdK none a4.bool? fun a12=>gdK none a5.str? fun a13=>gdK none a6.bool? fun a14=>gdK none a7.str? fun a15=>k a8 a9 a10 a11 a12 a13 a14 a15
def G45(m:Option (List T))(k:Bool->ByteArray->Bool->ByteArray->Option (List T)):Option (List T):=gdK none m fun l=>gdK none l.head? fun a0=>gdK none l.tail.head? fun a1=>gdK none l.tail.tail.head? fun a2=>gdK none l.tail.tail.tail.head? fun a3=>gdK none a0.bool? fun a4=>gdK none a1.str? fun a5=>gdK none a2.bool? fun a6=>gdK none a3.str? fun a7=>k a4 a5 a6 a7
def G46(m:Option (List T))(k:(Bool×JL)->Int->(Bool×JL)->(Bool×List Row)->(Bool×JL)->(List (List T×T))->(Bool×JL)->(Bool×JL)->Option (List T)):Option (List T):=gdK none m fun l=>gdK none l.head? fun a0=>gdK none (T.lst? 4 a0) fun a1=>gdK none (List.drop 1 l).head? fun a2=>gdK none (T.int? .i64 a2) fun a3=>gdK none (List.drop 1 l).tail.head? fun a4=>gdK none (T.lst? 3 a4) fun a5=>gdK none (List.drop 1 l).tail.tail.head? fun a6=>gdK none (List.drop 1 l).tail.tail.tail.head? fun a7=>gdK none (List.drop 1 l).tail.tail.tail.tail.head? fun a8=>gdK none (eI a8) fun a9=>gdK none (List.drop 1 l).tail.tail.tail.tail.tail.head? fun a10=>gdK none (List.drop 1 l).tail.tail.tail.tail.tail.tail.head? fun a11=>gdK none ((List.drop 7 (List.drop 1 l)).head?.bind fun z=>T.lst? 1 z) fun a12=>gdK none ((List.drop 7 (List.drop 1 l)).tail.head?.bind fun z=>eO z) fun a13=>gdK none ((List.drop 7 (List.drop 1 l)).tail.tail.head?.bind fun z=>T.lst? 8 z) fun a14=>gdK none ((List.drop 7 (List.drop 1 l)).tail.tail.tail.head?.bind fun z=>T.lst? 4 z) fun a15=>k a1 a3 a5 a9 a12 a13 a14 a15
def G47(m:Option (List T))(k:Bool->ByteArray->Bool->ByteArray->Bool->ByteArray->Bool->ByteArray->Bool->Option (List T)):Option (List T):=gdK none m fun l=>gdK none l.head? fun a0=>gdK none a0.bool? fun a1=>gdK none l.tail.head? fun a2=>gdK none a2.str? fun a3=>gdK none l.tail.tail.head? fun a4=>gdK none a4.bool? fun a5=>gdK none l.tail.tail.tail.head? fun a6=>gdK none a6.str? fun a7=>gdK none l.tail.tail.tail.tail.head? fun a8=>gdK none a8.bool? fun a9=>gdK none l.tail.tail.tail.tail.tail.head? fun a10=>gdK none a10.str? fun a11=>gdK none l.tail.tail.tail.tail.tail.tail.head? fun a12=>gdK none a12.bool? fun a13=>gdK none l.tail.tail.tail.tail.tail.tail.tail.head? fun a14=>gdK none a14.str? fun a15=>gdK none (List.drop 8 l).head? fun a16=>gdK none a16.bool? fun a17=>k a1 a3 a5 a7 a9 a11 a13 a15 a17
def G48(i:Int)(L:JL)(k:Bool->ByteArray->Bool->ByteArray->Bool->ByteArray->Bool->ByteArray->Option (List T)):Option (List T):=gdK none (if 0<=i/\i < (L.length:Int) then some () else none) fun _=>gdK none L[i.toNat]? fun l=>gdK none l.head? fun a0=>gdK none l.tail.head? fun a1=>gdK none l.tail.tail.head? fun a2=>gdK none l.tail.tail.tail.head? fun a3=>gdK none l.tail.tail.tail.tail.head? fun a4=>gdK none l.tail.tail.tail.tail.tail.head? fun a5=>gdK none l.tail.tail.tail.tail.tail.tail.head? fun a6=>gdK none l.tail.tail.tail.tail.tail.tail.tail.head? fun a7=>gdK none a0.bool? fun a8=>gdK none a1.str? fun a9=>gdK none a2.bool? fun a10=>gdK none a3.str? fun a11=>gdK none a4.bool? fun a12=>gdK none a5.str? fun a13=>gdK none a6.bool? fun a14=>gdK none a7.str? fun a15=>k a8 a9 a10 a11 a12 a13 a14 a15
def G49(m:Option (List T))(k:Bool->ByteArray->Bool->ByteArray->Bool->ByteArray->Bool->ByteArray->Option (List T)):Option (List T):=gdK none m fun l=>gdK none l.head? fun a0=>gdK none a0.bool? fun a1=>gdK none l.tail.head? fun a2=>gdK none a2.str? fun a3=>gdK none l.tail.tail.head? fun a4=>gdK none a4.bool? fun a5=>gdK none l.tail.tail.tail.head? fun a6=>gdK none a6.str? fun a7=>gdK none l.tail.tail.tail.tail.head? fun a8=>gdK none a8.bool? fun a9=>gdK none l.tail.tail.tail.tail.tail.head? fun a10=>gdK none a10.str? fun a11=>gdK none l.tail.tail.tail.tail.tail.tail.head? fun a12=>gdK none a12.bool? fun a13=>gdK none l.tail.tail.tail.tail.tail.tail.tail.head? fun a14=>gdK none a14.str? fun a15=>k a1 a3 a5 a7 a9 a11 a13 a15
def G50(m:Option (List T))(k:Int->(Bool×JL)->(Bool×List Row)->(Bool×JL)->(List (List T×T))->(Bool×JL)->(Bool×JL)->Option (List T)):Option (List T):=gdK none m fun l=>gdK none l.head? fun a0=>gdK none (T.int? .i64 a0) fun a1=>gdK none l.tail.head? fun a2=>gdK none (T.lst? 3 a2) fun a3=>gdK none l.tail.tail.head? fun a4=>gdK none l.tail.tail.tail.head? fun a5=>gdK none l.tail.tail.tail.tail.head? fun a6=>gdK none (eI a6) fun a7=>gdK none l.tail.tail.tail.tail.tail.head? fun a8=>gdK none l.tail.tail.tail.tail.tail.tail.head? fun a9=>gdK none ((List.drop 7 l).head?.bind fun z=>T.lst? 1 z) fun a10=>gdK none ((List.drop 7 l).tail.head?.bind fun z=>eO z) fun a11=>gdK none ((List.drop 7 l).tail.tail.head?.bind fun z=>T.lst? 8 z) fun a12=>gdK none ((List.drop 7 l).tail.tail.tail.head?.bind fun z=>T.lst? 4 z) fun a13=>k a1 a3 a7 a10 a11 a12 a13
def G51(i:Int)(L:JL)(k:Bool->ByteArray->Bool->ByteArray->Option (List T)):Option (List T):=gdK none (if 0<=i/\i < (L.length:Int) then some () else none) fun _=>gdK none L[i.toNat]? fun l=>gdK none (List.drop 4 l).head? fun a0=>gdK none (List.drop 4 l).tail.head? fun a1=>gdK none (List.drop 4 l).tail.tail.head? fun a2=>gdK none (List.drop 4 l).tail.tail.tail.head? fun a3=>gdK none a0.bool? fun a4=>gdK none a1.str? fun a5=>gdK none a2.bool? fun a6=>gdK none a3.str? fun a7=>k a4 a5 a6 a7
def G52(c:Option Bool)(i:Int)(L:JL)(k:Bool->ByteArray->Bool->ByteArray->Bool->ByteArray->Bool->ByteArray->Option (List T)):Option (List T):=gdK c (if 0<=i/\i < (L.length:Int) then some () else none) fun _=>gdK c L[i.toNat]? fun l=>gdK c l.head? fun a0=>gdK c l.tail.head? fun a1=>gdK c l.tail.tail.head? fun a2=>gdK c l.tail.tail.tail.head? fun a3=>gdK c l.tail.tail.tail.tail.head? fun a4=>gdK c l.tail.tail.tail.tail.tail.head? fun a5=>gdK c l.tail.tail.tail.tail.tail.tail.head? fun a6=>gdK c l.tail.tail.tail.tail.tail.tail.tail.head? fun a7=>gdK c a0.bool? fun a8=>gdK c a1.str? fun a9=>gdK c a2.bool? fun a10=>gdK c a3.str? fun a11=>gdK c a4.bool? fun a12=>gdK c a5.str? fun a13=>gdK c a6.bool? fun a14=>gdK c a7.str? fun a15=>k a8 a9 a10 a11 a12 a13 a14 a15
def G53(m:Option (List T))(k:(Bool×JL)->Int->Int->Option (List T)):Option (List T):=gdK none m fun l=>gdK none l.head? fun a0=>gdK none l.tail.head? fun a1=>gdK none l.tail.tail.head? fun a2=>gdK none (T.lst? 1 a0) fun a3=>gdK none (T.int? .i64 a1) fun a4=>gdK none (T.int? .i64 a2) fun a5=>k a3 a4 a5
def G54(c:Option Bool)(m:Option (List T))(k:Int->Option (List T)):Option (List T):=gdK c m fun l=>gdK c (List.drop 1 l).head? fun a0=>gdK c (T.int? .i64 a0) fun a1=>k a1
def G55(m:Option (List T))(k:Int->Option (List T)):Option (List T):=gdK none m fun l=>gdK none (List.drop 2 l).head? fun a0=>gdK none (T.int? .i64 a0) fun a1=>k a1
def G56(m:Option (List T))(k:(List T)->Int->Bool->ByteArray->Bool->ByteArray->Bool->ByteArray->Bool->ByteArray->Option (List T)):Option (List T):=gdK none m fun l=>gdK none l.head? fun a0=>gdK none (T.int? .i64 a0) fun a1=>gdK none l.tail.head? fun a2=>gdK none a2.bool? fun a3=>gdK none l.tail.tail.head? fun a4=>gdK none a4.str? fun a5=>gdK none l.tail.tail.tail.head? fun a6=>gdK none a6.bool? fun a7=>gdK none l.tail.tail.tail.tail.head? fun a8=>gdK none a8.str? fun a9=>gdK none l.tail.tail.tail.tail.tail.head? fun a10=>gdK none a10.bool? fun a11=>gdK none l.tail.tail.tail.tail.tail.tail.head? fun a12=>gdK none a12.str? fun a13=>gdK none l.tail.tail.tail.tail.tail.tail.tail.head? fun a14=>gdK none a14.bool? fun a15=>gdK none l.tail.tail.tail.tail.tail.tail.tail.tail.head? fun a16=>gdK none a16.str? fun a17=>k l a1 a3 a5 a7 a9 a11 a13 a15 a17
def G57(m:Option T)(k:Int->Option (List T)):Option (List T):=gdK none m fun l=>gdK none (T.int? .i64 l) fun a0=>k a0
def G58(m:Option T)(k:(Bool×JL)->Option (List T)):Option (List T):=gdK none m fun l=>gdK none (T.lst? 3 l) fun a0=>k a0
def G59(m:Option T)(k:(Bool×List Row)->Option (List T)):Option (List T):=gdK none m fun l=>gdK none (eI l) fun a0=>k a0
def G60(m:Option (List T))(k:(List T)->Bool->Bool->ByteArray->Bool->ByteArray->Bool->ByteArray->Bool->ByteArray->Option (List T)):Option (List T):=gdK none m fun l=>gdK none l.head? fun a0=>gdK none (List.drop 1 l).head? fun a1=>gdK none a1.bool? fun a2=>gdK none (List.drop 1 (List.drop 1 l)).head? fun a3=>gdK none a3.bool? fun a4=>gdK none (List.drop 1 (List.drop 1 l)).tail.head? fun a5=>gdK none a5.str? fun a6=>gdK none (List.drop 1 (List.drop 1 l)).tail.tail.head? fun a7=>gdK none a7.bool? fun a8=>gdK none (List.drop 1 (List.drop 1 l)).tail.tail.tail.head? fun a9=>gdK none a9.str? fun a10=>gdK none (List.drop 1 (List.drop 1 l)).tail.tail.tail.tail.head? fun a11=>gdK none a11.bool? fun a12=>gdK none (List.drop 1 (List.drop 1 l)).tail.tail.tail.tail.tail.head? fun a13=>gdK none a13.str? fun a14=>gdK none (List.drop 1 (List.drop 1 l)).tail.tail.tail.tail.tail.tail.head? fun a15=>gdK none a15.bool? fun a16=>gdK none (List.drop 1 (List.drop 1 l)).tail.tail.tail.tail.tail.tail.tail.head? fun a17=>gdK none a17.str? fun a18=>k l a2 a4 a6 a8 a10 a12 a14 a16 a18
def G61(m:Option (List T))(k:(List T)->(Bool×JL)->Int->Option (List T)):Option (List T):=gdK none m fun l=>gdK none (l.head?.bind fun z=>T.lst? 4 z) fun a0=>gdK none l.tail.head? fun a1=>gdK none (T.int? .i64 a1) fun a2=>k l a0 a2
def G62(c:Option Bool)(i:Int)(L:JL)(k:Int->Int->Option (List T)):Option (List T):=gdK c (if 0<=i/\i < (L.length:Int) then some () else none) fun _=>gdK c L[i.toNat]? fun l=>gdK c l.head? fun a0=>gdK c l.tail.head? fun a1=>gdK c (T.int? .i64 a0) fun a2=>gdK c (T.int? .i64 a1) fun a3=>k a2 a3
def G63(i:Int)(L:JL)(k:Int->Option (List T)):Option (List T):=gdK none (if 0<=i/\i < (L.length:Int) then some () else none) fun _=>gdK none L[i.toNat]? fun l=>gdK none (List.drop 1 l).head? fun a0=>gdK none (T.int? .i64 a0) fun a1=>k a1
def G64(c:Option Bool)(m:Option (List T))(k:T->Option (List T)):Option (List T):=gdK none m fun l=>gdK c l.head? fun a0=>k a0
def G65(c:Option Bool)(i:Int)(L:JL)(k:(Bool×JL)->Int->Int->Option (List T)):Option (List T):=gdK c (if 0<=i/\i < (L.length:Int) then some () else none) fun _=>gdK c L[i.toNat]? fun l=>gdK c l.head? fun a0=>gdK c l.tail.head? fun a1=>gdK c l.tail.tail.head? fun a2=>gdK c (T.lst? 1 a0) fun a3=>gdK c (T.int? .i64 a1) fun a4=>gdK c (T.int? .i64 a2) fun a5=>k a3 a4 a5
def G66(i:Int)(L:JL)(k:Int->Option (List T)):Option (List T):=gdK none (if 0<=i/\i < (L.length:Int) then some () else none) fun _=>gdK none L[i.toNat]? fun l=>gdK none (List.drop 2 l).head? fun a0=>gdK none (T.int? .i64 a0) fun a1=>k a1
def G67(i:Int)(L:JL)(k:(Bool×JL)->Option (List T)):Option (List T):=gdK none (if 0<=i/\i < (L.length:Int) then some () else none) fun _=>gdK none L[i.toNat]? fun l=>gdK none l.head? fun a0=>gdK none (T.lst? 1 a0) fun a1=>k a1
def G68(c:Option Bool)(i:Int)(L:JL)(k:Int->Option (List T)):Option (List T):=gdK c (if 0<=i/\i < (L.length:Int) then some () else none) fun _=>gdK c L[i.toNat]? fun l=>gdK c (List.drop 1 l).head? fun a0=>gdK c (T.int? .i64 a0) fun a1=>k a1
def G69(m:Option (List T))(k:(List T)->Int->Int->Int->Option (List T)):Option (List T):=gdK none m fun l=>gdK none l.head? fun a0=>gdK none (T.int? .i64 a0) fun a1=>gdK none l.tail.head? fun a2=>gdK none (T.int? .i64 a2) fun a3=>gdK none l.tail.tail.head? fun a4=>gdK none (T.int? .i64 a4) fun a5=>k l a1 a3 a5
def G70(m:Option T)(k:(Bool×JL)->Option (List T)):Option (List T):=gdK none m fun l=>gdK none (T.lst? 2 l) fun a0=>k a0
abbrev Y1:=fun q0 q1=>([Blk.sl false 1 q0 q1]:List Blk)
abbrev Y2:=fun q0 q1=>([Blk.box [B q0,AV.t q1]]:List Blk)
abbrev Y3:=fun q0 q1 q2 q3=>([Blk.sl false 1 q0 q1,Blk.sl false 1 q2 q3]:List Blk)
abbrev Y4:=([Blk.box [B false,AV.t (T.emp true)]]:List Blk)
abbrev Y5:=([Blk.box [B false,AV.t (T.emp true),B false,AV.t (T.emp true)]]:List Blk)
abbrev Y6:=fun q0 q1 q2=>([Blk.box [B q0,Jl 1 q1 q2]]:List Blk)
abbrev Y7:=fun q0 q1 q2 q3=>([Blk.box [I q0,I q1],Blk.box [I q2,I q3]]:List Blk)
abbrev Y8:=fun q0 q1 q2 q3=>([Blk.box [B q0,AV.t q1,B q2,AV.t q3]]:List Blk)
abbrev Y9:=fun q0 q1=>([Blk.box [I q0,I q1]]:List Blk)
abbrev Y10:=fun q0 q1 q2=>([Blk.box [B q0,Jo 1],Blk.sl false 1 q1 q2]:List Blk)
abbrev Y13:=fun q0 q1 q2 q3 q4 q5=>([Blk.box [B q0,Jl 1 q1 q2,B q3,Jl 1 q4 q5]]:List Blk)
abbrev Y14:=fun q0 q1 q2 q3 q4 q5 q6 q7=>([Blk.box [B q0,Js q1,B q2,Js q3],Blk.box [B q4,Js q5,B q6,Js q7]]:List Blk)
abbrev Y16:=fun q0 q1 q2 q3=>([Blk.box [B q0,AV.t q1],Blk.sl false 1 q2 q3]:List Blk)
abbrev Y17:=fun q0 q1 q2 q3 q4 q5 q6 q7=>([Blk.box [I q0,I q1],Blk.box [I q2,I q3],Blk.box [B q4,Js q5,B q6,Js q7]]:List Blk)
abbrev Y19:=fun q0 q1 q2 q3 q4 q5 q6 q7 q8 q9 q10 q11 q12 q13=>([Blk.box [B q0,Js q1,B q2,Js q3],Blk.sl false 4 q4 q5,Blk.box [B q6,Js q7,B q8,Js q9],Blk.box [Jl 1 q10 q11,I q12,I q13]]:List Blk)
theorem GD:type_of% @JgS/\type_of% @G0.eq_1/\type_of% @G1.eq_1/\type_of% @G2.eq_1/\type_of% @G3.eq_1/\type_of% @G4.eq_1/\type_of% @G5.eq_1/\type_of% @G6.eq_1/\type_of% @G7.eq_1/\type_of% @G8.eq_1/\type_of% @G9.eq_1/\type_of% @G10.eq_1/\type_of% @G11.eq_1/\type_of% @G12.eq_1/\type_of% @G13.eq_1/\type_of% @G14.eq_1/\type_of% @G15.eq_1/\type_of% @G16.eq_1/\type_of% @G17.eq_1/\type_of% @G18.eq_1/\type_of% @G19.eq_1/\type_of% @G20.eq_1/\type_of% @G21.eq_1/\type_of% @G22.eq_1/\type_of% @G23.eq_1/\type_of% @G24.eq_1/\type_of% @G25.eq_1/\type_of% @G26.eq_1/\type_of% @G27.eq_1/\type_of% @G28.eq_1/\type_of% @G29.eq_1/\type_of% @G30.eq_1/\type_of% @G31.eq_1/\type_of% @G32.eq_1/\type_of% @G33.eq_1/\type_of% @G34.eq_1/\type_of% @G35.eq_1/\type_of% @G36.eq_1/\type_of% @G37.eq_1/\type_of% @G38.eq_1/\type_of% @G39.eq_1/\type_of% @G40.eq_1/\type_of% @G41.eq_1/\type_of% @G42.eq_1/\type_of% @G43.eq_1/\type_of% @G44.eq_1/\type_of% @G45.eq_1/\type_of% @G46.eq_1/\type_of% @G47.eq_1/\type_of% @G48.eq_1/\type_of% @G49.eq_1/\type_of% @G50.eq_1/\type_of% @G51.eq_1/\type_of% @G52.eq_1/\type_of% @G53.eq_1/\type_of% @G54.eq_1/\type_of% @G55.eq_1/\type_of% @G56.eq_1/\type_of% @G57.eq_1/\type_of% @G58.eq_1/\type_of% @G59.eq_1/\type_of% @G60.eq_1/\type_of% @G61.eq_1/\type_of% @G62.eq_1/\type_of% @G63.eq_1/\type_of% @G64.eq_1/\type_of% @G65.eq_1/\type_of% @G66.eq_1/\type_of% @G67.eq_1/\type_of% @G68.eq_1/\type_of% @G69.eq_1/\type_of% @G70.eq_1:=⟨@JgS,@G0.eq_1,@G1.eq_1,@G2.eq_1,@G3.eq_1,@G4.eq_1,@G5.eq_1,@G6.eq_1,@G7.eq_1,@G8.eq_1,@G9.eq_1,@G10.eq_1,@G11.eq_1,@G12.eq_1,@G13.eq_1,@G14.eq_1,@G15.eq_1,@G16.eq_1,@G17.eq_1,@G18.eq_1,@G19.eq_1,@G20.eq_1,@G21.eq_1,@G22.eq_1,@G23.eq_1,@G24.eq_1,@G25.eq_1,@G26.eq_1,@G27.eq_1,@G28.eq_1,@G29.eq_1,@G30.eq_1,@G31.eq_1,@G32.eq_1,@G33.eq_1,@G34.eq_1,@G35.eq_1,@G36.eq_1,@G37.eq_1,@G38.eq_1,@G39.eq_1,@G40.eq_1,@G41.eq_1,@G42.eq_1,@G43.eq_1,@G44.eq_1,@G45.eq_1,@G46.eq_1,@G47.eq_1,@G48.eq_1,@G49.eq_1,@G50.eq_1,@G51.eq_1,@G52.eq_1,@G53.eq_1,@G54.eq_1,@G55.eq_1,@G56.eq_1,@G57.eq_1,@G58.eq_1,@G59.eq_1,@G60.eq_1,@G61.eq_1,@G62.eq_1,@G63.eq_1,@G64.eq_1,@G65.eq_1,@G66.eq_1,@G67.eq_1,@G68.eq_1,@G69.eq_1,@G70.eq_1⟩
open Go Go.Aev
noncomputable abbrev PROG:=Go.Proofs.Tryz.prog
def ann:Ann:={
 live:=(fun f r=>match f,r with
  | 49,6=>some [(0,none),(1,none),(4,none),(5,none)]
  | 14,2=>some [(0,none),(3,none)]
  | 15,2=>some [(0,none),(1,none),(5,none)]
  | 90,8=>some [(2,none),(4,none),(5,none)]
  | 71,2=>some [(0,none),(11,some 0),(12,some 0)]
  | 71,5=>some [(0,none),(13,none),(14,none)]
  | 44,3=>some [(1,none),(4,none),(5,none),(6,none)]
  | 52,6=>some [(1,none),(4,none),(21,none),(22,none),(23,none)]
  | 98,1=>some [(0,none),(1,none)]
  | 89,6=>some [(1,none),(5,none),(13,none),(14,none),(15,none)]
  | 111,3=>some [(0,none),(3,none),(4,none)]
  | 116,6=>some [(0,none),(1,none),(5,none)]
  | 91,3=>some [(0,none),(1,none),(2,none),(7,none),(28,none),(29,none),(30,none)]
  | 91,7=>some [(0,none),(1,none),(2,none),(7,none),(8,none),(9,none),(10,none),(28,none),(29,none),(30,none),(38,none),(39,none),(40,none)]
  | 96,8=>some [(4,none),(43,none),(44,none),(45,none)]
  | 16,3=>some [(0,none),(1,none),(5,some 0),(6,none)]
  | 109,4=>some [(0,none),(1,none),(4,none),(5,none),(14,none),(15,none),(16,none)]
  | 107,2=>some [(4,none),(5,none),(6,none)]
  | 103,6=>some [(0,none),(1,none),(5,none)]
  | 104,3=>some [(1,none),(3,none),(12,none),(13,none)]
  | 125,2=>some [(0,none),(3,none)]
  | 126,6=>some [(0,none),(1,none),(5,none),(6,none),(20,none),(21,none),(22,none)]
  | 127,4=>some [(1,none),(5,none),(6,none),(13,none),(14,none),(15,none)]
  | 55,2=>some [(0,none),(1,none),(7,none),(8,none)]
  | 134,1=>some [(0,none)]
  | 135,10=>some [(0,none),(8,none),(9,none),(10,some 1)]
  | 135,15=>some [(8,none),(9,none),(10,some 1),(11,none),(12,none),(13,none)]
  | 135,19=>some [(8,none),(9,none),(10,some 1),(11,none),(12,none),(13,none),(15,none),(16,none)]
  | 135,27=>some [(8,none),(9,none),(10,some 1),(11,none),(12,none),(13,none),(15,none),(17,none),(167,none),(168,none),(169,none)]
  | 133,3=>some [(1,none),(5,none),(17,none),(18,none),(19,none)]
  | 133,7=>some [(1,none),(5,none),(6,none),(7,none),(8,none),(17,none),(18,none),(19,none),(24,none),(25,none),(26,none)]
  | 141,4=>some [(0,none),(1,none),(6,none),(7,none),(8,none)]
  | 143,4=>some [(1,none),(5,none),(6,none),(18,none),(19,none),(20,none)]
  | 144,3=>some [(0,none),(1,none),(2,none),(7,none),(8,none),(12,none),(13,none)]
  | 145,4=>some [(0,none),(1,none),(6,none),(7,none),(20,none),(21,none),(22,none)]
  | 145,15=>some [(0,none),(1,none),(6,none),(10,none),(58,none),(59,none),(60,none)]
  | 146,6=>some [(1,none),(5,none),(6,none),(20,none),(21,none),(22,none)]
  | 147,4=>some [(1,none),(5,none),(6,none),(13,none),(14,none),(15,none)]
  | 149,4=>some [(0,none),(1,none),(6,none),(7,none),(8,none)]
  | 149,11=>some [(0,none),(1,none),(9,none)]
  | 149,17=>some [(9,none),(10,none),(11,some 0),(12,none),(13,none),(14,none)]
  | 149,21=>some [(9,none),(10,none),(11,some 0),(12,none),(13,none),(14,none),(16,none),(17,none)]
  | 149,27=>some [(9,none),(10,none),(11,some 0),(12,none),(13,none),(14,none),(16,none),(18,none),(19,none),(172,none),(173,none),(174,none)]
  | 149,41=>some [(9,none),(10,none),(11,some 0),(12,none),(13,none),(14,none),(16,none),(18,none),(233,none),(234,none),(235,none)]
  | 150,3=>some [(1,none),(5,none),(16,none),(17,none),(18,none)]
  | 151,6=>some [(0,none),(1,none),(5,none),(20,none),(21,none),(22,none)]
  | 3,9=>some [(0,none),(1,none),(2,none),(4,none),(5,none),(9,none),(14,none),(15,none),(16,none),(17,none),(18,none),(19,some 2),(20,none)]
  | 5,8=>some [(0,none),(1,none),(2,none),(7,none),(10,none),(11,none)]
  | 8,11=>some [(0,none),(1,none),(2,none),(5,none),(9,none),(13,none),(73,none),(74,none),(75,none)]
  | 8,18=>some [(2,none),(9,none),(13,none),(18,none),(102,none),(103,none),(104,none)]
  | 9,10=>some [(2,none),(3,none),(9,none),(11,some 3),(32,none),(33,none),(34,none)]
  | 10,8=>some [(4,none),(5,none),(12,none),(14,none),(15,none)]
  | 10,12=>some [(5,none),(12,none),(14,none),(16,none)]
  | 11,5=>some [(0,none),(1,none),(2,none),(5,none),(13,none),(14,none)]
  | 11,10=>some [(0,none),(1,none),(2,none),(5,none),(13,none),(15,none)]
  | 12,2=>some [(0,none),(1,none),(2,none),(7,none)]
  | 19,4=>some [(0,none),(4,none),(11,none)]
  | 19,7=>some [(0,none),(4,none),(11,none),(12,none)]
  | 20,3=>some [(0,none),(1,none),(2,none),(6,none),(7,none),(8,none)]
  | 20,10=>some [(2,none),(6,none),(7,none),(9,none)]
  | 22,2=>some [(0,none),(1,none),(2,none),(7,none)]
  | 22,7=>some [(0,none),(1,none),(2,none),(8,none)]
  | 27,3=>some [(1,none),(4,none),(5,none),(8,none),(9,none),(10,none)]
  | 28,3=>some [(3,some 4),(6,none),(7,none),(8,none)]
  | 31,5=>some [(2,none),(7,none),(9,none),(10,none),(11,none),(18,none),(19,none),(20,none)]
  | 31,8=>some [(2,none),(7,none),(9,none),(10,none),(11,none),(12,none),(13,none),(18,none),(19,none),(20,none),(26,none),(27,none),(28,none)]
  | 35,3=>some [(0,none),(1,none),(2,none),(3,none),(9,none),(10,none)]
  | 38,3=>some [(0,none),(1,none),(5,some 3000001),(5,some 5101004),(5,some 7000004),(21,none),(22,none),(23,none)]
  | 38,7=>some [(0,none),(1,none),(5,some 3000001),(5,some 5101004),(5,some 7000004),(6,none),(8,none),(21,none),(22,none),(23,none),(34,none),(35,none),(36,none)]
  | 39,1=>some [(0,none),(1,none)]
  | 39,10=>some [(0,none),(1,none),(6,none),(7,none),(8,none),(9,none),(38,none),(39,none),(40,none)]
  | 40,4=>some [(4,some 2),(5,none),(10,none),(11,none),(12,none)]
  | 41,3=>some [(0,none),(2,none),(31,none),(32,none),(33,none)]
  | 41,8=>some [(0,none),(2,none),(10,none),(31,none),(32,none),(33,none),(54,none),(55,none),(56,none)]
  | 41,14=>some [(0,none),(2,none)]
  | 41,16=>some [(0,none),(2,none),(15,none),(16,none),(100,none),(101,none),(102,none)]
  | 42,4=>some [(3,none),(4,some 4),(17,none),(18,none),(19,none)]
  | 51,2=>some [(0,none),(1,none),(5,none)]
  | 53,2=>some [(0,none),(1,none),(7,none),(8,none)]
  | 76,3=>some [(0,none),(4,none),(5,none),(15,none),(16,none),(17,none)]
  | 78,5=>some [(0,none),(7,none),(8,none),(41,none),(42,none),(43,none)]
  | 84,3=>some [(0,none),(1,none),(5,none),(26,none),(27,none),(28,none)]
  | 85,5=>some [(0,none),(1,none),(5,none),(6,none),(7,none),(8,none),(45,none),(46,none),(47,none)]
  | 85,13=>some [(0,none),(1,none),(5,none),(6,none),(8,none),(11,none),(75,none),(76,none)]
  | 86,6=>some [(1,none),(2,none),(3,none),(7,none),(9,none),(10,none),(11,none),(12,none),(24,none),(25,none),(26,none)]
  | 87,3=>some [(0,none),(1,none),(2,none),(7,none),(17,none),(18,none)]
  | 88,3=>some [(0,none),(2,none),(3,none),(14,none),(15,none)]
  | 97,2=>some [(0,none),(1,none),(7,none),(8,none)]
  | 100,5=>some [(4,none),(16,none),(17,none),(18,none)]
  | 101,3=>some [(1,none),(4,none),(5,none),(9,none),(10,none),(11,none)]
  | 123,4=>some [(0,none),(4,none),(18,none),(19,none),(20,none)]
  | _,_=>none),
 join:=(fun _ _=>none),
 sig:=(fun f=>match f with
  | 143=>some ⟨[.own 1],[]⟩
  | 126=>some ⟨[.own 1],[]⟩
  | 127=>some ⟨[.own 1],[]⟩
  | 150=>some ⟨[.own 1],[]⟩
  | 151=>some ⟨[.own 1],[]⟩
  | 149=>some ⟨[.own 1, .own 1],[]⟩
  | 128=>some ⟨[.own 1],[]⟩
  | 38=>some ⟨[.new [.f (.i .i64), .t (.l 3), .own 1, .mp false [.i .i64] (.i .i64), .rows 1 0 4, .own 8, .own 4]],[]⟩
  | _=>none),
 bref:=(fun f=>match f with
  | 144=>some [true,false,false]
  | 148=>some [true]
  | 91=>some [true]
  | 115=>some [true]
  | 94=>some [true]
  | 118=>some [true]
  | 125=>some [true]
  | 112=>some [true]
  | 114=>some [true]
  | 110=>some [true]
  | 113=>some [true]
  | 117=>some [true]
  | 71=>some [true]
  | 46=>some [true]
  | 47=>some [true]
  | 48=>some [true]
  | 74=>some [true]
  | 95=>some [true]
  | 138=>some [true,false,false,true]
  | 139=>some [true,false,false,true]
  | 39=>some [true,false]
  | 41=>some [true,false,false]
  | 42=>some [true]
  | 78=>some [true,false,false]
  | 84=>some [true,false,false]
  | 85=>some [true,false,false]
  | 86=>some [true,false,false]
  | 87=>some [true,false,false]
  | 123=>some [true,true,true]
  | 124=>some [false,false,false,true,true,true,true]
  | _=>none),
 deep:=(fun f=>match f with
  | 76=>true
  | 77=>true
  | 79=>true
  | 80=>true
  | 88=>true
  | _=>false),
 app:=(fun d=>match d with
  | some 11=>true
  | some 16=>true
  | _=>false),
 bsig:=(fun f m=>match f with
  | 144=>⟨[.f .b],[.sl 1]⟩
  | 148=>⟨[.ref 0 0],[.box [.f .b, .t (.l 1)]]⟩
  | 91=>⟨[.ref 0 0],[.box [.f .b, .t (.l 1)]]⟩
  | 115=>⟨[.ref 0 0],[.box [.f .b, .t (.l 1)]]⟩
  | 94=>⟨[.ref 0 0],[.box [.f .b, .t (.l 1)]]⟩
  | 118=>⟨[.ref 0 0],[.box [.f .b, .t (.l 1)]]⟩
  | 125=>if m=2 then⟨[.ref 0 0],[.box [.f .b, .t (.l 1)]]⟩ else⟨[.ref 0 0],[.box [.f .b, .t (.l 1)], .dead]⟩
  | 112=>⟨[.ref 0 0],[.box [.f .b, .t (.l 1)]]⟩
  | 114=>if m=4 then⟨[.no],[.box [.f .b, .t (.l 1), .f .b, .t (.l 1)]]⟩ else⟨[.ref 0 0],[.box [.f .b, .t (.l 1)]]⟩
  | 110=>⟨[.ref 0 0],[.box [.f .b, .t (.l 1)]]⟩
  | 113=>⟨[.ref 0 0],[.box [.f .b, .t (.l 1)]]⟩
  | 117=>⟨[.ref 0 0],[.box [.f .b, .t (.l 1)]]⟩
  | 46=>⟨[.ref 0 0],[.box [.f .b, .t (.l 1), .f .b, .t (.l 1)]]⟩
  | 47=>⟨[.ref 0 0],[.box [.f .b, .t (.l 1), .f .b, .t (.l 1)]]⟩
  | 48=>⟨[.ref 0 0],[.box [.f .b, .t (.l 1), .f .b, .t (.l 1)]]⟩
  | 74=>⟨[.ref 0 0],[.box [.f .b, .t (.l 1), .f .b, .t (.l 1)]]⟩
  | 95=>⟨[.ref 0 0],[.box [.f .b, .t (.l 1), .f .b, .t (.l 1)]]⟩
  | 71=>⟨[.ref 0 0],[.box [.f .b, .t (.l 1)]]⟩
  | 138=>⟨[.ref 0 0, .ref 1 0],[.box [.f .b, .t (.l 1)], .box [.f .b, .t (.l 1)]]⟩
  | 139=>⟨[.ref 0 0, .ref 1 0],[.box [.f .b, .t (.l 1)], .box [.f .b, .t (.l 1)]]⟩
  | 39=>⟨[.own 4, .f .b],[.box [.f (.i .i64), .t (.l 3), .same 1, .same 2, .rows 1 0 4, .same 4, .same 5], .sl 1, .mp false [.i .i64] (.i .i64), .dead, .sl 8, .sl 4]⟩
  | 41=>⟨[.t (.l 4), .own 4, .f .b],[.box [.f (.i .i64), .t (.l 3), .same 1, .same 2, .rows 1 0 4, .same 4, .t (.l 4)], .sl 1, .mp false [.i .i64] (.i .i64), .dead, .sl 8, .dead]⟩
  | 42=>⟨[.own 4],[.box [.f (.i .i64), .t (.l 3), .same 1, .same 2, .rows 1 0 4, .same 4, .t (.l 4)], .sl 1, .mp false [.i .i64] (.i .i64), .dead, .sl 8]⟩
  | 78=>⟨[.own 4],[.box [.f (.i .i64), .t (.l 3), .same 1, .same 2, .rows 1 0 4, .same 4, .same 5], .sl 1, .mp false [.i .i64] (.i .i64), .dead, .sl 8, .sl 4]⟩
  | 84=>⟨[],[.box [.f (.i .i64), .t (.l 3), .same 1, .same 2, .rows 1 0 4, .same 4, .same 5], .sl 1, .mp false [.i .i64] (.i .i64), .dead, .sl 8, .sl 4]⟩
  | 85=>⟨[],[.box [.f (.i .i64), .t (.l 3), .same 1, .same 2, .rows 1 0 4, .same 4, .same 5], .sl 1, .mp false [.i .i64] (.i .i64), .dead, .sl 8, .sl 4]⟩
  | 86=>⟨[.f (.i .i64), .agg [.f .b, .f .s, .f .b, .f .s, .f .b, .f .s, .f .b, .f .s], .f .b],[.box [.f (.i .i64), .t (.l 3), .same 1, .same 2, .rows 1 0 4, .same 4, .same 5], .sl 1, .mp false [.i .i64] (.i .i64), .dead, .sl 8, .sl 4]⟩
  | 87=>⟨[.own 4],[.box [.f (.i .i64), .t (.l 3), .same 1, .same 2, .rows 1 0 4, .same 4, .same 5], .sl 1, .mp false [.i .i64] (.i .i64), .dead, .sl 8, .sl 4]⟩
  | 123=>⟨[],[.sl 4, .box [.f (.i .i64)], .box [.same 3], .sl 4]⟩
  | 124=>⟨[],[.box [.ref 4 0], .box [.f .b], .box [.f .b, .f .s, .f .b, .f .s, .f .b, .f .s, .f .b, .f .s], .box [.f (.i .i64)], .box [.f (.i .i64), .t (.l 3), .same 5, .same 6, .rows 1 0 4, .same 8, .same 9], .sl 1, .mp false [.i .i64] (.i .i64), .dead, .sl 8, .sl 4]⟩
  | _=>⟨[],[]⟩),
 wr:=(fun _=>false),
 nst:=(fun d t=>match d,t with
  | some 53,114=>1
  | some 54,114=>3
  | _,_=>0),
 st:=(fun d=>match d with
  | some 50=>true
  | some 30=>true
  | some 37=>true
  | some 103=>true
  | some 34=>true
  | some 67=>true
  | some 93=>true
  | some 127=>true
  | some 129=>true
  | some 78=>true
  | some 49=>true
  | _=>false),
 sx:=(fun d=>match d with
  | some 103=>true
  | some 34=>true
  | some 67=>true
  | some 93=>true
  | some 127=>true
  | some 129=>true
  | _=>false)}
theorem hm:PROG.follows .mixedOrders=true:=by kernel_rfl
noncomputable abbrev nO:Key:=ak PROG 49 true 6 [(0,none),(1,none),(4,none),(5,none)] (0,0)
noncomputable abbrev nP:Key:=ak PROG 90 true 8 [(2,none),(4,none),(5,none)] (0,0)
noncomputable abbrev mf:Key:=ak PROG 52 true 6 [(1,none),(4,none),(21,none),(22,none),(23,none)] (0,0)
noncomputable abbrev nA:Key:=ak PROG 96 true 8 [(4,none),(43,none),(44,none),(45,none)] (0,0)
theorem e7(O:Orc)(er:Bool)(r:JL)(n:Int):stepO PROG ann O (Key.call 49) [Jl 3 er r,I n] []=
 (bif bif decide (n < 0) then true else decide (n > 12) then G0 (O (.call 21) [I 3,I (-1)] []) fun n n_1=>some [Ji n,Ji n_1] else bif decide ((r.length:Int) > 40) then G0 (O (.call 21) [I 2,I 0] []) fun n n_1=>some [Ji n,Ji n_1] else O nO [Jl 3 er r,I n,Jr 0,I 0] [Blk.box [I 0,I 0]]):=by kernel_rfl
theorem e8(O:Orc)(a0 a1:Int):stepO PROG ann O (Key.call 21) [I a0,I a1] []=
 (some [Ji a0,Ji a1]):=by kernel_rfl
theorem wG(O:Orc)(ev0:Bool)(v0:JL)(v1 v5 c0_0 c0_1:Int):stepO PROG ann O nO [Jl 3 ev0 v0,I v1,Jr 0,I v5] (Y9 c0_0 c0_1)=
 (bif decide (v5 < (v0.length:Int)) then G1 v5 v0 fun p n n_1=>G0 (O (.call 90) [AV.agg [Jl 1 p.fst p.snd,I n,I n_1],I v1] []) fun n n_2=>bif !n==0 then G0 (O (.call 21) [I n,I v5] []) fun n n_3=>some [Ji n,Ji n_3] else O nO [Jl 3 ev0 v0,I v1,Jr 0,I (Jw v5)] (Y9 c0_0 c0_1) else some [Ji 0,Ji 0]):=by kernel_rfl
theorem e19(O:Orc)(ea0_0:Bool)(a0_0:JL)(a0_1 a0_2 a1:Int):stepO PROG ann O (Key.call 90) [AV.agg [Jl 1 ea0_0 a0_0,I a0_1,I a0_2],I a1] []=
 (bif bif decide (a1 < 0) then true else decide (a1 > 12) then G0 (O (.call 21) [I 3,I (-1)] []) fun n n_1=>some [Ji n,Ji n_1] else bif bif bif !a0_1==1 then !a0_1==2 else false then !a0_1==3 else false then G0 (O (.call 21) [I 4,I 0] []) fun n n_1=>some [Ji n,Ji n_1] else bif decide ((a0_0.length:Int) > a1) then G0 (O (.call 21) [I 9,I 0] []) fun n n_1=>some [Ji n,Ji n_1] else O nP [Jr 0,Jr 1,I 0] [Blk.box [Jl 1 ea0_0 a0_0,I a0_1,I a0_2],Blk.box [I 0,I 0]]):=by kernel_rfl
theorem uC(O:Orc)(v5 c0_1 c0_2 c1_0 c1_1:Int)(ec0_0:Bool)(c0_0:JL):stepO PROG ann O nP [Jr 0,Jr 1,I v5] [Blk.box [Jl 1 ec0_0 c0_0,I c0_1,I c0_2],Blk.box [I c1_0,I c1_1]]=
 (bif decide (v5 < (c0_0.length:Int)) then G2 v5 c0_0 fun n=>G3 (O (.call 50) [I n] []) fun b=>bif !b then G0 (O (.call 21) [I 3,I v5] []) fun n n_1=>some [Ji n,Ji n_1] else O nP [Jr 0,Jr 1,I (Jw v5)] [Blk.box [Jl 1 ec0_0 c0_0,I c0_1,I c0_2],Blk.box [I c1_0,I c1_1]] else G3 (O (.call 50) [I c0_2] []) fun b=>bif !b then G0 (O (.call 21) [I 3,I (c0_0.length:Int)] []) fun n n_1=>some [Ji n,Ji n_1] else some [Ji 0,Ji 0]):=by kernel_rfl
theorem e43(O:Orc)(a0:Int):stepO PROG ann O (Key.call 50) [I a0] []=
 (some [Jb (bif decide (a0<=1000000) then decide (a0>=(-1000000)) else false)]):=by kernel_rfl
theorem e25(O:Orc)(er:Bool)(r:JL)(n:Int):stepO PROG ann O (Key.call 52) [Jl 3 er r,I n] []=
 (bif bif decide (n < 0) then true else decide (n > 12) then some [Ji 3,Ji (-1)] else bif decide ((r.length:Int) > 40) then some [Ji 2,Ji 0] else O mf [I n,Jr 0,Jl 3 er r,I (r.length:Int),I 0] [Blk.box [I 0,I 0]]):=by kernel_rfl
theorem uM(O:Orc)(v1 v22 v23 c0_0 c0_1:Int)(ev21:Bool)(v21:JL):stepO PROG ann O mf [I v1,Jr 0,Jl 3 ev21 v21,I v22,I v23] (Y9 c0_0 c0_1)=
 (bif decide (v23 < v22) then G1 v23 v21 fun p n n_1=>G0 (O (.call 96) [AV.agg [Jl 1 p.fst p.snd,I n,I n_1],I v1] []) fun n n_2=>bif !n==0 then some [Ji n,Ji v23] else O mf [I v1,Jr 0,Jl 3 ev21 v21,I v22,I (Jw v23)] (Y9 c0_0 c0_1) else some [Ji 0,Ji 0]):=by kernel_rfl
theorem e33(O:Orc)(ea0_0:Bool)(a0_0:JL)(a0_1 a0_2 a1:Int):stepO PROG ann O (Key.call 96) [AV.agg [Jl 1 ea0_0 a0_0,I a0_1,I a0_2],I a1] []=
 (bif bif decide (a1 < 0) then true else decide (a1 > 12) then some [Ji 3,Ji (-1)] else bif bif bif !a0_1==1 then !a0_1==2 else false then !a0_1==3 else false then some [Ji 4,Ji 0] else bif decide ((a0_0.length:Int) > a1) then some [Ji 9,Ji 0] else G4 (O (.call 128) [Jl 1 ea0_0 a0_0] []) fun p=>Jg (aA 8 (p.snd.length+ [[Ji a0_2]].length)) fun x=>O nA [Jr 0,Jo 1,I (↑(p.snd++ [[Ji a0_2]]).length:Int),I 0] [Blk.box [I 0,I 0],Blk.sl false 1 (p.fst && false) (p.snd++ [[Ji a0_2]])]):=by kernel_rfl
theorem e73(O:Orc)(ea0:Bool)(a0:JL):stepO PROG ann O (Key.call 128) [Jl 1 ea0 a0] []=
 (bif ea0 then some [T.emp true] else Jg (aA 8 (0+a0.length)) fun x=>some [T.lst 1 false a0]):=by kernel_rfl
theorem yc(O:Orc)(v44 v45 c0_0 c0_1:Int)(ec1:Bool)(c1:JL):stepO PROG ann O nA [Jr 0,Jo 1,I v44,I v45] [Blk.box [I c0_0,I c0_1],Blk.sl false 1 ec1 c1]=
 (bif decide (v45 < v44) then G2 v45 c1 fun n=>G3 (O (.call 129) [I n] []) fun b=>bif !b then some [Ji 3,Ji v45] else O nA [Jr 0,Jo 1,I v44,I (Jw v45)] [Blk.box [I c0_0,I c0_1],Blk.sl false 1 ec1 c1] else some [Ji 0,Ji 0]):=by kernel_rfl
theorem e74(O:Orc)(a0:Int):stepO PROG ann O (Key.call 129) [I a0] []=
 (some [Jb (bif decide (a0>=(-1000000)) then decide (a0<=1000000) else false)]):=by kernel_rfl
open Go Go.Aev
noncomputable abbrev Or:Orc:=orc PROG ann
abbrev ti(n:Int):T:= .int .i64 n
abbrev tb(b:Bool):T:= .bool b
abbrev o0:AV:=AV.own (Id.c 0)
abbrev o1:AV:=AV.own (Id.c 1)
abbrev r0:AV:=AV.ref (Id.c 0) 0
theorem ar{α:Type}{l:List α}{i:Nat}{r:α}{rest:List α}(h:l.drop i=r::rest):l[i]? =some r/\i < l.length/\l.drop (i+1)=rest:=by
 have hlt:i < l.length:=by
  rcases Nat.lt_or_ge i l.length with g | g
  ·exact g
  ·rw [List.drop_eq_nil_of_le g] at h;cases h
 rw [List.drop_eq_getElem_cons hlt] at h
 simp only [List.cons.injEq] at h
 exact⟨by rw [List.getElem?_eq_getElem hlt,h.1],hlt,h.2⟩
theorem ax{α:Type}{l:List α}{i:Nat}(h:l.drop i= []):l.length<=i:=by simpa using h
def enc(l:List Int):List (List T):=l.map fun r=> [ti r]
theorem aE(l:List Int):(enc l).length=l.length:=by simp [enc]
theorem b9{l:List Int}{i:Nat}{r:Int}(h:l[i]? =some r):(enc l)[((i:Nat):Int).toNat]? =some [ti r]:=by simp [enc,h]
abbrev lst(e:Bool)(l:List Int):AV:=AV.t (T.lst 1 e (enc l))
structure R where
 e:Bool
 of:List Int
 kd:Int
 tv:Int
 deriving Inhabited
def eR(r:R):List T:= [T.lst 1 r.e (enc r.of),ti r.kd,ti r.tv]
def eRs(l:List R):List (List T):=l.map eR
theorem au(l:List R):(eRs l).length=l.length:=by simp [eRs]
theorem aW{l:List R}{i:Nat}{r:R}(h:l[i]? =some r):(eRs l)[((i:Nat):Int).toNat]? =some [T.lst 1 r.e (enc r.of),ti r.kd,ti r.tv]:=by simp [eRs,h,eR]
abbrev LR(e:Bool)(l:List R):AV:=AV.t (T.lst 3 e (eRs l))
theorem next(i:Nat)(h:i<=100000):IntKind.i64.wrap ((i:Int)+1)= ((i+1:Nat):Int):=by rw [wr (by omega)];omega
theorem d9{bs n:Nat}(h:n<=100000):aA bs n=some ():=by unfold aA;rw [if_pos (.inl (by unfold lim;omega))]
theorem c8(a b:Int):(a==b)=decide (a=b):=by by_cases h:a=b <;> simp [h]
theorem vX(a b:Int):mm false a b=min a b:=by simp only [mm,cond_false];split <;> omega
open Go Go.Aev
abbrev fl(p:Int×Int):Option (List T):=some [ti p.1,ti p.2]
theorem s8(a b:Int):Or (.call 21) [I a,I b] []=some [ti a,ti b]:=aa (by rw [e8])
theorem s43(a:Int):Or (.call 50) [I a] []=some [tb (decide (a<=1000000/\a>= -1000000))]:=by
 refine aa ?_
 rw [e43]
 simp only [bh,<-Bool.decide_and]
theorem s74(c:Int):Or (.call 129) [I c] []=some [tb (decide (c>= -1000000/\c<=1000000))]:=by
 refine aa ?_
 rw [e74]
 simp only [bh,<-Bool.decide_and]
theorem Dd(l:List Int)(e:Bool)(he:e=true->l= [])(hl:l.length<=1000):∃x e',Or (.call 128) [lst e l] []=some [x]/\x.lst? 1=some (e',enc l)/\(e'=true->l= []):=by
 cases e with
 | true=>
  obtain rfl:=he rfl
  exact⟨T.emp true,true,aa (by rw [e73];simp only [STL,↓reduceIte,Int.reduceBEq,Int.reduceEq,GD]),by simp [T.lst?,enc],fun _=>rfl⟩
 | false=>
  refine⟨T.lst 1 false (enc l),false,aa ?_,ls1 _ _ _,fun h=>by cases h⟩
  have:aA 8 (0+l.length)=some ():=d9 (by omega)
  rw [e73]
  simp only [STL,↓reduceIte,Int.reduceBEq,Int.reduceEq,GD,aE,this]
theorem s73(l:List Int)(e:Bool)(he:e=true->l= [])(hl:l.length<=1000):∃x e',Or (.call 128) [lst e l] []=some [x]/\x.lst? 1=some (e',enc l):=by
 obtain⟨x,e',a,b,_⟩:=Dd l e he hl
 exact⟨x,e',a,b⟩
def cI:List Int->Nat->Int×Int
 | [],_=>(0,0)
 | x::r,i=>if x>= -1000000/\x<=1000000 then cI r (i+1) else(3,(i:Int))
def cG(n:Nat)(r:R):Int×Int:=
 if(¬r.kd=1/\¬r.kd=2)/\¬r.kd=3 then(4,0) else if r.of.length > n then(9,0) else cI (r.of++ [r.tv]) 0
def c9(n:Nat):List R->Nat->Int×Int
 | [],_=>(0,0)
 | r::rs,i=>if(cG n r).1=0 then c9 n rs (i+1) else((cG n r).1,(i:Int))
def fA(n:Nat)(rows:List R):Int×Int:=if rows.length > 40 then(2,0) else c9 n rows 0
theorem AK(xs:List Int)(e:Bool)(hn:xs.length<=1000):∀(rest:List Int) (i:Nat),xs.drop i=rest->Or nA [r0,o1,I (xs.length:Int),I (i:Int)] [Blk.box [I 0,I 0],Blk.sl false 1 e (enc xs)]=fl (cI rest i):=by
 intro rest
 induction rest with
 | nil=>
  intro i h
  refine aa ?_
  rw [yc]
  have h1:¬(i:Int) < (xs.length:Int):=by have:=ax h;omega
  simp only [STL,↓reduceIte,Int.reduceBEq,Int.reduceEq,GD,h1,cI]
 | cons x rest ih=>
  intro i h
  obtain⟨g1,g2,g3⟩:=ar h
  have h1:(i:Int) < (xs.length:Int):=by omega
  have h0: 0<=(i:Int):=by omega
  refine aa ?_
  rw [yc,cI]
  by_cases hb:x>= -1000000/\x<=1000000
  ·simp only [STL,↓reduceIte,Int.reduceBEq,Int.reduceEq,GD,h1,h0,and_self,aE,b9 g1,s74,hb,decide_true,Bool.not_true,next i (by omega),ih (i+1) g3]
  ·simp only [STL,↓reduceIte,Int.reduceBEq,Int.reduceEq,GD,h1,h0,and_self,aE,b9 g1,s74,hb,decide_false,Bool.not_false]
theorem tz(r:R)(n:Nat)(hn:n<=12)(he:r.e=true->r.of= []):Or (.call 96) [AV.agg [lst r.e r.of,I r.kd,I r.tv],I (n:Int)] []=fl (cG n r):=by
 have h1:¬((n:Int) < 0\/(n:Int) > 12):=by omega
 refine aa ?_
 rw [e33]
 unfold cG
 by_cases hk:(¬r.kd=1/\¬r.kd=2)/\¬r.kd=3
 ·simp only [cor,bh,c8,<-decide_not,<-Bool.decide_or,<-Bool.decide_and]
  simp only [STL,↓reduceIte,Int.reduceBEq,Int.reduceEq,GD,h1,hk,not_false_eq_true,and_self]
 ·rw [if_neg hk]
  by_cases hl:(r.of.length:Int) > (n:Int)
  ·rw [if_pos (by omega)]
   simp only [cor,bh,c8,<-decide_not,<-Bool.decide_or,<-Bool.decide_and]
   simp only [STL,↓reduceIte,Int.reduceBEq,Int.reduceEq,GD,h1,hk,aE,hl]
  ·rw [if_neg (by omega)]
   obtain⟨x,e',k1,k2⟩:=s73 r.of r.e he (by omega)
   have k3:=AK (r.of++ [r.tv]) (e' && false) (by simp;omega) (r.of++ [r.tv]) 0 rfl
   have hap:enc r.of++ [[ti r.tv]]=enc (r.of++ [r.tv]):=by simp [enc]
   have hs:aA 8 (r.of.length+ [[ti r.tv]].length)=some ():=d9 (by simp;omega)
   simp only [Bool.and_false] at k3
   simp only [cor,bh,c8,<-decide_not,<-Bool.decide_or,<-Bool.decide_and]
   simp only [STL,↓reduceIte,Int.reduceBEq,Int.reduceEq,GD,h1,hk,aE,hl,k1,k2,hs,hap]
   exact k3
theorem Dk(of:List Int)(e:Bool)(kd tv:Int)(hn:of.length<=1000):∀(rest:List Int) (i:Nat),of.drop i=rest->i<=of.length->Or nP [r0,AV.ref (Id.c 1) 0,I (i:Int)] [Blk.box [lst e of,I kd,I tv],Blk.box [I 0,I 0]]=fl (cI (rest++ [tv]) i):=by
 intro rest
 induction rest with
 | nil=>
  intro i h hi
  have hle:=ax h
  obtain rfl:i=of.length:=by omega
  have h1:¬(of.length:Int) < (of.length:Int):=by omega
  refine aa ?_
  rw [uC]
  simp only [List.nil_append,cI]
  by_cases ha:tv<=1000000/\tv>= -1000000
  ·have hx:tv>= -1000000/\tv<=1000000:=by omega
   simp only [STL,↓reduceIte,Int.reduceBEq,Int.reduceEq,GD,aE,h1,s43,ha,hx,and_self,decide_true]
  ·have hx:¬(tv>= -1000000/\tv<=1000000):=by omega
   simp only [STL,↓reduceIte,Int.reduceBEq,Int.reduceEq,GD,aE,h1,s43,ha,hx,decide_false,s8]
 | cons x rest ih=>
  intro i h hi
  obtain⟨g1,g2,g3⟩:=ar h
  have h1:(i:Int) < (of.length:Int):=by omega
  have h0: 0<=(i:Int):=by omega
  refine aa ?_
  rw [uC,List.cons_append,cI]
  by_cases ha:x<=1000000/\x>= -1000000
  ·have hx:x>= -1000000/\x<=1000000:=by omega
   simp only [STL,↓reduceIte,Int.reduceBEq,Int.reduceEq,GD,h1,h0,and_self,aE,b9 g1,s43,ha,hx,decide_true,next i (by omega),ih (i+1) g3 (by omega)]
  ·have hx:¬(x>= -1000000/\x<=1000000):=by omega
   simp only [STL,↓reduceIte,Int.reduceBEq,Int.reduceEq,GD,h1,h0,and_self,aE,b9 g1,s43,ha,hx,decide_false,s8]
theorem yA(r:R)(n:Nat)(hn:n<=12):Or (.call 90) [AV.agg [lst r.e r.of,I r.kd,I r.tv],I (n:Int)] []=fl (cG n r):=by
 have h1:¬((n:Int) < 0\/(n:Int) > 12):=by omega
 refine aa ?_
 rw [e19]
 unfold cG
 by_cases hk:(¬r.kd=1/\¬r.kd=2)/\¬r.kd=3
 ·simp only [cor,bh,c8,<-decide_not,<-Bool.decide_or,<-Bool.decide_and]
  simp only [STL,↓reduceIte,Int.reduceBEq,Int.reduceEq,GD,h1,hk,not_false_eq_true,and_self,s8]
 ·rw [if_neg hk]
  by_cases hl:(r.of.length:Int) > (n:Int)
  ·rw [if_pos (by omega)]
   simp only [cor,bh,c8,<-decide_not,<-Bool.decide_or,<-Bool.decide_and]
   simp only [STL,↓reduceIte,Int.reduceBEq,Int.reduceEq,GD,h1,hk,aE,hl,s8]
  ·rw [if_neg (by omega)]
   have k3:=Dk r.of r.e r.kd r.tv (by omega) r.of 0 rfl (by omega)
   simp only [cor,bh,c8,<-decide_not,<-Bool.decide_or,<-Bool.decide_and]
   simp only [STL,↓reduceIte,Int.reduceBEq,Int.reduceEq,GD,h1,hk,aE,hl]
   exact k3
theorem z9(rows:List R)(n:Nat)(e:Bool)(hn:n<=12)(hr:∀r∈rows,r.e=true->r.of= [])(hlen:rows.length<=1000):∀(rest:List R) (i:Nat),rows.drop i=rest->
  Or mf [I (n:Int),r0,LR e rows,I (rows.length:Int),I (i:Int)] [Blk.box [I 0,I 0]]=fl (c9 n rest i):=by
 intro rest
 induction rest with
 | nil=>
  intro i h
  refine aa ?_
  rw [uM]
  have h1:¬(i:Int) < (rows.length:Int):=by have:=ax h;omega
  simp only [STL,↓reduceIte,Int.reduceBEq,Int.reduceEq,GD,h1,c9]
 | cons r rest ih=>
  intro i h
  obtain⟨g1,g2,g3⟩:=ar h
  have h1:(i:Int) < (rows.length:Int):=by omega
  have h0: 0<=(i:Int):=by omega
  have k1:=tz r n hn (hr r (List.mem_of_getElem? g1))
  refine aa ?_
  rw [uM,c9]
  by_cases hc:(cG n r).1=0
  ·rw [if_pos hc]
   simp only [STL,↓reduceIte,Int.reduceBEq,Int.reduceEq,GD,h1,h0,and_self,au,aW g1,k1,hc,next i (by omega),ih (i+1) g3]
  ·rw [if_neg hc]
   simp only [STL,↓reduceIte,Int.reduceBEq,Int.reduceEq,GD,h1,h0,and_self,au,aW g1,k1,hc]
theorem n7x(rows:List R)(n:Nat)(e:Bool)(hn:n<=12)(hlen:rows.length<=1000):∀(rest:List R) (i:Nat),rows.drop i=rest->
  Or nO [LR e rows,I (n:Int),r0,I (i:Int)] [Blk.box [I 0,I 0]]=fl (c9 n rest i):=by
 intro rest
 induction rest with
 | nil=>
  intro i h
  refine aa ?_
  rw [wG]
  have h1:¬(i:Int) < (rows.length:Int):=by have:=ax h;omega
  simp only [STL,↓reduceIte,Int.reduceBEq,Int.reduceEq,GD,au,h1,c9]
 | cons r rest ih=>
  intro i h
  obtain⟨g1,g2,g3⟩:=ar h
  have h1:(i:Int) < (rows.length:Int):=by omega
  have h0: 0<=(i:Int):=by omega
  have k1:=yA r n hn
  refine aa ?_
  rw [wG,c9]
  by_cases hc:(cG n r).1=0
  ·rw [if_pos hc]
   simp only [STL,↓reduceIte,Int.reduceBEq,Int.reduceEq,GD,h1,h0,and_self,au,aW g1,k1,hc,next i (by omega),ih (i+1) g3]
  ·rw [if_neg hc]
   simp only [STL,↓reduceIte,Int.reduceBEq,Int.reduceEq,GD,h1,h0,and_self,au,aW g1,k1,hc,s8]
theorem y5(rows:List R)(n:Nat)(e:Bool)(hn:n<=12)(hr:∀r∈rows,r.e=true->r.of= []):Or (.call 52) [LR e rows,I (n:Int)] []=fl (fA n rows):=by
 have h1:¬((n:Int) < 0\/(n:Int) > 12):=by omega
 refine aa ?_
 rw [e25]
 unfold fA
 simp only [cor,<-Bool.decide_or]
 by_cases h40:(rows.length:Int) > 40
 ·rw [if_pos (by omega)]
  simp only [STL,↓reduceIte,Int.reduceBEq,Int.reduceEq,GD,h1,au,h40]
 ·rw [if_neg (by omega)]
  simp only [STL,↓reduceIte,Int.reduceBEq,Int.reduceEq,GD,h1,au,h40]
  exact z9 rows n e hn hr (by omega) rows 0 rfl
theorem s7x(rows:List R)(n:Nat)(e:Bool)(hn:n<=12):Or (.call 49) [LR e rows,I (n:Int)] []=fl (fA n rows):=by
 have h1:¬((n:Int) < 0\/(n:Int) > 12):=by omega
 refine aa ?_
 rw [e7]
 unfold fA
 simp only [cor,<-Bool.decide_or]
 by_cases h40:(rows.length:Int) > 40
 ·rw [if_pos (by omega)]
  simp only [STL,↓reduceIte,Int.reduceBEq,Int.reduceEq,GD,h1,au,h40,s8]
 ·rw [if_neg (by omega)]
  simp only [STL,↓reduceIte,Int.reduceBEq,Int.reduceEq,GD,h1,au,h40]
  exact n7x rows n e hn (by omega) rows 0 rfl
open Go Go.Aev
def Bd(b:Int)(l:List Int):Prop:= ∀x∈l, -b<=x/\x<=b
theorem uP{lo hi n:Int}(h: 0<=lo/\lo<=hi/\hi<=n):inB lo hi n=some ():=by unfold inB;rw [if_pos h]
theorem fa(a:List Int)(b v:Int)(r:List Int)(i:Nat)(h:a.length=i):(a++b::r).set i v=a++v::r:=by
 subst h;simp
def gl(g:Nat):List Int->Nat
 | []=>g
 | x::l=>gl (Nat.gcd g x.natAbs) l
theorem natAbs_tmod(a b:Int):(a.tmod b).natAbs=a.natAbs % b.natAbs:=Int.natAbs_tmod a b
end Go.Aev.Gen
