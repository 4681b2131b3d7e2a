import Derived.Test.YtcjplcpngagalaaGreatDoorBlastFormQ6
set_option linter.all false
namespace Go.Aev.Gen
open Go Go.Aev Go.IntKind
noncomputable abbrev nn:Key:=bZ ao 15 true 8 [(1,none),(3,none),(5,none),(25,none),(26,none)] (0,0)
noncomputable abbrev oD:Key:=bZ ao 40 true 4 [(0,none),(2,none),(10,none),(11,none),(12,none)] (0,0)
noncomputable abbrev l0:Key:=bZ ao 15 true 18 [(3,none),(5,none),(52,none),(53,none),(54,none)] (0,0)
noncomputable abbrev hZ:Key:=bZ ao 41 true 16 [(1,none),(2,none),(8,none),(9,none),(12,none),(65,none),(66,none),(67,none)] (0,0)
noncomputable abbrev sr:Key:=bZ ao 77 true 2 [(0,none),(7,none),(8,none)] (0,0)
noncomputable abbrev su:Key:=bZ ao 94 true 1 [(0,none),(1,none)] (0,0)
noncomputable abbrev sf:Key:=bZ ao 52 true 4 [(0,none),(1,none),(12,none),(13,none)] (0,0)
theorem sQ(O:ax)(ed:Bool)(d:List (List T))(en:Bool)(nd:List (List T))(eh:Bool)(a:List (List T)):aA ao ann O (Key.call 15) [AV.agg [AV.t (T.ad 3 ed d),AV.t (T.ad 5 en nd),AV.t (T.ad 1 eh a)]] []=
 (aa none (O (Key.call 40) [AV.t (T.ad 3 ed d)] []) λl=>aa none l.head? λx=>aa none (T.int? i64 x) λn=>aa none l.tail.head? λx=>aa none (T.int? i64 x) λb=>bif !n== (0:Int)
 then some [T.af true,T.int i64 n,T.int i64 b] else bif decide ((↑nd.length:Int) > (200:Int)) then some [T.af true,T.int i64 (2:Int),T.int i64 (0:Int)] else O nn [AV.ref
 (Id.c 0) 0,AV.ref (Id.c 1) 0,AV.t (T.af true),I (↑nd.length:Int),I (0:Int)] [ab.box [AV.t (T.ad 3 ed d),AV.t (T.ad 5 en nd),AV.t (T.ad 1 eh a)],ab.box [I (0:Int),I (0:Int)]]):=by kernel_rfl
theorem Af(O:ax)(b:Bool)(a:List (List T)):aA ao ann O (Key.call 40) [(AV.t (T.ad 3 b a))] []=
 (bif decide ((↑a.length:Int) > (30:Int)) then some [T.int i64 (2:Int),T.int i64 (0:Int)] else O oD [AV.t (T.ad 3 b a),AV.ref (Id.c 0) 0,AV.t (T.ad 3 b a),I (↑a.length:Int),I (0:
 Int)] [ab.box [I (0:Int),I (0:Int)]]):=by kernel_rfl
theorem qC(O:ax)(k:Bool)(m:Int)(f:Int)(d:Bool)(g:List (List T))(e:Bool)(h:List (List T))(b:Bool)(a:List (List T))(i:Int)(j:Int):aA ao ann O nn [(AV.ref (Id.c 0) 0),(AV.ref (Id.c 1) 0),(AV.t (T.af k)),(I m),(I f)] [(ab.box [(AV.t (T.ad 3 d g)),(AV.t (T.ad 5 e h)),(AV.t (T.ad 1 b a))]),(ab.box [(I i),(I j)])]=
 (bif decide (f < m) then aa none (O (Key.call 41) [AV.agg [AV.t (T.ad 3 d g),AV.t (T.ad 5 e h),AV.t (T.ad 1 b a)],I f,AV.t (T.ad 1 k [])] []) λl=>aa none l.head? λx=>aa
 none (T.int? i64 x) λn=>aa none l.tail.head? λx=>aa none (T.int? i64 x) λo=>bif !o== (0:Int) then some [T.af true,T.int i64 o,T.int i64 f] else O nn
 [AV.ref (Id.c 0) 0,AV.ref (Id.c 1) 0,AV.own (Id.c 2),I m,I (i64.wrap (f+ (1:Int)))] [ab.box [AV.t (T.ad 3 d g),AV.t (T.ad 5 e h),AV.t (T.ad 1 b a)],ab.box [I i,I j],
 ab.sl false 1 (k && false) [[T.int i64 n]]] else bif decide ((↑a.length:Int) > (200:Int)) then some [T.af true,T.int i64 (2:Int),T.int i64 (0:Int)] else O l0 [AV.ref (Id.c 0)
 0,AV.t (T.af k),AV.t (T.ad 1 b a),I (↑a.length:Int),I (0:Int)] [ab.box [I i,I j]]):=by kernel_rfl
theorem mj(O:ax)(h:Bool)(j:List (List T))(g:Bool)(d:List (List T))(i:Int)(a:Int)(e:Int)(f:Int):aA ao ann O oD [(AV.t (T.ad 3 h j)),(AV.ref (Id.c 0) 0),(AV.t (T.ad 3 g d)),(I i),(I a)] [(ab.box [(I e),(I f)])]=
 (bif decide (a < i) then aa none (if(0:Int)<=a/\a < (↑d.length:Int) then some () else none) λx=>aa none d[a.toNat]? λl=>aa none l.head? λx=>aa none l.tail.head? λk=>aa none
 l.tail.tail.head? λm=>aa none x.a8 λs=>aa none (T.au 1 k) λp=>aa none (T.int? i64 m) λn=>aa none (O (Key.call 77) [AV.t (T.str s)] []) λl=>aa none l.head? λx=>aa none
 x.bool? λb=>bif !b then some [T.int i64 (12:Int),T.int i64 a] else aa none (eZ (0:Int) a (↑j.length:Int)) λx=>aa none (O (Key.call 55) [AV.t (T.ad 3 h (sub (0:Int) a j)),
 AV.fn 78 [] [AV.t (T.ptr [T.str s,T.ad 1 p.fst p.snd,T.int i64 n])]] []) λl=>aa none l.head? λx=>aa none x.bool? λb=>bif b then some [T.int i64 (7:Int),T.int i64 a] else
 bif decide ((↑p.snd.length:Int) > (8:Int)) then some [T.int i64 (9:Int),T.int i64 a] else aa none (O (Key.call 79) [I n] []) λl=>aa none l.head? λx=>aa none x.bool? λb=>bif !b
 then bif !b then some [T.int i64 (4:Int),T.int i64 a] else O oD [AV.t (T.ad 3 h j),AV.ref (Id.c 0) 0,AV.t (T.ad 3 g d),I i,I (i64.wrap (a+ (1:Int)))] [ab.box [I e,
 I f]] else aa none (O (Key.call 48) [AV.t (T.ad 1 p.fst p.snd),AV.fn 80 [] []] []) λl=>aa none l.head? λx=>aa none x.bool? λb=>bif b then bif b then some [T.int i64 (4:Int),T.int
 i64 a] else O oD [AV.t (T.ad 3 h j),AV.ref (Id.c 0) 0,AV.t (T.ad 3 g d),I i,AV.t (T.int i64 (i64.wrap (a+ (1:Int))))] [ab.box [I e,I f]] else bif bif n== (5:
 Int) then decide ((↑p.snd.length:Int) > (0:Int)) else false then some [T.int i64 (4:Int),T.int i64 a] else O oD [AV.t (T.ad 3 h j),AV.ref (Id.c 0) 0,AV.t (T.ad 3 g d),I i,AV.t
 (T.int i64 (i64.wrap (a+ (1:Int))))] [ab.box [I e,I f]] else some [T.int i64 (0:Int),T.int i64 (0:Int)]):=by kernel_rfl
theorem oV(O:ax)(d:Bool)(a:List (List T))(e:Bool)(b:List (List T))(f:Bool)(i:List (List T))(h:Int)(j:Bool)(r:List (List T)):aA ao ann O (Key.call 41) [(AV.agg [(AV.t (T.ad 3 d a)),(AV.t (T.ad 5 e b)),(AV.t (T.ad 1 f i))]),(I h),(AV.t (T.ad 1 j r))] []=
 (aa none (if(0:Int)<=h/\h < (↑b.length:Int) then some () else none) λx=>aa none b[h.toNat]? λl=>aa none l.head? λx=>aa none l.tail.head? λw=>aa none l.tail.tail.head? λy=>
 aa none l.tail.tail.tail.head? λz=>aa none l.tail.tail.tail.tail.head? λA=>aa none (T.int? i64 x) λn=>aa none (T.au 1 w) λp=>aa none (T.int? i64 y) λm=>aa none
 (T.int? i64 z) λo=>aa none A.a8 λs=>bif bif decide (n < (1:Int)) then true else decide (n > (25:Int)) then some [T.int i64 (0:Int),T.int i64 (4:Int)] else aa none (O
 (Key.call 81) [I n] []) λl=>aa none l.head? λx=>aa none (T.int? i64 x) λq=>bif n== (9:Int) then aa none (O (Key.call 62) [AV.agg [AV.t (T.ad 3 d a),AV.t (T.ad 5 e b),AV.t
 (T.ad 1 f i)],AV.t (T.str s)] []) λl=>aa none l.head? λx=>aa none (T.int? i64 x) λg=>bif decide (g < (0:Int)) then some [T.int i64 (0:Int),T.int i64 (6:Int)]
 else aa none (if(0:Int)<=g/\g < (↑a.length:Int) then some () else none) λx=>aa none a[g.toNat]? λl=>aa none l.head? λx=>aa none l.tail.head? λB=>aa none l.tail.tail.head? fun
 C=>aa none x.a8 λv=>aa none (T.au 1 B) λk=>aa none (T.int? i64 C) λu=>bif bif !(↑p.snd.length:Int)== (↑k.snd.length:Int) then true else decide ((↑p.snd.length:Int) > (8
 :Int)) then some [T.int i64 (0:Int),T.int i64 (9:Int)] else O hZ [I h,AV.t (T.ad 1 j r),AV.ref (Id.c 0) 0,AV.ref (Id.c 1) 0,AV.t (T.af true),AV.t (T.ad 1 p.fst p.snd),I
 (↑p.snd.length:Int),I (0:Int)] [ab.box [I n,AV.t (T.ad 1 p.fst p.snd),I m,I o,AV.t (T.str s)],ab.box [AV.t (T.str v),AV.t (T.ad 1 k.fst k.snd),I u]] else bif bif bif decide (q>=(0:Int))
 then !(↑p.snd.length:Int)==q else false then true else decide ((↑p.snd.length:Int) > (8:Int)) then some [T.int i64 (0:Int),T.int i64 (9:Int)] else O hZ [I h,AV.t (T.ad 1 j r),
 AV.ref (Id.c 0) 0,AV.ref (Id.c 1) 0,AV.t (T.af true),AV.t (T.ad 1 p.fst p.snd),I (↑p.snd.length:Int),I (0:Int)] [ab.box [I n,AV.t (T.ad 1 p.fst p.snd),I m,I o,AV.t (T.str s)],ab.box [AV.t (T.str
 (ByteArray.mk #[])),AV.t (T.af true),I (0:Int)]]):=by kernel_rfl
theorem qD(O:ax)(o:Int)(f:Int)(d:Bool)(g:List (List T))(e:Bool)(h:List (List T))(b:Bool)(a:List (List T))(i:Int)(j:Int)(k:Bool)(m:List (List T)):aA ao ann O nn [(AV.ref (Id.c 0) 0),(AV.ref (Id.c 1) 0),(AV.own (Id.c 2)),(I o),(I f)] [(ab.box [(AV.t (T.ad 3 d g)),(AV.t (T.ad 5 e h)),(AV.t (T.ad 1 b a))]),(ab.box [(I i),(I j)]),(ab.sl false 1 k m)]=
 (bif decide (f < o) then aa none (O (Key.call 41) [AV.agg [AV.t (T.ad 3 d g),AV.t (T.ad 5 e h),AV.t (T.ad 1 b a)],I f,AV.t (T.ad 1 k m)] []) λl=>aa none l.head? λx=>aa
 none (T.int? i64 x) λn=>aa none l.tail.head? λx=>aa none (T.int? i64 x) λp=>bif !p== (0:Int) then some [T.af true,T.int i64 p,T.int i64 f] else aa none
 (bp 8 (m.length+ [[T.int i64 n]].length)) λx=>O nn [AV.ref (Id.c 0) 0,AV.ref (Id.c 1) 0,AV.own (Id.c 2),I o,I (i64.wrap (f+ (1:Int)))] [ab.box [AV.t (T.ad 3 d g),AV.t
 (T.ad 5 e h),AV.t (T.ad 1 b a)],ab.box [I i,I j],ab.sl false 1 (k && false) (m++ [[T.int i64 n]])] else bif decide ((↑a.length:Int) > (200:Int)) then some [T.af true,T.int
 i64 (2:Int),T.int i64 (0:Int)] else O l0 [AV.ref (Id.c 0) 0,AV.own (Id.c 1),AV.t (T.ad 1 b a),I (↑a.length:Int),I (0:Int)] [ab.box [I i,I j],ab.sl false 1 k m]):=by kernel_rfl
theorem zE(O:ax)(d:Bool)(h:Bool)(b:List (List T))(e:Int)(a:Int)(f:Int)(g:Int):aA ao ann O l0 [(AV.ref (Id.c 0) 0),(AV.t (T.af d)),(AV.t (T.ad 1 h b)),(I e),(I a)] [(ab.box [(I f),(I g)])]=
 (bif decide (a < e) then aa none (if(0:Int)<=a/\a < (↑b.length:Int) then some () else none) λx=>aa none b[a.toNat]? λl=>aa none l.head? λx=>aa none (T.int? i64 x) λn=>
 bif bif decide (n < (0:Int)) then true else decide (n>=(↑0:Int)) then some [T.af true,T.int i64 (3:Int),T.int i64 a] else aa none (if(0:Int)<=n/\n < (↑(0:Nat):Int) then some () else
 none) λx=>none else some [T.af d,T.int i64 (0:Int),T.int i64 (0:Int)]):=by kernel_rfl
theorem GY(O:ax)(a:ByteArray):aA ao ann O (Key.call 77) [(AV.t (T.str a))] []=
 (O sr [AV.t (T.str a),I (↑a.size:Int),I (0:Int)] []):=by kernel_rfl
theorem Gv(O:ax)(e:Bool)(f:List (List T))(b:ByteArray)(a:Bool)(c:List (List T))(d:Int):aA ao ann O (Key.call 55) [(AV.t (T.ad 3 e f)),(AV.fn 78 [] [(AV.t (T.ptr [(T.str b),(T.ad 1 a c),(T.int i64 d)]))])] []=
 (aa none (O (Key.call 89) [AV.t (T.ad 3 e f),AV.fn 78 [] [AV.t (T.ptr [T.str b,T.ad 1 a c,T.int i64 d])]] []) λl=>aa none l.head? λx=>aa none (T.int? i64 x) λn=>
 some [T.bool (decide (n>=(0:Int)))]):=by kernel_rfl
theorem G0(O:ax)(a:Int):aA ao ann O (Key.call 79) [(I a)] []=
 (aa none (dL (some !bif decide (a>=(1:Int)) then decide (a<=(5:Int)) else false) (O (Key.call 21) [I a] [])) λl=>aa (some !bif decide (a>=(1:Int)) then decide (a<=(5:Int)) else false) l.head? fun
 x=>aa (some !bif decide (a>=(1:Int)) then decide (a<=(5:Int)) else false) x.bool? λb=>some [T.bool (bif bif decide (a>=(1:Int)) then decide (a<=(5:Int)) else false then true else b)]):=by kernel_rfl
theorem Gp(O:ax)(a:Bool)(b:List (List T)):aA ao ann O (Key.call 48) [(AV.t (T.ad 1 a b)),(AV.fn 80 [] [])] []=
 (aa none (O (Key.call 86) [AV.t (T.ad 1 a b),AV.fn 80 [] []] []) λl=>aa none l.head? λx=>aa none (T.int? i64 x) λn=>some [T.bool (decide (n>=(0:Int)))]):=by kernel_rfl
theorem oW(O:ax)(w:Int)(v:Bool)(u:List (List T))(p:Bool)(r:Bool)(q:List (List T))(s:Int)(i:Int)(d:Int)(a:Bool)(e:List (List T))(f:Int)(g:Int)(h:ByteArray)(k:ByteArray)(j:Bool)(m:List (List T))(o:Int):aA ao ann O hZ [(I w),(AV.t (T.ad 1 v u)),(AV.ref (Id.c 0) 0),(AV.ref (Id.c 1) 0),(AV.t (T.af p)),(AV.t (T.ad 1 r q)),(I s),(I i)] [(ab.box [(I d),(AV.t (T.ad 1 a e)),(I f),(I g),(AV.t (T.str h))]),(ab.box [(AV.t (T.str k)),(AV.t (T.ad 1 j m)),(I o)])]=
 (bif decide (i < s) then aa none (if(0:Int)<=i/\i < (↑q.length:Int) then some () else none) λx=>aa none q[i.toNat]? λl=>aa none l.head? λx=>aa none (T.int? i64 x) λn=>
 bif bif decide (n < (0:Int)) then true else decide (n>=w) then some [T.int i64 (0:Int),T.int i64 (3:Int)] else aa none (if(0:Int)<=n/\n < (↑u.length:Int) then some () else none) λx=>
 aa none u[n.toNat]? λl=>aa none l.head? λx=>aa none (T.int? i64 x) λn=>O hZ [I w,AV.t (T.ad 1 v u),AV.ref (Id.c 0) 0,AV.ref (Id.c 1) 0,AV.own (Id.c 2),AV.t (T.ad 1 r q),I
 s,I (i64.wrap (i+ (1:Int)))] [ab.box [I d,AV.t (T.ad 1 a e),I f,I g,AV.t (T.str h)],ab.box [AV.t (T.str k),AV.t (T.ad 1 j m),I o],ab.sl false 1 (p && false)
 [[T.int i64 n]]] else aa none (O (Key.call 82) [AV.agg [I d,AV.t (T.ad 1 a e),I f,I g,AV.t (T.str h)]] []) λl=>aa none l.head? λx=>aa none x.bool? λb=>bif !b then some
 [T.int i64 (0:Int),T.int i64 (5:Int)] else aa none (O (Key.call 83) [AV.agg [I d,AV.t (T.ad 1 a e),I f,I g,AV.t (T.str h)]] []) λl=>aa none l.head? λx=>aa none
 x.bool? λb=>bif !b then some [T.int i64 (0:Int),T.int i64 (3:Int)] else aa none (O (Key.call 84) [AV.agg [I d,AV.t (T.ad 1 a e),I f,I g,AV.t (T.str h)],AV.t (T.ad 1
 p []),AV.agg [AV.t (T.str k),AV.t (T.ad 1 j m),I o]] []) λl=>aa none l.head? λx=>aa none (T.int? i64 x) λn=>bif n== (0:Int) then some [T.int i64 (0:Int),T.int
 i64 (8:Int)] else some [T.int i64 n,T.int i64 (0:Int)]):=by kernel_rfl
theorem oX(O:ax)(v:Int)(u:Bool)(s:List (List T))(o:Bool)(q:Bool)(p:List (List T))(r:Int)(i:Int)(d:Int)(a:Bool)(e:List (List T))(f:Int)(g:Int)(h:ByteArray)(k:ByteArray)(j:Bool)(m:Int):aA ao ann O hZ [(I v),(AV.t (T.ad 1 u s)),(AV.ref (Id.c 0) 0),(AV.ref (Id.c 1) 0),(AV.t (T.af o)),(AV.t (T.ad 1 q p)),(I r),(I i)] [(ab.box [(I d),(AV.t (T.ad 1 a e)),(I f),(I g),(AV.t (T.str h))]),(ab.box [(AV.t (T.str k)),(AV.t (T.af j)),(I m)])]=
 (bif decide (i < r) then aa none (if(0:Int)<=i/\i < (↑p.length:Int) then some () else none) λx=>aa none p[i.toNat]? λl=>aa none l.head? λx=>aa none (T.int? i64 x) λn=>
 bif bif decide (n < (0:Int)) then true else decide (n>=v) then some [T.int i64 (0:Int),T.int i64 (3:Int)] else aa none (if(0:Int)<=n/\n < (↑s.length:Int) then some () else none) λx=>
 aa none s[n.toNat]? λl=>aa none l.head? λx=>aa none (T.int? i64 x) λn=>O hZ [I v,AV.t (T.ad 1 u s),AV.ref (Id.c 0) 0,AV.ref (Id.c 1) 0,AV.own (Id.c 2),AV.t (T.ad 1 q p),I
 r,I (i64.wrap (i+ (1:Int)))] [ab.box [I d,AV.t (T.ad 1 a e),I f,I g,AV.t (T.str h)],ab.box [AV.t (T.str k),AV.t (T.af j),I m],ab.sl false 1 (o && false) [[T.int
 i64 n]]] else aa none (O (Key.call 82) [AV.agg [I d,AV.t (T.ad 1 a e),I f,I g,AV.t (T.str h)]] []) λl=>aa none l.head? λx=>aa none x.bool? λb=>bif !b then some [T.int
 i64 (0:Int),T.int i64 (5:Int)] else aa none (O (Key.call 83) [AV.agg [I d,AV.t (T.ad 1 a e),I f,I g,AV.t (T.str h)]] []) λl=>aa none l.head? λx=>aa none x.bool?
 λb=>bif !b then some [T.int i64 (0:Int),T.int i64 (3:Int)] else aa none (O (Key.call 84) [AV.agg [I d,AV.t (T.ad 1 a e),I f,I g,AV.t (T.str h)],AV.t (T.ad 1 o []),
 AV.agg [AV.t (T.str k),AV.t (T.ad 1 j []),I m]] []) λl=>aa none l.head? λx=>aa none (T.int? i64 x) λn=>bif n== (0:Int) then some [T.int i64 (0:Int),T.int i64 (8
 :Int)] else some [T.int i64 n,T.int i64 (0:Int)]):=by kernel_rfl
theorem sR(O:ax)(h:Bool)(b:List (List T))(i:Int)(a:Int)(e:Int)(f:Int)(g:Bool)(d:List (List T)):aA ao ann O l0 [(AV.ref (Id.c 0) 0),(AV.own (Id.c 1)),(AV.t (T.ad 1 h b)),(I i),(I a)] [(ab.box [(I e),(I f)]),(ab.sl false 1 g d)]=
 (bif decide (a < i) then aa none (if(0:Int)<=a/\a < (↑b.length:Int) then some () else none) λx=>aa none b[a.toNat]? λl=>aa none l.head? λx=>aa none (T.int? i64 x) λn=>
 bif bif decide (n < (0:Int)) then true else decide (n>=(↑d.length:Int)) then some [T.af true,T.int i64 (3:Int),T.int i64 a] else aa none (if(0:Int)<=n/\n < (↑d.length:Int) then some
 () else none) λx=>aa none d[n.toNat]? λl=>aa none l.head? λx=>aa none (T.int? i64 x) λn=>bif !n== (1:Int) then some [T.af true,T.int i64 (8:Int),T.int i64 a] else
 O l0 [AV.ref (Id.c 0) 0,AV.own (Id.c 1),AV.t (T.ad 1 h b),I i,I (i64.wrap (a+ (1:Int)))] [ab.box [I e,I f],ab.sl false 1 g d] else some [T.ad 1 g d,T.int i64 (0:
 Int),T.int i64 (0:Int)]):=by kernel_rfl
theorem Az(O:ax)(b:ByteArray)(c:Int)(a:Int):aA ao ann O sr [(AV.t (T.str b)),(I c),(I a)] []=
 (bif decide (a < c) then aa none (if(0:Int)<=a/\a < (↑b.size:Int) then some () else none) λx=>aa none b.data.toList[a.toNat]? λx=>bif bif !bif bif (↑x.toNat:Int)== (95:Int) then true else bif
 decide ((↑x.toNat:Int)>=(97:Int)) then decide ((↑x.toNat:Int)<=(122:Int)) else false then true else bif decide ((↑x.toNat:Int)>=(65:Int)) then decide ((↑x.toNat:Int)<=(90:Int)) else false then bif bif
 a== (0:Int) then true else decide ((↑x.toNat:Int) < (48:Int)) then true else decide ((↑x.toNat:Int) > (57:Int)) else false then some [T.bool false] else O sr [AV.t (T.str b),I c,I (i64.wrap (a
 + (1:Int)))] [] else some [T.bool (bif decide ((↑b.size:Int)>=(1:Int)) then decide ((↑b.size:Int)<=(12:Int)) else false)]):=by kernel_rfl
theorem Hp(O:ax)(e:Bool)(f:List (List T))(b:ByteArray)(a:Bool)(c:List (List T))(d:Int):aA ao ann O (Key.call 89) [(AV.t (T.ad 3 e f)),(AV.fn 78 [] [(AV.t (T.ptr [(T.str b),(T.ad 1 a c),(T.int i64 d)]))])] []=
 (O fX [AV.t (T.ad 3 e f),AV.fn 78 [] [AV.t (T.ptr [T.str b,T.ad 1 a c,T.int i64 d])],I (↑f.length:Int),I (0:Int)] []):=by kernel_rfl
theorem Hj(O:ax)(a:Bool)(b:List (List T)):aA ao ann O (Key.call 86) [(AV.t (T.ad 1 a b)),(AV.fn 80 [] [])] []=
 (O ff [AV.t (T.ad 1 a b),AV.fn 80 [] [],I (↑b.length:Int),I (0:Int)] []):=by kernel_rfl
theorem oY(O:ax)(y:Int)(w:Bool)(v:List (List T))(r:Bool)(p:List (List T))(s:Int)(i:Int)(d:Int)(a:Bool)(e:List (List T))(f:Int)(g:Int)(h:ByteArray)(k:ByteArray)(j:Bool)(m:List (List T))(o:Int)(q:Bool)(u:List (List T)):aA ao ann O hZ [(I y),(AV.t (T.ad 1 w v)),(AV.ref (Id.c 0) 0),(AV.ref (Id.c 1) 0),(AV.own (Id.c 2)),(AV.t (T.ad 1 r p)),(I s),(I i)] [(ab.box [(I d),(AV.t (T.ad 1 a e)),(I f),(I g),(AV.t (T.str h))]),(ab.box [(AV.t (T.str k)),(AV.t (T.ad 1 j m)),(I o)]),(ab.sl false 1 q u)]=
 (bif decide (i < s) then aa none (if(0:Int)<=i/\i < (↑p.length:Int) then some () else none) λx=>aa none p[i.toNat]? λl=>aa none l.head? λx=>aa none (T.int? i64 x) λn=>
 bif bif decide (n < (0:Int)) then true else decide (n>=y) then some [T.int i64 (0:Int),T.int i64 (3:Int)] else aa none (if(0:Int)<=n/\n < (↑v.length:Int) then some () else none) λx=>
 aa none v[n.toNat]? λl=>aa none l.head? λx=>aa none (T.int? i64 x) λn=>aa none (bp 8 (u.length+ [[T.int i64 n]].length)) λx=>O hZ [I y,AV.t (T.ad 1 w v),AV.ref
 (Id.c 0) 0,AV.ref (Id.c 1) 0,AV.own (Id.c 2),AV.t (T.ad 1 r p),I s,I (i64.wrap (i+ (1:Int)))] [ab.box [I d,AV.t (T.ad 1 a e),I f,I g,AV.t (T.str h)],ab.box [AV.t (T.str
 k),AV.t (T.ad 1 j m),I o],ab.sl false 1 (q && false) (u++ [[T.int i64 n]])] else aa none (O (Key.call 82) [AV.agg [I d,AV.t (T.ad 1 a e),I f,I g,AV.t (T.str h)]] [])
 λl=>aa none l.head? λx=>aa none x.bool? λb=>bif !b then some [T.int i64 (0:Int),T.int i64 (5:Int)] else aa none (O (Key.call 83) [AV.agg [I d,AV.t (T.ad 1 a e),I f,I
 g,AV.t (T.str h)]] []) λl=>aa none l.head? λx=>aa none x.bool? λb=>bif !b then some [T.int i64 (0:Int),T.int i64 (3:Int)] else aa none (O (Key.call 84) [AV.agg [I d,AV.t
 (T.ad 1 a e),I f,I g,AV.t (T.str h)],AV.t (T.ad 1 q u),AV.agg [AV.t (T.str k),AV.t (T.ad 1 j m),I o]] []) λl=>aa none l.head? λx=>aa none (T.int? i64 x) λn
 =>bif n== (0:Int) then some [T.int i64 (0:Int),T.int i64 (8:Int)] else some [T.int i64 n,T.int i64 (0:Int)]):=by kernel_rfl
theorem G2(O:ax)(a:Int)(e:Bool)(f:List (List T))(b:Int)(c:Int)(d:ByteArray):aA ao ann O (Key.call 82) [(AV.agg [(I a),(AV.t (T.ad 1 e f)),(I b),(I c),(AV.t (T.str d))])] []=
 (some [T.bool (bif bif bif d.toList== (ByteArray.mk #[]).toList then true else a== (9:Int) then bif bif b== (0:Int) then true else bif bif a== (10:Int) then true else a== (12:Int) then true else
 a== (15:Int) then true else a== (23:Int) else false then bif c== (0:Int) then true else bif bif a== (10:Int) then true else a== (12:Int) then true else a== (15:Int) else false)]):=by kernel_rfl
theorem mn(O:ax)(c:Int)(d:Bool)(e:List (List T))(b:Int)(a:Int)(f:ByteArray):aA ao ann O (Key.call 83) [(AV.agg [(I c),(AV.t (T.ad 1 d e)),(I b),(I a),(AV.t (T.str f))])] []=
 (bif c== (10:Int) then bif c== (10:Int) then aa none (dL (some (bif bif bif decide (b>=(-1000000:Int)) then decide (b<=(1000000:Int)) else false then decide (a>=(1:Int)) else false then
 decide (a<=(1000000:Int)) else false)) (O (Key.call 94) [I b,I a] [])) λl=>aa (some (bif bif bif decide (b>=(-1000000:Int)) then decide (b<=(1000000:Int)) else false then decide (a>=(1:
 Int)) else false then decide (a<=(1000000:Int)) else false)) l.head? λx=>aa (some (bif bif bif decide (b>=(-1000000:Int)) then decide (b<=(1000000:Int)) else false then decide (a>=(1:Int))
 else false then decide (a<=(1000000:Int)) else false)) (T.int? i64 x) λn=>some [T.bool (bif bif bif bif decide (b>=(-1000000:Int)) then decide (b<=(1000000:Int)) else false then decide (a
 >=(1:Int)) else false then decide (a<=(1000000:Int)) else false then n== (1:Int) else false)] else bif c== (15:Int) then aa (some (bif bif decide (a>=(1:Int)) then decide (a<=(8:Int)) else
 false then decide (b>=(0:Int)) else false)) (if a < (0:Int) then none else some ()) λx=>some [T.bool (bif bif bif decide (a>=(1:Int)) then decide (a<=(8:Int)) else false then decide (b>=(0
 :Int)) else false then decide (b < i64.wrap ((1:Int) * (2:Int) ^ min a.toNat 64)) else false)] else bif c== (23:Int) then some [T.bool (bif decide (b>=(0:Int)) then decide (b<=(8:Int))
 else false)] else some [T.bool true] else bif c== (12:Int) then aa none (dL (some (bif bif bif decide (b>=(-1000000:Int)) then decide (b<=(1000000:Int)) else false then decide (a>=(1:Int)) else
 false then decide (a<=(1000000:Int)) else false)) (O (Key.call 94) [I b,I a] [])) λl=>aa (some (bif bif bif decide (b>=(-1000000:Int)) then decide (b<=(1000000:Int)) else false then decide
 (a>=(1:Int)) else false then decide (a<=(1000000:Int)) else false)) l.head? λx=>aa (some (bif bif bif decide (b>=(-1000000:Int)) then decide (b<=(1000000:Int)) else false then decide (a>=
 (1:Int)) else false then decide (a<=(1000000:Int)) else false)) (T.int? i64 x) λn=>some [T.bool (bif bif bif bif decide (b>=(-1000000:Int)) then decide (b<=(1000000:Int)) else false then
 decide (a>=(1:Int)) else false then decide (a<=(1000000:Int)) else false then n== (1:Int) else false)] else bif c== (15:Int) then aa (some (bif bif decide (a>=(1:Int)) then decide (a<=(8:
 Int)) else false then decide (b>=(0:Int)) else false)) (if a < (0:Int) then none else some ()) λx=>some [T.bool (bif bif bif decide (a>=(1:Int)) then decide (a<=(8:Int)) else false then decide
 (b>=(0:Int)) else false then decide (b < i64.wrap ((1:Int) * (2:Int) ^ min a.toNat 64)) else false)] else bif c== (23:Int) then some [T.bool (bif decide (b>=(0:Int)) then decide (b<=
 (8:Int)) else false)] else some [T.bool true]):=by kernel_rfl
theorem oZ(O:ax)(w:Int)(v:Bool)(u:List (List T))(q:Bool)(o:List (List T))(r:Int)(i:Int)(d:Int)(a:Bool)(e:List (List T))(f:Int)(g:Int)(h:ByteArray)(k:ByteArray)(j:Bool)(m:Int)(p:Bool)(s:List (List T)):aA ao ann O hZ [(I w),(AV.t (T.ad 1 v u)),(AV.ref (Id.c 0) 0),(AV.ref (Id.c 1) 0),(AV.own (Id.c 2)),(AV.t (T.ad 1 q o)),(I r),(I i)] [(ab.box [(I d),(AV.t (T.ad 1 a e)),(I f),(I g),(AV.t (T.str h))]),(ab.box [(AV.t (T.str k)),(AV.t (T.af j)),(I m)]),(ab.sl false 1 p s)]=
 (bif decide (i < r) then aa none (if(0:Int)<=i/\i < (↑o.length:Int) then some () else none) λx=>aa none o[i.toNat]? λl=>aa none l.head? λx=>aa none (T.int? i64 x) λn=>
 bif bif decide (n < (0:Int)) then true else decide (n>=w) then some [T.int i64 (0:Int),T.int i64 (3:Int)] else aa none (if(0:Int)<=n/\n < (↑u.length:Int) then some () else none) λx=>
 aa none u[n.toNat]? λl=>aa none l.head? λx=>aa none (T.int? i64 x) λn=>aa none (bp 8 (s.length+ [[T.int i64 n]].length)) λx=>O hZ [I w,AV.t (T.ad 1 v u),AV.ref
 (Id.c 0) 0,AV.ref (Id.c 1) 0,AV.own (Id.c 2),AV.t (T.ad 1 q o),I r,I (i64.wrap (i+ (1:Int)))] [ab.box [I d,AV.t (T.ad 1 a e),I f,I g,AV.t (T.str h)],ab.box [AV.t (T.str
 k),AV.t (T.af j),I m],ab.sl false 1 (p && false) (s++ [[T.int i64 n]])] else aa none (O (Key.call 82) [AV.agg [I d,AV.t (T.ad 1 a e),I f,I g,AV.t (T.str h)]] []) λl
 =>aa none l.head? λx=>aa none x.bool? λb=>bif !b then some [T.int i64 (0:Int),T.int i64 (5:Int)] else aa none (O (Key.call 83) [AV.agg [I d,AV.t (T.ad 1 a e),I f,I g,
 AV.t (T.str h)]] []) λl=>aa none l.head? λx=>aa none x.bool? λb=>bif !b then some [T.int i64 (0:Int),T.int i64 (3:Int)] else aa none (O (Key.call 84) [AV.agg [I d,AV.t (T.ad
 1 a e),I f,I g,AV.t (T.str h)],AV.t (T.ad 1 p s),AV.agg [AV.t (T.str k),AV.t (T.ad 1 j []),I m]] []) λl=>aa none l.head? λx=>aa none (T.int? i64 x) λn=>bif n
 == (0:Int) then some [T.int i64 (0:Int),T.int i64 (8:Int)] else some [T.int i64 n,T.int i64 (0:Int)]):=by kernel_rfl
theorem vY(O:ax)(h:Bool)(g:List (List T))(c:ByteArray)(a:Bool)(d:List (List T))(e:Int)(i:Int)(f:Int):aA ao ann O fX [(AV.t (T.ad 3 h g)),(AV.fn 78 [] [(AV.t (T.ptr [(T.str c),(T.ad 1 a d),(T.int i64 e)]))]),(I i),(I f)] []=
 (bif decide (f < i) then aa none (if(0:Int)<=f/\f < (↑g.length:Int) then some () else none) λx=>aa none g[f.toNat]? λl=>aa none l.head? λx=>aa none l.tail.head? λj=>aa none
 l.tail.tail.head? λk=>aa none x.a8 λs=>aa none (T.au 1 j) λp=>aa none (T.int? i64 k) λn=>aa none (O (Key.call 78) [AV.agg [AV.t (T.str s),AV.t (T.ad 1 p.fst p.snd),I n],AV.t
 (T.ptr [T.str c,T.ad 1 a d,T.int i64 e])] []) λl=>aa none l.head? λx=>aa none x.bool? λb=>bif b then some [T.int i64 f] else O fX [AV.t (T.ad 3 h g),AV.fn 78
 [] [AV.t (T.ptr [T.str c,T.ad 1 a d,T.int i64 e])],I i,I (i64.wrap (f+ (1:Int)))] [] else some [T.int i64 (-1:Int)]):=by kernel_rfl
theorem vS(O:ax)(d:Bool)(c:List (List T))(e:Int)(a:Int):aA ao ann O ff [(AV.t (T.ad 1 d c)),(AV.fn 80 [] []),(I e),(I a)] []=
 (bif decide (a < e) then aa none (if(0:Int)<=a/\a < (↑c.length:Int) then some () else none) λx=>aa none c[a.toNat]? λl=>aa none l.head? λx=>aa none (T.int? i64 x) λn=>aa none
 (O (Key.call 80) [I n] []) λl=>aa none l.head? λx=>aa none x.bool? λb=>bif b then some [T.int i64 a] else O ff [AV.t (T.ad 1 d c),AV.fn 80 [] [],I e,I (i64.wrap (a+ (1:
 Int)))] [] else some [T.int i64 (-1:Int)]):=by kernel_rfl
theorem Ht(O:ax)(a:Int)(b:Int):aA ao ann O (Key.call 94) [(I a),(I b)] []=
 (O su [I a,I b] []):=by kernel_rfl
theorem GZ(O:ax)(a:ByteArray)(c:Bool)(e:List (List T))(f:Int)(b:ByteArray)(d:Bool)(g:List (List T))(h:Int):aA ao ann O (Key.call 78) [(AV.agg [(AV.t (T.str a)),(AV.t (T.ad 1 c e)),(I f)]),(AV.t (T.ptr [(T.str b),(T.ad 1 d g),(T.int i64 h)]))] []=
 (some [T.bool (a.toList==b.toList)]):=by kernel_rfl
theorem G1(O:ax)(a:Int):aA ao ann O (Key.call 80) [(I a)] []=
 (some [T.bool !a== (4:Int)]):=by kernel_rfl
theorem vZ(O:ax)(b:Int)(a:Int):aA ao ann O su [(I b),(I a)] []=
 (bif !a== (0:Int) then aa none (if a= (0:Int) then none else some ()) λx=>O su [I a,I (b.tmod a)] [] else some [T.int i64 (mm true b (i64.wrap ((0:Int) - b)))]):=by kernel_rfl
theorem G3(O:ax)(ek:Bool)(ks:List (List T))(n:Int)(d:Int)(nm:ByteArray)(es:Bool)(ss:List (List T))(dn:ByteArray)(ea:Bool)(da:List (List T))(so:Int):aA ao ann O (Key.call 84) [AV.agg [I 1,AV.t (T.ad 1 ek ks),I n,I d,AV.t (T.str nm)],AV.t (T.ad 1 es ss),AV.agg [AV.t (T.str dn),AV.t (T.ad 1 ea da),I so]] []=
 (aa (some ((↑ss.length:Int)== (2:Int))) (if(0:Int)<=(0:Int)/\(0:Int) < (↑ss.length:Int) then some () else none) λx=>aa (some ((↑ss.length:Int)== (2:Int))) ss[0]? λl=>aa (some ((↑ss.length
 :Int)== (2:Int))) l.head? λx=>aa (some ((↑ss.length:Int)== (2:Int))) (T.int? i64 x) λn=>aa (some ((↑ss.length:Int)== (2:Int))) (if(0:Int)<=(1:Int)/\(1:Int) < (↑ss.length:Int)
 then some () else none) λx=>aa (some ((↑ss.length:Int)== (2:Int))) ss[1]? λl=>aa (some ((↑ss.length:Int)== (2:Int))) l.head? λx=>aa (some ((↑ss.length:Int)== (2:Int))) (T.int? i64
 x) λn=>some [T.int i64 (1:Int)]):=by kernel_rfl
theorem Hb(O:ax)(ek:Bool)(ks:List (List T))(n:Int)(d:Int)(nm:ByteArray)(es:Bool)(ss:List (List T))(dn:ByteArray)(ea:Bool)(da:List (List T))(so:Int):aA ao ann O (Key.call 84) [AV.agg [I 2,AV.t (T.ad 1 ek ks),I n,I d,AV.t (T.str nm)],AV.t (T.ad 1 es ss),AV.agg [AV.t (T.str dn),AV.t (T.ad 1 ea da),I so]] []=
 (aa (some ((↑ss.length:Int)== (2:Int))) (if(0:Int)<=(0:Int)/\(0:Int) < (↑ss.length:Int) then some () else none) λx=>aa (some ((↑ss.length:Int)== (2:Int))) ss[0]? λl=>aa (some ((↑ss.length
 :Int)== (2:Int))) l.head? λx=>aa (some ((↑ss.length:Int)== (2:Int))) (T.int? i64 x) λn=>aa (some ((↑ss.length:Int)== (2:Int))) (if(0:Int)<=(1:Int)/\(1:Int) < (↑ss.length:Int)
 then some () else none) λx=>aa (some ((↑ss.length:Int)== (2:Int))) ss[1]? λl=>aa (some ((↑ss.length:Int)== (2:Int))) l.head? λx=>aa (some ((↑ss.length:Int)== (2:Int))) (T.int? i64
 x) λn=>some [T.int i64 (1:Int)]):=by kernel_rfl
theorem AI(O:ax)(ek:Bool)(ks:List (List T))(n:Int)(d:Int)(nm:ByteArray)(es:Bool)(ss:List (List T))(dn:ByteArray)(ea:Bool)(da:List (List T))(so:Int):aA ao ann O (Key.call 84) [AV.agg [I 3,AV.t (T.ad 1 ek ks),I n,I d,AV.t (T.str nm)],AV.t (T.ad 1 es ss),AV.agg [AV.t (T.str dn),AV.t (T.ad 1 ea da),I so]] []=
 (aa (some ((↑ss.length:Int)== (2:Int))) (if(0:Int)<=(0:Int)/\(0:Int) < (↑ss.length:Int) then some () else none) λx=>aa (some ((↑ss.length:Int)== (2:Int))) ss[0]? λl=>aa (some ((↑ss.length
 :Int)== (2:Int))) l.head? λx=>aa (some ((↑ss.length:Int)== (2:Int))) (T.int? i64 x) λn=>aa (some ((↑ss.length:Int)== (2:Int))) (if(0:Int)<=(1:Int)/\(1:Int) < (↑ss.length:Int)
 then some () else none) λx=>aa (some ((↑ss.length:Int)== (2:Int))) ss[1]? λl=>aa (some ((↑ss.length:Int)== (2:Int))) l.head? λx=>aa (some ((↑ss.length:Int)== (2:Int))) (T.int? i64
 x) λn=>aa none (O (Key.call 96) [AV.t (T.ad 1 es ss),AV.fn 97 [] []] []) λl=>aa none l.head? λx=>aa none x.bool? λb=>bif !b then some [T.int i64 (0:Int)] else some [T.int i64 (1
 :Int)]):=by kernel_rfl
theorem Hv(O:ax)(a:Bool)(c:List (List T)):aA ao ann O (Key.call 96) [(AV.t (T.ad 1 a c)),(AV.fn 97 [] [])] []=
 (aa none (O (Key.call 48) [AV.t (T.ad 1 a c),AV.fn 105 [] [AV.t (T.ptr [T.cw 97])]] []) λl=>aa none l.head? λx=>aa none x.bool? λb=>some [T.bool !b]):=by kernel_rfl
theorem Gr(O:ax)(a:Bool)(b:List (List T)):aA ao ann O (Key.call 48) [(AV.t (T.ad 1 a b)),(AV.fn 105 [] [(AV.t (T.ptr [(T.cw 97)]))])] []=
 (aa none (O (Key.call 86) [AV.t (T.ad 1 a b),AV.fn 105 [] [AV.t (T.ptr [T.cw 97])]] []) λl=>aa none l.head? λx=>aa none (T.int? i64 x) λn=>some [T.bool (decide (n>=(0:Int)))]):=by kernel_rfl
theorem Hl(O:ax)(a:Bool)(b:List (List T)):aA ao ann O (Key.call 86) [(AV.t (T.ad 1 a b)),(AV.fn 105 [] [(AV.t (T.ptr [(T.cw 97)]))])] []=
 (O ff [AV.t (T.ad 1 a b),AV.fn 105 [] [AV.t (T.ptr [T.cw 97])],I (↑b.length:Int),I (0:Int)] []):=by kernel_rfl
theorem vU(O:ax)(d:Bool)(c:List (List T))(e:Int)(a:Int):aA ao ann O ff [(AV.t (T.ad 1 d c)),(AV.fn 105 [] [(AV.t (T.ptr [(T.cw 97)]))]),(I e),(I a)] []=
 (bif decide (a < e) then aa none (if(0:Int)<=a/\a < (↑c.length:Int) then some () else none) λx=>aa none c[a.toNat]? λl=>aa none l.head? λx=>aa none (T.int? i64 x) λn=>aa none
 (O (Key.call 105) [I n,AV.t (T.ptr [T.cw 97])] []) λl=>aa none l.head? λx=>aa none x.bool? λb=>bif b then some [T.int i64 a] else O ff [AV.t (T.ad 1 d c),AV.fn 105 [] [AV.t (T.ptr
 [T.cw 97])],I e,I (i64.wrap (a+ (1:Int)))] [] else some [T.int i64 (-1:Int)]):=by kernel_rfl
theorem F2(O:ax)(a:Int):aA ao ann O (Key.call 105) [(I a),(AV.t (T.ptr [(T.cw 97)]))] []=
 (aa none (O (Key.call 97) [I a] []) λl=>aa none l.head? λx=>aa none x.bool? λb=>some [T.bool !b]):=by kernel_rfl
theorem Hy(O:ax)(a:Int):aA ao ann O (Key.call 97) [(I a)] []=
 (some [T.bool (a== (1:Int))]):=by kernel_rfl
theorem AJ(O:ax)(ek:Bool)(ks:List (List T))(n:Int)(d:Int)(nm:ByteArray)(es:Bool)(ss:List (List T))(dn:ByteArray)(ea:Bool)(da:List (List T))(so:Int):aA ao ann O (Key.call 84) [AV.agg [I 4,AV.t (T.ad 1 ek ks),I n,I d,AV.t (T.str nm)],AV.t (T.ad 1 es ss),AV.agg [AV.t (T.str dn),AV.t (T.ad 1 ea da),I so]] []=
 (aa (some ((↑ss.length:Int)== (2:Int))) (if(0:Int)<=(0:Int)/\(0:Int) < (↑ss.length:Int) then some () else none) λx=>aa (some ((↑ss.length:Int)== (2:Int))) ss[0]? λl=>aa (some ((↑ss.length
 :Int)== (2:Int))) l.head? λx=>aa (some ((↑ss.length:Int)== (2:Int))) (T.int? i64 x) λn=>aa (some ((↑ss.length:Int)== (2:Int))) (if(0:Int)<=(1:Int)/\(1:Int) < (↑ss.length:Int)
 then some () else none) λx=>aa (some ((↑ss.length:Int)== (2:Int))) ss[1]? λl=>aa (some ((↑ss.length:Int)== (2:Int))) l.head? λx=>aa (some ((↑ss.length:Int)== (2:Int))) (T.int? i64
 x) λn=>aa none (O (Key.call 96) [AV.t (T.ad 1 es ss),AV.fn 97 [] []] []) λl=>aa none l.head? λx=>aa none x.bool? λb=>bif !b then some [T.int i64 (0:Int)] else some [T.int i64 (1
 :Int)]):=by kernel_rfl
theorem AK(O:ax)(ek:Bool)(ks:List (List T))(n:Int)(d:Int)(nm:ByteArray)(es:Bool)(ss:List (List T))(dn:ByteArray)(ea:Bool)(da:List (List T))(so:Int):aA ao ann O (Key.call 84) [AV.agg [I 5,AV.t (T.ad 1 ek ks),I n,I d,AV.t (T.str nm)],AV.t (T.ad 1 es ss),AV.agg [AV.t (T.str dn),AV.t (T.ad 1 ea da),I so]] []=
 (aa (some ((↑ss.length:Int)== (2:Int))) (if(0:Int)<=(0:Int)/\(0:Int) < (↑ss.length:Int) then some () else none) λx=>aa (some ((↑ss.length:Int)== (2:Int))) ss[0]? λl=>aa (some ((↑ss.length
 :Int)== (2:Int))) l.head? λx=>aa (some ((↑ss.length:Int)== (2:Int))) (T.int? i64 x) λn=>aa (some ((↑ss.length:Int)== (2:Int))) (if(0:Int)<=(1:Int)/\(1:Int) < (↑ss.length:Int)
 then some () else none) λx=>aa (some ((↑ss.length:Int)== (2:Int))) ss[1]? λl=>aa (some ((↑ss.length:Int)== (2:Int))) l.head? λx=>aa (some ((↑ss.length:Int)== (2:Int))) (T.int? i64
 x) λn=>aa none (O (Key.call 96) [AV.t (T.ad 1 es ss),AV.fn 97 [] []] []) λl=>aa none l.head? λx=>aa none x.bool? λb=>bif !b then some [T.int i64 (0:Int)] else some [T.int i64 (1
 :Int)]):=by kernel_rfl
theorem AL(O:ax)(ek:Bool)(ks:List (List T))(n:Int)(d:Int)(nm:ByteArray)(es:Bool)(ss:List (List T))(dn:ByteArray)(ea:Bool)(da:List (List T))(so:Int):aA ao ann O (Key.call 84) [AV.agg [I 6,AV.t (T.ad 1 ek ks),I n,I d,AV.t (T.str nm)],AV.t (T.ad 1 es ss),AV.agg [AV.t (T.str dn),AV.t (T.ad 1 ea da),I so]] []=
 (aa (some ((↑ss.length:Int)== (2:Int))) (if(0:Int)<=(0:Int)/\(0:Int) < (↑ss.length:Int) then some () else none) λx=>aa (some ((↑ss.length:Int)== (2:Int))) ss[0]? λl=>aa (some ((↑ss.length
 :Int)== (2:Int))) l.head? λx=>aa (some ((↑ss.length:Int)== (2:Int))) (T.int? i64 x) λn=>aa (some ((↑ss.length:Int)== (2:Int))) (if(0:Int)<=(1:Int)/\(1:Int) < (↑ss.length:Int)
 then some () else none) λx=>aa (some ((↑ss.length:Int)== (2:Int))) ss[1]? λl=>aa (some ((↑ss.length:Int)== (2:Int))) l.head? λx=>aa (some ((↑ss.length:Int)== (2:Int))) (T.int? i64
 x) λn=>aa none (O (Key.call 96) [AV.t (T.ad 1 es ss),AV.fn 97 [] []] []) λl=>aa none l.head? λx=>aa none x.bool? λb=>bif !b then some [T.int i64 (0:Int)] else some [T.int i64 (1
 :Int)]):=by kernel_rfl
theorem Hg(O:ax)(ek:Bool)(ks:List (List T))(n:Int)(d:Int)(nm:ByteArray)(es:Bool)(ss:List (List T))(dn:ByteArray)(ea:Bool)(da:List (List T))(so:Int):aA ao ann O (Key.call 84) [AV.agg [I 7,AV.t (T.ad 1 ek ks),I n,I d,AV.t (T.str nm)],AV.t (T.ad 1 es ss),AV.agg [AV.t (T.str dn),AV.t (T.ad 1 ea da),I so]] []=
 (aa (some ((↑ss.length:Int)== (2:Int))) (if(0:Int)<=(0:Int)/\(0:Int) < (↑ss.length:Int) then some () else none) λx=>aa (some ((↑ss.length:Int)== (2:Int))) ss[0]? λl=>aa (some ((↑ss.length
 :Int)== (2:Int))) l.head? λx=>aa (some ((↑ss.length:Int)== (2:Int))) (T.int? i64 x) λn=>aa (some ((↑ss.length:Int)== (2:Int))) (if(0:Int)<=(1:Int)/\(1:Int) < (↑ss.length:Int)
 then some () else none) λx=>aa (some ((↑ss.length:Int)== (2:Int))) ss[1]? λl=>aa (some ((↑ss.length:Int)== (2:Int))) l.head? λx=>aa (some ((↑ss.length:Int)== (2:Int))) (T.int? i64
 x) λn=>aa none (if(0:Int)<=(0:Int)/\(0:Int) < (↑ss.length:Int) then some () else none) λx=>aa none ss[0]? λl=>aa none l.head? λx=>aa none (T.int? i64 x) λn=>aa (some (n==
 (1:Int))) (if(0:Int)<=(1:Int)/\(1:Int) < (↑ss.length:Int) then some () else none) λx=>aa (some (n== (1:Int))) ss[1]? λl=>aa (some (n== (1:Int))) l.head? λx=>aa (some (n== (1:Int)))
 (T.int? i64 x) λa=>aa (some (n== (1:Int))) (if(0:Int)<=(2:Int)/\(2:Int) < (↑ss.length:Int) then some () else none) λx=>aa (some (n== (1:Int))) ss[2]? λl=>aa (some (n== (1:
 Int))) l.head? λx=>aa (some (n== (1:Int))) (T.int? i64 x) λb=>aa (some (bif n== (1:Int) then a==b else false)) (if(0:Int)<=(1:Int)/\(1:Int) < (↑ss.length:Int) then some () else
 none) λx=>aa (some (bif n== (1:Int) then a==b else false)) ss[1]? λl=>aa (some (bif n== (1:Int) then a==b else false)) l.head? λx=>aa (some (bif n== (1:Int) then a==b else
 false)) (T.int? i64 x) λc=>aa none (if(0:Int)<=(1:Int)/\(1:Int) < (↑ss.length:Int) then some () else none) λx=>aa none ss[1]? λl=>aa none l.head? λx=>aa none (T.int?
 i64 x) λe=>bif !bif bif n== (1:Int) then a==b else false then !c== (5:Int) else false then some [T.int i64 (0:Int)] else some [T.int i64 e]):=by kernel_rfl
theorem Hh(O:ax)(ek:Bool)(ks:List (List T))(n:Int)(d:Int)(nm:ByteArray)(es:Bool)(ss:List (List T))(dn:ByteArray)(ea:Bool)(da:List (List T))(so:Int):aA ao ann O (Key.call 84) [AV.agg [I 8,AV.t (T.ad 1 ek ks),I n,I d,AV.t (T.str nm)],AV.t (T.ad 1 es ss),AV.agg [AV.t (T.str dn),AV.t (T.ad 1 ea da),I so]] []=
 (aa (some ((↑ss.length:Int)== (2:Int))) (if(0:Int)<=(0:Int)/\(0:Int) < (↑ss.length:Int) then some () else none) λx=>aa (some ((↑ss.length:Int)== (2:Int))) ss[0]? λl=>aa (some ((↑ss.length
 :Int)== (2:Int))) l.head? λx=>aa (some ((↑ss.length:Int)== (2:Int))) (T.int? i64 x) λn=>aa (some ((↑ss.length:Int)== (2:Int))) (if(0:Int)<=(1:Int)/\(1:Int) < (↑ss.length:Int)
 then some () else none) λx=>aa (some ((↑ss.length:Int)== (2:Int))) ss[1]? λl=>aa (some ((↑ss.length:Int)== (2:Int))) l.head? λx=>aa (some ((↑ss.length:Int)== (2:Int))) (T.int? i64
 x) λa=>aa none (O (Key.call 96) [AV.t (T.ad 1 es ss),AV.fn 98 [] []] []) λl=>aa none l.head? λx=>aa none x.bool? λb=>aa (some (bif !b then bif (↑ss.length:Int)== (2:Int) then n==a else
 false else false)) (if(0:Int)<=(0:Int)/\(0:Int) < (↑ss.length:Int) then some () else none) λx=>aa (some (bif !b then bif (↑ss.length:Int)== (2:Int) then n==a else false else false)) ss[0]? λl
 =>aa (some (bif !b then bif (↑ss.length:Int)== (2:Int) then n==a else false else false)) l.head? λx=>aa (some (bif !b then bif (↑ss.length:Int)== (2:Int) then n==a else false else false)) (T.int?
 i64 x) λc=>aa (some (bif bif !b then bif (↑ss.length:Int)== (2:Int) then n==a else false else false then !c== (4:Int) else false)) (if(0:Int)<=(0:Int)/\(0:Int) < (↑ss.length:Int)
 then some () else none) λx=>aa (some (bif bif !b then bif (↑ss.length:Int)== (2:Int) then n==a else false else false then !c== (4:Int) else false)) ss[0]? λl=>aa (some (bif bif !b then bif
 (↑ss.length:Int)== (2:Int) then n==a else false else false then !c== (4:Int) else false)) l.head? λx=>aa (some (bif bif !b then bif (↑ss.length:Int)== (2:Int) then n==a else false else false
 then !c== (4:Int) else false)) (T.int? i64 x) λf=>aa none (dL (some (bif bif !b then bif (↑ss.length:Int)== (2:Int) then n==a else false else false then !c== (4:Int) else false)) (O
 (Key.call 21) [I f] [])) λl=>aa (some (bif bif !b then bif (↑ss.length:Int)== (2:Int) then n==a else false else false then !c== (4:Int) else false)) l.head? λx=>aa (some (bif bif !b then bif
 (↑ss.length:Int)== (2:Int) then n==a else false else false then !c== (4:Int) else false)) x.bool? λe=>bif !bif b then true else bif bif (↑ss.length:Int)== (2:Int) then n==a else false then
 bif c== (4:Int) then true else e else false then some [T.int i64 (0:Int)] else some [T.int i64 (1:Int)]):=by kernel_rfl
theorem Hw(O:ax)(a:Bool)(c:List (List T)):aA ao ann O (Key.call 96) [(AV.t (T.ad 1 a c)),(AV.fn 98 [] [])] []=
 (aa none (O (Key.call 48) [AV.t (T.ad 1 a c),AV.fn 105 [] [AV.t (T.ptr [T.cw 98])]] []) λl=>aa none l.head? λx=>aa none x.bool? λb=>some [T.bool !b]):=by kernel_rfl
theorem Gt(O:ax)(a:Bool)(b:List (List T)):aA ao ann O (Key.call 48) [(AV.t (T.ad 1 a b)),(AV.fn 105 [] [(AV.t (T.ptr [(T.cw 98)]))])] []=
 (aa none (O (Key.call 86) [AV.t (T.ad 1 a b),AV.fn 105 [] [AV.t (T.ptr [T.cw 98])]] []) λl=>aa none l.head? λx=>aa none (T.int? i64 x) λn=>some [T.bool (decide (n>=(0:Int)))]):=by kernel_rfl
theorem Hm(O:ax)(a:Bool)(b:List (List T)):aA ao ann O (Key.call 86) [(AV.t (T.ad 1 a b)),(AV.fn 105 [] [(AV.t (T.ptr [(T.cw 98)]))])] []=
 (O ff [AV.t (T.ad 1 a b),AV.fn 105 [] [AV.t (T.ptr [T.cw 98])],I (↑b.length:Int),I (0:Int)] []):=by kernel_rfl
theorem vV(O:ax)(d:Bool)(c:List (List T))(e:Int)(a:Int):aA ao ann O ff [(AV.t (T.ad 1 d c)),(AV.fn 105 [] [(AV.t (T.ptr [(T.cw 98)]))]),(I e),(I a)] []=
 (bif decide (a < e) then aa none (if(0:Int)<=a/\a < (↑c.length:Int) then some () else none) λx=>aa none c[a.toNat]? λl=>aa none l.head? λx=>aa none (T.int? i64 x) λn=>aa none
 (O (Key.call 105) [I n,AV.t (T.ptr [T.cw 98])] []) λl=>aa none l.head? λx=>aa none x.bool? λb=>bif b then some [T.int i64 a] else O ff [AV.t (T.ad 1 d c),AV.fn 105 [] [AV.t (T.ptr
 [T.cw 98])],I e,I (i64.wrap (a+ (1:Int)))] [] else some [T.int i64 (-1:Int)]):=by kernel_rfl
theorem F3(O:ax)(a:Int):aA ao ann O (Key.call 105) [(I a),(AV.t (T.ptr [(T.cw 98)]))] []=
 (aa none (O (Key.call 98) [I a] []) λl=>aa none l.head? λx=>aa none x.bool? λb=>some [T.bool !b]):=by kernel_rfl
theorem Hz(O:ax)(a:Int):aA ao ann O (Key.call 98) [(I a)] []=
 (some [T.bool (bif a== (2:Int) then true else a== (3:Int))]):=by kernel_rfl
theorem sV(O:ax)(ek:Bool)(ks:List (List T))(n:Int)(d:Int)(nm:ByteArray)(es:Bool)(ss:List (List T))(dn:ByteArray)(ea:Bool)(da:List (List T))(so:Int):aA ao ann O (Key.call 84) [AV.agg [I 9,AV.t (T.ad 1 ek ks),I n,I d,AV.t (T.str nm)],AV.t (T.ad 1 es ss),AV.agg [AV.t (T.str dn),AV.t (T.ad 1 ea da),I so]] []=
 (aa (some ((↑ss.length:Int)== (2:Int))) (if(0:Int)<=(0:Int)/\(0:Int) < (↑ss.length:Int) then some () else none) λx=>aa (some ((↑ss.length:Int)== (2:Int))) ss[0]? λl=>aa (some ((↑ss.length
 :Int)== (2:Int))) l.head? λx=>aa (some ((↑ss.length:Int)== (2:Int))) (T.int? i64 x) λn=>aa (some ((↑ss.length:Int)== (2:Int))) (if(0:Int)<=(1:Int)/\(1:Int) < (↑ss.length:Int)
 then some () else none) λx=>aa (some ((↑ss.length:Int)== (2:Int))) ss[1]? λl=>aa (some ((↑ss.length:Int)== (2:Int))) l.head? λx=>aa (some ((↑ss.length:Int)== (2:Int))) (T.int? i64
 x) λn=>aa none (O (Key.call 95) [AV.t (T.ad 1 ea da),AV.t (T.ptr [T.ad 1 es ss])] []) λl=>aa none l.head? λx=>aa none x.bool? λb=>bif !b then some [T.int i64 (0:Int)] else some [T.int
 i64 so]):=by kernel_rfl
theorem Hu(O:ax)(a:Bool)(d:List (List T))(c:Bool)(e:List (List T)):aA ao ann O (Key.call 95) [(AV.t (T.ad 1 a d)),(AV.t (T.ptr [(T.ad 1 c e)]))] []=
 (aa none (O (Key.call 52) [AV.t (T.ad 1 c e),AV.t (T.ad 1 a d)] []) λl=>aa none l.head? λx=>aa none x.bool? λb=>some [T.bool b]):=by kernel_rfl
theorem Ah(O:ax)(b:Bool)(a:List (List T))(c:Bool)(d:List (List T)):aA ao ann O (Key.call 52) [(AV.t (T.ad 1 b a)),(AV.t (T.ad 1 c d))] []=
 (bif !(↑a.length:Int)== (↑d.length:Int) then some [T.bool false] else O sf [AV.t (T.ad 1 b a),AV.t (T.ad 1 c d),I (↑a.length:Int),I (0:Int)] []):=by kernel_rfl
theorem vL(O:ax)(e:Bool)(c:List (List T))(f:Bool)(d:List (List T))(b:Int)(a:Int):aA ao ann O sf [(AV.t (T.ad 1 e c)),(AV.t (T.ad 1 f d)),(I b),(I a)] []=
 (bif decide (a < b) then aa none (if(0:Int)<=a/\a < (↑c.length:Int) then some () else none) λx=>aa none c[a.toNat]? λl=>aa none l.head? λx=>aa none (T.int? i64 x) λn=>aa
 none (if(0:Int)<=a/\a < (↑d.length:Int) then some () else none) λx=>aa none d[a.toNat]? λl=>aa none l.head? λx=>aa none (T.int? i64 x) λg=>bif !n==g then some [T.bool
 false] else O sf [AV.t (T.ad 1 e c),AV.t (T.ad 1 f d),I b,I (i64.wrap (a+ (1:Int)))] [] else some [T.bool true]):=by kernel_rfl
theorem G4(O:ax)(ek:Bool)(ks:List (List T))(n:Int)(d:Int)(nm:ByteArray)(es:Bool)(ss:List (List T))(dn:ByteArray)(ea:Bool)(da:List (List T))(so:Int):aA ao ann O (Key.call 84) [AV.agg [I 10,AV.t (T.ad 1 ek ks),I n,I d,AV.t (T.str nm)],AV.t (T.ad 1 es ss),AV.agg [AV.t (T.str dn),AV.t (T.ad 1 ea da),I so]] []=
 (aa (some ((↑ss.length:Int)== (2:Int))) (if(0:Int)<=(0:Int)/\(0:Int) < (↑ss.length:Int) then some () else none) λx=>aa (some ((↑ss.length:Int)== (2:Int))) ss[0]? λl=>aa (some ((↑ss.length
 :Int)== (2:Int))) l.head? λx=>aa (some ((↑ss.length:Int)== (2:Int))) (T.int? i64 x) λn=>aa (some ((↑ss.length:Int)== (2:Int))) (if(0:Int)<=(1:Int)/\(1:Int) < (↑ss.length:Int)
 then some () else none) λx=>aa (some ((↑ss.length:Int)== (2:Int))) ss[1]? λl=>aa (some ((↑ss.length:Int)== (2:Int))) l.head? λx=>aa (some ((↑ss.length:Int)== (2:Int))) (T.int? i64
 x) λn=>aa none (O (Key.call 99) [B (d== (1:Int))] []) λl=>aa none l.head? λx=>aa none (T.int? i64 x) λn=>some [T.int i64 n]):=by kernel_rfl
theorem HA(O:ax)(a:Bool):aA ao ann O (Key.call 99) [(B a)] []=
 (bif a then some [T.int i64 (2:Int)] else some [T.int i64 (3:Int)]):=by kernel_rfl
theorem AB(O:ax)(ek:Bool)(ks:List (List T))(n:Int)(d:Int)(nm:ByteArray)(es:Bool)(ss:List (List T))(dn:ByteArray)(ea:Bool)(da:List (List T))(so:Int):aA ao ann O (Key.call 84) [AV.agg [I 11,AV.t (T.ad 1 ek ks),I n,I d,AV.t (T.str nm)],AV.t (T.ad 1 es ss),AV.agg [AV.t (T.str dn),AV.t (T.ad 1 ea da),I so]] []=
 (aa (some ((↑ss.length:Int)== (2:Int))) (if(0:Int)<=(0:Int)/\(0:Int) < (↑ss.length:Int) then some () else none) λx=>aa (some ((↑ss.length:Int)== (2:Int))) ss[0]? λl=>aa (some ((↑ss.length
 :Int)== (2:Int))) l.head? λx=>aa (some ((↑ss.length:Int)== (2:Int))) (T.int? i64 x) λn=>aa (some ((↑ss.length:Int)== (2:Int))) (if(0:Int)<=(1:Int)/\(1:Int) < (↑ss.length:Int)
 then some () else none) λx=>aa (some ((↑ss.length:Int)== (2:Int))) ss[1]? λl=>aa (some ((↑ss.length:Int)== (2:Int))) l.head? λx=>aa (some ((↑ss.length:Int)== (2:Int))) (T.int? i64
 x) λn=>aa none (O (Key.call 96) [AV.t (T.ad 1 es ss),AV.fn 98 [] []] []) λl=>aa none l.head? λx=>aa none x.bool? λb=>aa none (O (Key.call 96) [AV.t (T.ad 1 es ss),AV.fn 100 [] []] []) λl=>
 aa none l.head? λx=>aa none x.bool? λa=>aa none (O (Key.call 99) [B a] []) λl=>aa none l.head? λx=>aa none (T.int? i64 x) λn=>bif !b then some [T.int i64 (0:Int)] else
 some [T.int i64 n]):=by kernel_rfl
theorem Hx(O:ax)(a:Bool)(c:List (List T)):aA ao ann O (Key.call 96) [(AV.t (T.ad 1 a c)),(AV.fn 100 [] [])] []=
 (aa none (O (Key.call 48) [AV.t (T.ad 1 a c),AV.fn 105 [] [AV.t (T.ptr [T.cw 100])]] []) λl=>aa none l.head? λx=>aa none x.bool? λb=>some [T.bool !b]):=by kernel_rfl
theorem Gq(O:ax)(a:Bool)(b:List (List T)):aA ao ann O (Key.call 48) [(AV.t (T.ad 1 a b)),(AV.fn 105 [] [(AV.t (T.ptr [(T.cw 100)]))])] []=
 (aa none (O (Key.call 86) [AV.t (T.ad 1 a b),AV.fn 105 [] [AV.t (T.ptr [T.cw 100])]] []) λl=>aa none l.head? λx=>aa none (T.int? i64 x) λn=>some [T.bool (decide (n>=(0:Int)))]):=by kernel_rfl
theorem Hk(O:ax)(a:Bool)(b:List (List T)):aA ao ann O (Key.call 86) [(AV.t (T.ad 1 a b)),(AV.fn 105 [] [(AV.t (T.ptr [(T.cw 100)]))])] []=
 (O ff [AV.t (T.ad 1 a b),AV.fn 105 [] [AV.t (T.ptr [T.cw 100])],I (↑b.length:Int),I (0:Int)] []):=by kernel_rfl
theorem vT(O:ax)(d:Bool)(c:List (List T))(e:Int)(a:Int):aA ao ann O ff [(AV.t (T.ad 1 d c)),(AV.fn 105 [] [(AV.t (T.ptr [(T.cw 100)]))]),(I e),(I a)] []=
 (bif decide (a < e) then aa none (if(0:Int)<=a/\a < (↑c.length:Int) then some () else none) λx=>aa none c[a.toNat]? λl=>aa none l.head? λx=>aa none (T.int? i64 x) λn=>aa none
 (O (Key.call 105) [I n,AV.t (T.ptr [T.cw 100])] []) λl=>aa none l.head? λx=>aa none x.bool? λb=>bif b then some [T.int i64 a] else O ff [AV.t (T.ad 1 d c),AV.fn 105 [] [AV.t (T.ptr
 [T.cw 100])],I e,I (i64.wrap (a+ (1:Int)))] [] else some [T.int i64 (-1:Int)]):=by kernel_rfl
theorem F4(O:ax)(a:Int):aA ao ann O (Key.call 105) [(I a),(AV.t (T.ptr [(T.cw 100)]))] []=
 (aa none (O (Key.call 100) [I a] []) λl=>aa none l.head? λx=>aa none x.bool? λb=>some [T.bool !b]):=by kernel_rfl
theorem F0(O:ax)(a:Int):aA ao ann O (Key.call 100) [(I a)] []=
 (some [T.bool (a== (2:Int))]):=by kernel_rfl
theorem G5(O:ax)(ek:Bool)(ks:List (List T))(n:Int)(d:Int)(nm:ByteArray)(es:Bool)(ss:List (List T))(dn:ByteArray)(ea:Bool)(da:List (List T))(so:Int):aA ao ann O (Key.call 84) [AV.agg [I 12,AV.t (T.ad 1 ek ks),I n,I d,AV.t (T.str nm)],AV.t (T.ad 1 es ss),AV.agg [AV.t (T.str dn),AV.t (T.ad 1 ea da),I so]] []=
 (aa (some ((↑ss.length:Int)== (2:Int))) (if(0:Int)<=(0:Int)/\(0:Int) < (↑ss.length:Int) then some () else none) λx=>aa (some ((↑ss.length:Int)== (2:Int))) ss[0]? λl=>aa (some ((↑ss.length
 :Int)== (2:Int))) l.head? λx=>aa (some ((↑ss.length:Int)== (2:Int))) (T.int? i64 x) λn=>aa (some ((↑ss.length:Int)== (2:Int))) (if(0:Int)<=(1:Int)/\(1:Int) < (↑ss.length:Int)
 then some () else none) λx=>aa (some ((↑ss.length:Int)== (2:Int))) ss[1]? λl=>aa (some ((↑ss.length:Int)== (2:Int))) l.head? λx=>aa (some ((↑ss.length:Int)== (2:Int))) (T.int? i64
 x) λn=>aa none (if(0:Int)<=(0:Int)/\(0:Int) < (↑ss.length:Int) then some () else none) λx=>aa none ss[0]? λl=>aa none l.head? λx=>aa none (T.int? i64 x) λn=>aa none (O
 (Key.call 98) [I n] []) λl=>aa none l.head? λx=>aa none x.bool? λb=>aa none (if(0:Int)<=(0:Int)/\(0:Int) < (↑ss.length:Int) then some () else none) λx=>aa none ss[0]? λl=>aa none
 l.head? λx=>aa none (T.int? i64 x) λn=>aa none (O (Key.call 99) [B (bif n== (2:Int) then d== (1:Int) else false)] []) λl=>aa none l.head? λx=>aa none (T.int? i64 x) λn=>
 bif !b then some [T.int i64 (0:Int)] else some [T.int i64 n]):=by kernel_rfl
theorem AD(O:ax)(ek:Bool)(ks:List (List T))(n:Int)(d:Int)(nm:ByteArray)(es:Bool)(ss:List (List T))(dn:ByteArray)(ea:Bool)(da:List (List T))(so:Int):aA ao ann O (Key.call 84) [AV.agg [I 13,AV.t (T.ad 1 ek ks),I n,I d,AV.t (T.str nm)],AV.t (T.ad 1 es ss),AV.agg [AV.t (T.str dn),AV.t (T.ad 1 ea da),I so]] []=
 (aa (some ((↑ss.length:Int)== (2:Int))) (if(0:Int)<=(0:Int)/\(0:Int) < (↑ss.length:Int) then some () else none) λx=>aa (some ((↑ss.length:Int)== (2:Int))) ss[0]? λl=>aa (some ((↑ss.length
 :Int)== (2:Int))) l.head? λx=>aa (some ((↑ss.length:Int)== (2:Int))) (T.int? i64 x) λn=>aa (some ((↑ss.length:Int)== (2:Int))) (if(0:Int)<=(1:Int)/\(1:Int) < (↑ss.length:Int)
 then some () else none) λx=>aa (some ((↑ss.length:Int)== (2:Int))) ss[1]? λl=>aa (some ((↑ss.length:Int)== (2:Int))) l.head? λx=>aa (some ((↑ss.length:Int)== (2:Int))) (T.int? i64
 x) λn=>aa none (O (Key.call 96) [AV.t (T.ad 1 es ss),AV.fn 98 [] []] []) λl=>aa none l.head? λx=>aa none x.bool? λb=>bif !b then some [T.int i64 (0:Int)] else some [T.int i64 (1
 :Int)]):=by kernel_rfl
theorem AE(O:ax)(ek:Bool)(ks:List (List T))(n:Int)(d:Int)(nm:ByteArray)(es:Bool)(ss:List (List T))(dn:ByteArray)(ea:Bool)(da:List (List T))(so:Int):aA ao ann O (Key.call 84) [AV.agg [I 14,AV.t (T.ad 1 ek ks),I n,I d,AV.t (T.str nm)],AV.t (T.ad 1 es ss),AV.agg [AV.t (T.str dn),AV.t (T.ad 1 ea da),I so]] []=
 (aa (some ((↑ss.length:Int)== (2:Int))) (if(0:Int)<=(0:Int)/\(0:Int) < (↑ss.length:Int) then some () else none) λx=>aa (some ((↑ss.length:Int)== (2:Int))) ss[0]? λl=>aa (some ((↑ss.length
 :Int)== (2:Int))) l.head? λx=>aa (some ((↑ss.length:Int)== (2:Int))) (T.int? i64 x) λn=>aa (some ((↑ss.length:Int)== (2:Int))) (if(0:Int)<=(1:Int)/\(1:Int) < (↑ss.length:Int)
 then some () else none) λx=>aa (some ((↑ss.length:Int)== (2:Int))) ss[1]? λl=>aa (some ((↑ss.length:Int)== (2:Int))) l.head? λx=>aa (some ((↑ss.length:Int)== (2:Int))) (T.int? i64
 x) λn=>aa none (O (Key.call 96) [AV.t (T.ad 1 es ss),AV.fn 98 [] []] []) λl=>aa none l.head? λx=>aa none x.bool? λb=>bif !b then some [T.int i64 (0:Int)] else some [T.int i64 (1
 :Int)]):=by kernel_rfl
theorem G6(O:ax)(ek:Bool)(ks:List (List T))(n:Int)(d:Int)(nm:ByteArray)(es:Bool)(ss:List (List T))(dn:ByteArray)(ea:Bool)(da:List (List T))(so:Int):aA ao ann O (Key.call 84) [AV.agg [I 15,AV.t (T.ad 1 ek ks),I n,I d,AV.t (T.str nm)],AV.t (T.ad 1 es ss),AV.agg [AV.t (T.str dn),AV.t (T.ad 1 ea da),I so]] []=
 (aa (some ((↑ss.length:Int)== (2:Int))) (if(0:Int)<=(0:Int)/\(0:Int) < (↑ss.length:Int) then some () else none) λx=>aa (some ((↑ss.length:Int)== (2:Int))) ss[0]? λl=>aa (some ((↑ss.length
 :Int)== (2:Int))) l.head? λx=>aa (some ((↑ss.length:Int)== (2:Int))) (T.int? i64 x) λn=>aa (some ((↑ss.length:Int)== (2:Int))) (if(0:Int)<=(1:Int)/\(1:Int) < (↑ss.length:Int)
 then some () else none) λx=>aa (some ((↑ss.length:Int)== (2:Int))) ss[1]? λl=>aa (some ((↑ss.length:Int)== (2:Int))) l.head? λx=>aa (some ((↑ss.length:Int)== (2:Int))) (T.int? i64
 x) λn=>some [T.int i64 (i64.wrap ((10:Int)+d))]):=by kernel_rfl
theorem G7(O:ax)(ek:Bool)(ks:List (List T))(n:Int)(d:Int)(nm:ByteArray)(es:Bool)(ss:List (List T))(dn:ByteArray)(ea:Bool)(da:List (List T))(so:Int):aA ao ann O (Key.call 84) [AV.agg [I 16,AV.t (T.ad 1 ek ks),I n,I d,AV.t (T.str nm)],AV.t (T.ad 1 es ss),AV.agg [AV.t (T.str dn),AV.t (T.ad 1 ea da),I so]] []=
 (aa (some ((↑ss.length:Int)== (2:Int))) (if(0:Int)<=(0:Int)/\(0:Int) < (↑ss.length:Int) then some () else none) λx=>aa (some ((↑ss.length:Int)== (2:Int))) ss[0]? λl=>aa (some ((↑ss.length
 :Int)== (2:Int))) l.head? λx=>aa (some ((↑ss.length:Int)== (2:Int))) (T.int? i64 x) λn=>aa (some ((↑ss.length:Int)== (2:Int))) (if(0:Int)<=(1:Int)/\(1:Int) < (↑ss.length:Int)
 then some () else none) λx=>aa (some ((↑ss.length:Int)== (2:Int))) ss[1]? λl=>aa (some ((↑ss.length:Int)== (2:Int))) l.head? λx=>aa (some ((↑ss.length:Int)== (2:Int))) (T.int? i64
 x) λn=>aa none (if(0:Int)<=(0:Int)/\(0:Int) < (↑ss.length:Int) then some () else none) λx=>aa none ss[0]? λl=>aa none l.head? λx=>aa none (T.int? i64 x) λn=>aa none (O
 (Key.call 21) [I n] []) λl=>aa none l.head? λx=>aa none x.bool? λb=>aa none (if(0:Int)<=(0:Int)/\(0:Int) < (↑ss.length:Int) then some () else none) λx=>aa none ss[0]? λl=>aa none
 l.head? λx=>aa none (T.int? i64 x) λn=>bif !b then some [T.int i64 (0:Int)] else some [T.int i64 n]):=by kernel_rfl
theorem G8(O:ax)(ek:Bool)(ks:List (List T))(n:Int)(d:Int)(nm:ByteArray)(es:Bool)(ss:List (List T))(dn:ByteArray)(ea:Bool)(da:List (List T))(so:Int):aA ao ann O (Key.call 84) [AV.agg [I 17,AV.t (T.ad 1 ek ks),I n,I d,AV.t (T.str nm)],AV.t (T.ad 1 es ss),AV.agg [AV.t (T.str dn),AV.t (T.ad 1 ea da),I so]] []=
 (aa (some ((↑ss.length:Int)== (2:Int))) (if(0:Int)<=(0:Int)/\(0:Int) < (↑ss.length:Int) then some () else none) λx=>aa (some ((↑ss.length:Int)== (2:Int))) ss[0]? λl=>aa (some ((↑ss.length
 :Int)== (2:Int))) l.head? λx=>aa (some ((↑ss.length:Int)== (2:Int))) (T.int? i64 x) λn=>aa (some ((↑ss.length:Int)== (2:Int))) (if(0:Int)<=(1:Int)/\(1:Int) < (↑ss.length:Int)
 then some () else none) λx=>aa (some ((↑ss.length:Int)== (2:Int))) ss[1]? λl=>aa (some ((↑ss.length:Int)== (2:Int))) l.head? λx=>aa (some ((↑ss.length:Int)== (2:Int))) (T.int? i64
 x) λa=>aa (some (bif (↑ss.length:Int)== (2:Int) then n==a else false)) (if(0:Int)<=(0:Int)/\(0:Int) < (↑ss.length:Int) then some () else none) λx=>aa (some (bif (↑ss.length:Int)== (2:
 Int) then n==a else false)) ss[0]? λl=>aa (some (bif (↑ss.length:Int)== (2:Int) then n==a else false)) l.head? λx=>aa (some (bif (↑ss.length:Int)== (2:Int) then n==a else false)) (T.int?
 i64 x) λc=>aa none (dL (some (bif (↑ss.length:Int)== (2:Int) then n==a else false)) (O (Key.call 21) [I c] [])) λl=>aa (some (bif (↑ss.length:Int)== (2:Int) then n==a else
 false)) l.head? λx=>aa (some (bif (↑ss.length:Int)== (2:Int) then n==a else false)) x.bool? λb=>aa none (if(0:Int)<=(0:Int)/\(0:Int) < (↑ss.length:Int) then some () else none) λx=>aa
 none ss[0]? λl=>aa none l.head? λx=>aa none (T.int? i64 x) λe=>bif !bif bif (↑ss.length:Int)== (2:Int) then n==a else false then b else false then some [T.int i64 (0:Int)]
 else some [T.int i64 e]):=by kernel_rfl
theorem G9(O:ax)(ek:Bool)(ks:List (List T))(n:Int)(d:Int)(nm:ByteArray)(es:Bool)(ss:List (List T))(dn:ByteArray)(ea:Bool)(da:List (List T))(so:Int):aA ao ann O (Key.call 84) [AV.agg [I 18,AV.t (T.ad 1 ek ks),I n,I d,AV.t (T.str nm)],AV.t (T.ad 1 es ss),AV.agg [AV.t (T.str dn),AV.t (T.ad 1 ea da),I so]] []=
 (aa (some ((↑ss.length:Int)== (2:Int))) (if(0:Int)<=(0:Int)/\(0:Int) < (↑ss.length:Int) then some () else none) λx=>aa (some ((↑ss.length:Int)== (2:Int))) ss[0]? λl=>aa (some ((↑ss.length
 :Int)== (2:Int))) l.head? λx=>aa (some ((↑ss.length:Int)== (2:Int))) (T.int? i64 x) λn=>aa (some ((↑ss.length:Int)== (2:Int))) (if(0:Int)<=(1:Int)/\(1:Int) < (↑ss.length:Int)
 then some () else none) λx=>aa (some ((↑ss.length:Int)== (2:Int))) ss[1]? λl=>aa (some ((↑ss.length:Int)== (2:Int))) l.head? λx=>aa (some ((↑ss.length:Int)== (2:Int))) (T.int? i64
 x) λa=>aa (some (bif (↑ss.length:Int)== (2:Int) then n==a else false)) (if(0:Int)<=(0:Int)/\(0:Int) < (↑ss.length:Int) then some () else none) λx=>aa (some (bif (↑ss.length:Int)== (2:
 Int) then n==a else false)) ss[0]? λl=>aa (some (bif (↑ss.length:Int)== (2:Int) then n==a else false)) l.head? λx=>aa (some (bif (↑ss.length:Int)== (2:Int) then n==a else false)) (T.int?
 i64 x) λc=>aa none (dL (some (bif (↑ss.length:Int)== (2:Int) then n==a else false)) (O (Key.call 21) [I c] [])) λl=>aa (some (bif (↑ss.length:Int)== (2:Int) then n==a else
 false)) l.head? λx=>aa (some (bif (↑ss.length:Int)== (2:Int) then n==a else false)) x.bool? λb=>aa none (if(0:Int)<=(0:Int)/\(0:Int) < (↑ss.length:Int) then some () else none) λx=>aa
 none ss[0]? λl=>aa none l.head? λx=>aa none (T.int? i64 x) λe=>bif !bif bif (↑ss.length:Int)== (2:Int) then n==a else false then b else false then some [T.int i64 (0:Int)]
 else some [T.int i64 e]):=by kernel_rfl
theorem Ha(O:ax)(ek:Bool)(ks:List (List T))(n:Int)(d:Int)(nm:ByteArray)(es:Bool)(ss:List (List T))(dn:ByteArray)(ea:Bool)(da:List (List T))(so:Int):aA ao ann O (Key.call 84) [AV.agg [I 19,AV.t (T.ad 1 ek ks),I n,I d,AV.t (T.str nm)],AV.t (T.ad 1 es ss),AV.agg [AV.t (T.str dn),AV.t (T.ad 1 ea da),I so]] []=
 (aa (some ((↑ss.length:Int)== (2:Int))) (if(0:Int)<=(0:Int)/\(0:Int) < (↑ss.length:Int) then some () else none) λx=>aa (some ((↑ss.length:Int)== (2:Int))) ss[0]? λl=>aa (some ((↑ss.length
 :Int)== (2:Int))) l.head? λx=>aa (some ((↑ss.length:Int)== (2:Int))) (T.int? i64 x) λn=>aa (some ((↑ss.length:Int)== (2:Int))) (if(0:Int)<=(1:Int)/\(1:Int) < (↑ss.length:Int)
 then some () else none) λx=>aa (some ((↑ss.length:Int)== (2:Int))) ss[1]? λl=>aa (some ((↑ss.length:Int)== (2:Int))) l.head? λx=>aa (some ((↑ss.length:Int)== (2:Int))) (T.int? i64
 x) λa=>aa (some (bif (↑ss.length:Int)== (2:Int) then n==a else false)) (if(0:Int)<=(0:Int)/\(0:Int) < (↑ss.length:Int) then some () else none) λx=>aa (some (bif (↑ss.length:Int)== (2:
 Int) then n==a else false)) ss[0]? λl=>aa (some (bif (↑ss.length:Int)== (2:Int) then n==a else false)) l.head? λx=>aa (some (bif (↑ss.length:Int)== (2:Int) then n==a else false)) (T.int?
 i64 x) λc=>aa none (dL (some (bif (↑ss.length:Int)== (2:Int) then n==a else false)) (O (Key.call 21) [I c] [])) λl=>aa (some (bif (↑ss.length:Int)== (2:Int) then n==a else
 false)) l.head? λx=>aa (some (bif (↑ss.length:Int)== (2:Int) then n==a else false)) x.bool? λb=>aa none (if(0:Int)<=(0:Int)/\(0:Int) < (↑ss.length:Int) then some () else none) λx=>aa
 none ss[0]? λl=>aa none l.head? λx=>aa none (T.int? i64 x) λe=>bif !bif bif (↑ss.length:Int)== (2:Int) then n==a else false then b else false then some [T.int i64 (0:Int)]
 else some [T.int i64 e]):=by kernel_rfl
theorem Hc(O:ax)(ek:Bool)(ks:List (List T))(n:Int)(d:Int)(nm:ByteArray)(es:Bool)(ss:List (List T))(dn:ByteArray)(ea:Bool)(da:List (List T))(so:Int):aA ao ann O (Key.call 84) [AV.agg [I 20,AV.t (T.ad 1 ek ks),I n,I d,AV.t (T.str nm)],AV.t (T.ad 1 es ss),AV.agg [AV.t (T.str dn),AV.t (T.ad 1 ea da),I so]] []=
 (aa (some ((↑ss.length:Int)== (2:Int))) (if(0:Int)<=(0:Int)/\(0:Int) < (↑ss.length:Int) then some () else none) λx=>aa (some ((↑ss.length:Int)== (2:Int))) ss[0]? λl=>aa (some ((↑ss.length
 :Int)== (2:Int))) l.head? λx=>aa (some ((↑ss.length:Int)== (2:Int))) (T.int? i64 x) λn=>aa (some ((↑ss.length:Int)== (2:Int))) (if(0:Int)<=(1:Int)/\(1:Int) < (↑ss.length:Int)
 then some () else none) λx=>aa (some ((↑ss.length:Int)== (2:Int))) ss[1]? λl=>aa (some ((↑ss.length:Int)== (2:Int))) l.head? λx=>aa (some ((↑ss.length:Int)== (2:Int))) (T.int? i64
 x) λa=>aa (some (bif (↑ss.length:Int)== (2:Int) then n==a else false)) (if(0:Int)<=(0:Int)/\(0:Int) < (↑ss.length:Int) then some () else none) λx=>aa (some (bif (↑ss.length:Int)== (2:
 Int) then n==a else false)) ss[0]? λl=>aa (some (bif (↑ss.length:Int)== (2:Int) then n==a else false)) l.head? λx=>aa (some (bif (↑ss.length:Int)== (2:Int) then n==a else false)) (T.int?
 i64 x) λc=>aa none (dL (some (bif (↑ss.length:Int)== (2:Int) then n==a else false)) (O (Key.call 21) [I c] [])) λl=>aa (some (bif (↑ss.length:Int)== (2:Int) then n==a else
 false)) l.head? λx=>aa (some (bif (↑ss.length:Int)== (2:Int) then n==a else false)) x.bool? λb=>aa none (if(0:Int)<=(0:Int)/\(0:Int) < (↑ss.length:Int) then some () else none) λx=>aa
 none ss[0]? λl=>aa none l.head? λx=>aa none (T.int? i64 x) λe=>bif !bif bif (↑ss.length:Int)== (2:Int) then n==a else false then b else false then some [T.int i64 (0:Int)]
 else some [T.int i64 e]):=by kernel_rfl
theorem Hd(O:ax)(ek:Bool)(ks:List (List T))(n:Int)(d:Int)(nm:ByteArray)(es:Bool)(ss:List (List T))(dn:ByteArray)(ea:Bool)(da:List (List T))(so:Int):aA ao ann O (Key.call 84) [AV.agg [I 21,AV.t (T.ad 1 ek ks),I n,I d,AV.t (T.str nm)],AV.t (T.ad 1 es ss),AV.agg [AV.t (T.str dn),AV.t (T.ad 1 ea da),I so]] []=
 (aa (some ((↑ss.length:Int)== (2:Int))) (if(0:Int)<=(0:Int)/\(0:Int) < (↑ss.length:Int) then some () else none) λx=>aa (some ((↑ss.length:Int)== (2:Int))) ss[0]? λl=>aa (some ((↑ss.length
 :Int)== (2:Int))) l.head? λx=>aa (some ((↑ss.length:Int)== (2:Int))) (T.int? i64 x) λn=>aa (some ((↑ss.length:Int)== (2:Int))) (if(0:Int)<=(1:Int)/\(1:Int) < (↑ss.length:Int)
 then some () else none) λx=>aa (some ((↑ss.length:Int)== (2:Int))) ss[1]? λl=>aa (some ((↑ss.length:Int)== (2:Int))) l.head? λx=>aa (some ((↑ss.length:Int)== (2:Int))) (T.int? i64
 x) λa=>aa (some (bif (↑ss.length:Int)== (2:Int) then n==a else false)) (if(0:Int)<=(0:Int)/\(0:Int) < (↑ss.length:Int) then some () else none) λx=>aa (some (bif (↑ss.length:Int)== (2:
 Int) then n==a else false)) ss[0]? λl=>aa (some (bif (↑ss.length:Int)== (2:Int) then n==a else false)) l.head? λx=>aa (some (bif (↑ss.length:Int)== (2:Int) then n==a else false)) (T.int?
 i64 x) λc=>aa none (dL (some (bif (↑ss.length:Int)== (2:Int) then n==a else false)) (O (Key.call 21) [I c] [])) λl=>aa (some (bif (↑ss.length:Int)== (2:Int) then n==a else
 false)) l.head? λx=>aa (some (bif (↑ss.length:Int)== (2:Int) then n==a else false)) x.bool? λb=>aa none (if(0:Int)<=(0:Int)/\(0:Int) < (↑ss.length:Int) then some () else none) λx=>aa
 none ss[0]? λl=>aa none l.head? λx=>aa none (T.int? i64 x) λe=>bif !bif bif (↑ss.length:Int)== (2:Int) then n==a else false then b else false then some [T.int i64 (0:Int)]
 else some [T.int i64 e]):=by kernel_rfl
theorem He(O:ax)(ek:Bool)(ks:List (List T))(n:Int)(d:Int)(nm:ByteArray)(es:Bool)(ss:List (List T))(dn:ByteArray)(ea:Bool)(da:List (List T))(so:Int):aA ao ann O (Key.call 84) [AV.agg [I 22,AV.t (T.ad 1 ek ks),I n,I d,AV.t (T.str nm)],AV.t (T.ad 1 es ss),AV.agg [AV.t (T.str dn),AV.t (T.ad 1 ea da),I so]] []=
 (aa (some ((↑ss.length:Int)== (2:Int))) (if(0:Int)<=(0:Int)/\(0:Int) < (↑ss.length:Int) then some () else none) λx=>aa (some ((↑ss.length:Int)== (2:Int))) ss[0]? λl=>aa (some ((↑ss.length
 :Int)== (2:Int))) l.head? λx=>aa (some ((↑ss.length:Int)== (2:Int))) (T.int? i64 x) λn=>aa (some ((↑ss.length:Int)== (2:Int))) (if(0:Int)<=(1:Int)/\(1:Int) < (↑ss.length:Int)
 then some () else none) λx=>aa (some ((↑ss.length:Int)== (2:Int))) ss[1]? λl=>aa (some ((↑ss.length:Int)== (2:Int))) l.head? λx=>aa (some ((↑ss.length:Int)== (2:Int))) (T.int? i64
 x) λa=>aa (some (bif (↑ss.length:Int)== (2:Int) then n==a else false)) (if(0:Int)<=(0:Int)/\(0:Int) < (↑ss.length:Int) then some () else none) λx=>aa (some (bif (↑ss.length:Int)== (2:
 Int) then n==a else false)) ss[0]? λl=>aa (some (bif (↑ss.length:Int)== (2:Int) then n==a else false)) l.head? λx=>aa (some (bif (↑ss.length:Int)== (2:Int) then n==a else false)) (T.int?
 i64 x) λc=>aa none (dL (some (bif (↑ss.length:Int)== (2:Int) then n==a else false)) (O (Key.call 21) [I c] [])) λl=>aa (some (bif (↑ss.length:Int)== (2:Int) then n==a else
 false)) l.head? λx=>aa (some (bif (↑ss.length:Int)== (2:Int) then n==a else false)) x.bool? λb=>bif !bif bif (↑ss.length:Int)== (2:Int) then n==a else false then b else false then some [T.int
 i64 (0:Int)] else some [T.int i64 (1:Int)]):=by kernel_rfl
theorem Hf(O:ax)(ek:Bool)(ks:List (List T))(n:Int)(d:Int)(nm:ByteArray)(es:Bool)(ss:List (List T))(dn:ByteArray)(ea:Bool)(da:List (List T))(so:Int):aA ao ann O (Key.call 84) [AV.agg [I 23,AV.t (T.ad 1 ek ks),I n,I d,AV.t (T.str nm)],AV.t (T.ad 1 es ss),AV.agg [AV.t (T.str dn),AV.t (T.ad 1 ea da),I so]] []=
 (aa (some ((↑ss.length:Int)== (2:Int))) (if(0:Int)<=(0:Int)/\(0:Int) < (↑ss.length:Int) then some () else none) λx=>aa (some ((↑ss.length:Int)== (2:Int))) ss[0]? λl=>aa (some ((↑ss.length
 :Int)== (2:Int))) l.head? λx=>aa (some ((↑ss.length:Int)== (2:Int))) (T.int? i64 x) λn=>aa (some ((↑ss.length:Int)== (2:Int))) (if(0:Int)<=(1:Int)/\(1:Int) < (↑ss.length:Int)
 then some () else none) λx=>aa (some ((↑ss.length:Int)== (2:Int))) ss[1]? λl=>aa (some ((↑ss.length:Int)== (2:Int))) l.head? λx=>aa (some ((↑ss.length:Int)== (2:Int))) (T.int? i64
 x) λn=>aa none (if(0:Int)<=(0:Int)/\(0:Int) < (↑ss.length:Int) then some () else none) λx=>aa none ss[0]? λl=>aa none l.head? λx=>aa none (T.int? i64 x) λn=>aa none (O
 (Key.call 21) [I n] []) λl=>aa none l.head? λx=>aa none x.bool? λb=>aa none (if(0:Int)<=(0:Int)/\(0:Int) < (↑ss.length:Int) then some () else none) λx=>aa none ss[0]? λl=>aa none
 l.head? λx=>aa none (T.int? i64 x) λn=>bif !b then some [T.int i64 (0:Int)] else some [T.int i64 n]):=by kernel_rfl
theorem AF(O:ax)(ek:Bool)(ks:List (List T))(n:Int)(d:Int)(nm:ByteArray)(es:Bool)(ss:List (List T))(dn:ByteArray)(ea:Bool)(da:List (List T))(so:Int):aA ao ann O (Key.call 84) [AV.agg [I 24,AV.t (T.ad 1 ek ks),I n,I d,AV.t (T.str nm)],AV.t (T.ad 1 es ss),AV.agg [AV.t (T.str dn),AV.t (T.ad 1 ea da),I so]] []=
 (aa (some ((↑ss.length:Int)== (2:Int))) (if(0:Int)<=(0:Int)/\(0:Int) < (↑ss.length:Int) then some () else none) λx=>aa (some ((↑ss.length:Int)== (2:Int))) ss[0]? λl=>aa (some ((↑ss.length
 :Int)== (2:Int))) l.head? λx=>aa (some ((↑ss.length:Int)== (2:Int))) (T.int? i64 x) λn=>aa (some ((↑ss.length:Int)== (2:Int))) (if(0:Int)<=(1:Int)/\(1:Int) < (↑ss.length:Int)
 then some () else none) λx=>aa (some ((↑ss.length:Int)== (2:Int))) ss[1]? λl=>aa (some ((↑ss.length:Int)== (2:Int))) l.head? λx=>aa (some ((↑ss.length:Int)== (2:Int))) (T.int? i64
 x) λn=>aa none (O (Key.call 95) [AV.t (T.ad 1 false [[T.int i64 (5:Int)],[T.int i64 (4:Int)]]),AV.t (T.ptr [T.ad 1 es ss])] []) λl=>aa none l.head? λx=>aa none x.bool? λb=>
 bif !b then some [T.int i64 (0:Int)] else some [T.int i64 (4:Int)]):=by kernel_rfl
theorem AH(O:ax)(ek:Bool)(ks:List (List T))(n:Int)(d:Int)(nm:ByteArray)(es:Bool)(ss:List (List T))(dn:ByteArray)(ea:Bool)(da:List (List T))(so:Int):aA ao ann O (Key.call 84) [AV.agg [I 25,AV.t (T.ad 1 ek ks),I n,I d,AV.t (T.str nm)],AV.t (T.ad 1 es ss),AV.agg [AV.t (T.str dn),AV.t (T.ad 1 ea da),I so]] []=
 (aa (some ((↑ss.length:Int)== (2:Int))) (if(0:Int)<=(0:Int)/\(0:Int) < (↑ss.length:Int) then some () else none) λx=>aa (some ((↑ss.length:Int)== (2:Int))) ss[0]? λl=>aa (some ((↑ss.length
 :Int)== (2:Int))) l.head? λx=>aa (some ((↑ss.length:Int)== (2:Int))) (T.int? i64 x) λn=>aa (some ((↑ss.length:Int)== (2:Int))) (if(0:Int)<=(1:Int)/\(1:Int) < (↑ss.length:Int)
 then some () else none) λx=>aa (some ((↑ss.length:Int)== (2:Int))) ss[1]? λl=>aa (some ((↑ss.length:Int)== (2:Int))) l.head? λx=>aa (some ((↑ss.length:Int)== (2:Int))) (T.int? i64
 x) λn=>aa none (O (Key.call 95) [AV.t (T.ad 1 false [[T.int i64 (5:Int)],[T.int i64 (4:Int)],[T.int i64 (4:Int)]]),AV.t (T.ptr [T.ad 1 es ss])] []) λl=>aa none l.head? λx
 =>aa none x.bool? λb=>bif !b then some [T.int i64 (0:Int)] else some [T.int i64 (5:Int)]):=by kernel_rfl
end Go.Aev.Gen
