import Derived.Test.YtcjplcpngagalaaDoorBlastRoundQ6
set_option linter.all false
namespace Go.Aev.Gen
open Go Go.Aev Go.IntKind
noncomputable abbrev oc:Key:=bG ak 22 true 8 [(1,none),(3,none),(5,none),(25,none),(26,none)] (0,0)
noncomputable abbrev pH:Key:=bG ak 37 true 4 [(0,none),(2,none),(10,none),(11,none),(12,none)] (0,0)
noncomputable abbrev mQ:Key:=bG ak 22 true 18 [(3,none),(5,none),(52,none),(53,none),(54,none)] (0,0)
noncomputable abbrev iN:Key:=bG ak 38 true 16 [(1,none),(2,none),(8,none),(9,none),(12,none),(65,none),(66,none),(67,none)] (0,0)
noncomputable abbrev tM:Key:=bG ak 68 true 2 [(0,none),(7,none),(8,none)] (0,0)
noncomputable abbrev tP:Key:=bG ak 84 true 1 [(0,none),(1,none)] (0,0)
noncomputable abbrev tJ:Key:=bG ak 35 true 4 [(0,none),(1,none),(12,none),(13,none)] (0,0)
theorem uA(O:aq)(ed:Bool)(d:List (List T))(en:Bool)(nd:List (List T))(eh:Bool)(a:List (List T)):ax ak ann O (Key.call 22) [AV.agg [AV.t (T.ab 3 ed d),AV.t (T.ab 5 en nd),AV.t (T.ab 1 eh a)]] []=
 (U' (O (Key.call 37) [AV.t (T.ab 3 ed d)] []) λl=>U' l.head? λx=>U' (T.int? i64 x) λn=>U' l.tail.head? λx=>U' (T.int? i64 x) λb=>bif !n== (0:Int)
 then some [T.ae true,T.int i64 n,T.int i64 b] else bif decide ((↑nd.length:Int) > (200:Int)) then some [T.ae true,T.int i64 (2:Int),T.int i64 (0:Int)] else O oc [AV.ref
 (Id.c 0) 0,Y'1,AV.t (T.ae true),I (↑nd.length:Int),I (0:Int)] [ad.box [AV.t (T.ab 3 ed d),AV.t (T.ab 5 en nd),AV.t (T.ab 1 eh a)],ad.box [I (0:Int),I (0:Int)]]):=by kernel_rfl
theorem Cb(O:aq)(b:Bool)(a:List (List T)):ax ak ann O (Key.call 37) [(AV.t (T.ab 3 b a))] []=
 (bif decide ((↑a.length:Int) > (30:Int)) then some [T.int i64 (2:Int),T.int i64 (0:Int)] else O pH [AV.t (T.ab 3 b a),Y'0,AV.t (T.ab 3 b a),I (↑a.length:Int),I (0:
 Int)] [ad.box [I (0:Int),I (0:Int)]]):=by kernel_rfl
theorem rY(O:aq)(k:Bool)(m:Int)(f:Int)(d:Bool)(g:List (List T))(e:Bool)(h:List (List T))(b:Bool)(a:List (List T))(i:Int)(j:Int):ax ak ann O oc [Y'0,Y'1,(AV.t (T.ae k)),(I m),(I f)] [(ad.box [(AV.t (T.ab 3 d g)),(AV.t (T.ab 5 e h)),(AV.t (T.ab 1 b a))]),(ad.box [(I i),(I j)])]=
 (bif decide (f < m) then U' (O (Key.call 38) [AV.agg [AV.t (T.ab 3 d g),AV.t (T.ab 5 e h),AV.t (T.ab 1 b a)],I f,AV.t (T.ab 1 k [])] []) λl=>U' l.head? λx=>aa
 none (T.int? i64 x) λn=>U' l.tail.head? λx=>U' (T.int? i64 x) λo=>bif !o== (0:Int) then some [T.ae true,T.int i64 o,T.int i64 f] else O oc
 [Y'0,Y'1,V'2,I m,I (i64.wrap (f+ (1:Int)))] [ad.box [AV.t (T.ab 3 d g),AV.t (T.ab 5 e h),AV.t (T.ab 1 b a)],ad.box [I i,I j],
 ad.sl false 1 (k && false) [[T.int i64 n]]] else bif decide ((↑a.length:Int) > (200:Int)) then some [T.ae true,T.int i64 (2:Int),T.int i64 (0:Int)] else O mQ [AV.ref (Id.c 0)
 0,AV.t (T.ae k),AV.t (T.ab 1 b a),I (↑a.length:Int),I (0:Int)] [ad.box [I i,I j]]):=by kernel_rfl
theorem nb(O:aq)(h:Bool)(j:List (List T))(g:Bool)(d:List (List T))(i:Int)(a:Int)(e:Int)(f:Int):ax ak ann O pH [(AV.t (T.ab 3 h j)),Y'0,(AV.t (T.ab 3 g d)),(I i),(I a)] [(ad.box [(I e),(I f)])]=
 (bif decide (a < i) then U' (if(0:Int)<=a/\a < (↑d.length:Int) then some () else none) λx=>U' d[a.toNat]? λl=>U' l.head? λx=>U' l.tail.head? λk=>U'
 l.tail.tail.head? λm=>U' x.bc λs=>U' (T.an 1 k) λp=>U' (T.int? i64 m) λn=>U' (O (Key.call 68) [AV.t (T.str s)] []) λl=>U' l.head? λx=>U'
 x.bool? λb=>bif !b then some [T.int i64 (12:Int),T.int i64 a] else U' (fp (0:Int) a (↑j.length:Int)) λx=>U' (O (Key.call 40) [AV.t (T.ab 3 h (sub (0:Int) a j)),
 AV.fn 69 [] [AV.t (T.ptr [T.str s,T.ab 1 p.fst p.snd,T.int i64 n])]] []) λl=>U' l.head? λx=>U' x.bool? λb=>bif b then some [T.int i64 (7:Int),T.int i64 a] else
 bif decide ((↑p.snd.length:Int) > (8:Int)) then some [T.int i64 (9:Int),T.int i64 a] else U' (O (Key.call 70) [I n] []) λl=>U' l.head? λx=>U' x.bool? λb=>bif !b
 then bif !b then some [T.int i64 (4:Int),T.int i64 a] else O pH [AV.t (T.ab 3 h j),Y'0,AV.t (T.ab 3 g d),I i,I (i64.wrap (a+ (1:Int)))] [ad.box [I e,
 I f]] else U' (O (Key.call 39) [AV.t (T.ab 1 p.fst p.snd),AV.fn 71 [] []] []) λl=>U' l.head? λx=>U' x.bool? λb=>bif b then bif b then some [T.int i64 (4:Int),T.int
 i64 a] else O pH [AV.t (T.ab 3 h j),Y'0,AV.t (T.ab 3 g d),I i,AV.t (T.int i64 (i64.wrap (a+ (1:Int))))] [ad.box [I e,I f]] else bif bif n== (5:
 Int) then decide ((↑p.snd.length:Int) > (0:Int)) else false then some [T.int i64 (4:Int),T.int i64 a] else O pH [AV.t (T.ab 3 h j),Y'0,AV.t (T.ab 3 g d),I i,AV.t
 (T.int i64 (i64.wrap (a+ (1:Int))))] [ad.box [I e,I f]] else some [T.int i64 (0:Int),T.int i64 (0:Int)]):=by kernel_rfl
theorem qd(O:aq)(d:Bool)(a:List (List T))(e:Bool)(b:List (List T))(f:Bool)(i:List (List T))(h:Int)(j:Bool)(r:List (List T)):ax ak ann O (Key.call 38) [(AV.agg [(AV.t (T.ab 3 d a)),(AV.t (T.ab 5 e b)),(AV.t (T.ab 1 f i))]),(I h),(AV.t (T.ab 1 j r))] []=
 (U' (if(0:Int)<=h/\h < (↑b.length:Int) then some () else none) λx=>U' b[h.toNat]? λl=>U' l.head? λx=>U' l.tail.head? λw=>U' l.tail.tail.head? λy=>
 U' l.tail.tail.tail.head? λz=>U' l.tail.tail.tail.tail.head? λA=>U' (T.int? i64 x) λn=>U' (T.an 1 w) λp=>U' (T.int? i64 y) λm=>U'
 (T.int? i64 z) λo=>U' A.bc λs=>bif bif decide (n < (1:Int)) then true else decide (n > (25:Int)) then some [T.int i64 (0:Int),T.int i64 (4:Int)] else U' (O
 (Key.call 72) [I n] []) λl=>U' l.head? λx=>U' (T.int? i64 x) λq=>bif n== (9:Int) then U' (O (Key.call 47) [AV.agg [AV.t (T.ab 3 d a),AV.t (T.ab 5 e b),AV.t
 (T.ab 1 f i)],AV.t (T.str s)] []) λl=>U' l.head? λx=>U' (T.int? i64 x) λg=>bif decide (g < (0:Int)) then some [T.int i64 (0:Int),T.int i64 (6:Int)]
 else U' (if(0:Int)<=g/\g < (↑a.length:Int) then some () else none) λx=>U' a[g.toNat]? λl=>U' l.head? λx=>U' l.tail.head? λB=>U' l.tail.tail.head? fun
 C=>U' x.bc λv=>U' (T.an 1 B) λk=>U' (T.int? i64 C) λu=>bif bif !(↑p.snd.length:Int)== (↑k.snd.length:Int) then true else decide ((↑p.snd.length:Int) > (8
 :Int)) then some [T.int i64 (0:Int),T.int i64 (9:Int)] else O iN [I h,AV.t (T.ab 1 j r),Y'0,Y'1,AV.t (T.ae true),AV.t (T.ab 1 p.fst p.snd),I
 (↑p.snd.length:Int),I (0:Int)] [ad.box [I n,AV.t (T.ab 1 p.fst p.snd),I m,I o,AV.t (T.str s)],ad.box [AV.t (T.str v),AV.t (T.ab 1 k.fst k.snd),I u]] else bif bif bif decide (q>=(0:Int))
 then !(↑p.snd.length:Int)==q else false then true else decide ((↑p.snd.length:Int) > (8:Int)) then some [T.int i64 (0:Int),T.int i64 (9:Int)] else O iN [I h,AV.t (T.ab 1 j r),
 Y'0,Y'1,AV.t (T.ae true),AV.t (T.ab 1 p.fst p.snd),I (↑p.snd.length:Int),I (0:Int)] [ad.box [I n,AV.t (T.ab 1 p.fst p.snd),I m,I o,AV.t (T.str s)],ad.box [AV.t (T.str
 (ByteArray.mk #[])),AV.t (T.ae true),I (0:Int)]]):=by kernel_rfl
theorem rZ(O:aq)(o:Int)(f:Int)(d:Bool)(g:List (List T))(e:Bool)(h:List (List T))(b:Bool)(a:List (List T))(i:Int)(j:Int)(k:Bool)(m:List (List T)):ax ak ann O oc [Y'0,Y'1,V'2,(I o),(I f)] [(ad.box [(AV.t (T.ab 3 d g)),(AV.t (T.ab 5 e h)),(AV.t (T.ab 1 b a))]),(ad.box [(I i),(I j)]),(ad.sl false 1 k m)]=
 (bif decide (f < o) then U' (O (Key.call 38) [AV.agg [AV.t (T.ab 3 d g),AV.t (T.ab 5 e h),AV.t (T.ab 1 b a)],I f,AV.t (T.ab 1 k m)] []) λl=>U' l.head? λx=>aa
 none (T.int? i64 x) λn=>U' l.tail.head? λx=>U' (T.int? i64 x) λp=>bif !p== (0:Int) then some [T.ae true,T.int i64 p,T.int i64 f] else U'
 (bp 8 (m.length+ [[T.int i64 n]].length)) λx=>O oc [Y'0,Y'1,V'2,I o,I (i64.wrap (f+ (1:Int)))] [ad.box [AV.t (T.ab 3 d g),AV.t
 (T.ab 5 e h),AV.t (T.ab 1 b a)],ad.box [I i,I j],ad.sl false 1 (k && false) (m++ [[T.int i64 n]])] else bif decide ((↑a.length:Int) > (200:Int)) then some [T.ae true,T.int
 i64 (2:Int),T.int i64 (0:Int)] else O mQ [Y'0,V'1,AV.t (T.ab 1 b a),I (↑a.length:Int),I (0:Int)] [ad.box [I i,I j],ad.sl false 1 k m]):=by kernel_rfl
theorem BC(O:aq)(d:Bool)(h:Bool)(b:List (List T))(e:Int)(a:Int)(f:Int)(g:Int):ax ak ann O mQ [Y'0,(AV.t (T.ae d)),(AV.t (T.ab 1 h b)),(I e),(I a)] [(ad.box [(I f),(I g)])]=
 (bif decide (a < e) then U' (if(0:Int)<=a/\a < (↑b.length:Int) then some () else none) λx=>U' b[a.toNat]? λl=>U' l.head? λx=>U' (T.int? i64 x) λn=>
 bif bif decide (n < (0:Int)) then true else decide (n>=(↑0:Int)) then some [T.ae true,T.int i64 (3:Int),T.int i64 a] else U' (if(0:Int)<=n/\n < (↑(0:Nat):Int) then some () else
 none) λx=>none else some [T.ae d,T.int i64 (0:Int),T.int i64 (0:Int)]):=by kernel_rfl
theorem JD(O:aq)(a:ByteArray):ax ak ann O (Key.call 68) [(AV.t (T.str a))] []=
 (O tM [AV.t (T.str a),I (↑a.size:Int),I (0:Int)] []):=by kernel_rfl
theorem Jc(O:aq)(e:Bool)(f:List (List T))(b:ByteArray)(a:Bool)(c:List (List T))(d:Int):ax ak ann O (Key.call 40) [(AV.t (T.ab 3 e f)),(AV.fn 69 [] [(AV.t (T.ptr [(T.str b),(T.ab 1 a c),(T.int i64 d)]))])] []=
 (U' (O (Key.call 77) [AV.t (T.ab 3 e f),AV.fn 69 [] [AV.t (T.ptr [T.str b,T.ab 1 a c,T.int i64 d])]] []) λl=>U' l.head? λx=>U' (T.int? i64 x) λn=>
 some [T.bool (decide (n>=(0:Int)))]):=by kernel_rfl
theorem JF(O:aq)(a:Int):ax ak ann O (Key.call 70) [(I a)] []=
 (U' (dE (some !bif decide (a>=(1:Int)) then decide (a<=(5:Int)) else false) (O (Key.call 14) [I a] [])) λl=>aa (some !bif decide (a>=(1:Int)) then decide (a<=(5:Int)) else false) l.head? fun
 x=>aa (some !bif decide (a>=(1:Int)) then decide (a<=(5:Int)) else false) x.bool? λb=>some [T.bool (bif bif decide (a>=(1:Int)) then decide (a<=(5:Int)) else false then true else b)]):=by kernel_rfl
theorem I1(O:aq)(a:Bool)(b:List (List T)):ax ak ann O (Key.call 39) [(AV.t (T.ab 1 a b)),(AV.fn 71 [] [])] []=
 (U' (O (Key.call 76) [AV.t (T.ab 1 a b),AV.fn 71 [] []] []) λl=>U' l.head? λx=>U' (T.int? i64 x) λn=>some [T.bool (decide (n>=(0:Int)))]):=by kernel_rfl
theorem qe(O:aq)(w:Int)(v:Bool)(u:List (List T))(p:Bool)(r:Bool)(q:List (List T))(s:Int)(i:Int)(d:Int)(a:Bool)(e:List (List T))(f:Int)(g:Int)(h:ByteArray)(k:ByteArray)(j:Bool)(m:List (List T))(o:Int):ax ak ann O iN [(I w),(AV.t (T.ab 1 v u)),Y'0,Y'1,(AV.t (T.ae p)),(AV.t (T.ab 1 r q)),(I s),(I i)] [(ad.box [(I d),(AV.t (T.ab 1 a e)),(I f),(I g),(AV.t (T.str h))]),(ad.box [(AV.t (T.str k)),(AV.t (T.ab 1 j m)),(I o)])]=
 (bif decide (i < s) then U' (if(0:Int)<=i/\i < (↑q.length:Int) then some () else none) λx=>U' q[i.toNat]? λl=>U' l.head? λx=>U' (T.int? i64 x) λn=>
 bif bif decide (n < (0:Int)) then true else decide (n>=w) then some [T.int i64 (0:Int),T.int i64 (3:Int)] else U' (if(0:Int)<=n/\n < (↑u.length:Int) then some () else none) λx=>
 U' u[n.toNat]? λl=>U' l.head? λx=>U' (T.int? i64 x) λn=>O iN [I w,AV.t (T.ab 1 v u),Y'0,Y'1,V'2,AV.t (T.ab 1 r q),I
 s,I (i64.wrap (i+ (1:Int)))] [ad.box [I d,AV.t (T.ab 1 a e),I f,I g,AV.t (T.str h)],ad.box [AV.t (T.str k),AV.t (T.ab 1 j m),I o],ad.sl false 1 (p && false)
 [[T.int i64 n]]] else U' (O (Key.call 73) [AV.agg [I d,AV.t (T.ab 1 a e),I f,I g,AV.t (T.str h)]] []) λl=>U' l.head? λx=>U' x.bool? λb=>bif !b then some
 [T.int i64 (0:Int),T.int i64 (5:Int)] else U' (O (Key.call 74) [AV.agg [I d,AV.t (T.ab 1 a e),I f,I g,AV.t (T.str h)]] []) λl=>U' l.head? λx=>U'
 x.bool? λb=>bif !b then some [T.int i64 (0:Int),T.int i64 (3:Int)] else U' (O (Key.call 75) [AV.agg [I d,AV.t (T.ab 1 a e),I f,I g,AV.t (T.str h)],AV.t (T.ab 1
 p []),AV.agg [AV.t (T.str k),AV.t (T.ab 1 j m),I o]] []) λl=>U' l.head? λx=>U' (T.int? i64 x) λn=>bif n== (0:Int) then some [T.int i64 (0:Int),T.int
 i64 (8:Int)] else some [T.int i64 n,T.int i64 (0:Int)]):=by kernel_rfl
theorem qf(O:aq)(v:Int)(u:Bool)(s:List (List T))(o:Bool)(q:Bool)(p:List (List T))(r:Int)(i:Int)(d:Int)(a:Bool)(e:List (List T))(f:Int)(g:Int)(h:ByteArray)(k:ByteArray)(j:Bool)(m:Int):ax ak ann O iN [(I v),(AV.t (T.ab 1 u s)),Y'0,Y'1,(AV.t (T.ae o)),(AV.t (T.ab 1 q p)),(I r),(I i)] [(ad.box [(I d),(AV.t (T.ab 1 a e)),(I f),(I g),(AV.t (T.str h))]),(ad.box [(AV.t (T.str k)),(AV.t (T.ae j)),(I m)])]=
 (bif decide (i < r) then U' (if(0:Int)<=i/\i < (↑p.length:Int) then some () else none) λx=>U' p[i.toNat]? λl=>U' l.head? λx=>U' (T.int? i64 x) λn=>
 bif bif decide (n < (0:Int)) then true else decide (n>=v) then some [T.int i64 (0:Int),T.int i64 (3:Int)] else U' (if(0:Int)<=n/\n < (↑s.length:Int) then some () else none) λx=>
 U' s[n.toNat]? λl=>U' l.head? λx=>U' (T.int? i64 x) λn=>O iN [I v,AV.t (T.ab 1 u s),Y'0,Y'1,V'2,AV.t (T.ab 1 q p),I
 r,I (i64.wrap (i+ (1:Int)))] [ad.box [I d,AV.t (T.ab 1 a e),I f,I g,AV.t (T.str h)],ad.box [AV.t (T.str k),AV.t (T.ae j),I m],ad.sl false 1 (o && false) [[T.int
 i64 n]]] else U' (O (Key.call 73) [AV.agg [I d,AV.t (T.ab 1 a e),I f,I g,AV.t (T.str h)]] []) λl=>U' l.head? λx=>U' x.bool? λb=>bif !b then some [T.int
 i64 (0:Int),T.int i64 (5:Int)] else U' (O (Key.call 74) [AV.agg [I d,AV.t (T.ab 1 a e),I f,I g,AV.t (T.str h)]] []) λl=>U' l.head? λx=>U' x.bool?
 λb=>bif !b then some [T.int i64 (0:Int),T.int i64 (3:Int)] else U' (O (Key.call 75) [AV.agg [I d,AV.t (T.ab 1 a e),I f,I g,AV.t (T.str h)],AV.t (T.ab 1 o []),
 AV.agg [AV.t (T.str k),AV.t (T.ab 1 j []),I m]] []) λl=>U' l.head? λx=>U' (T.int? i64 x) λn=>bif n== (0:Int) then some [T.int i64 (0:Int),T.int i64 (8
 :Int)] else some [T.int i64 n,T.int i64 (0:Int)]):=by kernel_rfl
theorem uB(O:aq)(h:Bool)(b:List (List T))(i:Int)(a:Int)(e:Int)(f:Int)(g:Bool)(d:List (List T)):ax ak ann O mQ [Y'0,V'1,(AV.t (T.ab 1 h b)),(I i),(I a)] [(ad.box [(I e),(I f)]),(ad.sl false 1 g d)]=
 (bif decide (a < i) then U' (if(0:Int)<=a/\a < (↑b.length:Int) then some () else none) λx=>U' b[a.toNat]? λl=>U' l.head? λx=>U' (T.int? i64 x) λn=>
 bif bif decide (n < (0:Int)) then true else decide (n>=(↑d.length:Int)) then some [T.ae true,T.int i64 (3:Int),T.int i64 a] else U' (if(0:Int)<=n/\n < (↑d.length:Int) then some
 () else none) λx=>U' d[n.toNat]? λl=>U' l.head? λx=>U' (T.int? i64 x) λn=>bif !n== (1:Int) then some [T.ae true,T.int i64 (8:Int),T.int i64 a] else
 O mQ [Y'0,V'1,AV.t (T.ab 1 h b),I i,I (i64.wrap (a+ (1:Int)))] [ad.box [I e,I f],ad.sl false 1 g d] else some [T.ab 1 g d,T.int i64 (0:
 Int),T.int i64 (0:Int)]):=by kernel_rfl
theorem Ct(O:aq)(b:ByteArray)(c:Int)(a:Int):ax ak ann O tM [(AV.t (T.str b)),(I c),(I a)] []=
 (bif decide (a < c) then U' (if(0:Int)<=a/\a < (↑b.size:Int) then some () else none) λx=>U' b.data.toList[a.toNat]? λx=>bif bif !bif bif (↑x.toNat:Int)== (95:Int) then true else bif
 decide ((↑x.toNat:Int)>=(97:Int)) then decide ((↑x.toNat:Int)<=(122:Int)) else false then true else bif decide ((↑x.toNat:Int)>=(65:Int)) then decide ((↑x.toNat:Int)<=(90:Int)) else false then bif bif
 a== (0:Int) then true else decide ((↑x.toNat:Int) < (48:Int)) then true else decide ((↑x.toNat:Int) > (57:Int)) else false then some [T.bool false] else O tM [AV.t (T.str b),I c,I (i64.wrap (a
 + (1:Int)))] [] else some [T.bool (bif decide ((↑b.size:Int)>=(1:Int)) then decide ((↑b.size:Int)<=(12:Int)) else false)]):=by kernel_rfl
theorem Kd(O:aq)(e:Bool)(f:List (List T))(b:ByteArray)(a:Bool)(c:List (List T))(d:Int):ax ak ann O (Key.call 77) [(AV.t (T.ab 3 e f)),(AV.fn 69 [] [(AV.t (T.ptr [(T.str b),(T.ab 1 a c),(T.int i64 d)]))])] []=
 (O gQ [AV.t (T.ab 3 e f),AV.fn 69 [] [AV.t (T.ptr [T.str b,T.ab 1 a c,T.int i64 d])],I (↑f.length:Int),I (0:Int)] []):=by kernel_rfl
theorem J4(O:aq)(a:Bool)(b:List (List T)):ax ak ann O (Key.call 76) [(AV.t (T.ab 1 a b)),(AV.fn 71 [] [])] []=
 (O eN [AV.t (T.ab 1 a b),AV.fn 71 [] [],I (↑b.length:Int),I (0:Int)] []):=by kernel_rfl
theorem qg(O:aq)(y:Int)(w:Bool)(v:List (List T))(r:Bool)(p:List (List T))(s:Int)(i:Int)(d:Int)(a:Bool)(e:List (List T))(f:Int)(g:Int)(h:ByteArray)(k:ByteArray)(j:Bool)(m:List (List T))(o:Int)(q:Bool)(u:List (List T)):ax ak ann O iN [(I y),(AV.t (T.ab 1 w v)),Y'0,Y'1,V'2,(AV.t (T.ab 1 r p)),(I s),(I i)] [(ad.box [(I d),(AV.t (T.ab 1 a e)),(I f),(I g),(AV.t (T.str h))]),(ad.box [(AV.t (T.str k)),(AV.t (T.ab 1 j m)),(I o)]),(ad.sl false 1 q u)]=
 (bif decide (i < s) then U' (if(0:Int)<=i/\i < (↑p.length:Int) then some () else none) λx=>U' p[i.toNat]? λl=>U' l.head? λx=>U' (T.int? i64 x) λn=>
 bif bif decide (n < (0:Int)) then true else decide (n>=y) then some [T.int i64 (0:Int),T.int i64 (3:Int)] else U' (if(0:Int)<=n/\n < (↑v.length:Int) then some () else none) λx=>
 U' v[n.toNat]? λl=>U' l.head? λx=>U' (T.int? i64 x) λn=>U' (bp 8 (u.length+ [[T.int i64 n]].length)) λx=>O iN [I y,AV.t (T.ab 1 w v),AV.ref
 (Id.c 0) 0,Y'1,V'2,AV.t (T.ab 1 r p),I s,I (i64.wrap (i+ (1:Int)))] [ad.box [I d,AV.t (T.ab 1 a e),I f,I g,AV.t (T.str h)],ad.box [AV.t (T.str
 k),AV.t (T.ab 1 j m),I o],ad.sl false 1 (q && false) (u++ [[T.int i64 n]])] else U' (O (Key.call 73) [AV.agg [I d,AV.t (T.ab 1 a e),I f,I g,AV.t (T.str h)]] [])
 λl=>U' l.head? λx=>U' x.bool? λb=>bif !b then some [T.int i64 (0:Int),T.int i64 (5:Int)] else U' (O (Key.call 74) [AV.agg [I d,AV.t (T.ab 1 a e),I f,I
 g,AV.t (T.str h)]] []) λl=>U' l.head? λx=>U' x.bool? λb=>bif !b then some [T.int i64 (0:Int),T.int i64 (3:Int)] else U' (O (Key.call 75) [AV.agg [I d,AV.t
 (T.ab 1 a e),I f,I g,AV.t (T.str h)],AV.t (T.ab 1 q u),AV.agg [AV.t (T.str k),AV.t (T.ab 1 j m),I o]] []) λl=>U' l.head? λx=>U' (T.int? i64 x) λn
 =>bif n== (0:Int) then some [T.int i64 (0:Int),T.int i64 (8:Int)] else some [T.int i64 n,T.int i64 (0:Int)]):=by kernel_rfl
theorem JI(O:aq)(a:Int)(e:Bool)(f:List (List T))(b:Int)(c:Int)(d:ByteArray):ax ak ann O (Key.call 73) [(AV.agg [(I a),(AV.t (T.ab 1 e f)),(I b),(I c),(AV.t (T.str d))])] []=
 (some [T.bool (bif bif bif d.toList== (ByteArray.mk #[]).toList then true else a== (9:Int) then bif bif b== (0:Int) then true else bif bif a== (10:Int) then true else a== (12:Int) then true else
 a== (15:Int) then true else a== (23:Int) else false then bif c== (0:Int) then true else bif bif a== (10:Int) then true else a== (12:Int) then true else a== (15:Int) else false)]):=by kernel_rfl
theorem nc(O:aq)(c:Int)(d:Bool)(e:List (List T))(b:Int)(a:Int)(f:ByteArray):ax ak ann O (Key.call 74) [(AV.agg [(I c),(AV.t (T.ab 1 d e)),(I b),(I a),(AV.t (T.str f))])] []=
 (bif c== (10:Int) then bif c== (10:Int) then U' (dE (some (bif bif bif decide (b>=(-1000000:Int)) then decide (b<=(1000000:Int)) else false then decide (a>=(1:Int)) else false then
 decide (a<=(1000000:Int)) else false)) (O (Key.call 84) [I b,I a] [])) λl=>aa (some (bif bif bif decide (b>=(-1000000:Int)) then decide (b<=(1000000:Int)) else false then decide (a>=(1:
 Int)) else false then decide (a<=(1000000:Int)) else false)) l.head? λx=>aa (some (bif bif bif decide (b>=(-1000000:Int)) then decide (b<=(1000000:Int)) else false then decide (a>=(1:Int))
 else false then decide (a<=(1000000:Int)) else false)) (T.int? i64 x) λn=>some [T.bool (bif bif bif bif decide (b>=(-1000000:Int)) then decide (b<=(1000000:Int)) else false then decide (a
 >=(1:Int)) else false then decide (a<=(1000000:Int)) else false then n== (1:Int) else false)] else bif c== (15:Int) then aa (some (bif bif decide (a>=(1:Int)) then decide (a<=(8:Int)) else
 false then decide (b>=(0:Int)) else false)) (if a < (0:Int) then none else some ()) λx=>some [T.bool (bif bif bif decide (a>=(1:Int)) then decide (a<=(8:Int)) else false then decide (b>=(0
 :Int)) else false then decide (b < i64.wrap ((1:Int) * (2:Int) ^ min a.toNat 64)) else false)] else bif c== (23:Int) then some [T.bool (bif decide (b>=(0:Int)) then decide (b<=(8:Int))
 else false)] else some [T.bool true] else bif c== (12:Int) then U' (dE (some (bif bif bif decide (b>=(-1000000:Int)) then decide (b<=(1000000:Int)) else false then decide (a>=(1:Int)) else
 false then decide (a<=(1000000:Int)) else false)) (O (Key.call 84) [I b,I a] [])) λl=>aa (some (bif bif bif decide (b>=(-1000000:Int)) then decide (b<=(1000000:Int)) else false then decide
 (a>=(1:Int)) else false then decide (a<=(1000000:Int)) else false)) l.head? λx=>aa (some (bif bif bif decide (b>=(-1000000:Int)) then decide (b<=(1000000:Int)) else false then decide (a>=
 (1:Int)) else false then decide (a<=(1000000:Int)) else false)) (T.int? i64 x) λn=>some [T.bool (bif bif bif bif decide (b>=(-1000000:Int)) then decide (b<=(1000000:Int)) else false then
 decide (a>=(1:Int)) else false then decide (a<=(1000000:Int)) else false then n== (1:Int) else false)] else bif c== (15:Int) then aa (some (bif bif decide (a>=(1:Int)) then decide (a<=(8:
 Int)) else false then decide (b>=(0:Int)) else false)) (if a < (0:Int) then none else some ()) λx=>some [T.bool (bif bif bif decide (a>=(1:Int)) then decide (a<=(8:Int)) else false then decide
 (b>=(0:Int)) else false then decide (b < i64.wrap ((1:Int) * (2:Int) ^ min a.toNat 64)) else false)] else bif c== (23:Int) then some [T.bool (bif decide (b>=(0:Int)) then decide (b<=
 (8:Int)) else false)] else some [T.bool true]):=by kernel_rfl
theorem qh(O:aq)(w:Int)(v:Bool)(u:List (List T))(q:Bool)(o:List (List T))(r:Int)(i:Int)(d:Int)(a:Bool)(e:List (List T))(f:Int)(g:Int)(h:ByteArray)(k:ByteArray)(j:Bool)(m:Int)(p:Bool)(s:List (List T)):ax ak ann O iN [(I w),(AV.t (T.ab 1 v u)),Y'0,Y'1,V'2,(AV.t (T.ab 1 q o)),(I r),(I i)] [(ad.box [(I d),(AV.t (T.ab 1 a e)),(I f),(I g),(AV.t (T.str h))]),(ad.box [(AV.t (T.str k)),(AV.t (T.ae j)),(I m)]),(ad.sl false 1 p s)]=
 (bif decide (i < r) then U' (if(0:Int)<=i/\i < (↑o.length:Int) then some () else none) λx=>U' o[i.toNat]? λl=>U' l.head? λx=>U' (T.int? i64 x) λn=>
 bif bif decide (n < (0:Int)) then true else decide (n>=w) then some [T.int i64 (0:Int),T.int i64 (3:Int)] else U' (if(0:Int)<=n/\n < (↑u.length:Int) then some () else none) λx=>
 U' u[n.toNat]? λl=>U' l.head? λx=>U' (T.int? i64 x) λn=>U' (bp 8 (s.length+ [[T.int i64 n]].length)) λx=>O iN [I w,AV.t (T.ab 1 v u),AV.ref
 (Id.c 0) 0,Y'1,V'2,AV.t (T.ab 1 q o),I r,I (i64.wrap (i+ (1:Int)))] [ad.box [I d,AV.t (T.ab 1 a e),I f,I g,AV.t (T.str h)],ad.box [AV.t (T.str
 k),AV.t (T.ae j),I m],ad.sl false 1 (p && false) (s++ [[T.int i64 n]])] else U' (O (Key.call 73) [AV.agg [I d,AV.t (T.ab 1 a e),I f,I g,AV.t (T.str h)]] []) λl
 =>U' l.head? λx=>U' x.bool? λb=>bif !b then some [T.int i64 (0:Int),T.int i64 (5:Int)] else U' (O (Key.call 74) [AV.agg [I d,AV.t (T.ab 1 a e),I f,I g,
 AV.t (T.str h)]] []) λl=>U' l.head? λx=>U' x.bool? λb=>bif !b then some [T.int i64 (0:Int),T.int i64 (3:Int)] else U' (O (Key.call 75) [AV.agg [I d,AV.t (T.ab
 1 a e),I f,I g,AV.t (T.str h)],AV.t (T.ab 1 p s),AV.agg [AV.t (T.str k),AV.t (T.ab 1 j []),I m]] []) λl=>U' l.head? λx=>U' (T.int? i64 x) λn=>bif n
 == (0:Int) then some [T.int i64 (0:Int),T.int i64 (8:Int)] else some [T.int i64 n,T.int i64 (0:Int)]):=by kernel_rfl
theorem x7(O:aq)(h:Bool)(g:List (List T))(c:ByteArray)(a:Bool)(d:List (List T))(e:Int)(i:Int)(f:Int):ax ak ann O gQ [(AV.t (T.ab 3 h g)),(AV.fn 69 [] [(AV.t (T.ptr [(T.str c),(T.ab 1 a d),(T.int i64 e)]))]),(I i),(I f)] []=
 (bif decide (f < i) then U' (if(0:Int)<=f/\f < (↑g.length:Int) then some () else none) λx=>U' g[f.toNat]? λl=>U' l.head? λx=>U' l.tail.head? λj=>U'
 l.tail.tail.head? λk=>U' x.bc λs=>U' (T.an 1 j) λp=>U' (T.int? i64 k) λn=>U' (O (Key.call 69) [AV.agg [AV.t (T.str s),AV.t (T.ab 1 p.fst p.snd),I n],AV.t
 (T.ptr [T.str c,T.ab 1 a d,T.int i64 e])] []) λl=>U' l.head? λx=>U' x.bool? λb=>bif b then some [T.int i64 f] else O gQ [AV.t (T.ab 3 h g),AV.fn 69
 [] [AV.t (T.ptr [T.str c,T.ab 1 a d,T.int i64 e])],I i,I (i64.wrap (f+ (1:Int)))] [] else some [T.int i64 (-1:Int)]):=by kernel_rfl
theorem xV(O:aq)(d:Bool)(c:List (List T))(e:Int)(a:Int):ax ak ann O eN [(AV.t (T.ab 1 d c)),(AV.fn 71 [] []),(I e),(I a)] []=
 (bif decide (a < e) then U' (if(0:Int)<=a/\a < (↑c.length:Int) then some () else none) λx=>U' c[a.toNat]? λl=>U' l.head? λx=>U' (T.int? i64 x) λn=>U'
 (O (Key.call 71) [I n] []) λl=>U' l.head? λx=>U' x.bool? λb=>bif b then some [T.int i64 a] else O eN [AV.t (T.ab 1 d c),AV.fn 71 [] [],I e,I (i64.wrap (a+ (1:
 Int)))] [] else some [T.int i64 (-1:Int)]):=by kernel_rfl
theorem Kh(O:aq)(a:Int)(b:Int):ax ak ann O (Key.call 84) [(I a),(I b)] []=
 (O tP [I a,I b] []):=by kernel_rfl
theorem JE(O:aq)(a:ByteArray)(c:Bool)(e:List (List T))(f:Int)(b:ByteArray)(d:Bool)(g:List (List T))(h:Int):ax ak ann O (Key.call 69) [(AV.agg [(AV.t (T.str a)),(AV.t (T.ab 1 c e)),(I f)]),(AV.t (T.ptr [(T.str b),(T.ab 1 d g),(T.int i64 h)]))] []=
 (some [T.bool (a.toList==b.toList)]):=by kernel_rfl
theorem JH(O:aq)(a:Int):ax ak ann O (Key.call 71) [(I a)] []=
 (some [T.bool !a== (4:Int)]):=by kernel_rfl
theorem x8(O:aq)(b:Int)(a:Int):ax ak ann O tP [(I b),(I a)] []=
 (bif !a== (0:Int) then U' (if a= (0:Int) then none else some ()) λx=>O tP [I a,I (b.tmod a)] [] else some [T.int i64 (mm true b (i64.wrap ((0:Int) - b)))]):=by kernel_rfl
theorem JJ(O:aq)(ek:Bool)(ks:List (List T))(n:Int)(d:Int)(nm:ByteArray)(es:Bool)(ss:List (List T))(dn:ByteArray)(ea:Bool)(da:List (List T))(so:Int):ax ak ann O (Key.call 75) [AV.agg [I 1,AV.t (T.ab 1 ek ks),I n,I d,AV.t (T.str nm)],AV.t (T.ab 1 es ss),AV.agg [AV.t (T.str dn),AV.t (T.ab 1 ea da),I so]] []=
 (aa (some ((↑ss.length:Int)== (2:Int))) (if(0:Int)<=(0:Int)/\(0:Int) < (↑ss.length:Int) then some () else none) λx=>aa (some ((↑ss.length:Int)== (2:Int))) ss[0]? λl=>aa (some ((↑ss.length
 :Int)== (2:Int))) l.head? λx=>aa (some ((↑ss.length:Int)== (2:Int))) (T.int? i64 x) λn=>aa (some ((↑ss.length:Int)== (2:Int))) (if(0:Int)<=(1:Int)/\(1:Int) < (↑ss.length:Int)
 then some () else none) λx=>aa (some ((↑ss.length:Int)== (2:Int))) ss[1]? λl=>aa (some ((↑ss.length:Int)== (2:Int))) l.head? λx=>aa (some ((↑ss.length:Int)== (2:Int))) (T.int? i64
 x) λn=>some [T.int i64 (1:Int)]):=by kernel_rfl
theorem JR(O:aq)(ek:Bool)(ks:List (List T))(n:Int)(d:Int)(nm:ByteArray)(es:Bool)(ss:List (List T))(dn:ByteArray)(ea:Bool)(da:List (List T))(so:Int):ax ak ann O (Key.call 75) [AV.agg [I 2,AV.t (T.ab 1 ek ks),I n,I d,AV.t (T.str nm)],AV.t (T.ab 1 es ss),AV.agg [AV.t (T.str dn),AV.t (T.ab 1 ea da),I so]] []=
 (aa (some ((↑ss.length:Int)== (2:Int))) (if(0:Int)<=(0:Int)/\(0:Int) < (↑ss.length:Int) then some () else none) λx=>aa (some ((↑ss.length:Int)== (2:Int))) ss[0]? λl=>aa (some ((↑ss.length
 :Int)== (2:Int))) l.head? λx=>aa (some ((↑ss.length:Int)== (2:Int))) (T.int? i64 x) λn=>aa (some ((↑ss.length:Int)== (2:Int))) (if(0:Int)<=(1:Int)/\(1:Int) < (↑ss.length:Int)
 then some () else none) λx=>aa (some ((↑ss.length:Int)== (2:Int))) ss[1]? λl=>aa (some ((↑ss.length:Int)== (2:Int))) l.head? λx=>aa (some ((↑ss.length:Int)== (2:Int))) (T.int? i64
 x) λn=>some [T.int i64 (1:Int)]):=by kernel_rfl
theorem CF(O:aq)(ek:Bool)(ks:List (List T))(n:Int)(d:Int)(nm:ByteArray)(es:Bool)(ss:List (List T))(dn:ByteArray)(ea:Bool)(da:List (List T))(so:Int):ax ak ann O (Key.call 75) [AV.agg [I 3,AV.t (T.ab 1 ek ks),I n,I d,AV.t (T.str nm)],AV.t (T.ab 1 es ss),AV.agg [AV.t (T.str dn),AV.t (T.ab 1 ea da),I so]] []=
 (aa (some ((↑ss.length:Int)== (2:Int))) (if(0:Int)<=(0:Int)/\(0:Int) < (↑ss.length:Int) then some () else none) λx=>aa (some ((↑ss.length:Int)== (2:Int))) ss[0]? λl=>aa (some ((↑ss.length
 :Int)== (2:Int))) l.head? λx=>aa (some ((↑ss.length:Int)== (2:Int))) (T.int? i64 x) λn=>aa (some ((↑ss.length:Int)== (2:Int))) (if(0:Int)<=(1:Int)/\(1:Int) < (↑ss.length:Int)
 then some () else none) λx=>aa (some ((↑ss.length:Int)== (2:Int))) ss[1]? λl=>aa (some ((↑ss.length:Int)== (2:Int))) l.head? λx=>aa (some ((↑ss.length:Int)== (2:Int))) (T.int? i64
 x) λn=>U' (O (Key.call 86) [AV.t (T.ab 1 es ss),AV.fn 87 [] []] []) λl=>U' l.head? λx=>U' x.bool? λb=>bif !b then some [T.int i64 (0:Int)] else some [T.int i64 (1
 :Int)]):=by kernel_rfl
theorem Kj(O:aq)(a:Bool)(c:List (List T)):ax ak ann O (Key.call 86) [(AV.t (T.ab 1 a c)),(AV.fn 87 [] [])] []=
 (U' (O (Key.call 39) [AV.t (T.ab 1 a c),AV.fn 95 [] [AV.t (T.ptr [T.cz 87])]] []) λl=>U' l.head? λx=>U' x.bool? λb=>some [T.bool !b]):=by kernel_rfl
theorem I3(O:aq)(a:Bool)(b:List (List T)):ax ak ann O (Key.call 39) [(AV.t (T.ab 1 a b)),(AV.fn 95 [] [(AV.t (T.ptr [(T.cz 87)]))])] []=
 (U' (O (Key.call 76) [AV.t (T.ab 1 a b),AV.fn 95 [] [AV.t (T.ptr [T.cz 87])]] []) λl=>U' l.head? λx=>U' (T.int? i64 x) λn=>some [T.bool (decide (n>=(0:Int)))]):=by kernel_rfl
theorem J6(O:aq)(a:Bool)(b:List (List T)):ax ak ann O (Key.call 76) [(AV.t (T.ab 1 a b)),(AV.fn 95 [] [(AV.t (T.ptr [(T.cz 87)]))])] []=
 (O eN [AV.t (T.ab 1 a b),AV.fn 95 [] [AV.t (T.ptr [T.cz 87])],I (↑b.length:Int),I (0:Int)] []):=by kernel_rfl
theorem xX(O:aq)(d:Bool)(c:List (List T))(e:Int)(a:Int):ax ak ann O eN [(AV.t (T.ab 1 d c)),(AV.fn 95 [] [(AV.t (T.ptr [(T.cz 87)]))]),(I e),(I a)] []=
 (bif decide (a < e) then U' (if(0:Int)<=a/\a < (↑c.length:Int) then some () else none) λx=>U' c[a.toNat]? λl=>U' l.head? λx=>U' (T.int? i64 x) λn=>U'
 (O (Key.call 95) [I n,AV.t (T.ptr [T.cz 87])] []) λl=>U' l.head? λx=>U' x.bool? λb=>bif b then some [T.int i64 a] else O eN [AV.t (T.ab 1 d c),AV.fn 95 [] [AV.t (T.ptr
 [T.cz 87])],I e,I (i64.wrap (a+ (1:Int)))] [] else some [T.int i64 (-1:Int)]):=by kernel_rfl
theorem Iw(O:aq)(a:Int):ax ak ann O (Key.call 95) [(I a),(AV.t (T.ptr [(T.cz 87)]))] []=
 (U' (O (Key.call 87) [I a] []) λl=>U' l.head? λx=>U' x.bool? λb=>some [T.bool !b]):=by kernel_rfl
theorem Km(O:aq)(a:Int):ax ak ann O (Key.call 87) [(I a)] []=
 (some [T.bool (a== (1:Int))]):=by kernel_rfl
theorem CG(O:aq)(ek:Bool)(ks:List (List T))(n:Int)(d:Int)(nm:ByteArray)(es:Bool)(ss:List (List T))(dn:ByteArray)(ea:Bool)(da:List (List T))(so:Int):ax ak ann O (Key.call 75) [AV.agg [I 4,AV.t (T.ab 1 ek ks),I n,I d,AV.t (T.str nm)],AV.t (T.ab 1 es ss),AV.agg [AV.t (T.str dn),AV.t (T.ab 1 ea da),I so]] []=
 (aa (some ((↑ss.length:Int)== (2:Int))) (if(0:Int)<=(0:Int)/\(0:Int) < (↑ss.length:Int) then some () else none) λx=>aa (some ((↑ss.length:Int)== (2:Int))) ss[0]? λl=>aa (some ((↑ss.length
 :Int)== (2:Int))) l.head? λx=>aa (some ((↑ss.length:Int)== (2:Int))) (T.int? i64 x) λn=>aa (some ((↑ss.length:Int)== (2:Int))) (if(0:Int)<=(1:Int)/\(1:Int) < (↑ss.length:Int)
 then some () else none) λx=>aa (some ((↑ss.length:Int)== (2:Int))) ss[1]? λl=>aa (some ((↑ss.length:Int)== (2:Int))) l.head? λx=>aa (some ((↑ss.length:Int)== (2:Int))) (T.int? i64
 x) λn=>U' (O (Key.call 86) [AV.t (T.ab 1 es ss),AV.fn 87 [] []] []) λl=>U' l.head? λx=>U' x.bool? λb=>bif !b then some [T.int i64 (0:Int)] else some [T.int i64 (1
 :Int)]):=by kernel_rfl
theorem CH(O:aq)(ek:Bool)(ks:List (List T))(n:Int)(d:Int)(nm:ByteArray)(es:Bool)(ss:List (List T))(dn:ByteArray)(ea:Bool)(da:List (List T))(so:Int):ax ak ann O (Key.call 75) [AV.agg [I 5,AV.t (T.ab 1 ek ks),I n,I d,AV.t (T.str nm)],AV.t (T.ab 1 es ss),AV.agg [AV.t (T.str dn),AV.t (T.ab 1 ea da),I so]] []=
 (aa (some ((↑ss.length:Int)== (2:Int))) (if(0:Int)<=(0:Int)/\(0:Int) < (↑ss.length:Int) then some () else none) λx=>aa (some ((↑ss.length:Int)== (2:Int))) ss[0]? λl=>aa (some ((↑ss.length
 :Int)== (2:Int))) l.head? λx=>aa (some ((↑ss.length:Int)== (2:Int))) (T.int? i64 x) λn=>aa (some ((↑ss.length:Int)== (2:Int))) (if(0:Int)<=(1:Int)/\(1:Int) < (↑ss.length:Int)
 then some () else none) λx=>aa (some ((↑ss.length:Int)== (2:Int))) ss[1]? λl=>aa (some ((↑ss.length:Int)== (2:Int))) l.head? λx=>aa (some ((↑ss.length:Int)== (2:Int))) (T.int? i64
 x) λn=>U' (O (Key.call 86) [AV.t (T.ab 1 es ss),AV.fn 87 [] []] []) λl=>U' l.head? λx=>U' x.bool? λb=>bif !b then some [T.int i64 (0:Int)] else some [T.int i64 (1
 :Int)]):=by kernel_rfl
theorem CI(O:aq)(ek:Bool)(ks:List (List T))(n:Int)(d:Int)(nm:ByteArray)(es:Bool)(ss:List (List T))(dn:ByteArray)(ea:Bool)(da:List (List T))(so:Int):ax ak ann O (Key.call 75) [AV.agg [I 6,AV.t (T.ab 1 ek ks),I n,I d,AV.t (T.str nm)],AV.t (T.ab 1 es ss),AV.agg [AV.t (T.str dn),AV.t (T.ab 1 ea da),I so]] []=
 (aa (some ((↑ss.length:Int)== (2:Int))) (if(0:Int)<=(0:Int)/\(0:Int) < (↑ss.length:Int) then some () else none) λx=>aa (some ((↑ss.length:Int)== (2:Int))) ss[0]? λl=>aa (some ((↑ss.length
 :Int)== (2:Int))) l.head? λx=>aa (some ((↑ss.length:Int)== (2:Int))) (T.int? i64 x) λn=>aa (some ((↑ss.length:Int)== (2:Int))) (if(0:Int)<=(1:Int)/\(1:Int) < (↑ss.length:Int)
 then some () else none) λx=>aa (some ((↑ss.length:Int)== (2:Int))) ss[1]? λl=>aa (some ((↑ss.length:Int)== (2:Int))) l.head? λx=>aa (some ((↑ss.length:Int)== (2:Int))) (T.int? i64
 x) λn=>U' (O (Key.call 86) [AV.t (T.ab 1 es ss),AV.fn 87 [] []] []) λl=>U' l.head? λx=>U' x.bool? λb=>bif !b then some [T.int i64 (0:Int)] else some [T.int i64 (1
 :Int)]):=by kernel_rfl
theorem JW(O:aq)(ek:Bool)(ks:List (List T))(n:Int)(d:Int)(nm:ByteArray)(es:Bool)(ss:List (List T))(dn:ByteArray)(ea:Bool)(da:List (List T))(so:Int):ax ak ann O (Key.call 75) [AV.agg [I 7,AV.t (T.ab 1 ek ks),I n,I d,AV.t (T.str nm)],AV.t (T.ab 1 es ss),AV.agg [AV.t (T.str dn),AV.t (T.ab 1 ea da),I so]] []=
 (aa (some ((↑ss.length:Int)== (2:Int))) (if(0:Int)<=(0:Int)/\(0:Int) < (↑ss.length:Int) then some () else none) λx=>aa (some ((↑ss.length:Int)== (2:Int))) ss[0]? λl=>aa (some ((↑ss.length
 :Int)== (2:Int))) l.head? λx=>aa (some ((↑ss.length:Int)== (2:Int))) (T.int? i64 x) λn=>aa (some ((↑ss.length:Int)== (2:Int))) (if(0:Int)<=(1:Int)/\(1:Int) < (↑ss.length:Int)
 then some () else none) λx=>aa (some ((↑ss.length:Int)== (2:Int))) ss[1]? λl=>aa (some ((↑ss.length:Int)== (2:Int))) l.head? λx=>aa (some ((↑ss.length:Int)== (2:Int))) (T.int? i64
 x) λn=>U' (if(0:Int)<=(0:Int)/\(0:Int) < (↑ss.length:Int) then some () else none) λx=>U' ss[0]? λl=>U' l.head? λx=>U' (T.int? i64 x) λn=>aa (some (n==
 (1:Int))) (if(0:Int)<=(1:Int)/\(1:Int) < (↑ss.length:Int) then some () else none) λx=>aa (some (n== (1:Int))) ss[1]? λl=>aa (some (n== (1:Int))) l.head? λx=>aa (some (n== (1:Int)))
 (T.int? i64 x) λa=>aa (some (n== (1:Int))) (if(0:Int)<=(2:Int)/\(2:Int) < (↑ss.length:Int) then some () else none) λx=>aa (some (n== (1:Int))) ss[2]? λl=>aa (some (n== (1:
 Int))) l.head? λx=>aa (some (n== (1:Int))) (T.int? i64 x) λb=>aa (some (bif n== (1:Int) then a==b else false)) (if(0:Int)<=(1:Int)/\(1:Int) < (↑ss.length:Int) then some () else
 none) λx=>aa (some (bif n== (1:Int) then a==b else false)) ss[1]? λl=>aa (some (bif n== (1:Int) then a==b else false)) l.head? λx=>aa (some (bif n== (1:Int) then a==b else
 false)) (T.int? i64 x) λc=>U' (if(0:Int)<=(1:Int)/\(1:Int) < (↑ss.length:Int) then some () else none) λx=>U' ss[1]? λl=>U' l.head? λx=>U' (T.int?
 i64 x) λe=>bif !bif bif n== (1:Int) then a==b else false then !c== (5:Int) else false then some [T.int i64 (0:Int)] else some [T.int i64 e]):=by kernel_rfl
theorem JX(O:aq)(ek:Bool)(ks:List (List T))(n:Int)(d:Int)(nm:ByteArray)(es:Bool)(ss:List (List T))(dn:ByteArray)(ea:Bool)(da:List (List T))(so:Int):ax ak ann O (Key.call 75) [AV.agg [I 8,AV.t (T.ab 1 ek ks),I n,I d,AV.t (T.str nm)],AV.t (T.ab 1 es ss),AV.agg [AV.t (T.str dn),AV.t (T.ab 1 ea da),I so]] []=
 (aa (some ((↑ss.length:Int)== (2:Int))) (if(0:Int)<=(0:Int)/\(0:Int) < (↑ss.length:Int) then some () else none) λx=>aa (some ((↑ss.length:Int)== (2:Int))) ss[0]? λl=>aa (some ((↑ss.length
 :Int)== (2:Int))) l.head? λx=>aa (some ((↑ss.length:Int)== (2:Int))) (T.int? i64 x) λn=>aa (some ((↑ss.length:Int)== (2:Int))) (if(0:Int)<=(1:Int)/\(1:Int) < (↑ss.length:Int)
 then some () else none) λx=>aa (some ((↑ss.length:Int)== (2:Int))) ss[1]? λl=>aa (some ((↑ss.length:Int)== (2:Int))) l.head? λx=>aa (some ((↑ss.length:Int)== (2:Int))) (T.int? i64
 x) λa=>U' (O (Key.call 86) [AV.t (T.ab 1 es ss),AV.fn 88 [] []] []) λl=>U' l.head? λx=>U' x.bool? λb=>aa (some (bif !b then bif (↑ss.length:Int)== (2:Int) then n==a else
 false else false)) (if(0:Int)<=(0:Int)/\(0:Int) < (↑ss.length:Int) then some () else none) λx=>aa (some (bif !b then bif (↑ss.length:Int)== (2:Int) then n==a else false else false)) ss[0]? λl
 =>aa (some (bif !b then bif (↑ss.length:Int)== (2:Int) then n==a else false else false)) l.head? λx=>aa (some (bif !b then bif (↑ss.length:Int)== (2:Int) then n==a else false else false)) (T.int?
 i64 x) λc=>aa (some (bif bif !b then bif (↑ss.length:Int)== (2:Int) then n==a else false else false then !c== (4:Int) else false)) (if(0:Int)<=(0:Int)/\(0:Int) < (↑ss.length:Int)
 then some () else none) λx=>aa (some (bif bif !b then bif (↑ss.length:Int)== (2:Int) then n==a else false else false then !c== (4:Int) else false)) ss[0]? λl=>aa (some (bif bif !b then bif
 (↑ss.length:Int)== (2:Int) then n==a else false else false then !c== (4:Int) else false)) l.head? λx=>aa (some (bif bif !b then bif (↑ss.length:Int)== (2:Int) then n==a else false else false
 then !c== (4:Int) else false)) (T.int? i64 x) λf=>U' (dE (some (bif bif !b then bif (↑ss.length:Int)== (2:Int) then n==a else false else false then !c== (4:Int) else false)) (O
 (Key.call 14) [I f] [])) λl=>aa (some (bif bif !b then bif (↑ss.length:Int)== (2:Int) then n==a else false else false then !c== (4:Int) else false)) l.head? λx=>aa (some (bif bif !b then bif
 (↑ss.length:Int)== (2:Int) then n==a else false else false then !c== (4:Int) else false)) x.bool? λe=>bif !bif b then true else bif bif (↑ss.length:Int)== (2:Int) then n==a else false then
 bif c== (4:Int) then true else e else false then some [T.int i64 (0:Int)] else some [T.int i64 (1:Int)]):=by kernel_rfl
theorem Kk(O:aq)(a:Bool)(c:List (List T)):ax ak ann O (Key.call 86) [(AV.t (T.ab 1 a c)),(AV.fn 88 [] [])] []=
 (U' (O (Key.call 39) [AV.t (T.ab 1 a c),AV.fn 95 [] [AV.t (T.ptr [T.cz 88])]] []) λl=>U' l.head? λx=>U' x.bool? λb=>some [T.bool !b]):=by kernel_rfl
theorem I4(O:aq)(a:Bool)(b:List (List T)):ax ak ann O (Key.call 39) [(AV.t (T.ab 1 a b)),(AV.fn 95 [] [(AV.t (T.ptr [(T.cz 88)]))])] []=
 (U' (O (Key.call 76) [AV.t (T.ab 1 a b),AV.fn 95 [] [AV.t (T.ptr [T.cz 88])]] []) λl=>U' l.head? λx=>U' (T.int? i64 x) λn=>some [T.bool (decide (n>=(0:Int)))]):=by kernel_rfl
theorem J7(O:aq)(a:Bool)(b:List (List T)):ax ak ann O (Key.call 76) [(AV.t (T.ab 1 a b)),(AV.fn 95 [] [(AV.t (T.ptr [(T.cz 88)]))])] []=
 (O eN [AV.t (T.ab 1 a b),AV.fn 95 [] [AV.t (T.ptr [T.cz 88])],I (↑b.length:Int),I (0:Int)] []):=by kernel_rfl
theorem xY(O:aq)(d:Bool)(c:List (List T))(e:Int)(a:Int):ax ak ann O eN [(AV.t (T.ab 1 d c)),(AV.fn 95 [] [(AV.t (T.ptr [(T.cz 88)]))]),(I e),(I a)] []=
 (bif decide (a < e) then U' (if(0:Int)<=a/\a < (↑c.length:Int) then some () else none) λx=>U' c[a.toNat]? λl=>U' l.head? λx=>U' (T.int? i64 x) λn=>U'
 (O (Key.call 95) [I n,AV.t (T.ptr [T.cz 88])] []) λl=>U' l.head? λx=>U' x.bool? λb=>bif b then some [T.int i64 a] else O eN [AV.t (T.ab 1 d c),AV.fn 95 [] [AV.t (T.ptr
 [T.cz 88])],I e,I (i64.wrap (a+ (1:Int)))] [] else some [T.int i64 (-1:Int)]):=by kernel_rfl
theorem Ix(O:aq)(a:Int):ax ak ann O (Key.call 95) [(I a),(AV.t (T.ptr [(T.cz 88)]))] []=
 (U' (O (Key.call 88) [I a] []) λl=>U' l.head? λx=>U' x.bool? λb=>some [T.bool !b]):=by kernel_rfl
theorem Kn(O:aq)(a:Int):ax ak ann O (Key.call 88) [(I a)] []=
 (some [T.bool (bif a== (2:Int) then true else a== (3:Int))]):=by kernel_rfl
theorem uD(O:aq)(ek:Bool)(ks:List (List T))(n:Int)(d:Int)(nm:ByteArray)(es:Bool)(ss:List (List T))(dn:ByteArray)(ea:Bool)(da:List (List T))(so:Int):ax ak ann O (Key.call 75) [AV.agg [I 9,AV.t (T.ab 1 ek ks),I n,I d,AV.t (T.str nm)],AV.t (T.ab 1 es ss),AV.agg [AV.t (T.str dn),AV.t (T.ab 1 ea da),I so]] []=
 (aa (some ((↑ss.length:Int)== (2:Int))) (if(0:Int)<=(0:Int)/\(0:Int) < (↑ss.length:Int) then some () else none) λx=>aa (some ((↑ss.length:Int)== (2:Int))) ss[0]? λl=>aa (some ((↑ss.length
 :Int)== (2:Int))) l.head? λx=>aa (some ((↑ss.length:Int)== (2:Int))) (T.int? i64 x) λn=>aa (some ((↑ss.length:Int)== (2:Int))) (if(0:Int)<=(1:Int)/\(1:Int) < (↑ss.length:Int)
 then some () else none) λx=>aa (some ((↑ss.length:Int)== (2:Int))) ss[1]? λl=>aa (some ((↑ss.length:Int)== (2:Int))) l.head? λx=>aa (some ((↑ss.length:Int)== (2:Int))) (T.int? i64
 x) λn=>U' (O (Key.call 85) [AV.t (T.ab 1 ea da),AV.t (T.ptr [T.ab 1 es ss])] []) λl=>U' l.head? λx=>U' x.bool? λb=>bif !b then some [T.int i64 (0:Int)] else some [T.int
 i64 so]):=by kernel_rfl
theorem Ki(O:aq)(a:Bool)(d:List (List T))(c:Bool)(e:List (List T)):ax ak ann O (Key.call 85) [(AV.t (T.ab 1 a d)),(AV.t (T.ptr [(T.ab 1 c e)]))] []=
 (U' (O (Key.call 35) [AV.t (T.ab 1 c e),AV.t (T.ab 1 a d)] []) λl=>U' l.head? λx=>U' x.bool? λb=>some [T.bool b]):=by kernel_rfl
theorem Cd(O:aq)(b:Bool)(a:List (List T))(c:Bool)(d:List (List T)):ax ak ann O (Key.call 35) [(AV.t (T.ab 1 b a)),(AV.t (T.ab 1 c d))] []=
 (bif !(↑a.length:Int)== (↑d.length:Int) then some [T.bool false] else O tJ [AV.t (T.ab 1 b a),AV.t (T.ab 1 c d),I (↑a.length:Int),I (0:Int)] []):=by kernel_rfl
theorem xG(O:aq)(e:Bool)(c:List (List T))(f:Bool)(d:List (List T))(b:Int)(a:Int):ax ak ann O tJ [(AV.t (T.ab 1 e c)),(AV.t (T.ab 1 f d)),(I b),(I a)] []=
 (bif decide (a < b) then U' (if(0:Int)<=a/\a < (↑c.length:Int) then some () else none) λx=>U' c[a.toNat]? λl=>U' l.head? λx=>U' (T.int? i64 x) λn=>aa
 none (if(0:Int)<=a/\a < (↑d.length:Int) then some () else none) λx=>U' d[a.toNat]? λl=>U' l.head? λx=>U' (T.int? i64 x) λg=>bif !n==g then some [T.bool
 false] else O tJ [AV.t (T.ab 1 e c),AV.t (T.ab 1 f d),I b,I (i64.wrap (a+ (1:Int)))] [] else some [T.bool true]):=by kernel_rfl
theorem JK(O:aq)(ek:Bool)(ks:List (List T))(n:Int)(d:Int)(nm:ByteArray)(es:Bool)(ss:List (List T))(dn:ByteArray)(ea:Bool)(da:List (List T))(so:Int):ax ak ann O (Key.call 75) [AV.agg [I 10,AV.t (T.ab 1 ek ks),I n,I d,AV.t (T.str nm)],AV.t (T.ab 1 es ss),AV.agg [AV.t (T.str dn),AV.t (T.ab 1 ea da),I so]] []=
 (aa (some ((↑ss.length:Int)== (2:Int))) (if(0:Int)<=(0:Int)/\(0:Int) < (↑ss.length:Int) then some () else none) λx=>aa (some ((↑ss.length:Int)== (2:Int))) ss[0]? λl=>aa (some ((↑ss.length
 :Int)== (2:Int))) l.head? λx=>aa (some ((↑ss.length:Int)== (2:Int))) (T.int? i64 x) λn=>aa (some ((↑ss.length:Int)== (2:Int))) (if(0:Int)<=(1:Int)/\(1:Int) < (↑ss.length:Int)
 then some () else none) λx=>aa (some ((↑ss.length:Int)== (2:Int))) ss[1]? λl=>aa (some ((↑ss.length:Int)== (2:Int))) l.head? λx=>aa (some ((↑ss.length:Int)== (2:Int))) (T.int? i64
 x) λn=>U' (O (Key.call 89) [B (d== (1:Int))] []) λl=>U' l.head? λx=>U' (T.int? i64 x) λn=>some [T.int i64 n]):=by kernel_rfl
theorem Ko(O:aq)(a:Bool):ax ak ann O (Key.call 89) [(B a)] []=
 (bif a then some [T.int i64 (2:Int)] else some [T.int i64 (3:Int)]):=by kernel_rfl
theorem CA(O:aq)(ek:Bool)(ks:List (List T))(n:Int)(d:Int)(nm:ByteArray)(es:Bool)(ss:List (List T))(dn:ByteArray)(ea:Bool)(da:List (List T))(so:Int):ax ak ann O (Key.call 75) [AV.agg [I 11,AV.t (T.ab 1 ek ks),I n,I d,AV.t (T.str nm)],AV.t (T.ab 1 es ss),AV.agg [AV.t (T.str dn),AV.t (T.ab 1 ea da),I so]] []=
 (aa (some ((↑ss.length:Int)== (2:Int))) (if(0:Int)<=(0:Int)/\(0:Int) < (↑ss.length:Int) then some () else none) λx=>aa (some ((↑ss.length:Int)== (2:Int))) ss[0]? λl=>aa (some ((↑ss.length
 :Int)== (2:Int))) l.head? λx=>aa (some ((↑ss.length:Int)== (2:Int))) (T.int? i64 x) λn=>aa (some ((↑ss.length:Int)== (2:Int))) (if(0:Int)<=(1:Int)/\(1:Int) < (↑ss.length:Int)
 then some () else none) λx=>aa (some ((↑ss.length:Int)== (2:Int))) ss[1]? λl=>aa (some ((↑ss.length:Int)== (2:Int))) l.head? λx=>aa (some ((↑ss.length:Int)== (2:Int))) (T.int? i64
 x) λn=>U' (O (Key.call 86) [AV.t (T.ab 1 es ss),AV.fn 88 [] []] []) λl=>U' l.head? λx=>U' x.bool? λb=>U' (O (Key.call 86) [AV.t (T.ab 1 es ss),AV.fn 90 [] []] []) λl=>
 U' l.head? λx=>U' x.bool? λa=>U' (O (Key.call 89) [B a] []) λl=>U' l.head? λx=>U' (T.int? i64 x) λn=>bif !b then some [T.int i64 (0:Int)] else
 some [T.int i64 n]):=by kernel_rfl
theorem Kl(O:aq)(a:Bool)(c:List (List T)):ax ak ann O (Key.call 86) [(AV.t (T.ab 1 a c)),(AV.fn 90 [] [])] []=
 (U' (O (Key.call 39) [AV.t (T.ab 1 a c),AV.fn 95 [] [AV.t (T.ptr [T.cz 90])]] []) λl=>U' l.head? λx=>U' x.bool? λb=>some [T.bool !b]):=by kernel_rfl
theorem I2(O:aq)(a:Bool)(b:List (List T)):ax ak ann O (Key.call 39) [(AV.t (T.ab 1 a b)),(AV.fn 95 [] [(AV.t (T.ptr [(T.cz 90)]))])] []=
 (U' (O (Key.call 76) [AV.t (T.ab 1 a b),AV.fn 95 [] [AV.t (T.ptr [T.cz 90])]] []) λl=>U' l.head? λx=>U' (T.int? i64 x) λn=>some [T.bool (decide (n>=(0:Int)))]):=by kernel_rfl
theorem J5(O:aq)(a:Bool)(b:List (List T)):ax ak ann O (Key.call 76) [(AV.t (T.ab 1 a b)),(AV.fn 95 [] [(AV.t (T.ptr [(T.cz 90)]))])] []=
 (O eN [AV.t (T.ab 1 a b),AV.fn 95 [] [AV.t (T.ptr [T.cz 90])],I (↑b.length:Int),I (0:Int)] []):=by kernel_rfl
theorem xW(O:aq)(d:Bool)(c:List (List T))(e:Int)(a:Int):ax ak ann O eN [(AV.t (T.ab 1 d c)),(AV.fn 95 [] [(AV.t (T.ptr [(T.cz 90)]))]),(I e),(I a)] []=
 (bif decide (a < e) then U' (if(0:Int)<=a/\a < (↑c.length:Int) then some () else none) λx=>U' c[a.toNat]? λl=>U' l.head? λx=>U' (T.int? i64 x) λn=>U'
 (O (Key.call 95) [I n,AV.t (T.ptr [T.cz 90])] []) λl=>U' l.head? λx=>U' x.bool? λb=>bif b then some [T.int i64 a] else O eN [AV.t (T.ab 1 d c),AV.fn 95 [] [AV.t (T.ptr
 [T.cz 90])],I e,I (i64.wrap (a+ (1:Int)))] [] else some [T.int i64 (-1:Int)]):=by kernel_rfl
theorem Iy(O:aq)(a:Int):ax ak ann O (Key.call 95) [(I a),(AV.t (T.ptr [(T.cz 90)]))] []=
 (U' (O (Key.call 90) [I a] []) λl=>U' l.head? λx=>U' x.bool? λb=>some [T.bool !b]):=by kernel_rfl
theorem Ir(O:aq)(a:Int):ax ak ann O (Key.call 90) [(I a)] []=
 (some [T.bool (a== (2:Int))]):=by kernel_rfl
theorem JL(O:aq)(ek:Bool)(ks:List (List T))(n:Int)(d:Int)(nm:ByteArray)(es:Bool)(ss:List (List T))(dn:ByteArray)(ea:Bool)(da:List (List T))(so:Int):ax ak ann O (Key.call 75) [AV.agg [I 12,AV.t (T.ab 1 ek ks),I n,I d,AV.t (T.str nm)],AV.t (T.ab 1 es ss),AV.agg [AV.t (T.str dn),AV.t (T.ab 1 ea da),I so]] []=
 (aa (some ((↑ss.length:Int)== (2:Int))) (if(0:Int)<=(0:Int)/\(0:Int) < (↑ss.length:Int) then some () else none) λx=>aa (some ((↑ss.length:Int)== (2:Int))) ss[0]? λl=>aa (some ((↑ss.length
 :Int)== (2:Int))) l.head? λx=>aa (some ((↑ss.length:Int)== (2:Int))) (T.int? i64 x) λn=>aa (some ((↑ss.length:Int)== (2:Int))) (if(0:Int)<=(1:Int)/\(1:Int) < (↑ss.length:Int)
 then some () else none) λx=>aa (some ((↑ss.length:Int)== (2:Int))) ss[1]? λl=>aa (some ((↑ss.length:Int)== (2:Int))) l.head? λx=>aa (some ((↑ss.length:Int)== (2:Int))) (T.int? i64
 x) λn=>U' (if(0:Int)<=(0:Int)/\(0:Int) < (↑ss.length:Int) then some () else none) λx=>U' ss[0]? λl=>U' l.head? λx=>U' (T.int? i64 x) λn=>U' (O
 (Key.call 88) [I n] []) λl=>U' l.head? λx=>U' x.bool? λb=>U' (if(0:Int)<=(0:Int)/\(0:Int) < (↑ss.length:Int) then some () else none) λx=>U' ss[0]? λl=>U'
 l.head? λx=>U' (T.int? i64 x) λn=>U' (O (Key.call 89) [B (bif n== (2:Int) then d== (1:Int) else false)] []) λl=>U' l.head? λx=>U' (T.int? i64 x) λn=>
 bif !b then some [T.int i64 (0:Int)] else some [T.int i64 n]):=by kernel_rfl
theorem CB(O:aq)(ek:Bool)(ks:List (List T))(n:Int)(d:Int)(nm:ByteArray)(es:Bool)(ss:List (List T))(dn:ByteArray)(ea:Bool)(da:List (List T))(so:Int):ax ak ann O (Key.call 75) [AV.agg [I 13,AV.t (T.ab 1 ek ks),I n,I d,AV.t (T.str nm)],AV.t (T.ab 1 es ss),AV.agg [AV.t (T.str dn),AV.t (T.ab 1 ea da),I so]] []=
 (aa (some ((↑ss.length:Int)== (2:Int))) (if(0:Int)<=(0:Int)/\(0:Int) < (↑ss.length:Int) then some () else none) λx=>aa (some ((↑ss.length:Int)== (2:Int))) ss[0]? λl=>aa (some ((↑ss.length
 :Int)== (2:Int))) l.head? λx=>aa (some ((↑ss.length:Int)== (2:Int))) (T.int? i64 x) λn=>aa (some ((↑ss.length:Int)== (2:Int))) (if(0:Int)<=(1:Int)/\(1:Int) < (↑ss.length:Int)
 then some () else none) λx=>aa (some ((↑ss.length:Int)== (2:Int))) ss[1]? λl=>aa (some ((↑ss.length:Int)== (2:Int))) l.head? λx=>aa (some ((↑ss.length:Int)== (2:Int))) (T.int? i64
 x) λn=>U' (O (Key.call 86) [AV.t (T.ab 1 es ss),AV.fn 88 [] []] []) λl=>U' l.head? λx=>U' x.bool? λb=>bif !b then some [T.int i64 (0:Int)] else some [T.int i64 (1
 :Int)]):=by kernel_rfl
theorem CC(O:aq)(ek:Bool)(ks:List (List T))(n:Int)(d:Int)(nm:ByteArray)(es:Bool)(ss:List (List T))(dn:ByteArray)(ea:Bool)(da:List (List T))(so:Int):ax ak ann O (Key.call 75) [AV.agg [I 14,AV.t (T.ab 1 ek ks),I n,I d,AV.t (T.str nm)],AV.t (T.ab 1 es ss),AV.agg [AV.t (T.str dn),AV.t (T.ab 1 ea da),I so]] []=
 (aa (some ((↑ss.length:Int)== (2:Int))) (if(0:Int)<=(0:Int)/\(0:Int) < (↑ss.length:Int) then some () else none) λx=>aa (some ((↑ss.length:Int)== (2:Int))) ss[0]? λl=>aa (some ((↑ss.length
 :Int)== (2:Int))) l.head? λx=>aa (some ((↑ss.length:Int)== (2:Int))) (T.int? i64 x) λn=>aa (some ((↑ss.length:Int)== (2:Int))) (if(0:Int)<=(1:Int)/\(1:Int) < (↑ss.length:Int)
 then some () else none) λx=>aa (some ((↑ss.length:Int)== (2:Int))) ss[1]? λl=>aa (some ((↑ss.length:Int)== (2:Int))) l.head? λx=>aa (some ((↑ss.length:Int)== (2:Int))) (T.int? i64
 x) λn=>U' (O (Key.call 86) [AV.t (T.ab 1 es ss),AV.fn 88 [] []] []) λl=>U' l.head? λx=>U' x.bool? λb=>bif !b then some [T.int i64 (0:Int)] else some [T.int i64 (1
 :Int)]):=by kernel_rfl
theorem JM(O:aq)(ek:Bool)(ks:List (List T))(n:Int)(d:Int)(nm:ByteArray)(es:Bool)(ss:List (List T))(dn:ByteArray)(ea:Bool)(da:List (List T))(so:Int):ax ak ann O (Key.call 75) [AV.agg [I 15,AV.t (T.ab 1 ek ks),I n,I d,AV.t (T.str nm)],AV.t (T.ab 1 es ss),AV.agg [AV.t (T.str dn),AV.t (T.ab 1 ea da),I so]] []=
 (aa (some ((↑ss.length:Int)== (2:Int))) (if(0:Int)<=(0:Int)/\(0:Int) < (↑ss.length:Int) then some () else none) λx=>aa (some ((↑ss.length:Int)== (2:Int))) ss[0]? λl=>aa (some ((↑ss.length
 :Int)== (2:Int))) l.head? λx=>aa (some ((↑ss.length:Int)== (2:Int))) (T.int? i64 x) λn=>aa (some ((↑ss.length:Int)== (2:Int))) (if(0:Int)<=(1:Int)/\(1:Int) < (↑ss.length:Int)
 then some () else none) λx=>aa (some ((↑ss.length:Int)== (2:Int))) ss[1]? λl=>aa (some ((↑ss.length:Int)== (2:Int))) l.head? λx=>aa (some ((↑ss.length:Int)== (2:Int))) (T.int? i64
 x) λn=>some [T.int i64 (i64.wrap ((10:Int)+d))]):=by kernel_rfl
theorem JN(O:aq)(ek:Bool)(ks:List (List T))(n:Int)(d:Int)(nm:ByteArray)(es:Bool)(ss:List (List T))(dn:ByteArray)(ea:Bool)(da:List (List T))(so:Int):ax ak ann O (Key.call 75) [AV.agg [I 16,AV.t (T.ab 1 ek ks),I n,I d,AV.t (T.str nm)],AV.t (T.ab 1 es ss),AV.agg [AV.t (T.str dn),AV.t (T.ab 1 ea da),I so]] []=
 (aa (some ((↑ss.length:Int)== (2:Int))) (if(0:Int)<=(0:Int)/\(0:Int) < (↑ss.length:Int) then some () else none) λx=>aa (some ((↑ss.length:Int)== (2:Int))) ss[0]? λl=>aa (some ((↑ss.length
 :Int)== (2:Int))) l.head? λx=>aa (some ((↑ss.length:Int)== (2:Int))) (T.int? i64 x) λn=>aa (some ((↑ss.length:Int)== (2:Int))) (if(0:Int)<=(1:Int)/\(1:Int) < (↑ss.length:Int)
 then some () else none) λx=>aa (some ((↑ss.length:Int)== (2:Int))) ss[1]? λl=>aa (some ((↑ss.length:Int)== (2:Int))) l.head? λx=>aa (some ((↑ss.length:Int)== (2:Int))) (T.int? i64
 x) λn=>U' (if(0:Int)<=(0:Int)/\(0:Int) < (↑ss.length:Int) then some () else none) λx=>U' ss[0]? λl=>U' l.head? λx=>U' (T.int? i64 x) λn=>U' (O
 (Key.call 14) [I n] []) λl=>U' l.head? λx=>U' x.bool? λb=>U' (if(0:Int)<=(0:Int)/\(0:Int) < (↑ss.length:Int) then some () else none) λx=>U' ss[0]? λl=>U'
 l.head? λx=>U' (T.int? i64 x) λn=>bif !b then some [T.int i64 (0:Int)] else some [T.int i64 n]):=by kernel_rfl
theorem JO(O:aq)(ek:Bool)(ks:List (List T))(n:Int)(d:Int)(nm:ByteArray)(es:Bool)(ss:List (List T))(dn:ByteArray)(ea:Bool)(da:List (List T))(so:Int):ax ak ann O (Key.call 75) [AV.agg [I 17,AV.t (T.ab 1 ek ks),I n,I d,AV.t (T.str nm)],AV.t (T.ab 1 es ss),AV.agg [AV.t (T.str dn),AV.t (T.ab 1 ea da),I so]] []=
 (aa (some ((↑ss.length:Int)== (2:Int))) (if(0:Int)<=(0:Int)/\(0:Int) < (↑ss.length:Int) then some () else none) λx=>aa (some ((↑ss.length:Int)== (2:Int))) ss[0]? λl=>aa (some ((↑ss.length
 :Int)== (2:Int))) l.head? λx=>aa (some ((↑ss.length:Int)== (2:Int))) (T.int? i64 x) λn=>aa (some ((↑ss.length:Int)== (2:Int))) (if(0:Int)<=(1:Int)/\(1:Int) < (↑ss.length:Int)
 then some () else none) λx=>aa (some ((↑ss.length:Int)== (2:Int))) ss[1]? λl=>aa (some ((↑ss.length:Int)== (2:Int))) l.head? λx=>aa (some ((↑ss.length:Int)== (2:Int))) (T.int? i64
 x) λa=>aa (some (bif (↑ss.length:Int)== (2:Int) then n==a else false)) (if(0:Int)<=(0:Int)/\(0:Int) < (↑ss.length:Int) then some () else none) λx=>aa (some (bif (↑ss.length:Int)== (2:
 Int) then n==a else false)) ss[0]? λl=>aa (some (bif (↑ss.length:Int)== (2:Int) then n==a else false)) l.head? λx=>aa (some (bif (↑ss.length:Int)== (2:Int) then n==a else false)) (T.int?
 i64 x) λc=>U' (dE (some (bif (↑ss.length:Int)== (2:Int) then n==a else false)) (O (Key.call 14) [I c] [])) λl=>aa (some (bif (↑ss.length:Int)== (2:Int) then n==a else
 false)) l.head? λx=>aa (some (bif (↑ss.length:Int)== (2:Int) then n==a else false)) x.bool? λb=>U' (if(0:Int)<=(0:Int)/\(0:Int) < (↑ss.length:Int) then some () else none) λx=>aa
 none ss[0]? λl=>U' l.head? λx=>U' (T.int? i64 x) λe=>bif !bif bif (↑ss.length:Int)== (2:Int) then n==a else false then b else false then some [T.int i64 (0:Int)]
 else some [T.int i64 e]):=by kernel_rfl
theorem JP(O:aq)(ek:Bool)(ks:List (List T))(n:Int)(d:Int)(nm:ByteArray)(es:Bool)(ss:List (List T))(dn:ByteArray)(ea:Bool)(da:List (List T))(so:Int):ax ak ann O (Key.call 75) [AV.agg [I 18,AV.t (T.ab 1 ek ks),I n,I d,AV.t (T.str nm)],AV.t (T.ab 1 es ss),AV.agg [AV.t (T.str dn),AV.t (T.ab 1 ea da),I so]] []=
 (aa (some ((↑ss.length:Int)== (2:Int))) (if(0:Int)<=(0:Int)/\(0:Int) < (↑ss.length:Int) then some () else none) λx=>aa (some ((↑ss.length:Int)== (2:Int))) ss[0]? λl=>aa (some ((↑ss.length
 :Int)== (2:Int))) l.head? λx=>aa (some ((↑ss.length:Int)== (2:Int))) (T.int? i64 x) λn=>aa (some ((↑ss.length:Int)== (2:Int))) (if(0:Int)<=(1:Int)/\(1:Int) < (↑ss.length:Int)
 then some () else none) λx=>aa (some ((↑ss.length:Int)== (2:Int))) ss[1]? λl=>aa (some ((↑ss.length:Int)== (2:Int))) l.head? λx=>aa (some ((↑ss.length:Int)== (2:Int))) (T.int? i64
 x) λa=>aa (some (bif (↑ss.length:Int)== (2:Int) then n==a else false)) (if(0:Int)<=(0:Int)/\(0:Int) < (↑ss.length:Int) then some () else none) λx=>aa (some (bif (↑ss.length:Int)== (2:
 Int) then n==a else false)) ss[0]? λl=>aa (some (bif (↑ss.length:Int)== (2:Int) then n==a else false)) l.head? λx=>aa (some (bif (↑ss.length:Int)== (2:Int) then n==a else false)) (T.int?
 i64 x) λc=>U' (dE (some (bif (↑ss.length:Int)== (2:Int) then n==a else false)) (O (Key.call 14) [I c] [])) λl=>aa (some (bif (↑ss.length:Int)== (2:Int) then n==a else
 false)) l.head? λx=>aa (some (bif (↑ss.length:Int)== (2:Int) then n==a else false)) x.bool? λb=>U' (if(0:Int)<=(0:Int)/\(0:Int) < (↑ss.length:Int) then some () else none) λx=>aa
 none ss[0]? λl=>U' l.head? λx=>U' (T.int? i64 x) λe=>bif !bif bif (↑ss.length:Int)== (2:Int) then n==a else false then b else false then some [T.int i64 (0:Int)]
 else some [T.int i64 e]):=by kernel_rfl
theorem JQ(O:aq)(ek:Bool)(ks:List (List T))(n:Int)(d:Int)(nm:ByteArray)(es:Bool)(ss:List (List T))(dn:ByteArray)(ea:Bool)(da:List (List T))(so:Int):ax ak ann O (Key.call 75) [AV.agg [I 19,AV.t (T.ab 1 ek ks),I n,I d,AV.t (T.str nm)],AV.t (T.ab 1 es ss),AV.agg [AV.t (T.str dn),AV.t (T.ab 1 ea da),I so]] []=
 (aa (some ((↑ss.length:Int)== (2:Int))) (if(0:Int)<=(0:Int)/\(0:Int) < (↑ss.length:Int) then some () else none) λx=>aa (some ((↑ss.length:Int)== (2:Int))) ss[0]? λl=>aa (some ((↑ss.length
 :Int)== (2:Int))) l.head? λx=>aa (some ((↑ss.length:Int)== (2:Int))) (T.int? i64 x) λn=>aa (some ((↑ss.length:Int)== (2:Int))) (if(0:Int)<=(1:Int)/\(1:Int) < (↑ss.length:Int)
 then some () else none) λx=>aa (some ((↑ss.length:Int)== (2:Int))) ss[1]? λl=>aa (some ((↑ss.length:Int)== (2:Int))) l.head? λx=>aa (some ((↑ss.length:Int)== (2:Int))) (T.int? i64
 x) λa=>aa (some (bif (↑ss.length:Int)== (2:Int) then n==a else false)) (if(0:Int)<=(0:Int)/\(0:Int) < (↑ss.length:Int) then some () else none) λx=>aa (some (bif (↑ss.length:Int)== (2:
 Int) then n==a else false)) ss[0]? λl=>aa (some (bif (↑ss.length:Int)== (2:Int) then n==a else false)) l.head? λx=>aa (some (bif (↑ss.length:Int)== (2:Int) then n==a else false)) (T.int?
 i64 x) λc=>U' (dE (some (bif (↑ss.length:Int)== (2:Int) then n==a else false)) (O (Key.call 14) [I c] [])) λl=>aa (some (bif (↑ss.length:Int)== (2:Int) then n==a else
 false)) l.head? λx=>aa (some (bif (↑ss.length:Int)== (2:Int) then n==a else false)) x.bool? λb=>U' (if(0:Int)<=(0:Int)/\(0:Int) < (↑ss.length:Int) then some () else none) λx=>aa
 none ss[0]? λl=>U' l.head? λx=>U' (T.int? i64 x) λe=>bif !bif bif (↑ss.length:Int)== (2:Int) then n==a else false then b else false then some [T.int i64 (0:Int)]
 else some [T.int i64 e]):=by kernel_rfl
theorem JS(O:aq)(ek:Bool)(ks:List (List T))(n:Int)(d:Int)(nm:ByteArray)(es:Bool)(ss:List (List T))(dn:ByteArray)(ea:Bool)(da:List (List T))(so:Int):ax ak ann O (Key.call 75) [AV.agg [I 20,AV.t (T.ab 1 ek ks),I n,I d,AV.t (T.str nm)],AV.t (T.ab 1 es ss),AV.agg [AV.t (T.str dn),AV.t (T.ab 1 ea da),I so]] []=
 (aa (some ((↑ss.length:Int)== (2:Int))) (if(0:Int)<=(0:Int)/\(0:Int) < (↑ss.length:Int) then some () else none) λx=>aa (some ((↑ss.length:Int)== (2:Int))) ss[0]? λl=>aa (some ((↑ss.length
 :Int)== (2:Int))) l.head? λx=>aa (some ((↑ss.length:Int)== (2:Int))) (T.int? i64 x) λn=>aa (some ((↑ss.length:Int)== (2:Int))) (if(0:Int)<=(1:Int)/\(1:Int) < (↑ss.length:Int)
 then some () else none) λx=>aa (some ((↑ss.length:Int)== (2:Int))) ss[1]? λl=>aa (some ((↑ss.length:Int)== (2:Int))) l.head? λx=>aa (some ((↑ss.length:Int)== (2:Int))) (T.int? i64
 x) λa=>aa (some (bif (↑ss.length:Int)== (2:Int) then n==a else false)) (if(0:Int)<=(0:Int)/\(0:Int) < (↑ss.length:Int) then some () else none) λx=>aa (some (bif (↑ss.length:Int)== (2:
 Int) then n==a else false)) ss[0]? λl=>aa (some (bif (↑ss.length:Int)== (2:Int) then n==a else false)) l.head? λx=>aa (some (bif (↑ss.length:Int)== (2:Int) then n==a else false)) (T.int?
 i64 x) λc=>U' (dE (some (bif (↑ss.length:Int)== (2:Int) then n==a else false)) (O (Key.call 14) [I c] [])) λl=>aa (some (bif (↑ss.length:Int)== (2:Int) then n==a else
 false)) l.head? λx=>aa (some (bif (↑ss.length:Int)== (2:Int) then n==a else false)) x.bool? λb=>U' (if(0:Int)<=(0:Int)/\(0:Int) < (↑ss.length:Int) then some () else none) λx=>aa
 none ss[0]? λl=>U' l.head? λx=>U' (T.int? i64 x) λe=>bif !bif bif (↑ss.length:Int)== (2:Int) then n==a else false then b else false then some [T.int i64 (0:Int)]
 else some [T.int i64 e]):=by kernel_rfl
theorem JT(O:aq)(ek:Bool)(ks:List (List T))(n:Int)(d:Int)(nm:ByteArray)(es:Bool)(ss:List (List T))(dn:ByteArray)(ea:Bool)(da:List (List T))(so:Int):ax ak ann O (Key.call 75) [AV.agg [I 21,AV.t (T.ab 1 ek ks),I n,I d,AV.t (T.str nm)],AV.t (T.ab 1 es ss),AV.agg [AV.t (T.str dn),AV.t (T.ab 1 ea da),I so]] []=
 (aa (some ((↑ss.length:Int)== (2:Int))) (if(0:Int)<=(0:Int)/\(0:Int) < (↑ss.length:Int) then some () else none) λx=>aa (some ((↑ss.length:Int)== (2:Int))) ss[0]? λl=>aa (some ((↑ss.length
 :Int)== (2:Int))) l.head? λx=>aa (some ((↑ss.length:Int)== (2:Int))) (T.int? i64 x) λn=>aa (some ((↑ss.length:Int)== (2:Int))) (if(0:Int)<=(1:Int)/\(1:Int) < (↑ss.length:Int)
 then some () else none) λx=>aa (some ((↑ss.length:Int)== (2:Int))) ss[1]? λl=>aa (some ((↑ss.length:Int)== (2:Int))) l.head? λx=>aa (some ((↑ss.length:Int)== (2:Int))) (T.int? i64
 x) λa=>aa (some (bif (↑ss.length:Int)== (2:Int) then n==a else false)) (if(0:Int)<=(0:Int)/\(0:Int) < (↑ss.length:Int) then some () else none) λx=>aa (some (bif (↑ss.length:Int)== (2:
 Int) then n==a else false)) ss[0]? λl=>aa (some (bif (↑ss.length:Int)== (2:Int) then n==a else false)) l.head? λx=>aa (some (bif (↑ss.length:Int)== (2:Int) then n==a else false)) (T.int?
 i64 x) λc=>U' (dE (some (bif (↑ss.length:Int)== (2:Int) then n==a else false)) (O (Key.call 14) [I c] [])) λl=>aa (some (bif (↑ss.length:Int)== (2:Int) then n==a else
 false)) l.head? λx=>aa (some (bif (↑ss.length:Int)== (2:Int) then n==a else false)) x.bool? λb=>U' (if(0:Int)<=(0:Int)/\(0:Int) < (↑ss.length:Int) then some () else none) λx=>aa
 none ss[0]? λl=>U' l.head? λx=>U' (T.int? i64 x) λe=>bif !bif bif (↑ss.length:Int)== (2:Int) then n==a else false then b else false then some [T.int i64 (0:Int)]
 else some [T.int i64 e]):=by kernel_rfl
theorem JU(O:aq)(ek:Bool)(ks:List (List T))(n:Int)(d:Int)(nm:ByteArray)(es:Bool)(ss:List (List T))(dn:ByteArray)(ea:Bool)(da:List (List T))(so:Int):ax ak ann O (Key.call 75) [AV.agg [I 22,AV.t (T.ab 1 ek ks),I n,I d,AV.t (T.str nm)],AV.t (T.ab 1 es ss),AV.agg [AV.t (T.str dn),AV.t (T.ab 1 ea da),I so]] []=
 (aa (some ((↑ss.length:Int)== (2:Int))) (if(0:Int)<=(0:Int)/\(0:Int) < (↑ss.length:Int) then some () else none) λx=>aa (some ((↑ss.length:Int)== (2:Int))) ss[0]? λl=>aa (some ((↑ss.length
 :Int)== (2:Int))) l.head? λx=>aa (some ((↑ss.length:Int)== (2:Int))) (T.int? i64 x) λn=>aa (some ((↑ss.length:Int)== (2:Int))) (if(0:Int)<=(1:Int)/\(1:Int) < (↑ss.length:Int)
 then some () else none) λx=>aa (some ((↑ss.length:Int)== (2:Int))) ss[1]? λl=>aa (some ((↑ss.length:Int)== (2:Int))) l.head? λx=>aa (some ((↑ss.length:Int)== (2:Int))) (T.int? i64
 x) λa=>aa (some (bif (↑ss.length:Int)== (2:Int) then n==a else false)) (if(0:Int)<=(0:Int)/\(0:Int) < (↑ss.length:Int) then some () else none) λx=>aa (some (bif (↑ss.length:Int)== (2:
 Int) then n==a else false)) ss[0]? λl=>aa (some (bif (↑ss.length:Int)== (2:Int) then n==a else false)) l.head? λx=>aa (some (bif (↑ss.length:Int)== (2:Int) then n==a else false)) (T.int?
 i64 x) λc=>U' (dE (some (bif (↑ss.length:Int)== (2:Int) then n==a else false)) (O (Key.call 14) [I c] [])) λl=>aa (some (bif (↑ss.length:Int)== (2:Int) then n==a else
 false)) l.head? λx=>aa (some (bif (↑ss.length:Int)== (2:Int) then n==a else false)) x.bool? λb=>bif !bif bif (↑ss.length:Int)== (2:Int) then n==a else false then b else false then some [T.int
 i64 (0:Int)] else some [T.int i64 (1:Int)]):=by kernel_rfl
theorem JV(O:aq)(ek:Bool)(ks:List (List T))(n:Int)(d:Int)(nm:ByteArray)(es:Bool)(ss:List (List T))(dn:ByteArray)(ea:Bool)(da:List (List T))(so:Int):ax ak ann O (Key.call 75) [AV.agg [I 23,AV.t (T.ab 1 ek ks),I n,I d,AV.t (T.str nm)],AV.t (T.ab 1 es ss),AV.agg [AV.t (T.str dn),AV.t (T.ab 1 ea da),I so]] []=
 (aa (some ((↑ss.length:Int)== (2:Int))) (if(0:Int)<=(0:Int)/\(0:Int) < (↑ss.length:Int) then some () else none) λx=>aa (some ((↑ss.length:Int)== (2:Int))) ss[0]? λl=>aa (some ((↑ss.length
 :Int)== (2:Int))) l.head? λx=>aa (some ((↑ss.length:Int)== (2:Int))) (T.int? i64 x) λn=>aa (some ((↑ss.length:Int)== (2:Int))) (if(0:Int)<=(1:Int)/\(1:Int) < (↑ss.length:Int)
 then some () else none) λx=>aa (some ((↑ss.length:Int)== (2:Int))) ss[1]? λl=>aa (some ((↑ss.length:Int)== (2:Int))) l.head? λx=>aa (some ((↑ss.length:Int)== (2:Int))) (T.int? i64
 x) λn=>U' (if(0:Int)<=(0:Int)/\(0:Int) < (↑ss.length:Int) then some () else none) λx=>U' ss[0]? λl=>U' l.head? λx=>U' (T.int? i64 x) λn=>U' (O
 (Key.call 14) [I n] []) λl=>U' l.head? λx=>U' x.bool? λb=>U' (if(0:Int)<=(0:Int)/\(0:Int) < (↑ss.length:Int) then some () else none) λx=>U' ss[0]? λl=>U'
 l.head? λx=>U' (T.int? i64 x) λn=>bif !b then some [T.int i64 (0:Int)] else some [T.int i64 n]):=by kernel_rfl
theorem CD(O:aq)(ek:Bool)(ks:List (List T))(n:Int)(d:Int)(nm:ByteArray)(es:Bool)(ss:List (List T))(dn:ByteArray)(ea:Bool)(da:List (List T))(so:Int):ax ak ann O (Key.call 75) [AV.agg [I 24,AV.t (T.ab 1 ek ks),I n,I d,AV.t (T.str nm)],AV.t (T.ab 1 es ss),AV.agg [AV.t (T.str dn),AV.t (T.ab 1 ea da),I so]] []=
 (aa (some ((↑ss.length:Int)== (2:Int))) (if(0:Int)<=(0:Int)/\(0:Int) < (↑ss.length:Int) then some () else none) λx=>aa (some ((↑ss.length:Int)== (2:Int))) ss[0]? λl=>aa (some ((↑ss.length
 :Int)== (2:Int))) l.head? λx=>aa (some ((↑ss.length:Int)== (2:Int))) (T.int? i64 x) λn=>aa (some ((↑ss.length:Int)== (2:Int))) (if(0:Int)<=(1:Int)/\(1:Int) < (↑ss.length:Int)
 then some () else none) λx=>aa (some ((↑ss.length:Int)== (2:Int))) ss[1]? λl=>aa (some ((↑ss.length:Int)== (2:Int))) l.head? λx=>aa (some ((↑ss.length:Int)== (2:Int))) (T.int? i64
 x) λn=>U' (O (Key.call 85) [AV.t (T.ab 1 false [[T.int i64 (5:Int)],[T.int i64 (4:Int)]]),AV.t (T.ptr [T.ab 1 es ss])] []) λl=>U' l.head? λx=>U' x.bool? λb=>
 bif !b then some [T.int i64 (0:Int)] else some [T.int i64 (4:Int)]):=by kernel_rfl
theorem CE(O:aq)(ek:Bool)(ks:List (List T))(n:Int)(d:Int)(nm:ByteArray)(es:Bool)(ss:List (List T))(dn:ByteArray)(ea:Bool)(da:List (List T))(so:Int):ax ak ann O (Key.call 75) [AV.agg [I 25,AV.t (T.ab 1 ek ks),I n,I d,AV.t (T.str nm)],AV.t (T.ab 1 es ss),AV.agg [AV.t (T.str dn),AV.t (T.ab 1 ea da),I so]] []=
 (aa (some ((↑ss.length:Int)== (2:Int))) (if(0:Int)<=(0:Int)/\(0:Int) < (↑ss.length:Int) then some () else none) λx=>aa (some ((↑ss.length:Int)== (2:Int))) ss[0]? λl=>aa (some ((↑ss.length
 :Int)== (2:Int))) l.head? λx=>aa (some ((↑ss.length:Int)== (2:Int))) (T.int? i64 x) λn=>aa (some ((↑ss.length:Int)== (2:Int))) (if(0:Int)<=(1:Int)/\(1:Int) < (↑ss.length:Int)
 then some () else none) λx=>aa (some ((↑ss.length:Int)== (2:Int))) ss[1]? λl=>aa (some ((↑ss.length:Int)== (2:Int))) l.head? λx=>aa (some ((↑ss.length:Int)== (2:Int))) (T.int? i64
 x) λn=>U' (O (Key.call 85) [AV.t (T.ab 1 false [[T.int i64 (5:Int)],[T.int i64 (4:Int)],[T.int i64 (4:Int)]]),AV.t (T.ptr [T.ab 1 es ss])] []) λl=>U' l.head? λx
 =>U' x.bool? λb=>bif !b then some [T.int i64 (0:Int)] else some [T.int i64 (5:Int)]):=by kernel_rfl
end Go.Aev.Gen
