import Derived.Test.YtcjplcpngagalaaDoorBlastRoundQ7
set_option linter.all false
namespace Go.Aev.Gen
open Go Go.Aev Go.IntKind
noncomputable abbrev kz:Key:=bG ak 6 true 9 [(3,none),(4,none),(5,none),(9,none),(37,none),(38,none),(39,none)] (0,0)
noncomputable abbrev tO:Key:=bG ak 13 true 7 [(3,none),(4,none),(24,none),(25,none),(26,none)] (0,0)
noncomputable abbrev rE:Key:=bG ak 8 true 4 [(2,none),(3,none),(5,none)] (0,0)
noncomputable abbrev iO:Key:=bG ak 6 true 15 [(3,none),(4,none),(5,none),(9,none),(12,none),(37,none),(38,none),(39,none),(62,none),(63,none)] (0,0)
noncomputable abbrev tC:Key:=bG ak 8 true 10 [(2,none),(3,none),(5,none),(6,none),(7,none),(8,none)] (0,0)
noncomputable abbrev pF:Key:=bG ak 15 true 4 [(2,none),(3,none),(16,none),(17,none),(18,none)] (0,0)
noncomputable abbrev iP:Key:=bG ak 6 true 20 [(3,none),(4,none),(5,none),(9,none),(12,none),(14,none),(15,none),(37,none),(38,none),(39,none),(62,none),(63,none),(73,none),(74,none),(75,none)] (0,0)
noncomputable abbrev tD:Key:=bG ak 31 true 6 [(2,none),(3,none),(21,none),(22,none),(23,none)] (0,0)
noncomputable abbrev tH:Key:=bG ak 20 true 4 [(2,none),(3,none),(5,none)] (0,0)
noncomputable abbrev tI:Key:=bG ak 21 true 2 [(0,none),(1,none),(5,none)] (0,0)
noncomputable abbrev fD:Key:=bG ak 67 true 2 [(0,none),(1,none),(7,none),(8,none)] (0,0)
noncomputable abbrev tN:Key:=bG ak 82 true 4 [(1,none),(16,none),(17,none),(18,none)] (0,0)
noncomputable abbrev tB:Key:=bG ak 93 true 1 [(0,none),(1,none)] (0,0)
noncomputable abbrev mP:Key:=bG ak 7 true 10 [(3,none),(4,none),(5,none),(9,none),(10,none),(34,none),(35,none),(36,none)] (0,0)
noncomputable abbrev oo:Key:=bG ak 19 true 4 [(0,none),(2,none),(3,none),(4,none),(12,none),(13,none),(14,none)] (0,0)
noncomputable abbrev lA:Key:=bG ak 19 true 8 [(0,none),(2,none),(3,none),(4,none),(12,none),(13,none),(14,none),(28,none),(29,none),(30,none)] (0,0)
noncomputable abbrev oh:Key:=bG ak 19 true 13 [(0,none),(2,none),(3,none),(4,none),(8,none),(9,none),(12,none),(13,none),(14,none),(28,none),(29,none),(30,none),(38,none),(39,none),(40,none)] (0,0)
noncomputable abbrev tL:Key:=bG ak 36 true 2 [(1,none),(2,none),(8,none),(9,none),(10,none)] (0,0)
theorem e7(O:aq)(a:Bool)(b:List (List T))(d:Bool)(f:List (List T))(e:Bool)(g:List (List T))(h:Bool)(i:List (List T)):ax ak ann O (Key.call 6) [(AV.agg [(AV.t (T.ab 3 a b)),(AV.t (T.ab 5 d f)),(AV.t (T.ab 1 e g))]),(AV.agg [(AV.t (T.ab 5 h i))])] []=
 (U' (O (Key.call 13) [AV.agg [AV.t (T.ab 3 a b),AV.t (T.ab 5 d f),AV.t (T.ab 1 e g)],AV.agg [AV.t (T.ab 5 h i)]] []) λl=>U' l.head? λx=>U' (T.int? i64 x)
 λn=>U' l.tail.head? λx=>U' (T.int? i64 x) λj=>bif !n== (0:Int) then some [T.ae true,T.int i64 n,T.int i64 j] else U' (O (Key.call 9) [AV.agg [AV.t (T.ab
 3 a b),AV.t (T.ab 5 d f),AV.t (T.ab 1 e g)]] []) λl=>U' l.head? λx=>U' (T.an 3 x) λp=>U' l.tail.head? λx=>U' (T.an 5 x) λp=>U'
 l.tail.tail.head? λx=>U' (T.an 1 x) λp=>U' (List.drop 3 l).head? λx=>U' (T.int? i64 x) λn=>U' (List.drop 3 l).tail.head? λx=>U' (T.int? i64 x) fun
 k=>bif !n== (0:Int) then some [T.ae true,T.int i64 n,T.int i64 k] else O kz [Y'0,Y'1,Y'2,Y'3,AV.t (T.ab 3 a b),I (↑b.length:Int),I (0:Int)] [ad.box [AV.t (T.ab 5 h
 i)],ad.box [AV.t (T.ae true)],ad.box [I (0:Int),I (0:Int)],ad.box [AV.t (T.ae true)]]):=by kernel_rfl
theorem e8(O:aq)(b:Bool)(a:List (List T))(d:Bool)(f:List (List T))(e:Bool)(g:List (List T))(h:Bool)(i:List (List T)):ax ak ann O (Key.call 13) [(AV.agg [(AV.t (T.ab 3 b a)),(AV.t (T.ab 5 d f)),(AV.t (T.ab 1 e g))]),(AV.agg [(AV.t (T.ab 5 h i))])] []=
 (U' (O (Key.call 30) [AV.agg [AV.t (T.ab 3 b a),AV.t (T.ab 5 d f),AV.t (T.ab 1 e g)]] []) λl=>U' l.head? λx=>U' (T.int? i64 x) λn=>U' l.tail.head?
 λx=>U' (T.int? i64 x) λj=>bif !n== (0:Int) then some [T.int i64 n,T.int i64 j] else bif !(↑i.length:Int)== (↑a.length:Int) then some [T.int i64 (9:Int),
 T.int i64 (0:Int)] else O tO [Y'0,Y'1,AV.t (T.ab 3 b a),I (↑a.length:Int),I (0:Int)] [ad.box [AV.t (T.ab 5 h i)],ad.box [I (0:Int),I (0:Int)]]):=by kernel_rfl
theorem Iq(O:aq)(a:Bool)(d:List (List T))(b:Bool)(e:List (List T)):ax ak ann O (Key.call 8) [(AV.agg [(AV.t (T.ab 5 a d))]),(AV.agg [(AV.t (T.ab 5 b e))])] []=
 (bif !(↑d.length:Int)== (↑e.length:Int) then some [T.bool false] else O rE [Y'0,Y'1,I (0:Int)] [ad.box [AV.t (T.ab 5 a d)],ad.box [AV.t (T.ab 5 b e)]]):=by kernel_rfl
theorem xN(O:aq)(g:Bool)(d:List (List T))(j:Int)(a:Int)(m:Bool)(k:List (List T))(o:Bool)(e:Int)(f:Int)(h:Bool):ax ak ann O kz [Y'0,Y'1,Y'2,Y'3,(AV.t (T.ab 3 g d)),(I j),(I a)] [(ad.box [(AV.t (T.ab 5 m k))]),(ad.box [(AV.t (T.ae o))]),(ad.box [(I e),(I f)]),(ad.box [(AV.t (T.ae h))])]=
 (bif decide (a < j) then U' (if(0:Int)<=a/\a < (↑d.length:Int) then some () else none) λx=>U' d[a.toNat]? λl=>U' l.head? λx=>U' l.tail.head? λz=>U'
 l.tail.tail.head? λA=>U' x.bc λs=>U' (T.an 1 z) λp=>U' (T.int? i64 A) λn=>U' (if(0:Int)<=a/\a < (↑k.length:Int) then some () else none) λx=>
 U' k[a.toNat]? λl=>U' l.head? λx=>U' l.tail.head? λB=>U' l.tail.tail.head? λC=>U' l.tail.tail.tail.head? λD=>U' l.tail.tail.tail.tail.head? λE=>
 U' (T.an 5 x) λp=>U' (T.int? i64 B) λq=>U' (T.int? i64 C) λr=>U' (T.an 2 D) λi=>U' (T.int? i64 E) λu=>U' (O
 (Key.call 14) [I n] []) λl=>U' l.head? λx=>U' x.bool? λb=>bif !b then U' (O (Key.call 15) [AV.agg [AV.t (T.ab 5 p.fst p.snd),I q,I r,AV.t (T.ab 2 i.fst i.snd),I u]] []) fun
 l=>U' l.head? λx=>U' (T.an 5 x) λp=>U' l.tail.head? λx=>U' (T.int? i64 x) λn=>U' l.tail.tail.head? λx=>U' (T.int? i64 x) λw=>U'
 l.tail.tail.tail.head? λx=>U' (T.an 2 x) λv=>U' l.tail.tail.tail.tail.head? λx=>U' (T.int? i64 x) λy=>O kz [Y'0,Y'1,Y'2,
 Y'3,AV.t (T.ab 3 g d),I j,AV.t (T.int i64 (i64.wrap (a+ (1:Int))))] [ad.box [AV.t (T.ab 5 m k)],ad.box [AV.t (T.ae o)],ad.box [I e,I f],ad.box [AV.own
 (Id.c 4)],ad.sl false 5 (h && false) [[T.ab 5 p.fst p.snd,T.int i64 n,T.int i64 w,T.ab 2 v.fst v.snd,T.int i64 y]]] else O iO [Y'0,Y'1,AV.ref
 (Id.c 2) 0,Y'3,Y'4,AV.t (T.ab 3 g d),I j,I a,I (i64.wrap (n - (10:Int))),I (0:Int)] [ad.box [AV.t (T.ab 5 m k)],ad.box [AV.t (T.ae o)],ad.box [I e,I
 f],ad.box [AV.t (T.ae h)],ad.box [AV.t (T.ab 5 p.fst p.snd),I q,I r,AV.t (T.ab 2 i.fst i.snd),I u]] else some [T.ae h,T.int i64 (0:Int),T.int i64 (0:Int)]):=by kernel_rfl
theorem ID(O:aq)(a:Bool)(d:List (List T))(b:Bool)(e:List (List T))(c:Bool)(f:List (List T)):ax ak ann O (Key.call 30) [(AV.agg [(AV.t (T.ab 3 a d)),(AV.t (T.ab 5 b e)),(AV.t (T.ab 1 c f))])] []=
 (U' (O (Key.call 22) [AV.agg [AV.t (T.ab 3 a d),AV.t (T.ab 5 b e),AV.t (T.ab 1 c f)]] []) λl=>U' l.head? λx=>U' (T.an 1 x) λp=>U' l.tail.head? λx=>aa
 none (T.int? i64 x) λn=>U' l.tail.tail.head? λx=>U' (T.int? i64 x) λg=>some [T.int i64 n,T.int i64 g]):=by kernel_rfl
theorem CM(O:aq)(f:Bool)(b:List (List T))(g:Int)(a:Int)(i:Bool)(h:List (List T))(d:Int)(e:Int):ax ak ann O tO [Y'0,Y'1,(AV.t (T.ab 3 f b)),(I g),(I a)] [(ad.box [(AV.t (T.ab 5 i h))]),(ad.box [(I d),(I e)])]=
 (bif decide (a < g) then U' (if(0:Int)<=a/\a < (↑b.length:Int) then some () else none) λx=>U' b[a.toNat]? λl=>U' l.head? λx=>U' l.tail.head? λr=>U'
 l.tail.tail.head? λu=>U' x.bc λs=>U' (T.an 1 r) λp=>U' (T.int? i64 u) λn=>U' (if(0:Int)<=a/\a < (↑h.length:Int) then some () else none) λx=>
 U' h[a.toNat]? λl=>U' l.head? λx=>U' l.tail.head? λv=>U' l.tail.tail.head? λw=>U' l.tail.tail.tail.head? λy=>U' l.tail.tail.tail.tail.head? λz=>
 U' (T.an 5 x) λj=>U' (T.int? i64 v) λm=>U' (T.int? i64 w) λo=>U' (T.an 2 y) λk=>U' (T.int? i64 z) λq=>U' (O
 (Key.call 31) [AV.agg [AV.t (T.str s),AV.t (T.ab 1 p.fst p.snd),I n],AV.agg [AV.t (T.ab 5 j.fst j.snd),I m,I o,AV.t (T.ab 2 k.fst k.snd),I q]] []) λl=>U' l.head? λx=>U'
 (T.int? i64 x) λn=>bif !n== (0:Int) then some [T.int i64 n,T.int i64 a] else O tO [Y'0,Y'1,AV.t (T.ab 3 f b),I g,I (i64.wrap (a+ (1:
 Int)))] [ad.box [AV.t (T.ab 5 i h)],ad.box [I d,I e]] else some [T.int i64 (0:Int),T.int i64 (0:Int)]):=by kernel_rfl
theorem BB(O:aq)(d:Int)(i:Bool)(g:List (List T))(j:Bool)(h:List (List T)):ax ak ann O rE [Y'0,Y'1,(I d)] [(ad.box [(AV.t (T.ab 5 i g))]),(ad.box [(AV.t (T.ab 5 j h))])]=
 (bif decide (d < (↑g.length:Int)) then U' (if(0:Int)<=d/\d < (↑g.length:Int) then some () else none) λx=>U' g[d.toNat]? λl=>U' l.head? λx=>U' l.tail.head? λs=>
 U' l.tail.tail.head? λu=>U' l.tail.tail.tail.head? λv=>U' l.tail.tail.tail.tail.head? λw=>U' (T.an 5 x) λp=>U' (T.int? i64 s) λn=>U' (T.int?
 i64 u) λk=>U' (T.an 2 v) λe=>U' (T.int? i64 w) λm=>U' (if(0:Int)<=d/\d < (↑h.length:Int) then some () else none) λx=>U' h[d.toNat]? fun
 l=>U' l.head? λx=>U' l.tail.head? λy=>U' l.tail.tail.head? λz=>U' l.tail.tail.tail.head? λA=>U' l.tail.tail.tail.tail.head? λB=>U' (T.an 5 x) fun
 a=>U' (T.int? i64 y) λo=>U' (T.int? i64 z) λq=>U' (T.an 2 A) λf=>U' (T.int? i64 B) λr=>U' (dE (some !!(↑p.snd.length:Int)
 == (↑a.snd.length:Int)) (O (Key.call 20) [AV.agg [I n,I k,AV.t (T.ab 2 e.fst e.snd),I m],AV.agg [I o,I q,AV.t (T.ab 2 f.fst f.snd),I r]] [])) λl=>aa (some !!(↑p.snd.length:Int)==
 (↑a.snd.length:Int)) l.head? λx=>aa (some !!(↑p.snd.length:Int)== (↑a.snd.length:Int)) x.bool? λb=>bif bif !(↑p.snd.length:Int)== (↑a.snd.length:Int) then true else !b then some [T.bool false]
 else O tC [Y'0,Y'1,I d,Y'2,Y'3,I (0:Int)] [ad.box [AV.t (T.ab 5 i g)],ad.box [AV.t (T.ab 5 j h)],ad.box [AV.t (T.ab 5 p.fst p.snd),I n,I
 k,AV.t (T.ab 2 e.fst e.snd),I m],ad.box [AV.t (T.ab 5 a.fst a.snd),I o,I q,AV.t (T.ab 2 f.fst f.snd),I r]] else some [T.bool true]):=by kernel_rfl
theorem BD(O:aq)(b:Bool)(a:List (List T))(e:Int)(f:Int)(d:Bool)(g:List (List T))(h:Int):ax ak ann O (Key.call 15) [(AV.agg [(AV.t (T.ab 5 b a)),(I e),(I f),(AV.t (T.ab 2 d g)),(I h)])] []=
 (U' (O (Key.call 32) [AV.t (T.ab 2 d g)] []) λl=>U' l.head? λx=>U' (T.an 2 x) λp=>O pF [Y'0,Y'1,AV.t (T.ab 5 b a),I (↑a.length:Int),
 I (0:Int)] [ad.box [AV.t (T.ae true),I (0:Int),I (0:Int),AV.t (T.ae true),I (0:Int)],ad.box [AV.t (T.ae true),I e,I f,AV.t (T.ab 2 p.fst p.snd),I h]]):=by kernel_rfl
theorem xO(O:aq)(g:Bool)(d:List (List T))(k:Int)(a:Int)(q:Bool)(m:List (List T))(r:Bool)(e:Int)(f:Int)(h:Bool)(o:List (List T)):ax ak ann O kz [Y'0,Y'1,Y'2,Y'3,(AV.t (T.ab 3 g d)),(I k),(I a)] [(ad.box [(AV.t (T.ab 5 q m))]),(ad.box [(AV.t (T.ae r))]),(ad.box [(I e),(I f)]),(ad.box [V'4]),(ad.sl false 5 h o)]=
 (bif decide (a < k) then U' (if(0:Int)<=a/\a < (↑d.length:Int) then some () else none) λx=>U' d[a.toNat]? λl=>U' l.head? λx=>U' l.tail.head? λA=>U'
 l.tail.tail.head? λB=>U' x.bc λs=>U' (T.an 1 A) λp=>U' (T.int? i64 B) λn=>U' (if(0:Int)<=a/\a < (↑m.length:Int) then some () else none) λx=>
 U' m[a.toNat]? λl=>U' l.head? λx=>U' l.tail.head? λC=>U' l.tail.tail.head? λD=>U' l.tail.tail.tail.head? λE=>U' l.tail.tail.tail.tail.head? λF=>
 U' (T.an 5 x) λp=>U' (T.int? i64 C) λu=>U' (T.int? i64 D) λv=>U' (T.an 2 E) λi=>U' (T.int? i64 F) λw=>U' (O
 (Key.call 14) [I n] []) λl=>U' l.head? λx=>U' x.bool? λb=>bif !b then U' (O (Key.call 15) [AV.agg [AV.t (T.ab 5 p.fst p.snd),I u,I v,AV.t (T.ab 2 i.fst i.snd),I w]] []) fun
 l=>U' l.head? λx=>U' (T.an 5 x) λp=>U' l.tail.head? λx=>U' (T.int? i64 x) λn=>U' l.tail.tail.head? λx=>U' (T.int? i64 x) λy=>U'
 l.tail.tail.tail.head? λx=>U' (T.an 2 x) λj=>U' l.tail.tail.tail.tail.head? λx=>U' (T.int? i64 x) λz=>U' (bp 72 (o.length+ [[T.ab 5 p.fst p.snd,T.int
 i64 n,T.int i64 y,T.ab 2 j.fst j.snd,T.int i64 z]].length)) λx=>O kz [Y'0,Y'1,Y'2,Y'3,AV.t (T.ab 3 g d),I k,
 AV.t (T.int i64 (i64.wrap (a+ (1:Int))))] [ad.box [AV.t (T.ab 5 q m)],ad.box [AV.t (T.ae r)],ad.box [I e,I f],ad.box [V'4],ad.sl false 5 (h && false) (o++
 [[T.ab 5 p.fst p.snd,T.int i64 n,T.int i64 y,T.ab 2 j.fst j.snd,T.int i64 z]])] else O iO [Y'0,Y'1,Y'2,Y'3,AV.ref (Id.c
 4) 0,AV.t (T.ab 3 g d),I k,I a,I (i64.wrap (n - (10:Int))),I (0:Int)] [ad.box [AV.t (T.ab 5 q m)],ad.box [AV.t (T.ae r)],ad.box [I e,I f],ad.box [V'5],ad.box
 [AV.t (T.ab 5 p.fst p.snd),I u,I v,AV.t (T.ab 2 i.fst i.snd),I w],ad.sl false 5 h o] else some [T.ab 5 h o,T.int i64 (0:Int),T.int i64 (0:Int)]):=by kernel_rfl
theorem JG(O:aq)(m:Bool)(s:List (List T))(u:Int)(v:Int)(w:Int)(e:Int)(o:Bool)(y:List (List T))(q:Bool)(f:Int)(g:Int)(r:Bool)(b:Bool)(a:List (List T))(h:Int)(i:Int)(d:Bool)(j:List (List T))(k:Int):ax ak ann O iO [Y'0,Y'1,Y'2,Y'3,Y'4,(AV.t (T.ab 3 m s)),(I u),(I v),(I w),(I e)] [(ad.box [(AV.t (T.ab 5 o y))]),(ad.box [(AV.t (T.ae q))]),(ad.box [(I f),(I g)]),(ad.box [(AV.t (T.ae r))]),(ad.box [(AV.t (T.ab 5 b a)),(I h),(I i),(AV.t (T.ab 2 d j)),(I k)])]=
 (bif decide (e < w) then U' (O (Key.call 16) [AV.agg [I h,I i,AV.t (T.ab 2 d j),I k],AV.t (T.ptr [T.int i64 e])] []) λl=>U' l.head? λx=>U' (T.int? i64
 x) λn=>U' l.tail.head? λx=>U' (T.int? i64 x) λz=>U' l.tail.tail.head? λx=>U' (T.an 2 x) λp=>U' l.tail.tail.tail.head? λx=>U' (T.int?
 i64 x) λA=>O iP [Y'0,Y'1,Y'2,Y'3,Y'4,AV.fn 16 [] [Y'5],Y'6,AV.t (T.ab 3 m s),I u,I v,
 I w,I e,AV.t (T.ab 5 b a),I (↑a.length:Int),I (0:Int)] [ad.box [AV.t (T.ab 5 o y)],ad.box [AV.t (T.ae q)],ad.box [I f,I g],ad.box [AV.t (T.ae r)],ad.box [AV.t (T.ab 5
 b a),I h,I i,AV.t (T.ab 2 d j),I k],ad.cO [T.int i64 e],ad.box [AV.t (T.ae true),I n,I z,AV.t (T.ab 2 p.fst p.snd),I A]] else O kz [Y'0,AV.ref (Id.c
 1) 0,Y'2,Y'3,AV.t (T.ab 3 m s),I u,I (i64.wrap (v+ (1:Int)))] [ad.box [AV.t (T.ab 5 o y)],ad.box [AV.t (T.ae q)],ad.box [I f,I g],ad.box [AV.t
 (T.ae r)]]):=by kernel_rfl
theorem IE(O:aq)(f:ByteArray)(e:Bool)(g:List (List T))(h:Int)(d:Bool)(a:List (List T))(j:Int)(k:Int)(i:Bool)(m:List (List T))(n:Int):ax ak ann O (Key.call 31) [(AV.agg [(AV.t (T.str f)),(AV.t (T.ab 1 e g)),(I h)]),(AV.agg [(AV.t (T.ab 5 d a)),(I j),(I k),(AV.t (T.ab 2 i m)),(I n)])] []=
 (U' (dE (some !decide ((↑a.length:Int) > (1000:Int))) (O (Key.call 33) [AV.t (T.ab 5 d a),AV.fn 60 [] [AV.t (T.ptr [T.str f,T.ab 1 e g,T.int i64 h])]] [])) λl=>aa (some
 !decide ((↑a.length:Int) > (1000:Int))) l.head? λx=>aa (some !decide ((↑a.length:Int) > (1000:Int))) x.bool? λb=>bif bif decide ((↑a.length:Int) > (1000:Int)) then true else b then some
 [T.int i64 (9:Int)] else U' (O (Key.call 33) [AV.t (T.ab 5 d a),AV.fn 61 [] []] []) λl=>U' l.head? λx=>U' x.bool? λb=>bif b then some [T.int i64 (3:Int)] else
 O tD [Y'0,Y'1,AV.t (T.ab 5 d a),I (↑a.length:Int),I (0:Int)] [ad.box [AV.t (T.str f),AV.t (T.ab 1 e g),I h],ad.box [AV.t (T.ab 5 d a),I j,I
 k,AV.t (T.ab 2 i m),I n]]):=by kernel_rfl
theorem IP(O:aq)(a:Int)(b:Int)(j:Bool)(d:List (List T))(e:Int)(f:Int)(g:Int)(k:Bool)(h:List (List T))(i:Int):ax ak ann O (Key.call 20) [(AV.agg [(I a),(I b),(AV.t (T.ab 2 j d)),(I e)]),(AV.agg [(I f),(I g),(AV.t (T.ab 2 k h)),(I i)])] []=
 (bif bif bif !(a==f && (b==g && true)) then true else !e==i then true else !(↑d.length:Int)== (↑h.length:Int) then some [T.bool false] else O tH [Y'0,Y'1,
 I (0:Int)] [ad.box [I a,I b,AV.t (T.ab 2 j d),I e],ad.box [I f,I g,AV.t (T.ab 2 k h),I i]]):=by kernel_rfl
theorem BA(O:aq)(C:Int)(d:Int)(v:Bool)(A:List (List T))(w:Bool)(B:List (List T))(f:Bool)(a:List (List T))(j:Int)(k:Int)(g:Bool)(m:List (List T))(o:Int)(h:Bool)(e:List (List T))(q:Int)(r:Int)(i:Bool)(s:List (List T))(u:Int):ax ak ann O tC [Y'0,Y'1,(I C),Y'2,Y'3,(I d)] [(ad.box [(AV.t (T.ab 5 v A))]),(ad.box [(AV.t (T.ab 5 w B))]),(ad.box [(AV.t (T.ab 5 f a)),(I j),(I k),(AV.t (T.ab 2 g m)),(I o)]),(ad.box [(AV.t (T.ab 5 h e)),(I q),(I r),(AV.t (T.ab 2 i s)),(I u)])]=
 (bif decide (d < (↑a.length:Int)) then U' (if(0:Int)<=d/\d < (↑a.length:Int) then some () else none) λx=>U' a[d.toNat]? λl=>U' l.head? λx=>U' (T.an 1 x) λp
 =>U' (if(0:Int)<=d/\d < (↑e.length:Int) then some () else none) λx=>U' e[d.toNat]? λl=>U' l.head? λx=>U' (T.an 1 x) λy=>U' (O (Key.call 21) [AV.t
 (T.ab 1 p.fst p.snd),AV.t (T.ab 1 y.fst y.snd)] []) λl=>U' l.head? λx=>U' x.bool? λb=>aa (some !!b) (if(0:Int)<=d/\d < (↑a.length:Int) then some () else none) λx=>aa
 (some !!b) a[d.toNat]? λl=>aa (some !!b) (List.drop 1 l).head? λx=>aa (some !!b) (List.drop 1 l).tail.head? λK=>aa (some !!b) (List.drop 1 l).tail.tail.head? λL=>aa (some !!b) (List.drop 1
 l).tail.tail.tail.head? λM=>aa (some !!b) (T.int? i64 x) λn=>aa (some !!b) (T.int? i64 K) λE=>aa (some !!b) (T.an 2 L) λp=>aa (some !!b) (T.int? i64 M) λF
 =>aa (some !!b) (if(0:Int)<=d/\d < (↑e.length:Int) then some () else none) λx=>aa (some !!b) e[d.toNat]? λl=>aa (some !!b) (List.drop 1 l).head? λx=>aa (some !!b) (List.drop 1
 l).tail.head? λN=>aa (some !!b) (List.drop 1 l).tail.tail.head? λP=>aa (some !!b) (List.drop 1 l).tail.tail.tail.head? λQ=>aa (some !!b) (T.int? i64 x) λG=>aa (some !!b) (T.int?
 i64 N) λH=>aa (some !!b) (T.an 2 P) λz=>aa (some !!b) (T.int? i64 Q) λJ=>U' (dE (some !!b) (O (Key.call 20) [AV.agg [I n,I E,AV.t (T.ab 2 p.fst p.snd),I F],
 AV.agg [I G,I H,AV.t (T.ab 2 z.fst z.snd),I J]] [])) λl=>aa (some !!b) l.head? λx=>aa (some !!b) x.bool? λD=>bif bif !b then true else !D then some [T.bool false] else O tC [AV.ref
 (Id.c 0) 0,Y'1,I C,Y'2,Y'3,AV.t (T.int i64 (i64.wrap (d+ (1:Int))))] [ad.box [AV.t (T.ab 5 v A)],ad.box [AV.t (T.ab 5 w B)],ad.box [AV.t
 (T.ab 5 f a),I j,I k,AV.t (T.ab 2 g m),I o],ad.box [AV.t (T.ab 5 h e),I q,I r,AV.t (T.ab 2 i s),I u]] else O rE [Y'0,Y'1,I
 (i64.wrap (C+ (1:Int)))] [ad.box [AV.t (T.ab 5 v A)],ad.box [AV.t (T.ab 5 w B)]]):=by kernel_rfl
theorem Cc(O:aq)(a:Bool)(b:List (List T)):ax ak ann O (Key.call 32) [(AV.t (T.ab 2 a b))] []=
 (bif a then some [T.ae true] else U' (bp 16 (0+b.length)) λx=>some [T.ab 2 false b]):=by kernel_rfl
theorem BE(O:aq)(r:Bool)(k:List (List T))(s:Int)(a:Int)(i:Bool)(m:Int)(o:Int)(j:Bool)(q:Int)(b:Bool)(e:Int)(f:Int)(d:Bool)(g:List (List T))(h:Int):ax ak ann O pF [Y'0,Y'1,(AV.t (T.ab 5 r k)),(I s),(I a)] [(ad.box [(AV.t (T.ae i)),(I m),(I o),(AV.t (T.ae j)),(I q)]),(ad.box [(AV.t (T.ae b)),(I e),(I f),(AV.t (T.ab 2 d g)),(I h)])]=
 (bif decide (a < s) then U' (if(0:Int)<=a/\a < (↑k.length:Int) then some () else none) λx=>U' k[a.toNat]? λl=>U' l.head? λx=>U' l.tail.head? λz=>U'
 l.tail.tail.head? λA=>U' l.tail.tail.tail.head? λB=>U' l.tail.tail.tail.tail.head? λC=>U' (T.an 1 x) λp=>U' (T.int? i64 z) λn=>U' (T.int?
 i64 A) λw=>U' (T.an 2 B) λu=>U' (T.int? i64 C) λy=>U' (O (Key.call 18) [AV.t (T.ab 1 p.fst p.snd)] []) λl=>U' l.head? λx=>U' (T.an 1
 x) λp=>U' (O (Key.call 32) [AV.t (T.ab 2 u.fst u.snd)] []) λl=>U' l.head? λx=>U' (T.an 2 x) λv=>O pF [Y'0,Y'1,AV.t (T.ab 5 r k),I s,
 I (i64.wrap (a+ (1:Int)))] [ad.box [AV.t (T.ae i),I m,I o,AV.t (T.ae j),I q],ad.box [V'2,I e,I f,AV.t (T.ab 2 d g),I h],ad.sl false 5 (b &&
 false) [[T.ab 1 p.fst p.snd,T.int i64 n,T.int i64 w,T.ab 2 v.fst v.snd,T.int i64 y]]] else some [T.ae b,T.int i64 e,T.int i64 f,T.ab 2 d g,T.int
 i64 h]):=by kernel_rfl
theorem Cu(O:aq)(m:Bool)(s:List (List T))(u:Int)(v:Int)(w:Int)(e:Int)(o:Bool)(y:List (List T))(q:Bool)(f:Int)(g:Int)(b:Bool)(a:List (List T))(h:Int)(i:Int)(d:Bool)(j:List (List T))(k:Int)(r:Bool)(z:List (List T)):ax ak ann O iO [Y'0,Y'1,Y'2,Y'3,Y'4,(AV.t (T.ab 3 m s)),(I u),(I v),(I w),(I e)] [(ad.box [(AV.t (T.ab 5 o y))]),(ad.box [(AV.t (T.ae q))]),(ad.box [(I f),(I g)]),(ad.box [V'5]),(ad.box [(AV.t (T.ab 5 b a)),(I h),(I i),(AV.t (T.ab 2 d j)),(I k)]),(ad.sl false 5 r z)]=
 (bif decide (e < w) then U' (O (Key.call 16) [AV.agg [I h,I i,AV.t (T.ab 2 d j),I k],AV.t (T.ptr [T.int i64 e])] []) λl=>U' l.head? λx=>U' (T.int? i64
 x) λn=>U' l.tail.head? λx=>U' (T.int? i64 x) λA=>U' l.tail.tail.head? λx=>U' (T.an 2 x) λp=>U' l.tail.tail.tail.head? λx=>U' (T.int?
 i64 x) λB=>O iP [Y'0,Y'1,Y'2,Y'3,Y'4,AV.fn 16 [] [Y'5],Y'6,AV.t (T.ab 3 m s),I u,I v,
 I w,I e,AV.t (T.ab 5 b a),I (↑a.length:Int),I (0:Int)] [ad.box [AV.t (T.ab 5 o y)],ad.box [AV.t (T.ae q)],ad.box [I f,I g],ad.box [V'7],ad.box [AV.t (T.ab 5 b
 a),I h,I i,AV.t (T.ab 2 d j),I k],ad.cO [T.int i64 e],ad.box [AV.t (T.ae true),I n,I A,AV.t (T.ab 2 p.fst p.snd),I B],ad.sl false 5 r z] else O kz [AV.ref (Id.c 0)
 0,Y'1,Y'2,Y'3,AV.t (T.ab 3 m s),I u,I (i64.wrap (v+ (1:Int)))] [ad.box [AV.t (T.ab 5 o y)],ad.box [AV.t (T.ae q)],ad.box [I f,I g],
 ad.box [V'4],ad.sl false 5 r z]):=by kernel_rfl
theorem IB(O:aq)(a:Int)(c:Int)(b:Bool)(d:List (List T))(e:Int)(f:Int):ax ak ann O (Key.call 16) [(AV.agg [(I a),(I c),(AV.t (T.ab 2 b d)),(I e)]),(AV.t (T.ptr [(T.int i64 f)]))] []=
 (U' (if f < (0:Int) then none else some ()) λx=>U' (O (Key.call 17) [AV.t (T.int i64 (i64.wrap (↑(BitVec.ofInt 64 (a.fdiv ((2:Int) ^ min f.toNat 64)) &&& BitVec.ofInt 64 (1:
 Int)).toNat:Int)))] []) λl=>U' l.head? λx=>U' (T.int? i64 x) λn=>U' l.tail.head? λx=>U' (T.int? i64 x) λg=>U' l.tail.tail.head? λx=>U'
 (T.an 2 x) λp=>U' l.tail.tail.tail.head? λx=>U' (T.int? i64 x) λh=>some [T.int i64 n,T.int i64 g,T.ab 2 p.fst p.snd,T.int i64 h]):=by kernel_rfl
theorem Cv(O:aq)(v:Bool)(C:List (List T))(D:Int)(E:Int)(F:Int)(G:Int)(B:Bool)(w:List (List T))(H:Int)(a:Int)(y:Bool)(L:List (List T))(z:Bool)(g:Int)(h:Int)(A:Bool)(b:Bool)(i:List (List T))(j:Int)(k:Int)(d:Bool)(m:List (List T))(o:Int)(M:Int)(e:Bool)(q:Int)(r:Int)(f:Bool)(s:List (List T))(u:Int):ax ak ann O iP [Y'0,Y'1,Y'2,Y'3,Y'4,(AV.fn 16 [] [Y'5]),Y'6,(AV.t (T.ab 3 v C)),(I D),(I E),(I F),(I G),(AV.t (T.ab 5 B w)),(I H),(I a)] [(ad.box [(AV.t (T.ab 5 y L))]),(ad.box [(AV.t (T.ae z))]),(ad.box [(I g),(I h)]),(ad.box [(AV.t (T.ae A))]),(ad.box [(AV.t (T.ab 5 b i)),(I j),(I k),(AV.t (T.ab 2 d m)),(I o)]),(ad.cO [(T.int i64 M)]),(ad.box [(AV.t (T.ae e)),(I q),(I r),(AV.t (T.ab 2 f s)),(I u)])]=
 (bif decide (a < H) then U' (if(0:Int)<=a/\a < (↑w.length:Int) then some () else none) λx=>U' w[a.toNat]? λl=>U' l.head? λx=>U' l.tail.head? λS=>U'
 l.tail.tail.head? λU=>U' l.tail.tail.tail.head? λV=>U' l.tail.tail.tail.tail.head? λW=>U' (T.an 1 x) λp=>U' (T.int? i64 S) λn=>U' (T.int?
 i64 U) λN=>U' (T.an 2 V) λJ=>U' (T.int? i64 W) λP=>U' (O (Key.call 18) [AV.t (T.ab 1 p.fst p.snd)] []) λl=>U' l.head? λx=>U' (T.an 1
 x) λp=>U' (O (Key.call 16) [AV.agg [I n,I N,AV.t (T.ab 2 J.fst J.snd),I P],AV.t (T.ptr [T.int i64 M])] []) λl=>U' l.head? λx=>U' (T.int? i64 x) λn=>aa
 none l.tail.head? λx=>U' (T.int? i64 x) λQ=>U' l.tail.tail.head? λx=>U' (T.an 2 x) λK=>U' l.tail.tail.tail.head? λx=>U' (T.int? i64 x) λR
 =>O iP [Y'0,Y'1,Y'2,Y'3,Y'4,AV.fn 16 [] [Y'5],Y'6,AV.t (T.ab 3 v C),I D,I E,I F,I G,AV.t
 (T.ab 5 B w),I H,I (i64.wrap (a+ (1:Int)))] [ad.box [AV.t (T.ab 5 y L)],ad.box [AV.t (T.ae z)],ad.box [I g,I h],ad.box [AV.t (T.ae A)],ad.box [AV.t (T.ab 5 b i),I
 j,I k,AV.t (T.ab 2 d m),I o],ad.cO [T.int i64 M],ad.box [V'7,I q,I r,AV.t (T.ab 2 f s),I u],ad.sl false 5 (e && false) [[T.ab 1 p.fst p.snd,T.int
 i64 n,T.int i64 Q,T.ab 2 K.fst K.snd,T.int i64 R]]] else O iO [Y'0,Y'1,Y'2,Y'3,Y'4,AV.t (T.ab 3 v C),
 I D,I E,I F,I (i64.wrap (G+ (1:Int)))] [ad.box [AV.t (T.ab 5 y L)],ad.box [AV.t (T.ae z)],ad.box [I g,I h],ad.box [V'5],ad.box [AV.t (T.ab 5 b i),I j,I
 k,AV.t (T.ab 2 d m),I o],ad.sl false 5 (A && false) [[T.ae e,T.int i64 q,T.int i64 r,T.ab 2 f s,T.int i64 u]]]):=by kernel_rfl
theorem IT(O:aq)(e:Bool)(f:List (List T))(b:ByteArray)(a:Bool)(c:List (List T))(d:Int):ax ak ann O (Key.call 33) [(AV.t (T.ab 5 e f)),(AV.fn 60 [] [(AV.t (T.ptr [(T.str b),(T.ab 1 a c),(T.int i64 d)]))])] []=
 (U' (O (Key.call 67) [AV.t (T.ab 5 e f),AV.fn 60 [] [AV.t (T.ptr [T.str b,T.ab 1 a c,T.int i64 d])]] []) λl=>U' l.head? λx=>U' (T.int? i64 x) λn=>
 some [T.bool (decide (n>=(0:Int)))]):=by kernel_rfl
theorem IU(O:aq)(a:Bool)(b:List (List T)):ax ak ann O (Key.call 33) [(AV.t (T.ab 5 a b)),(AV.fn 61 [] [])] []=
 (U' (O (Key.call 67) [AV.t (T.ab 5 a b),AV.fn 61 [] []] []) λl=>U' l.head? λx=>U' (T.int? i64 x) λn=>some [T.bool (decide (n>=(0:Int)))]):=by kernel_rfl
theorem xx(O:aq)(s:Bool)(r:List (List T))(u:Int)(a:Int)(i:ByteArray)(g:Bool)(j:List (List T))(f:Int)(d:Bool)(e:List (List T))(k:Int)(m:Int)(h:Bool)(o:List (List T))(q:Int):ax ak ann O tD [Y'0,Y'1,(AV.t (T.ab 5 s r)),(I u),(I a)] [(ad.box [(AV.t (T.str i)),(AV.t (T.ab 1 g j)),(I f)]),(ad.box [(AV.t (T.ab 5 d e)),(I k),(I m),(AV.t (T.ab 2 h o)),(I q)])]=
 (bif decide (a < u) then U' (if(0:Int)<=a/\a < (↑r.length:Int) then some () else none) λx=>U' r[a.toNat]? λl=>U' l.head? λx=>U' l.tail.head? λA=>U'
 l.tail.tail.head? λB=>U' l.tail.tail.tail.head? λC=>U' l.tail.tail.tail.tail.head? λD=>U' (T.an 1 x) λp=>U' (T.int? i64 A) λn=>U' (T.int?
 i64 B) λy=>U' (T.an 2 C) λv=>U' (T.int? i64 D) λz=>U' (fp (0:Int) a (↑e.length:Int)) λx=>U' (O (Key.call 33) [AV.t (T.ab 5 d (sub (0
 :Int) a e)),AV.fn 64 [] [AV.t (T.ptr [T.ab 1 p.fst p.snd,T.int i64 n,T.int i64 y,T.ab 2 v.fst v.snd,T.int i64 z])]] []) λl=>U' l.head? λx=>U' x.bool? fun
 b=>bif b then some [T.int i64 (7:Int)] else O tD [Y'0,Y'1,AV.t (T.ab 5 s r),I u,I (i64.wrap (a+ (1:Int)))] [ad.box [AV.t (T.str i),AV.t (T.ab 1
 g j),I f],ad.box [AV.t (T.ab 5 d e),I k,I m,AV.t (T.ab 2 h o),I q]] else U' (O (Key.call 65) [I f,AV.agg [I k,I m,AV.t (T.ab 2 h o),I q]] []) λl
 =>U' l.head? λx=>U' x.bool? λb=>U' (dE (some !!b) (O (Key.call 33) [AV.t (T.ab 5 d e),AV.fn 66 [] [AV.t (T.ptr [T.str i,T.ab 1 g j,T.int i64 f])]] [])) λl
 =>aa (some !!b) l.head? λx=>aa (some !!b) x.bool? λw=>bif bif !b then true else w then some [T.int i64 (8:Int)] else some [T.int i64 (0:Int)]):=by kernel_rfl
theorem B5(O:aq)(d:Int)(g:Int)(h:Int)(e:Bool)(a:List (List T))(i:Int)(j:Int)(k:Int)(f:Bool)(b:List (List T))(m:Int):ax ak ann O tH [Y'0,Y'1,(I d)] [(ad.box [(I g),(I h),(AV.t (T.ab 2 e a)),(I i)]),(ad.box [(I j),(I k),(AV.t (T.ab 2 f b)),(I m)])]=
 (bif decide (d < (↑a.length:Int)) then U' (if(0:Int)<=d/\d < (↑a.length:Int) then some () else none) λx=>U' a[d.toNat]? λl=>U' l.head? λx=>U' l.tail.head? fun
 r=>U' (T.int? i64 x) λn=>U' (T.int? i64 r) λo=>U' (if(0:Int)<=d/\d < (↑b.length:Int) then some () else none) λx=>U' b[d.toNat]? λl=>aa
 none l.head? λx=>U' l.tail.head? λs=>U' (T.int? i64 x) λp=>U' (T.int? i64 s) λq=>bif !(n==p && (o==q && true)) then some [T.bool false] else O tH
 [Y'0,Y'1,I (i64.wrap (d+ (1:Int)))] [ad.box [I g,I h,AV.t (T.ab 2 e a),I i],ad.box [I j,I k,AV.t (T.ab 2 f b),I m]] else some [T.bool
 true]):=by kernel_rfl
theorem IQ(O:aq)(a:Bool)(c:List (List T))(b:Bool)(d:List (List T)):ax ak ann O (Key.call 21) [(AV.t (T.ab 1 a c)),(AV.t (T.ab 1 b d))] []=
 (O tI [AV.t (T.ab 1 a c),AV.t (T.ab 1 b d),I (0:Int)] []):=by kernel_rfl
theorem BF(O:aq)(s:Bool)(k:List (List T))(u:Int)(a:Int)(h:Bool)(m:Int)(o:Int)(i:Bool)(q:Int)(d:Int)(e:Int)(b:Bool)(f:List (List T))(g:Int)(r:Bool)(v:List (List T)):ax ak ann O pF [Y'0,Y'1,(AV.t (T.ab 5 s k)),(I u),(I a)] [(ad.box [(AV.t (T.ae h)),(I m),(I o),(AV.t (T.ae i)),(I q)]),(ad.box [V'2,(I d),(I e),(AV.t (T.ab 2 b f)),(I g)]),(ad.sl false 5 r v)]=
 (bif decide (a < u) then U' (if(0:Int)<=a/\a < (↑k.length:Int) then some () else none) λx=>U' k[a.toNat]? λl=>U' l.head? λx=>U' l.tail.head? λA=>U'
 l.tail.tail.head? λB=>U' l.tail.tail.tail.head? λC=>U' l.tail.tail.tail.tail.head? λD=>U' (T.an 1 x) λp=>U' (T.int? i64 A) λn=>U' (T.int?
 i64 B) λw=>U' (T.an 2 C) λz=>U' (T.int? i64 D) λy=>U' (O (Key.call 18) [AV.t (T.ab 1 p.fst p.snd)] []) λl=>U' l.head? λx=>U' (T.an 1
 x) λp=>U' (O (Key.call 32) [AV.t (T.ab 2 z.fst z.snd)] []) λl=>U' l.head? λx=>U' (T.an 2 x) λj=>U' (bp 72 (v.length+ [[T.ab 1 p.fst p.snd,T.int i64 n,
 T.int i64 w,T.ab 2 j.fst j.snd,T.int i64 y]].length)) λx=>O pF [Y'0,Y'1,AV.t (T.ab 5 s k),I u,I (i64.wrap (a+ (1:Int)))] [ad.box
 [AV.t (T.ae h),I m,I o,AV.t (T.ae i),I q],ad.box [V'2,I d,I e,AV.t (T.ab 2 b f),I g],ad.sl false 5 (r && false) (v++ [[T.ab 1 p.fst p.snd,T.int i64
 n,T.int i64 w,T.ab 2 j.fst j.snd,T.int i64 y]])] else some [T.ab 5 r v,T.int i64 d,T.int i64 e,T.ab 2 b f,T.int i64 g]):=by kernel_rfl
theorem Cw(O:aq)(v:Bool)(C:List (List T))(D:Int)(E:Int)(F:Int)(G:Int)(B:Bool)(w:List (List T))(H:Int)(d:Int)(y:Bool)(L:List (List T))(z:Bool)(k:Int)(m:Int)(i:Bool)(o:List (List T))(q:Int)(r:Int)(j:Bool)(s:List (List T))(u:Int)(M:Int)(a:Bool)(e:Int)(f:Int)(b:Bool)(g:List (List T))(h:Int)(A:Bool)(c7:List (List T)):ax ak ann O iP [Y'0,Y'1,Y'2,Y'3,Y'4,(AV.fn 16 [] [Y'5]),Y'6,(AV.t (T.ab 3 v C)),(I D),(I E),(I F),(I G),(AV.t (T.ab 5 B w)),(I H),(I d)] [(ad.box [(AV.t (T.ab 5 y L))]),(ad.box [(AV.t (T.ae z))]),(ad.box [(I k),(I m)]),(ad.box [V'7]),(ad.box [(AV.t (T.ab 5 i o)),(I q),(I r),(AV.t (T.ab 2 j s)),(I u)]),(ad.cO [(T.int i64 M)]),(ad.box [(AV.t (T.ae a)),(I e),(I f),(AV.t (T.ab 2 b g)),(I h)]),(ad.sl false 5 A c7)]=
 (bif decide (d < H) then U' (if(0:Int)<=d/\d < (↑w.length:Int) then some () else none) λx=>U' w[d.toNat]? λl=>U' l.head? λx=>U' l.tail.head? λS=>U'
 l.tail.tail.head? λU=>U' l.tail.tail.tail.head? λV=>U' l.tail.tail.tail.tail.head? λW=>U' (T.an 1 x) λp=>U' (T.int? i64 S) λn=>U' (T.int?
 i64 U) λN=>U' (T.an 2 V) λJ=>U' (T.int? i64 W) λP=>U' (O (Key.call 18) [AV.t (T.ab 1 p.fst p.snd)] []) λl=>U' l.head? λx=>U' (T.an 1
 x) λp=>U' (O (Key.call 16) [AV.agg [I n,I N,AV.t (T.ab 2 J.fst J.snd),I P],AV.t (T.ptr [T.int i64 M])] []) λl=>U' l.head? λx=>U' (T.int? i64 x) λn=>aa
 none l.tail.head? λx=>U' (T.int? i64 x) λQ=>U' l.tail.tail.head? λx=>U' (T.an 2 x) λK=>U' l.tail.tail.tail.head? λx=>U' (T.int? i64 x) λR
 =>O iP [Y'0,Y'1,Y'2,Y'3,Y'4,AV.fn 16 [] [Y'5],Y'6,AV.t (T.ab 3 v C),I D,I E,I F,I G,AV.t
 (T.ab 5 B w),I H,I (i64.wrap (d+ (1:Int)))] [ad.box [AV.t (T.ab 5 y L)],ad.box [AV.t (T.ae z)],ad.box [I k,I m],ad.box [V'7],ad.box [AV.t (T.ab 5 i o),I
 q,I r,AV.t (T.ab 2 j s),I u],ad.cO [T.int i64 M],ad.box [V'8,I e,I f,AV.t (T.ab 2 b g),I h],ad.sl false 5 A c7,ad.sl false 5 (a && false)
 [[T.ab 1 p.fst p.snd,T.int i64 n,T.int i64 Q,T.ab 2 K.fst K.snd,T.int i64 R]]] else U' (bp 72 (c7.length+ [[T.ae a,T.int i64 e,T.int i64 f,
 T.ab 2 b g,T.int i64 h]].length)) λx=>O iO [Y'0,Y'1,Y'2,Y'3,Y'4,AV.t (T.ab 3 v C),I D,I E,I F,I
 (i64.wrap (G+ (1:Int)))] [ad.box [AV.t (T.ab 5 y L)],ad.box [AV.t (T.ae z)],ad.box [I k,I m],ad.box [V'5],ad.box [AV.t (T.ab 5 i o),I q,I r,AV.t (T.ab 2
 j s),I u],ad.sl false 5 (A && false) (c7++ [[T.ae a,T.int i64 e,T.int i64 f,T.ab 2 b g,T.int i64 h]])]):=by kernel_rfl
theorem xw(O:aq)(a:Int):ax ak ann O (Key.call 17) [(I a)] []=
 (some [T.int i64 a,T.int i64 (1:Int),T.ae true,T.int i64 (0:Int)]):=by kernel_rfl
theorem Cy(O:aq)(u:Bool)(D:List (List T))(E:Int)(F:Int)(G:Int)(H:Int)(C:Bool)(w:List (List T))(J:Int)(a:Int)(y:Bool)(N:List (List T))(z:Bool)(f:Int)(g:Int)(A:Bool)(b:Bool)(h:List (List T))(i:Int)(j:Int)(d:Bool)(k:List (List T))(m:Int)(P:Int)(o:Int)(q:Int)(e:Bool)(r:List (List T))(s:Int)(B:Bool)(c7:List (List T)):ax ak ann O iP [Y'0,Y'1,Y'2,Y'3,Y'4,(AV.fn 16 [] [Y'5]),Y'6,(AV.t (T.ab 3 u D)),(I E),(I F),(I G),(I H),(AV.t (T.ab 5 C w)),(I J),(I a)] [(ad.box [(AV.t (T.ab 5 y N))]),(ad.box [(AV.t (T.ae z))]),(ad.box [(I f),(I g)]),(ad.box [(AV.t (T.ae A))]),(ad.box [(AV.t (T.ab 5 b h)),(I i),(I j),(AV.t (T.ab 2 d k)),(I m)]),(ad.cO [(T.int i64 P)]),(ad.box [V'7,(I o),(I q),(AV.t (T.ab 2 e r)),(I s)]),(ad.sl false 5 B c7)]=
 (bif decide (a < J) then U' (if(0:Int)<=a/\a < (↑w.length:Int) then some () else none) λx=>U' w[a.toNat]? λl=>U' l.head? λx=>U' l.tail.head? λS=>U'
 l.tail.tail.head? λU=>U' l.tail.tail.tail.head? λV=>U' l.tail.tail.tail.tail.head? λW=>U' (T.an 1 x) λp=>U' (T.int? i64 S) λn=>U' (T.int?
 i64 U) λQ=>U' (T.an 2 V) λM=>U' (T.int? i64 W) λR=>U' (O (Key.call 18) [AV.t (T.ab 1 p.fst p.snd)] []) λl=>U' l.head? λx=>U' (T.an 1
 x) λp=>U' (O (Key.call 16) [AV.agg [I n,I Q,AV.t (T.ab 2 M.fst M.snd),I R],AV.t (T.ptr [T.int i64 P])] []) λl=>U' l.head? λx=>U' (T.int? i64 x) λn=>aa
 none l.tail.head? λx=>U' (T.int? i64 x) λK=>U' l.tail.tail.head? λx=>U' (T.an 2 x) λv=>U' l.tail.tail.tail.head? λx=>U' (T.int? i64 x) λL
 =>U' (bp 72 (c7.length+ [[T.ab 1 p.fst p.snd,T.int i64 n,T.int i64 K,T.ab 2 v.fst v.snd,T.int i64 L]].length)) λx=>O iP [Y'0,Y'1,
 Y'2,Y'3,Y'4,AV.fn 16 [] [Y'5],Y'6,AV.t (T.ab 3 u D),I E,I F,I G,I H,AV.t (T.ab 5 C w),I J,I (i64.wrap (a+
 (1:Int)))] [ad.box [AV.t (T.ab 5 y N)],ad.box [AV.t (T.ae z)],ad.box [I f,I g],ad.box [AV.t (T.ae A)],ad.box [AV.t (T.ab 5 b h),I i,I j,AV.t (T.ab 2 d k),I m],
 ad.cO [T.int i64 P],ad.box [V'7,I o,I q,AV.t (T.ab 2 e r),I s],ad.sl false 5 (B && false) (c7++ [[T.ab 1 p.fst p.snd,T.int i64 n,T.int i64 K,T.ab
 2 v.fst v.snd,T.int i64 L]])] else O iO [Y'0,Y'1,Y'2,Y'3,Y'4,AV.t (T.ab 3 u D),I E,I F,I G,I (i64.wrap
 (H+ (1:Int)))] [ad.box [AV.t (T.ab 5 y N)],ad.box [AV.t (T.ae z)],ad.box [I f,I g],ad.box [V'5],ad.box [AV.t (T.ab 5 b h),I i,I j,AV.t (T.ab 2 d k),I
 m],ad.sl false 5 (A && false) [[T.ab 5 B c7,T.int i64 o,T.int i64 q,T.ab 2 e r,T.int i64 s]]]):=by kernel_rfl
theorem JY(O:aq)(e:Bool)(f:List (List T))(b:ByteArray)(a:Bool)(c:List (List T))(d:Int):ax ak ann O (Key.call 67) [(AV.t (T.ab 5 e f)),(AV.fn 60 [] [(AV.t (T.ptr [(T.str b),(T.ab 1 a c),(T.int i64 d)]))])] []=
 (O fD [AV.t (T.ab 5 e f),AV.fn 60 [] [AV.t (T.ptr [T.str b,T.ab 1 a c,T.int i64 d])],I (↑f.length:Int),I (0:Int)] []):=by kernel_rfl
theorem JZ(O:aq)(a:Bool)(b:List (List T)):ax ak ann O (Key.call 67) [(AV.t (T.ab 5 a b)),(AV.fn 61 [] [])] []=
 (O fD [AV.t (T.ab 5 a b),AV.fn 61 [] [],I (↑b.length:Int),I (0:Int)] []):=by kernel_rfl
theorem IV(O:aq)(h:Bool)(i:List (List T))(a:Bool)(c:List (List T))(d:Int)(e:Int)(b:Bool)(f:List (List T))(g:Int):ax ak ann O (Key.call 33) [(AV.t (T.ab 5 h i)),(AV.fn 64 [] [(AV.t (T.ptr [(T.ab 1 a c),(T.int i64 d),(T.int i64 e),(T.ab 2 b f),(T.int i64 g)]))])] []=
 (U' (O (Key.call 67) [AV.t (T.ab 5 h i),AV.fn 64 [] [AV.t (T.ptr [T.ab 1 a c,T.int i64 d,T.int i64 e,T.ab 2 b f,T.int i64 g])]] []) λl=>U'
 l.head? λx=>U' (T.int? i64 x) λn=>some [T.bool (decide (n>=(0:Int)))]):=by kernel_rfl
theorem I9(O:aq)(f:Int)(a:Int)(e:Int)(g:Bool)(c:List (List T))(d:Int):ax ak ann O (Key.call 65) [(I f),(AV.agg [(I a),(I e),(AV.t (T.ab 2 g c)),(I d)])] []=
 (bif f== (5:Int) then U' (O (Key.call 82) [AV.agg [I a,I e,AV.t (T.ab 2 g c),I d]] []) λl=>U' l.head? λx=>U' x.bool? λb=>some [T.bool b] else U' (dE (some
 !bif decide ((↑c.length:Int) > (0:Int)) then true else !d== (0:Int)) (O (Key.call 83) [AV.agg [I a,I e]] [])) λl=>aa (some !bif decide ((↑c.length:Int) > (0:Int)) then true else !d==
 (0:Int)) l.head? λx=>aa (some !bif decide ((↑c.length:Int) > (0:Int)) then true else !d== (0:Int)) (T.int? i64 x) λn=>aa (some !bif decide ((↑c.length:Int) > (0:Int)) then true
 else !d== (0:Int)) l.tail.head? λx=>aa (some !bif decide ((↑c.length:Int) > (0:Int)) then true else !d== (0:Int)) (T.int? i64 x) λh=>bif bif bif bif decide ((↑c.length:Int) >
 (0:Int)) then true else !d== (0:Int) then true else !n== (0:Int) then true else bif !f== (3:Int) then !e== (1:Int) else false then some [T.bool false] else bif f== (1:Int) then some [T.bool (bif
 a== (0:Int) then true else a== (1:Int))] else bif f== (4:Int) then U' (O (Key.call 63) [I a] []) λl=>U' l.head? λx=>U' x.bool? λb=>some [T.bool b] else U' (O
 (Key.call 14) [I f] []) λl=>U' l.head? λx=>U' x.bool? λb=>bif b then aa (some (decide (a>=(0:Int)))) (if i64.wrap (f - (10:Int)) < (0:Int) then none else some ()) λx=>
 some [T.bool (bif decide (a>=(0:Int)) then decide (a < i64.wrap ((1:Int) * (2:Int) ^ min (i64.wrap (f - (10:Int))).toNat 64)) else false)] else some [T.bool true]):=by kernel_rfl
theorem IW(O:aq)(e:Bool)(f:List (List T))(b:ByteArray)(a:Bool)(c:List (List T))(d:Int):ax ak ann O (Key.call 33) [(AV.t (T.ab 5 e f)),(AV.fn 66 [] [(AV.t (T.ptr [(T.str b),(T.ab 1 a c),(T.int i64 d)]))])] []=
 (U' (O (Key.call 67) [AV.t (T.ab 5 e f),AV.fn 66 [] [AV.t (T.ptr [T.str b,T.ab 1 a c,T.int i64 d])]] []) λl=>U' l.head? λx=>U' (T.int? i64 x) λn=>
 some [T.bool (decide (n>=(0:Int)))]):=by kernel_rfl
theorem xE(O:aq)(d:Bool)(c:List (List T))(e:Bool)(b:List (List T))(a:Int):ax ak ann O tI [(AV.t (T.ab 1 d c)),(AV.t (T.ab 1 e b)),(I a)] []=
 (bif decide (a < (↑c.length:Int)) then aa (some !decide (a>=(↑b.length:Int))) (if(0:Int)<=a/\a < (↑c.length:Int) then some () else none) λx=>aa (some !decide (a>=(↑b.length:Int)))
 c[a.toNat]? λl=>aa (some !decide (a>=(↑b.length:Int))) l.head? λx=>aa (some !decide (a>=(↑b.length:Int))) (T.int? i64 x) λn=>aa (some !decide (a>=(↑b.length:Int))) (if(0:Int)
 <=a/\a < (↑b.length:Int) then some () else none) λx=>aa (some !decide (a>=(↑b.length:Int))) b[a.toNat]? λl=>aa (some !decide (a>=(↑b.length:Int))) l.head? λx=>aa (some !decide (a>=
 (↑b.length:Int))) (T.int? i64 x) λf=>bif bif decide (a>=(↑b.length:Int)) then true else !n==f then some [T.bool false] else O tI [AV.t (T.ab 1 d c),AV.t (T.ab 1 e b),I
 (i64.wrap (a+ (1:Int)))] [] else some [T.bool ((↑c.length:Int)== (↑b.length:Int))]):=by kernel_rfl
theorem Cz(O:aq)(u:Bool)(D:List (List T))(E:Int)(F:Int)(G:Int)(H:Int)(C:Bool)(y:List (List T))(J:Int)(b:Int)(z:Bool)(N:List (List T))(A:Bool)(j:Int)(k:Int)(h:Bool)(m:List (List T))(o:Int)(q:Int)(i:Bool)(r:List (List T))(s:Int)(P:Int)(d:Int)(e:Int)(a:Bool)(f:List (List T))(g:Int)(B:Bool)(c7:List (List T))(v:Bool)(c8:List (List T)):ax ak ann O iP [Y'0,Y'1,Y'2,Y'3,Y'4,(AV.fn 16 [] [Y'5]),Y'6,(AV.t (T.ab 3 u D)),(I E),(I F),(I G),(I H),(AV.t (T.ab 5 C y)),(I J),(I b)] [(ad.box [(AV.t (T.ab 5 z N))]),(ad.box [(AV.t (T.ae A))]),(ad.box [(I j),(I k)]),(ad.box [V'7]),(ad.box [(AV.t (T.ab 5 h m)),(I o),(I q),(AV.t (T.ab 2 i r)),(I s)]),(ad.cO [(T.int i64 P)]),(ad.box [V'8,(I d),(I e),(AV.t (T.ab 2 a f)),(I g)]),(ad.sl false 5 B c7),(ad.sl false 5 v c8)]=
 (bif decide (b < J) then U' (if(0:Int)<=b/\b < (↑y.length:Int) then some () else none) λx=>U' y[b.toNat]? λl=>U' l.head? λx=>U' l.tail.head? λS=>U'
 l.tail.tail.head? λU=>U' l.tail.tail.tail.head? λV=>U' l.tail.tail.tail.tail.head? λW=>U' (T.an 1 x) λp=>U' (T.int? i64 S) λn=>U' (T.int?
 i64 U) λQ=>U' (T.an 2 V) λM=>U' (T.int? i64 W) λR=>U' (O (Key.call 18) [AV.t (T.ab 1 p.fst p.snd)] []) λl=>U' l.head? λx=>U' (T.an 1
 x) λp=>U' (O (Key.call 16) [AV.agg [I n,I Q,AV.t (T.ab 2 M.fst M.snd),I R],AV.t (T.ptr [T.int i64 P])] []) λl=>U' l.head? λx=>U' (T.int? i64 x) λn=>aa
 none l.tail.head? λx=>U' (T.int? i64 x) λK=>U' l.tail.tail.head? λx=>U' (T.an 2 x) λw=>U' l.tail.tail.tail.head? λx=>U' (T.int? i64 x) λL
 =>U' (bp 72 (c8.length+ [[T.ab 1 p.fst p.snd,T.int i64 n,T.int i64 K,T.ab 2 w.fst w.snd,T.int i64 L]].length)) λx=>O iP [Y'0,Y'1,
 Y'2,Y'3,Y'4,AV.fn 16 [] [Y'5],Y'6,AV.t (T.ab 3 u D),I E,I F,I G,I H,AV.t (T.ab 5 C y),I J,I (i64.wrap (b+
 (1:Int)))] [ad.box [AV.t (T.ab 5 z N)],ad.box [AV.t (T.ae A)],ad.box [I j,I k],ad.box [V'7],ad.box [AV.t (T.ab 5 h m),I o,I q,AV.t (T.ab 2 i r),I s],
 ad.cO [T.int i64 P],ad.box [V'8,I d,I e,AV.t (T.ab 2 a f),I g],ad.sl false 5 B c7,ad.sl false 5 (v && false) (c8++ [[T.ab 1 p.fst p.snd,T.int i64 n,T.int
 i64 K,T.ab 2 w.fst w.snd,T.int i64 L]])] else U' (bp 72 (c7.length+ [[T.ab 5 v c8,T.int i64 d,T.int i64 e,T.ab 2 a f,T.int i64
 g]].length)) λx=>O iO [Y'0,Y'1,Y'2,Y'3,Y'4,AV.t (T.ab 3 u D),I E,I F,I G,I (i64.wrap (H+ (1:Int)))]
 [ad.box [AV.t (T.ab 5 z N)],ad.box [AV.t (T.ae A)],ad.box [I j,I k],ad.box [V'5],ad.box [AV.t (T.ab 5 h m),I o,I q,AV.t (T.ab 2 i r),I s],ad.sl false 5
 (B && false) (c7++ [[T.ab 5 v c8,T.int i64 d,T.int i64 e,T.ab 2 a f,T.int i64 g]])]):=by kernel_rfl
theorem xP(O:aq)(h:Bool)(g:List (List T))(c:ByteArray)(a:Bool)(d:List (List T))(e:Int)(j:Int)(f:Int):ax ak ann O fD [(AV.t (T.ab 5 h g)),(AV.fn 60 [] [(AV.t (T.ptr [(T.str c),(T.ab 1 a d),(T.int i64 e)]))]),(I j),(I f)] []=
 (bif decide (f < j) then U' (if(0:Int)<=f/\f < (↑g.length:Int) then some () else none) λx=>U' g[f.toNat]? λl=>U' l.head? λx=>U' l.tail.head? λo=>U'
 l.tail.tail.head? λq=>U' l.tail.tail.tail.head? λr=>U' l.tail.tail.tail.tail.head? λs=>U' (T.an 1 x) λp=>U' (T.int? i64 o) λn=>U' (T.int?
 i64 q) λk=>U' (T.an 2 r) λi=>U' (T.int? i64 s) λm=>U' (O (Key.call 60) [AV.agg [AV.t (T.ab 1 p.fst p.snd),I n,I k,AV.t (T.ab 2 i.fst i.snd),I
 m],AV.t (T.ptr [T.str c,T.ab 1 a d,T.int i64 e])] []) λl=>U' l.head? λx=>U' x.bool? λb=>bif b then some [T.int i64 f] else O fD [AV.t (T.ab 5 h g),
 AV.fn 60 [] [AV.t (T.ptr [T.str c,T.ab 1 a d,T.int i64 e])],I j,I (i64.wrap (f+ (1:Int)))] [] else some [T.int i64 (-1:Int)]):=by kernel_rfl
theorem xQ(O:aq)(d:Bool)(c:List (List T))(f:Int)(a:Int):ax ak ann O fD [(AV.t (T.ab 5 d c)),(AV.fn 61 [] []),(I f),(I a)] []=
 (bif decide (a < f) then U' (if(0:Int)<=a/\a < (↑c.length:Int) then some () else none) λx=>U' c[a.toNat]? λl=>U' l.head? λx=>U' l.tail.head? λi=>U'
 l.tail.tail.head? λj=>U' l.tail.tail.tail.head? λk=>U' l.tail.tail.tail.tail.head? λm=>U' (T.an 1 x) λp=>U' (T.int? i64 i) λn=>U' (T.int?
 i64 j) λg=>U' (T.an 2 k) λe=>U' (T.int? i64 m) λh=>U' (O (Key.call 61) [AV.agg [AV.t (T.ab 1 p.fst p.snd),I n,I g,AV.t (T.ab 2 e.fst e.snd),I
 h]] []) λl=>U' l.head? λx=>U' x.bool? λb=>bif b then some [T.int i64 a] else O fD [AV.t (T.ab 5 d c),AV.fn 61 [] [],I f,I (i64.wrap (a+ (1:Int)))] [] else some
 [T.int i64 (-1:Int)]):=by kernel_rfl
theorem J0(O:aq)(h:Bool)(i:List (List T))(a:Bool)(c:List (List T))(d:Int)(e:Int)(b:Bool)(f:List (List T))(g:Int):ax ak ann O (Key.call 67) [(AV.t (T.ab 5 h i)),(AV.fn 64 [] [(AV.t (T.ptr [(T.ab 1 a c),(T.int i64 d),(T.int i64 e),(T.ab 2 b f),(T.int i64 g)]))])] []=
 (O fD [AV.t (T.ab 5 h i),AV.fn 64 [] [AV.t (T.ptr [T.ab 1 a c,T.int i64 d,T.int i64 e,T.ab 2 b f,T.int i64 g])],I (↑i.length:Int),I (0:Int)] []):=by kernel_rfl
theorem J9(O:aq)(a:Int)(d:Int)(f:Bool)(e:List (List T))(g:Int):ax ak ann O (Key.call 82) [(AV.agg [(I a),(I d),(AV.t (T.ab 2 f e)),(I g)])] []=
 (U' (dE (some !!(a== (0:Int) && (d== (0:Int) && true))) (O (Key.call 63) [I g] [])) λl=>aa (some !!(a== (0:Int) && (d== (0:Int) && true))) l.head? λx=>aa (some !!(a== (0:
 Int) && (d== (0:Int) && true))) x.bool? λb=>bif bif !(a== (0:Int) && (d== (0:Int) && true)) then true else !b then some [T.bool false] else O tN [Y'0,AV.t (T.ab 2 f e),I
 (↑e.length:Int),I (0:Int)] [ad.box [I a,I d,AV.t (T.ab 2 f e),I g]]):=by kernel_rfl
theorem Ka(O:aq)(a:Int)(b:Int):ax ak ann O (Key.call 83) [(AV.agg [(I a),(I b)])] []=
 (U' (dE (some !bif bif bif decide (b < (1:Int)) then true else decide (b > (1073741824:Int)) then true else decide (a < (-1073741824:Int)) then true else decide (a > (1073741824:Int))) (O
 (Key.call 94) [I a] [])) λl=>aa (some !bif bif bif decide (b < (1:Int)) then true else decide (b > (1073741824:Int)) then true else decide (a < (-1073741824:Int)) then true else decide (a >
 (1073741824:Int))) l.head? λx=>aa (some !bif bif bif decide (b < (1:Int)) then true else decide (b > (1073741824:Int)) then true else decide (a < (-1073741824:Int)) then true else decide (a >
 (1073741824:Int))) (T.int? u64 x) λn=>U' (dE (some !bif bif bif decide (b < (1:Int)) then true else decide (b > (1073741824:Int)) then true else decide (a < (-1073741824:Int)) then
 true else decide (a > (1073741824:Int))) (O (Key.call 94) [I b] [])) λl=>aa (some !bif bif bif decide (b < (1:Int)) then true else decide (b > (1073741824:Int)) then true else decide (a <
 (-1073741824:Int)) then true else decide (a > (1073741824:Int))) l.head? λx=>aa (some !bif bif bif decide (b < (1:Int)) then true else decide (b > (1073741824:Int)) then true else decide (a <
 (-1073741824:Int)) then true else decide (a > (1073741824:Int))) (T.int? u64 x) λc=>U' (dE (some !bif bif bif decide (b < (1:Int)) then true else decide (b > (1073741824:Int)) then
 true else decide (a < (-1073741824:Int)) then true else decide (a > (1073741824:Int))) (O (Key.call 93) [AV.t (T.int u64 n),AV.t (T.int u64 c)] [])) λl=>aa (some !bif bif bif decide
 (b < (1:Int)) then true else decide (b > (1073741824:Int)) then true else decide (a < (-1073741824:Int)) then true else decide (a > (1073741824:Int))) l.head? λx=>aa (some !bif bif bif decide
 (b < (1:Int)) then true else decide (b > (1073741824:Int)) then true else decide (a < (-1073741824:Int)) then true else decide (a > (1073741824:Int))) (T.int? u64 x) λn=>bif bif bif bif
 bif decide (b < (1:Int)) then true else decide (b > (1073741824:Int)) then true else decide (a < (-1073741824:Int)) then true else decide (a > (1073741824:Int)) then true else !n== (1:Int) then some
 [T.int i64 (3:Int),T.int i64 (0:Int)] else some [T.int i64 (0:Int),T.int i64 (0:Int)]):=by kernel_rfl
theorem I7(O:aq)(a:Int):ax ak ann O (Key.call 63) [(I a)] []=
 (some [T.bool (bif decide (a>=(0:Int)) then decide (a<=(1000:Int)) else false)]):=by kernel_rfl
theorem J1(O:aq)(e:Bool)(f:List (List T))(b:ByteArray)(a:Bool)(c:List (List T))(d:Int):ax ak ann O (Key.call 67) [(AV.t (T.ab 5 e f)),(AV.fn 66 [] [(AV.t (T.ptr [(T.str b),(T.ab 1 a c),(T.int i64 d)]))])] []=
 (O fD [AV.t (T.ab 5 e f),AV.fn 66 [] [AV.t (T.ptr [T.str b,T.ab 1 a c,T.int i64 d])],I (↑f.length:Int),I (0:Int)] []):=by kernel_rfl
theorem IY(O:aq)(c:Bool)(a:List (List T))(f:Int)(g:Int)(d:Bool)(h:List (List T))(i:Int)(j:ByteArray)(e:Bool)(b:List (List T))(k:Int):ax ak ann O (Key.call 60) [(AV.agg [(AV.t (T.ab 1 c a)),(I f),(I g),(AV.t (T.ab 2 d h)),(I i)]),(AV.t (T.ptr [(T.str j),(T.ab 1 e b),(T.int i64 k)]))] []=
 (some [T.bool !(↑a.length:Int)== (↑b.length:Int)]):=by kernel_rfl
theorem IZ(O:aq)(a:Bool)(c:List (List T))(e:Int)(f:Int)(d:Bool)(g:List (List T))(h:Int):ax ak ann O (Key.call 61) [(AV.agg [(AV.t (T.ab 1 a c)),(I e),(I f),(AV.t (T.ab 2 d g)),(I h)])] []=
 (U' (O (Key.call 39) [AV.t (T.ab 1 a c),AV.fn 62 [] []] []) λl=>U' l.head? λx=>U' x.bool? λb=>some [T.bool b]):=by kernel_rfl
theorem xR(O:aq)(k:Bool)(j:List (List T))(a:Bool)(d:List (List T))(e:Int)(f:Int)(c:Bool)(g:List (List T))(h:Int)(o:Int)(i:Int):ax ak ann O fD [(AV.t (T.ab 5 k j)),(AV.fn 64 [] [(AV.t (T.ptr [(T.ab 1 a d),(T.int i64 e),(T.int i64 f),(T.ab 2 c g),(T.int i64 h)]))]),(I o),(I i)] []=
 (bif decide (i < o) then U' (if(0:Int)<=i/\i < (↑j.length:Int) then some () else none) λx=>U' j[i.toNat]? λl=>U' l.head? λx=>U' l.tail.head? λs=>U'
 l.tail.tail.head? λu=>U' l.tail.tail.tail.head? λv=>U' l.tail.tail.tail.tail.head? λw=>U' (T.an 1 x) λp=>U' (T.int? i64 s) λn=>U' (T.int?
 i64 u) λq=>U' (T.an 2 v) λm=>U' (T.int? i64 w) λr=>U' (O (Key.call 64) [AV.agg [AV.t (T.ab 1 p.fst p.snd),I n,I q,AV.t (T.ab 2 m.fst m.snd),I
 r],AV.t (T.ptr [T.ab 1 a d,T.int i64 e,T.int i64 f,T.ab 2 c g,T.int i64 h])] []) λl=>U' l.head? λx=>U' x.bool? λb=>bif b then some
 [T.int i64 i] else O fD [AV.t (T.ab 5 k j),AV.fn 64 [] [AV.t (T.ptr [T.ab 1 a d,T.int i64 e,T.int i64 f,T.ab 2 c g,T.int i64 h])],I o,I
 (i64.wrap (i+ (1:Int)))] [] else some [T.int i64 (-1:Int)]):=by kernel_rfl
theorem CJ(O:aq)(m:Bool)(i:List (List T))(o:Int)(a:Int)(j:Int)(k:Int)(h:Bool)(f:List (List T))(d:Int):ax ak ann O tN [Y'0,(AV.t (T.ab 2 m i)),(I o),(I a)] [(ad.box [(I j),(I k),(AV.t (T.ab 2 h f)),(I d)])]=
 (bif decide (a < o) then U' (if(0:Int)<=a/\a < (↑i.length:Int) then some () else none) λx=>U' i[a.toNat]? λl=>U' l.head? λx=>U' l.tail.head? λq=>U'
 (T.int? i64 x) λn=>U' (T.int? i64 q) λe=>U' (O (Key.call 63) [I n] []) λl=>U' l.head? λx=>U' x.bool? λb=>U' (dE (some !!b) (O (Key.call 63) [I
 e] [])) λl=>aa (some !!b) l.head? λx=>aa (some !!b) x.bool? λg=>aa (some (bif !bif bif !b then true else !g then true else e==d then decide (a > (0:Int)) else false)) (if(0:Int)<=
 i64.wrap (a - (1:Int))/\i64.wrap (a - (1:Int)) < (↑f.length:Int) then some () else none) λx=>aa (some (bif !bif bif !b then true else !g then true else e==d then decide (a >
 (0:Int)) else false)) f[(i64.wrap (a - (1:Int))).toNat]? λl=>aa (some (bif !bif bif !b then true else !g then true else e==d then decide (a > (0:Int)) else false)) l.head? λx=>aa
 (some (bif !bif bif !b then true else !g then true else e==d then decide (a > (0:Int)) else false)) (T.int? i64 x) λp=>bif bif bif bif !b then true else !g then true else e==d then
 true else bif decide (a > (0:Int)) then decide (n<=p) else false then some [T.bool false] else O tN [Y'0,AV.t (T.ab 2 m i),I o,I (i64.wrap (a+ (1:Int)))] [ad.box [I j,I
 k,AV.t (T.ab 2 h f),I d]] else some [T.bool true]):=by kernel_rfl
theorem Iu(O:aq)(a:Int):ax ak ann O (Key.call 94) [(I a)] []=
 (bif decide (a < (0:Int)) then some [T.int u64 (u64.wrap ((0:Int) - u64.wrap a))] else some [T.int u64 (u64.wrap a)]):=by kernel_rfl
theorem Is(O:aq)(a:Int)(b:Int):ax ak ann O (Key.call 93) [(AV.t (T.int u64 a)),(AV.t (T.int u64 b))] []=
 (O tB [AV.t (T.int u64 a),AV.t (T.int u64 b)] []):=by kernel_rfl
theorem xS(O:aq)(h:Bool)(g:List (List T))(c:ByteArray)(a:Bool)(d:List (List T))(e:Int)(j:Int)(f:Int):ax ak ann O fD [(AV.t (T.ab 5 h g)),(AV.fn 66 [] [(AV.t (T.ptr [(T.str c),(T.ab 1 a d),(T.int i64 e)]))]),(I j),(I f)] []=
 (bif decide (f < j) then U' (if(0:Int)<=f/\f < (↑g.length:Int) then some () else none) λx=>U' g[f.toNat]? λl=>U' l.head? λx=>U' l.tail.head? λo=>U'
 l.tail.tail.head? λq=>U' l.tail.tail.tail.head? λr=>U' l.tail.tail.tail.tail.head? λs=>U' (T.an 1 x) λp=>U' (T.int? i64 o) λn=>U' (T.int?
 i64 q) λk=>U' (T.an 2 r) λi=>U' (T.int? i64 s) λm=>U' (O (Key.call 66) [AV.agg [AV.t (T.ab 1 p.fst p.snd),I n,I k,AV.t (T.ab 2 i.fst i.snd),I
 m],AV.t (T.ptr [T.str c,T.ab 1 a d,T.int i64 e])] []) λl=>U' l.head? λx=>U' x.bool? λb=>bif b then some [T.int i64 f] else O fD [AV.t (T.ab 5 h g),
 AV.fn 66 [] [AV.t (T.ptr [T.str c,T.ab 1 a d,T.int i64 e])],I j,I (i64.wrap (f+ (1:Int)))] [] else some [T.int i64 (-1:Int)]):=by kernel_rfl
theorem I5(O:aq)(a:Bool)(b:List (List T)):ax ak ann O (Key.call 39) [(AV.t (T.ab 1 a b)),(AV.fn 62 [] [])] []=
 (U' (O (Key.call 76) [AV.t (T.ab 1 a b),AV.fn 62 [] []] []) λl=>U' l.head? λx=>U' (T.int? i64 x) λn=>some [T.bool (decide (n>=(0:Int)))]):=by kernel_rfl
theorem I8(O:aq)(a:Bool)(d:List (List T))(h:Int)(i:Int)(f:Bool)(j:List (List T))(k:Int)(c:Bool)(e:List (List T))(m:Int)(n:Int)(g:Bool)(o:List (List T))(p:Int):ax ak ann O (Key.call 64) [(AV.agg [(AV.t (T.ab 1 a d)),(I h),(I i),(AV.t (T.ab 2 f j)),(I k)]),(AV.t (T.ptr [(T.ab 1 c e),(T.int i64 m),(T.int i64 n),(T.ab 2 g o),(T.int i64 p)]))] []=
 (U' (O (Key.call 35) [AV.t (T.ab 1 a d),AV.t (T.ab 1 c e)] []) λl=>U' l.head? λx=>U' x.bool? λb=>some [T.bool b]):=by kernel_rfl
theorem It(O:aq)(b:Int)(a:Int):ax ak ann O tB [(AV.t (T.int u64 b)),(AV.t (T.int u64 a))] []=
 (bif !a== (0:Int) then U' (if a= (0:Int) then none else some ()) λx=>O tB [AV.t (T.int u64 a),AV.t (T.int u64 (b.tmod a))] [] else some [T.int u64 b]):=by kernel_rfl
theorem Ja(O:aq)(h:Bool)(j:List (List T))(c:Int)(d:Int)(a:Bool)(e:List (List T))(f:Int)(k:ByteArray)(i:Bool)(m:List (List T))(g:Int):ax ak ann O (Key.call 66) [(AV.agg [(AV.t (T.ab 1 h j)),(I c),(I d),(AV.t (T.ab 2 a e)),(I f)]),(AV.t (T.ptr [(T.str k),(T.ab 1 i m),(T.int i64 g)]))] []=
 (U' (O (Key.call 65) [I g,AV.agg [I c,I d,AV.t (T.ab 2 a e),I f]] []) λl=>U' l.head? λx=>U' x.bool? λb=>some [T.bool !b]):=by kernel_rfl
theorem J8(O:aq)(a:Bool)(b:List (List T)):ax ak ann O (Key.call 76) [(AV.t (T.ab 1 a b)),(AV.fn 62 [] [])] []=
 (O eN [AV.t (T.ab 1 a b),AV.fn 62 [] [],I (↑b.length:Int),I (0:Int)] []):=by kernel_rfl
theorem xZ(O:aq)(d:Bool)(c:List (List T))(e:Int)(a:Int):ax ak ann O eN [(AV.t (T.ab 1 d c)),(AV.fn 62 [] []),(I e),(I a)] []=
 (bif decide (a < e) then U' (if(0:Int)<=a/\a < (↑c.length:Int) then some () else none) λx=>U' c[a.toNat]? λl=>U' l.head? λx=>U' (T.int? i64 x) λn=>U'
 (O (Key.call 62) [I n] []) λl=>U' l.head? λx=>U' x.bool? λb=>bif b then some [T.int i64 a] else O eN [AV.t (T.ab 1 d c),AV.fn 62 [] [],I e,I (i64.wrap (a+ (1:
 Int)))] [] else some [T.int i64 (-1:Int)]):=by kernel_rfl
theorem I6(O:aq)(a:Int):ax ak ann O (Key.call 62) [(I a)] []=
 (U' (O (Key.call 63) [I a] []) λl=>U' l.head? λx=>U' x.bool? λb=>some [T.bool !b]):=by kernel_rfl
theorem Iz(O:aq)(b:Bool)(a:List (List T))(d:Bool)(f:List (List T))(e:Bool)(g:List (List T))(h:Bool)(k:List (List T)):ax ak ann O (Key.call 7) [(AV.agg [(AV.t (T.ab 3 b a)),(AV.t (T.ab 5 d f)),(AV.t (T.ab 1 e g))]),(AV.agg [(AV.t (T.ab 5 h k))])] []=
 (U' (O (Key.call 9) [AV.agg [AV.t (T.ab 3 b a),AV.t (T.ab 5 d f),AV.t (T.ab 1 e g)]] []) λl=>U' l.head? λx=>U' (T.an 3 x) λp=>U' l.tail.head? λx=>aa
 none (T.an 5 x) λi=>U' l.tail.tail.head? λx=>U' (T.an 1 x) λj=>U' (List.drop 3 l).head? λx=>U' (T.int? i64 x) λn=>U' (List.drop 3 l).tail.head? λx
 =>U' (T.int? i64 x) λm=>bif !n== (0:Int) then some [T.ae true,T.int i64 n,T.int i64 m] else U' (O (Key.call 13) [AV.agg [AV.t (T.ab 3 p.fst p.snd),AV.t (T.ab 5 i.fst
 i.snd),AV.t (T.ab 1 j.fst j.snd)],AV.agg [AV.t (T.ab 5 h k)]] []) λl=>U' l.head? λx=>U' (T.int? i64 x) λn=>U' l.tail.head? λx=>U' (T.int? i64 x) fun
 o=>bif !n== (0:Int) then some [T.ae true,T.int i64 n,T.int i64 o] else O mP [Y'0,Y'1,Y'2,Y'3,I (0:Int),AV.t (T.ab 3 b
 a),I (↑a.length:Int),I (0:Int)] [ad.box [AV.t (T.ab 5 h k)],ad.box [AV.t (T.ae true)],ad.box [I (0:Int),I (0:Int)],ad.box [AV.t (T.ae true)]]):=by kernel_rfl
theorem uy(O:aq)(a:Int)(j:Bool)(f:List (List T))(o:Int)(d:Int)(k:Bool)(g:List (List T))(q:Bool)(h:Int)(i:Int)(m:Bool):ax ak ann O mP [Y'0,Y'1,Y'2,Y'3,(I a),(AV.t (T.ab 3 j f)),(I o),(I d)] [(ad.box [(AV.t (T.ab 5 k g))]),(ad.box [(AV.t (T.ae q))]),(ad.box [(I h),(I i)]),(ad.box [(AV.t (T.ae m))])]=
 (bif decide (d < o) then U' (if(0:Int)<=d/\d < (↑f.length:Int) then some () else none) λx=>U' f[d.toNat]? λl=>U' l.head? λx=>U' l.tail.head? λz=>U'
 l.tail.tail.head? λA=>U' x.bc λs=>U' (T.an 1 z) λp=>U' (T.int? i64 A) λn=>U' (O (Key.call 14) [I n] []) λl=>U' l.head? λx=>U' x.bool? fun
 b=>bif !b then U' (if(0:Int)<=a/\a < (↑g.length:Int) then some () else none) λx=>U' g[a.toNat]? λl=>U' l.head? λx=>U' l.tail.head? λB=>U'
 l.tail.tail.head? λC=>U' l.tail.tail.tail.head? λD=>U' l.tail.tail.tail.tail.head? λE=>U' (T.an 5 x) λp=>U' (T.int? i64 B) λn=>U' (T.int?
 i64 C) λr=>U' (T.an 2 D) λe=>U' (T.int? i64 E) λu=>U' (O (Key.call 15) [AV.agg [AV.t (T.ab 5 p.fst p.snd),I n,I r,AV.t (T.ab 2 e.fst e.snd),I
 u]] []) λl=>U' l.head? λx=>U' (T.an 5 x) λp=>U' l.tail.head? λx=>U' (T.int? i64 x) λn=>U' l.tail.tail.head? λx=>U' (T.int? i64 x) fun
 v=>U' l.tail.tail.tail.head? λx=>U' (T.an 2 x) λw=>U' l.tail.tail.tail.tail.head? λx=>U' (T.int? i64 x) λy=>O mP [Y'0,Y'1,
 Y'2,Y'3,AV.t (T.int i64 (i64.wrap (a+ (1:Int)))),AV.t (T.ab 3 j f),I o,AV.t (T.int i64 (i64.wrap (d+ (1:Int))))] [ad.box [AV.t (T.ab 5
 k g)],ad.box [AV.t (T.ae q)],ad.box [I h,I i],ad.box [V'4],ad.sl false 5 (m && false) [[T.ab 5 p.fst p.snd,T.int i64 n,T.int i64 v,T.ab 2 w.fst w.snd,T.int
 i64 y]]] else U' (fp a (i64.wrap (a+i64.wrap (n - (10:Int)))) (↑g.length:Int)) λx=>U' (O (Key.call 19) [AV.t (T.ab 5 k (sub a (i64.wrap (a+
 i64.wrap (n - (10:Int)))) g))] []) λl=>U' l.head? λx=>U' (T.an 5 x) λp=>U' l.tail.head? λx=>U' (T.int? i64 x) λr=>U' l.tail.tail.head? λx=>
 U' (T.int? i64 x) λu=>U' l.tail.tail.tail.head? λx=>U' (T.an 2 x) λe=>U' l.tail.tail.tail.tail.head? λx=>U' (T.int? i64 x) λv=>bif decide
 ((↑p.snd.length:Int) > (1000:Int)) then some [T.ae true,T.int i64 (10:Int),T.int i64 (0:Int)] else O mP [Y'0,Y'1,Y'2,Y'3,AV.t
 (T.int i64 (i64.wrap (a+i64.wrap (n - (10:Int))))),AV.t (T.ab 3 j f),I o,I (i64.wrap (d+ (1:Int)))] [ad.box [AV.t (T.ab 5 k g)],ad.box [AV.t (T.ae q)],
 ad.box [I h,I i],ad.box [V'4],ad.sl false 5 (m && false) [[T.ab 5 p.fst p.snd,T.int i64 r,T.int i64 u,T.ab 2 e.fst e.snd,T.int i64 v]]] else some [T.ae
 m,T.int i64 (0:Int),T.int i64 (0:Int)]):=by kernel_rfl
theorem uz(O:aq)(a:Int)(k:Bool)(g:List (List T))(v:Int)(e:Int)(m:Bool)(h:List (List T))(y:Bool)(i:Int)(j:Int)(o:Bool)(w:List (List T)):ax ak ann O mP [Y'0,Y'1,Y'2,Y'3,(I a),(AV.t (T.ab 3 k g)),(I v),(I e)] [(ad.box [(AV.t (T.ab 5 m h))]),(ad.box [(AV.t (T.ae y))]),(ad.box [(I i),(I j)]),(ad.box [V'4]),(ad.sl false 5 o w)]=
 (bif decide (e < v) then U' (if(0:Int)<=e/\e < (↑g.length:Int) then some () else none) λx=>U' g[e.toNat]? λl=>U' l.head? λx=>U' l.tail.head? λA=>U'
 l.tail.tail.head? λB=>U' x.bc λs=>U' (T.an 1 A) λp=>U' (T.int? i64 B) λn=>U' (O (Key.call 14) [I n] []) λl=>U' l.head? λx=>U' x.bool? fun
 b=>bif !b then U' (if(0:Int)<=a/\a < (↑h.length:Int) then some () else none) λx=>U' h[a.toNat]? λl=>U' l.head? λx=>U' l.tail.head? λC=>U'
 l.tail.tail.head? λD=>U' l.tail.tail.tail.head? λE=>U' l.tail.tail.tail.tail.head? λF=>U' (T.an 5 x) λp=>U' (T.int? i64 C) λn=>U' (T.int?
 i64 D) λq=>U' (T.an 2 E) λd=>U' (T.int? i64 F) λr=>U' (O (Key.call 15) [AV.agg [AV.t (T.ab 5 p.fst p.snd),I n,I q,AV.t (T.ab 2 d.fst d.snd),I
 r]] []) λl=>U' l.head? λx=>U' (T.an 5 x) λp=>U' l.tail.head? λx=>U' (T.int? i64 x) λn=>U' l.tail.tail.head? λx=>U' (T.int? i64 x) fun
 f=>U' l.tail.tail.tail.head? λx=>U' (T.an 2 x) λu=>U' l.tail.tail.tail.tail.head? λx=>U' (T.int? i64 x) λz=>U' (bp 72 (w.length+ [[T.ab 5 p.fst
 p.snd,T.int i64 n,T.int i64 f,T.ab 2 u.fst u.snd,T.int i64 z]].length)) λx=>O mP [Y'0,Y'1,Y'2,Y'3,AV.t (T.int
 i64 (i64.wrap (a+ (1:Int)))),AV.t (T.ab 3 k g),I v,AV.t (T.int i64 (i64.wrap (e+ (1:Int))))] [ad.box [AV.t (T.ab 5 m h)],ad.box [AV.t (T.ae y)],ad.box [I
 i,I j],ad.box [V'4],ad.sl false 5 (o && false) (w++ [[T.ab 5 p.fst p.snd,T.int i64 n,T.int i64 f,T.ab 2 u.fst u.snd,T.int i64 z]])] else U' (fp a
 (i64.wrap (a+i64.wrap (n - (10:Int)))) (↑h.length:Int)) λx=>U' (O (Key.call 19) [AV.t (T.ab 5 m (sub a (i64.wrap (a+i64.wrap (n - (10:Int)))) h))] []) λl
 =>U' l.head? λx=>U' (T.an 5 x) λp=>U' l.tail.head? λx=>U' (T.int? i64 x) λq=>U' l.tail.tail.head? λx=>U' (T.int? i64 x) λr=>U'
 l.tail.tail.tail.head? λx=>U' (T.an 2 x) λd=>U' l.tail.tail.tail.tail.head? λx=>U' (T.int? i64 x) λf=>bif decide ((↑p.snd.length:Int) > (1000:Int)) then some [T.ae
 true,T.int i64 (10:Int),T.int i64 (0:Int)] else U' (bp 72 (w.length+ [[T.ab 5 p.fst p.snd,T.int i64 q,T.int i64 r,T.ab 2 d.fst d.snd,T.int i64
 f]].length)) λx=>O mP [Y'0,Y'1,Y'2,Y'3,AV.t (T.int i64 (i64.wrap (a+i64.wrap (n - (10:Int))))),AV.t (T.ab 3 k g),
 I v,I (i64.wrap (e+ (1:Int)))] [ad.box [AV.t (T.ab 5 m h)],ad.box [AV.t (T.ae y)],ad.box [I i,I j],ad.box [V'4],ad.sl false 5 (o && false) (w++ [[T.ab 5 p.fst p.snd,
 T.int i64 q,T.int i64 r,T.ab 2 d.fst d.snd,T.int i64 f]])] else some [T.ab 5 o w,T.int i64 (0:Int),T.int i64 (0:Int)]):=by kernel_rfl
theorem IS(O:aq)(a:Bool)(b:List (List T)):ax ak ann O (Key.call 19) [(AV.t (T.ab 5 a b))] []=
 (O oo [AV.t (T.ab 5 a b),Y'0,Y'1,I (0:Int),AV.t (T.ab 5 a b),I (↑b.length:Int),I (0:Int)] [ad.box [AV.t (T.ae true),I (0:Int),I (0:Int),AV.t (T.ae true),I (0:
 Int)],ad.box [AV.t (T.ae true),I (0:Int),I (0:Int),AV.t (T.ae true),I (0:Int)]]):=by kernel_rfl
theorem B8(O:aq)(s:Bool)(y:List (List T))(w:Int)(q:Bool)(g:List (List T))(r:Int)(a:Int)(d:Bool)(h:Int)(i:Int)(e:Bool)(j:Int)(b:Bool)(k:Int)(m:Int)(f:Bool)(o:Int):ax ak ann O oo [(AV.t (T.ab 5 s y)),Y'0,Y'1,(I w),(AV.t (T.ab 5 q g)),(I r),(I a)] [(ad.box [(AV.t (T.ae d)),(I h),(I i),(AV.t (T.ae e)),(I j)]),(ad.box [(AV.t (T.ae b)),(I k),(I m),(AV.t (T.ae f)),(I o)])]=
 (bif decide (a < r) then U' (if(0:Int)<=a/\a < (↑g.length:Int) then some () else none) λx=>U' g[a.toNat]? λl=>U' l.head? λx=>U' l.tail.head? λz=>U'
 l.tail.tail.head? λA=>U' l.tail.tail.tail.head? λB=>U' l.tail.tail.tail.tail.head? λC=>U' (T.an 5 x) λp=>U' (T.int? i64 z) λn=>U' (T.int?
 i64 A) λu=>U' (T.an 2 B) λD=>U' (T.int? i64 C) λv=>U' (if a < (0:Int) then none else some ()) λx=>O lA [AV.t (T.ab 5 s y),Y'0,
 Y'1,AV.t (T.int i64 (i64.wrap (↑(BitVec.ofInt 64 w ||| BitVec.ofInt 64 (i64.wrap (n * (2:Int) ^ min a.toNat 64))).toNat:Int))),AV.t (T.ab 5 q g),I r,I a,AV.t
 (T.ab 5 p.fst p.snd),I (↑p.snd.length:Int),I (0:Int)] [ad.box [AV.t (T.ae d),I h,I i,AV.t (T.ae e),I j],ad.box [AV.t (T.ae b),I k,I m,AV.t (T.ae f),I o]] else aa
 none (O (Key.call 17) [I w] []) λl=>U' l.head? λx=>U' (T.int? i64 x) λn=>U' l.tail.head? λx=>U' (T.int? i64 x) λu=>U' l.tail.tail.head? λx=>
 U' (T.an 2 x) λp=>U' l.tail.tail.tail.head? λx=>U' (T.int? i64 x) λv=>some [T.ae b,T.int i64 n,T.int i64 u,T.ab 2 p.fst p.snd,T.int i64 v]):=by kernel_rfl
theorem Ca(O:aq)(r:Bool)(B:List (List T))(C:Int)(q:Bool)(w:List (List T))(y:Int)(z:Int)(u:Bool)(s:List (List T))(A:Int)(g:Int)(d:Bool)(h:Int)(i:Int)(e:Bool)(j:Int)(a:Bool)(k:Int)(m:Int)(f:Bool)(o:Int):ax ak ann O lA [(AV.t (T.ab 5 r B)),Y'0,Y'1,(I C),(AV.t (T.ab 5 q w)),(I y),(I z),(AV.t (T.ab 5 u s)),(I A),(I g)] [(ad.box [(AV.t (T.ae d)),(I h),(I i),(AV.t (T.ae e)),(I j)]),(ad.box [(AV.t (T.ae a)),(I k),(I m),(AV.t (T.ae f)),(I o)])]=
 (bif decide (g < A) then U' (if(0:Int)<=g/\g < (↑s.length:Int) then some () else none) λx=>U' s[g.toNat]? λl=>U' l.head? λx=>U' l.tail.head? λF=>U'
 l.tail.tail.head? λG=>U' l.tail.tail.tail.head? λH=>U' l.tail.tail.tail.tail.head? λJ=>U' (T.an 1 x) λp=>U' (T.int? i64 F) λn=>U' (T.int?
 i64 G) λD=>U' (T.an 2 H) λv=>U' (T.int? i64 J) λE=>U' (O (Key.call 33) [AV.t (T.ab 5 a []),AV.fn 34 [] [AV.t (T.ptr [T.ab 1 p.fst p.snd,T.int
 i64 n,T.int i64 D,T.ab 2 v.fst v.snd,T.int i64 E])]] []) λl=>U' l.head? λx=>U' x.bool? λb=>bif b then O lA [AV.t (T.ab 5 r B),Y'0,
 Y'1,I C,AV.t (T.ab 5 q w),I y,I z,AV.t (T.ab 5 u s),I A,I (i64.wrap (g+ (1:Int)))] [ad.box [AV.t (T.ae d),I h,I i,AV.t (T.ae e),I j],ad.box
 [AV.t (T.ae a),I k,I m,AV.t (T.ae f),I o]] else O oh [AV.t (T.ab 5 r B),Y'0,Y'1,I C,Y'2,I (0:Int),AV.t (T.ab 5 q w),I y,I z,
 AV.t (T.ab 5 u s),I A,I g,AV.t (T.ab 5 r B),I (↑B.length:Int),I (0:Int)] [ad.box [AV.t (T.ae d),I h,I i,AV.t (T.ae e),I j],ad.box [AV.t (T.ae a),I k,I m,AV.t
 (T.ae f),I o],ad.box [AV.t (T.ab 1 p.fst p.snd),I n,I D,AV.t (T.ab 2 v.fst v.snd),I E]] else O oo [AV.t (T.ab 5 r B),Y'0,Y'1,I C,AV.t (T.ab 5 q w),I
 y,I (i64.wrap (z+ (1:Int)))] [ad.box [AV.t (T.ae d),I h,I i,AV.t (T.ae e),I j],ad.box [AV.t (T.ae a),I k,I m,AV.t (T.ae f),I o]]):=by kernel_rfl
theorem IX(O:aq)(h:Bool)(i:List (List T))(a:Bool)(c:List (List T))(d:Int)(e:Int)(b:Bool)(f:List (List T))(g:Int):ax ak ann O (Key.call 33) [(AV.t (T.ab 5 h i)),(AV.fn 34 [] [(AV.t (T.ptr [(T.ab 1 a c),(T.int i64 d),(T.int i64 e),(T.ab 2 b f),(T.int i64 g)]))])] []=
 (U' (O (Key.call 67) [AV.t (T.ab 5 h i),AV.fn 34 [] [AV.t (T.ptr [T.ab 1 a c,T.int i64 d,T.int i64 e,T.ab 2 b f,T.int i64 g])]] []) λl=>U'
 l.head? λx=>U' (T.int? i64 x) λn=>some [T.bool (decide (n>=(0:Int)))]):=by kernel_rfl
theorem B6(O:aq)(C:Bool)(P:List (List T))(Q:Int)(R:Int)(s:Bool)(G:List (List T))(H:Int)(J:Int)(u:Bool)(K:List (List T))(L:Int)(M:Int)(D:Bool)(w:List (List T))(N:Int)(a:Int)(e:Bool)(j:Int)(k:Int)(f:Bool)(m:Int)(g:Bool)(o:Int)(q:Int)(h:Bool)(r:Int)(b:Bool)(d:List (List T))(y:Int)(z:Int)(v:Bool)(A:List (List T))(B:Int):ax ak ann O oh [(AV.t (T.ab 5 C P)),Y'0,Y'1,(I Q),Y'2,(I R),(AV.t (T.ab 5 s G)),(I H),(I J),(AV.t (T.ab 5 u K)),(I L),(I M),(AV.t (T.ab 5 D w)),(I N),(I a)] [(ad.box [(AV.t (T.ae e)),(I j),(I k),(AV.t (T.ae f)),(I m)]),(ad.box [(AV.t (T.ae g)),(I o),(I q),(AV.t (T.ae h)),(I r)]),(ad.box [(AV.t (T.ab 1 b d)),(I y),(I z),(AV.t (T.ab 2 v A)),(I B)])]=
 (bif decide (a < N) then U' (if(0:Int)<=a/\a < (↑w.length:Int) then some () else none) λx=>U' w[a.toNat]? λl=>U' l.head? λx=>U' l.tail.head? λS=>U'
 l.tail.tail.head? λU=>U' l.tail.tail.tail.head? λV=>U' l.tail.tail.tail.tail.head? λW=>U' (T.an 5 x) λp=>U' (T.int? i64 S) λn=>U' (T.int?
 i64 U) λE=>U' (T.an 2 V) λi=>U' (T.int? i64 W) λF=>U' (O (Key.call 36) [AV.agg [AV.t (T.ab 5 p.fst p.snd),I n,I E,AV.t (T.ab 2 i.fst i.snd),I
 F],AV.t (T.ab 1 b d)] []) λl=>U' l.head? λx=>U' (T.int? i64 x) λn=>U' (if a < (0:Int) then none else some ()) λx=>O oh [AV.t (T.ab 5 C P),AV.ref (Id.c
 0) 0,Y'1,I Q,Y'2,AV.t (T.int i64 (i64.wrap (↑(BitVec.ofInt 64 R ||| BitVec.ofInt 64 (i64.wrap (n * (2:Int) ^ min a.toNat 64))).toNat:Int))),AV.t (T.ab 5
 s G),I H,I J,AV.t (T.ab 5 u K),I L,I M,AV.t (T.ab 5 D w),I N,I (i64.wrap (a+ (1:Int)))] [ad.box [AV.t (T.ae e),I j,I k,AV.t (T.ae f),I m],ad.box
 [AV.t (T.ae g),I o,I q,AV.t (T.ae h),I r],ad.box [AV.t (T.ab 1 b d),I y,I z,AV.t (T.ab 2 v A),I B]] else U' (O (Key.call 18) [AV.t (T.ab 1 b d)] []) fun
 l=>U' l.head? λx=>U' (T.an 1 x) λp=>U' (O (Key.call 17) [I R] []) λl=>U' l.head? λx=>U' (T.int? i64 x) λn=>U' l.tail.head? λx=>U'
 (T.int? i64 x) λE=>U' l.tail.tail.head? λx=>U' (T.an 2 x) λi=>U' l.tail.tail.tail.head? λx=>U' (T.int? i64 x) λF=>O lA [AV.t (T.ab 5 C P),
 Y'0,Y'1,I Q,AV.t (T.ab 5 s G),I H,I J,AV.t (T.ab 5 u K),I L,I (i64.wrap (M+ (1:Int)))] [ad.box [AV.t (T.ae e),I j,I k,AV.t (T.ae f),
 I m],ad.box [V'2,I o,I q,AV.t (T.ae h),I r],ad.sl false 5 (g && false) [[T.ab 1 p.fst p.snd,T.int i64 n,T.int i64 E,T.ab 2 i.fst i.snd,T.int i64
 F]]]):=by kernel_rfl
theorem J2(O:aq)(h:Bool)(i:List (List T))(a:Bool)(c:List (List T))(d:Int)(e:Int)(b:Bool)(f:List (List T))(g:Int):ax ak ann O (Key.call 67) [(AV.t (T.ab 5 h i)),(AV.fn 34 [] [(AV.t (T.ptr [(T.ab 1 a c),(T.int i64 d),(T.int i64 e),(T.ab 2 b f),(T.int i64 g)]))])] []=
 (O fD [AV.t (T.ab 5 h i),AV.fn 34 [] [AV.t (T.ptr [T.ab 1 a c,T.int i64 d,T.int i64 e,T.ab 2 b f,T.int i64 g])],I (↑i.length:Int),I (0:Int)] []):=by kernel_rfl
theorem JC(O:aq)(b:Bool)(a:List (List T))(e:Int)(f:Int)(d:Bool)(g:List (List T))(h:Int)(i:Bool)(j:List (List T)):ax ak ann O (Key.call 36) [(AV.agg [(AV.t (T.ab 5 b a)),(I e),(I f),(AV.t (T.ab 2 d g)),(I h)]),(AV.t (T.ab 1 i j))] []=
 (O tL [AV.t (T.ab 1 i j),Y'0,AV.t (T.ab 5 b a),I (↑a.length:Int),I (0:Int)] [ad.box [AV.t (T.ab 5 b a),I e,I f,AV.t (T.ab 2 d g),I h]]):=by kernel_rfl
theorem xF(O:aq)(r:Bool)(B:List (List T))(D:Int)(o:Bool)(w:List (List T))(y:Int)(z:Int)(u:Bool)(s:List (List T))(A:Int)(f:Int)(a:Bool)(g:Int)(h:Int)(d:Bool)(i:Int)(j:Int)(k:Int)(e:Bool)(m:Int)(q:Bool)(C:List (List T)):ax ak ann O lA [(AV.t (T.ab 5 r B)),Y'0,Y'1,(I D),(AV.t (T.ab 5 o w)),(I y),(I z),(AV.t (T.ab 5 u s)),(I A),(I f)] [(ad.box [(AV.t (T.ae a)),(I g),(I h),(AV.t (T.ae d)),(I i)]),(ad.box [V'2,(I j),(I k),(AV.t (T.ae e)),(I m)]),(ad.sl false 5 q C)]=
 (bif decide (f < A) then U' (if(0:Int)<=f/\f < (↑s.length:Int) then some () else none) λx=>U' s[f.toNat]? λl=>U' l.head? λx=>U' l.tail.head? λG=>U'
 l.tail.tail.head? λH=>U' l.tail.tail.tail.head? λJ=>U' l.tail.tail.tail.tail.head? λK=>U' (T.an 1 x) λp=>U' (T.int? i64 G) λn=>U' (T.int?
 i64 H) λE=>U' (T.an 2 J) λv=>U' (T.int? i64 K) λF=>U' (O (Key.call 33) [AV.t (T.ab 5 q C),AV.fn 34 [] [AV.t (T.ptr [T.ab 1 p.fst p.snd,T.int
 i64 n,T.int i64 E,T.ab 2 v.fst v.snd,T.int i64 F])]] []) λl=>U' l.head? λx=>U' x.bool? λb=>bif b then O lA [AV.t (T.ab 5 r B),Y'0,
 Y'1,I D,AV.t (T.ab 5 o w),I y,I z,AV.t (T.ab 5 u s),I A,I (i64.wrap (f+ (1:Int)))] [ad.box [AV.t (T.ae a),I g,I h,AV.t (T.ae d),I i],ad.box
 [V'2,I j,I k,AV.t (T.ae e),I m],ad.sl false 5 q C] else O oh [AV.t (T.ab 5 r B),Y'0,Y'1,I D,Y'2,I (0:Int),AV.t (T.ab 5 o
 w),I y,I z,AV.t (T.ab 5 u s),I A,I f,AV.t (T.ab 5 r B),I (↑B.length:Int),I (0:Int)] [ad.box [AV.t (T.ae a),I g,I h,AV.t (T.ae d),I i],ad.box [V'3,I
 j,I k,AV.t (T.ae e),I m],ad.box [AV.t (T.ab 1 p.fst p.snd),I n,I E,AV.t (T.ab 2 v.fst v.snd),I F],ad.sl false 5 q C] else O oo [AV.t (T.ab 5 r B),Y'0,AV.ref
 (Id.c 1) 0,I D,AV.t (T.ab 5 o w),I y,I (i64.wrap (z+ (1:Int)))] [ad.box [AV.t (T.ae a),I g,I h,AV.t (T.ae d),I i],ad.box [V'2,I j,I k,AV.t (T.ae
 e),I m],ad.sl false 5 q C]):=by kernel_rfl
theorem xT(O:aq)(k:Bool)(j:List (List T))(a:Bool)(d:List (List T))(e:Int)(f:Int)(c:Bool)(g:List (List T))(h:Int)(o:Int)(i:Int):ax ak ann O fD [(AV.t (T.ab 5 k j)),(AV.fn 34 [] [(AV.t (T.ptr [(T.ab 1 a d),(T.int i64 e),(T.int i64 f),(T.ab 2 c g),(T.int i64 h)]))]),(I o),(I i)] []=
 (bif decide (i < o) then U' (if(0:Int)<=i/\i < (↑j.length:Int) then some () else none) λx=>U' j[i.toNat]? λl=>U' l.head? λx=>U' l.tail.head? λs=>U'
 l.tail.tail.head? λu=>U' l.tail.tail.tail.head? λv=>U' l.tail.tail.tail.tail.head? λw=>U' (T.an 1 x) λp=>U' (T.int? i64 s) λn=>U' (T.int?
 i64 u) λq=>U' (T.an 2 v) λm=>U' (T.int? i64 w) λr=>U' (O (Key.call 34) [AV.agg [AV.t (T.ab 1 p.fst p.snd),I n,I q,AV.t (T.ab 2 m.fst m.snd),I
 r],AV.t (T.ptr [T.ab 1 a d,T.int i64 e,T.int i64 f,T.ab 2 c g,T.int i64 h])] []) λl=>U' l.head? λx=>U' x.bool? λb=>bif b then some
 [T.int i64 i] else O fD [AV.t (T.ab 5 k j),AV.fn 34 [] [AV.t (T.ptr [T.ab 1 a d,T.int i64 e,T.int i64 f,T.ab 2 c g,T.int i64 h])],I o,I
 (i64.wrap (i+ (1:Int)))] [] else some [T.int i64 (-1:Int)]):=by kernel_rfl
theorem xM(O:aq)(k:Bool)(q:List (List T))(o:Bool)(m:List (List T))(r:Int)(a:Int)(e:Bool)(g:List (List T))(d:Int)(h:Int)(f:Bool)(i:List (List T))(j:Int):ax ak ann O tL [(AV.t (T.ab 1 k q)),Y'0,(AV.t (T.ab 5 o m)),(I r),(I a)] [(ad.box [(AV.t (T.ab 5 e g)),(I d),(I h),(AV.t (T.ab 2 f i)),(I j)])]=
 (bif decide (a < r) then U' (if(0:Int)<=a/\a < (↑m.length:Int) then some () else none) λx=>U' m[a.toNat]? λl=>U' l.head? λx=>U' l.tail.head? λs=>U'
 l.tail.tail.head? λu=>U' l.tail.tail.tail.head? λv=>U' l.tail.tail.tail.tail.head? λw=>U' (T.an 1 x) λp=>U' (T.int? i64 s) λn=>U' (T.int?
 i64 u) λy=>U' (T.an 2 v) λA=>U' (T.int? i64 w) λz=>U' (O (Key.call 35) [AV.t (T.ab 1 p.fst p.snd),AV.t (T.ab 1 k q)] []) λl=>U' l.head? λx
 =>U' x.bool? λb=>bif b then some [T.int i64 n] else O tL [AV.t (T.ab 1 k q),Y'0,AV.t (T.ab 5 o m),I r,I (i64.wrap (a+ (1:Int)))] [ad.box [AV.t (T.ab 5 e
 g),I d,I h,AV.t (T.ab 2 f i),I j]] else some [T.int i64 d]):=by kernel_rfl
theorem B7(O:aq)(E:Bool)(P:List (List T))(Q:Int)(R:Int)(r:Bool)(G:List (List T))(H:Int)(J:Int)(s:Bool)(K:List (List T))(L:Int)(M:Int)(F:Bool)(y:List (List T))(N:Int)(a:Int)(f:Bool)(i:Int)(j:Int)(g:Bool)(k:Int)(m:Int)(o:Int)(h:Bool)(q:Int)(b:Bool)(e:List (List T))(z:Int)(A:Int)(u:Bool)(B:List (List T))(C:Int)(D:Bool)(c3:List (List T)):ax ak ann O oh [(AV.t (T.ab 5 E P)),Y'0,Y'1,(I Q),Y'2,(I R),(AV.t (T.ab 5 r G)),(I H),(I J),(AV.t (T.ab 5 s K)),(I L),(I M),(AV.t (T.ab 5 F y)),(I N),(I a)] [(ad.box [(AV.t (T.ae f)),(I i),(I j),(AV.t (T.ae g)),(I k)]),(ad.box [V'3,(I m),(I o),(AV.t (T.ae h)),(I q)]),(ad.box [(AV.t (T.ab 1 b e)),(I z),(I A),(AV.t (T.ab 2 u B)),(I C)]),(ad.sl false 5 D c3)]=
 (bif decide (a < N) then U' (if(0:Int)<=a/\a < (↑y.length:Int) then some () else none) λx=>U' y[a.toNat]? λl=>U' l.head? λx=>U' l.tail.head? λS=>U'
 l.tail.tail.head? λU=>U' l.tail.tail.tail.head? λV=>U' l.tail.tail.tail.tail.head? λW=>U' (T.an 5 x) λp=>U' (T.int? i64 S) λn=>U' (T.int?
 i64 U) λv=>U' (T.an 2 V) λd=>U' (T.int? i64 W) λw=>U' (O (Key.call 36) [AV.agg [AV.t (T.ab 5 p.fst p.snd),I n,I v,AV.t (T.ab 2 d.fst d.snd),I
 w],AV.t (T.ab 1 b e)] []) λl=>U' l.head? λx=>U' (T.int? i64 x) λn=>U' (if a < (0:Int) then none else some ()) λx=>O oh [AV.t (T.ab 5 E P),AV.ref (Id.c
 0) 0,Y'1,I Q,Y'2,AV.t (T.int i64 (i64.wrap (↑(BitVec.ofInt 64 R ||| BitVec.ofInt 64 (i64.wrap (n * (2:Int) ^ min a.toNat 64))).toNat:Int))),AV.t (T.ab 5
 r G),I H,I J,AV.t (T.ab 5 s K),I L,I M,AV.t (T.ab 5 F y),I N,I (i64.wrap (a+ (1:Int)))] [ad.box [AV.t (T.ae f),I i,I j,AV.t (T.ae g),I k],ad.box
 [V'3,I m,I o,AV.t (T.ae h),I q],ad.box [AV.t (T.ab 1 b e),I z,I A,AV.t (T.ab 2 u B),I C],ad.sl false 5 D c3] else U' (O (Key.call 18) [AV.t (T.ab 1
 b e)] []) λl=>U' l.head? λx=>U' (T.an 1 x) λp=>U' (O (Key.call 17) [I R] []) λl=>U' l.head? λx=>U' (T.int? i64 x) λn=>U' l.tail.head? fun
 x=>U' (T.int? i64 x) λv=>U' l.tail.tail.head? λx=>U' (T.an 2 x) λd=>U' l.tail.tail.tail.head? λx=>U' (T.int? i64 x) λw=>U' (bp 72
 (c3.length+ [[T.ab 1 p.fst p.snd,T.int i64 n,T.int i64 v,T.ab 2 d.fst d.snd,T.int i64 w]].length)) λx=>O lA [AV.t (T.ab 5 E P),Y'0,Y'1,I
 Q,AV.t (T.ab 5 r G),I H,I J,AV.t (T.ab 5 s K),I L,I (i64.wrap (M+ (1:Int)))] [ad.box [AV.t (T.ae f),I i,I j,AV.t (T.ae g),I k],ad.box [V'2,I
 m,I o,AV.t (T.ae h),I q],ad.sl false 5 (D && false) (c3++ [[T.ab 1 p.fst p.snd,T.int i64 n,T.int i64 v,T.ab 2 d.fst d.snd,T.int i64 w]])]):=by kernel_rfl
theorem B9(O:aq)(s:Bool)(z:List (List T))(y:Int)(q:Bool)(f:List (List T))(r:Int)(a:Int)(b:Bool)(g:Int)(h:Int)(d:Bool)(i:Int)(j:Int)(k:Int)(e:Bool)(m:Int)(o:Bool)(w:List (List T)):ax ak ann O oo [(AV.t (T.ab 5 s z)),Y'0,Y'1,(I y),(AV.t (T.ab 5 q f)),(I r),(I a)] [(ad.box [(AV.t (T.ae b)),(I g),(I h),(AV.t (T.ae d)),(I i)]),(ad.box [V'2,(I j),(I k),(AV.t (T.ae e)),(I m)]),(ad.sl false 5 o w)]=
 (bif decide (a < r) then U' (if(0:Int)<=a/\a < (↑f.length:Int) then some () else none) λx=>U' f[a.toNat]? λl=>U' l.head? λx=>U' l.tail.head? λA=>U'
 l.tail.tail.head? λB=>U' l.tail.tail.tail.head? λC=>U' l.tail.tail.tail.tail.head? λD=>U' (T.an 5 x) λp=>U' (T.int? i64 A) λn=>U' (T.int?
 i64 B) λu=>U' (T.an 2 C) λE=>U' (T.int? i64 D) λv=>U' (if a < (0:Int) then none else some ()) λx=>O lA [AV.t (T.ab 5 s z),Y'0,
 Y'1,AV.t (T.int i64 (i64.wrap (↑(BitVec.ofInt 64 y ||| BitVec.ofInt 64 (i64.wrap (n * (2:Int) ^ min a.toNat 64))).toNat:Int))),AV.t (T.ab 5 q f),I r,I a,AV.t
 (T.ab 5 p.fst p.snd),I (↑p.snd.length:Int),I (0:Int)] [ad.box [AV.t (T.ae b),I g,I h,AV.t (T.ae d),I i],ad.box [V'2,I j,I k,AV.t (T.ae e),I m],ad.sl false 5
 o w] else U' (O (Key.call 17) [I y] []) λl=>U' l.head? λx=>U' (T.int? i64 x) λn=>U' l.tail.head? λx=>U' (T.int? i64 x) λu=>U'
 l.tail.tail.head? λx=>U' (T.an 2 x) λp=>U' l.tail.tail.tail.head? λx=>U' (T.int? i64 x) λv=>some [T.ab 5 o w,T.int i64 n,T.int i64 u,T.ab 2 p.fst
 p.snd,T.int i64 v]):=by kernel_rfl
theorem JB(O:aq)(a:Bool)(d:List (List T))(h:Int)(i:Int)(f:Bool)(j:List (List T))(k:Int)(c:Bool)(e:List (List T))(m:Int)(n:Int)(g:Bool)(o:List (List T))(p:Int):ax ak ann O (Key.call 34) [(AV.agg [(AV.t (T.ab 1 a d)),(I h),(I i),(AV.t (T.ab 2 f j)),(I k)]),(AV.t (T.ptr [(T.ab 1 c e),(T.int i64 m),(T.int i64 n),(T.ab 2 g o),(T.int i64 p)]))] []=
 (U' (O (Key.call 35) [AV.t (T.ab 1 a d),AV.t (T.ab 1 c e)] []) λl=>U' l.head? λx=>U' x.bool? λb=>some [T.bool b]):=by kernel_rfl
end Go.Aev.Gen
