import Derived.Test.YtcjplcpngagalaaGreatDoorBlastUpsQ7
set_option linter.all false
namespace Go.Aev.Gen
open Go Go.Aev Go.IntKind
noncomputable abbrev E0:Key:=bG ai 7 true 9 [(3,none),(4,none),(5,none),(9,none),(37,none),(38,none),(39,none)] (0,0)
noncomputable abbrev sG:Key:=bG ai 8 true 7 [(3,none),(4,none),(24,none),(25,none),(26,none)] (0,0)
noncomputable abbrev qh:Key:=bG ai 10 true 4 [(2,none),(3,none),(5,none)] (0,0)
noncomputable abbrev sf:Key:=bG ai 10 true 10 [(2,none),(3,none),(5,none),(6,none),(7,none),(8,none)] (0,0)
noncomputable abbrev oG:Key:=bG ai 22 true 4 [(2,none),(3,none),(16,none),(17,none),(18,none)] (0,0)
noncomputable abbrev sn:Key:=bG ai 27 true 6 [(2,none),(3,none),(21,none),(22,none),(23,none)] (0,0)
noncomputable abbrev sv:Key:=bG ai 35 true 4 [(2,none),(3,none),(5,none)] (0,0)
noncomputable abbrev sw:Key:=bG ai 36 true 2 [(0,none),(1,none),(5,none)] (0,0)
noncomputable abbrev eX:Key:=bG ai 85 true 2 [(0,none),(1,none),(7,none),(8,none)] (0,0)
noncomputable abbrev sF:Key:=bG ai 87 true 4 [(1,none),(16,none),(17,none),(18,none)] (0,0)
noncomputable abbrev se:Key:=bG ai 101 true 1 [(0,none),(1,none)] (0,0)
noncomputable abbrev mf:Key:=bG ai 12 true 10 [(3,none),(4,none),(5,none),(9,none),(10,none),(34,none),(35,none),(36,none)] (0,0)
noncomputable abbrev jA:Key:=bG ai 13 true 4 [(2,none),(3,none),(4,none),(6,none),(7,none),(8,none)] (0,0)
noncomputable abbrev iD:Key:=bG ai 13 true 12 [(2,none),(3,none),(4,none),(6,none),(7,none),(8,none),(9,none),(10,none),(11,none)] (0,0)
noncomputable abbrev nw:Key:=bG ai 38 true 4 [(0,none),(2,none),(3,none),(4,none),(12,none),(13,none),(14,none)] (0,0)
noncomputable abbrev fx:Key:=bG ai 13 true 17 [(2,none),(3,none),(4,none),(6,none),(7,none),(8,none),(9,none),(10,none),(11,none),(12,none),(13,none)] (0,0)
noncomputable abbrev kk:Key:=bG ai 38 true 8 [(0,none),(2,none),(3,none),(4,none),(12,none),(13,none),(14,none),(28,none),(29,none),(30,none)] (0,0)
noncomputable abbrev ic:Key:=bG ai 13 true 21 [(2,none),(3,none),(4,none),(6,none),(7,none),(8,none),(9,none),(10,none),(11,none),(12,none),(13,none),(14,none),(15,none)] (0,0)
noncomputable abbrev nv:Key:=bG ai 38 true 13 [(0,none),(2,none),(3,none),(4,none),(8,none),(9,none),(12,none),(13,none),(14,none),(28,none),(29,none),(30,none),(38,none),(39,none),(40,none)] (0,0)
noncomputable abbrev ig:Key:=bG ai 13 true 27 [(2,none),(3,none),(4,none),(6,none),(7,none),(8,none),(9,none),(10,none),(11,none),(12,none),(13,none),(16,none),(17,none)] (0,0)
noncomputable abbrev sD:Key:=bG ai 76 true 2 [(1,none),(2,none),(8,none),(9,none),(10,none)] (0,0)
noncomputable abbrev sA:Key:=bG ai 39 true 2 [(1,none),(2,none),(5,none)] (0,0)
noncomputable abbrev EZ:Key:=bG ai 5 true 17 [(4,none),(10,none),(12,none)] (0,0)
theorem e3(O:aq)(ed:Bool)(d:List (List T))(en:Bool)(nd:List (List T))(eh:Bool)(a:List (List T))(em:Bool)(m:List (List T)):au ai ann O (Key.call 3) [AV.agg [AV.t (T.ab 3 ed d),AV.t (T.ab 5 en nd),AV.t (T.ab 1 eh a)],AV.agg [AV.t (T.ab 5 em m)]] []=
 (U' (O (Key.call 6) [] []) λl=>U' l.head? λx=>U' x.bool? λb=>bif !b then some [T.bool false] else U' (O (Key.call 7) [AV.agg [AV.t (T.ab 3 ed d),AV.t (T.ab 5 en nd),AV.t (T.ab 1
 eh a)],AV.agg [AV.t (T.ab 5 em m)]] []) λl=>U' l.head? λx=>U' (T.ak 5 x) λp=>U' (List.drop 1 l).head? λx=>U' (T.int? i64 x) λn=>U' (List.drop 1
 l).tail.head? λx=>U' (T.int? i64 x) λf=>U' (O (Key.call 8) [AV.agg [AV.t (T.ab 3 ed d),AV.t (T.ab 5 en nd),AV.t (T.ab 1 eh a)],AV.agg [AV.t (T.ab 5 em m)]] []) λl=>U'
 l.head? λx=>U' (T.int? i64 x) λc=>U' l.tail.head? λx=>U' (T.int? i64 x) λi=>bif c== (0:Int) then U' (O (Key.call 9) [AV.agg [AV.t (T.ab 3 ed d),AV.t
 (T.ab 5 en nd),AV.t (T.ab 1 eh a)]] []) λl=>U' l.head? λx=>U' (T.ak 3 x) λe=>U' l.tail.head? λx=>U' (T.ak 5 x) λk=>U' l.tail.tail.head? λx=>U'
 (T.ak 1 x) λo=>U' (List.drop 3 l).head? λx=>U' (T.int? i64 x) λg=>U' (List.drop 3 l).tail.head? λx=>U' (T.int? i64 x) λj=>bif !g== (0:Int) then
 some [T.bool (bif n==g && (f==j && true) then(↑p.snd.length:Int)== (0:Int) else false)] else U' (cD (some (n== (0:Int))) (O (Key.call 11) [AV.agg [AV.t (T.ab 3 ed d),AV.t (T.ab 5 en nd),AV.t
 (T.ab 1 eh a)],AV.agg [AV.t (T.ab 5 em m)]] [])) λl=>aa (some (n== (0:Int))) l.head? λx=>aa (some (n== (0:Int))) (T.ak 5 x) λh=>U' (cD (some (n== (0:Int))) (O (Key.call 10)
 [AV.agg [AV.t (T.ab 5 p.fst p.snd)],AV.agg [AV.t (T.ab 5 h.fst h.snd)]] [])) λl=>aa (some (n== (0:Int))) l.head? λx=>aa (some (n== (0:Int))) x.bool? λb=>some [T.bool (bif n== (0:Int) then
 b else false)] else bif !c== (0:Int) then some [T.bool (bif n==c && (f==i && true) then(↑p.snd.length:Int)== (0:Int) else false)] else U' (cD (some (n== (0:Int))) (O (Key.call 11) [AV.agg
 [AV.t (T.ab 3 ed d),AV.t (T.ab 5 en nd),AV.t (T.ab 1 eh a)],AV.agg [AV.t (T.ab 5 em m)]] [])) λl=>aa (some (n== (0:Int))) l.head? λx=>aa (some (n== (0:Int))) (T.ak 5 x) λe=>U'
 (cD (some (n== (0:Int))) (O (Key.call 10) [AV.agg [AV.t (T.ab 5 p.fst p.snd)],AV.agg [AV.t (T.ab 5 e.fst e.snd)]] [])) λl=>aa (some (n== (0:Int))) l.head? λx=>aa (some (n== (0:Int))) x.bool?
 λb=>some [T.bool (bif n== (0:Int) then b else false)]):=by kernel_rfl
theorem e7(O:aq)(a:Bool)(b:List (List T))(d:Bool)(f:List (List T))(e:Bool)(g:List (List T))(h:Bool)(i:List (List T)):au ai ann O (Key.call 7) [(AV.agg [(AV.t (T.ab 3 a b)),(AV.t (T.ab 5 d f)),(AV.t (T.ab 1 e g))]),(AV.agg [(AV.t (T.ab 5 h i))])] []=
 (U' (O (Key.call 8) [AV.agg [AV.t (T.ab 3 a b),AV.t (T.ab 5 d f),AV.t (T.ab 1 e g)],AV.agg [AV.t (T.ab 5 h i)]] []) λl=>U' l.head? λx=>U' (T.int? i64 x)
 λn=>U' l.tail.head? λx=>U' (T.int? i64 x) λj=>bif !n== (0:Int) then some [T.ae true,T.int i64 n,T.int i64 j] else U' (O (Key.call 9) [AV.agg [AV.t (T.ab
 3 a b),AV.t (T.ab 5 d f),AV.t (T.ab 1 e g)]] []) λl=>U' l.head? λx=>U' (T.ak 3 x) λp=>U' l.tail.head? λx=>U' (T.ak 5 x) λp=>U'
 l.tail.tail.head? λx=>U' (T.ak 1 x) λp=>U' (List.drop 3 l).head? λx=>U' (T.int? i64 x) λn=>U' (List.drop 3 l).tail.head? λx=>U' (T.int? i64 x) fun
 k=>bif !n== (0:Int) then some [T.ae true,T.int i64 n,T.int i64 k] else O E0 [Y'0,Y'1,Y'2,Y'3,AV.t (T.ab 3 a b),I (↑b.length:Int),I (0:Int)] [ad.box [AV.t (T.ab 5 h
 i)],ad.box [AV.t (T.ae true)],ad.box [I (0:Int),I (0:Int)],ad.box [AV.t (T.ae true)]]):=by kernel_rfl
theorem e8(O:aq)(b:Bool)(a:List (List T))(d:Bool)(f:List (List T))(e:Bool)(g:List (List T))(h:Bool)(i:List (List T)):au ai ann O (Key.call 8) [(AV.agg [(AV.t (T.ab 3 b a)),(AV.t (T.ab 5 d f)),(AV.t (T.ab 1 e g))]),(AV.agg [(AV.t (T.ab 5 h i))])] []=
 (U' (O (Key.call 26) [AV.agg [AV.t (T.ab 3 b a),AV.t (T.ab 5 d f),AV.t (T.ab 1 e g)]] []) λl=>U' l.head? λx=>U' (T.int? i64 x) λn=>U' l.tail.head?
 λx=>U' (T.int? i64 x) λj=>bif !n== (0:Int) then some [T.int i64 n,T.int i64 j] else bif !(↑i.length:Int)== (↑a.length:Int) then some [T.int i64 (9:Int),
 T.int i64 (0:Int)] else O sG [Y'0,Y'1,AV.t (T.ab 3 b a),I (↑a.length:Int),I (0:Int)] [ad.box [AV.t (T.ab 5 h i)],ad.box [I (0:Int),I (0:Int)]]):=by kernel_rfl
theorem F8(O:aq)(a:Bool)(d:List (List T))(b:Bool)(e:List (List T)):au ai ann O (Key.call 10) [(AV.agg [(AV.t (T.ab 5 a d))]),(AV.agg [(AV.t (T.ab 5 b e))])] []=
 (bif !(↑d.length:Int)== (↑e.length:Int) then some [T.bool false] else O qh [Y'0,Y'1,I (0:Int)] [ad.box [AV.t (T.ab 5 a d)],ad.box [AV.t (T.ab 5 b e)]]):=by kernel_rfl
theorem Gm(O:aq)(a:Bool)(d:List (List T))(b:Bool)(e:List (List T))(c:Bool)(f:List (List T)):au ai ann O (Key.call 26) [(AV.agg [(AV.t (T.ab 3 a d)),(AV.t (T.ab 5 b e)),(AV.t (T.ab 1 c f))])] []=
 (U' (O (Key.call 15) [AV.agg [AV.t (T.ab 3 a d),AV.t (T.ab 5 b e),AV.t (T.ab 1 c f)]] []) λl=>U' l.head? λx=>U' (T.ak 1 x) λp=>U' l.tail.head? λx=>aa
 none (T.int? i64 x) λn=>U' l.tail.tail.head? λx=>U' (T.int? i64 x) λg=>some [T.int i64 n,T.int i64 g]):=by kernel_rfl
theorem Bj(O:aq)(f:Bool)(b:List (List T))(g:Int)(a:Int)(i:Bool)(h:List (List T))(d:Int)(e:Int):au ai ann O sG [Y'0,Y'1,(AV.t (T.ab 3 f b)),(I g),(I a)] [(ad.box [(AV.t (T.ab 5 i h))]),(ad.box [(I d),(I e)])]=
 (bif decide (a < g) then U' (if(0:Int)<=a/\a < (↑b.length:Int) then some () else none) λx=>U' b[a.toNat]? λl=>U' l.head? λx=>U' l.tail.head? λr=>U'
 l.tail.tail.head? λu=>U' x.bh λs=>U' (T.ak 1 r) λp=>U' (T.int? i64 u) λn=>U' (if(0:Int)<=a/\a < (↑h.length:Int) then some () else none) λx=>
 U' h[a.toNat]? λl=>U' l.head? λx=>U' l.tail.head? λv=>U' l.tail.tail.head? λw=>U' l.tail.tail.tail.head? λy=>U' l.tail.tail.tail.tail.head? λz=>
 U' (T.ak 5 x) λj=>U' (T.int? i64 v) λm=>U' (T.int? i64 w) λo=>U' (T.ak 2 y) λk=>U' (T.int? i64 z) λq=>U' (O
 (Key.call 27) [AV.agg [AV.t (T.str s),AV.t (T.ab 1 p.fst p.snd),I n],AV.agg [AV.t (T.ab 5 j.fst j.snd),I m,I o,AV.t (T.ab 2 k.fst k.snd),I q]] []) λl=>U' l.head? λx=>U'
 (T.int? i64 x) λn=>bif !n== (0:Int) then some [T.int i64 n,T.int i64 a] else O sG [Y'0,Y'1,AV.t (T.ab 3 f b),I g,I (i64.wrap (a+ (1:
 Int)))] [ad.box [AV.t (T.ab 5 i h)],ad.box [I d,I e]] else some [T.int i64 (0:Int),T.int i64 (0:Int)]):=by kernel_rfl
theorem zK(O:aq)(d:Int)(i:Bool)(g:List (List T))(j:Bool)(h:List (List T)):au ai ann O qh [Y'0,Y'1,(I d)] [(ad.box [(AV.t (T.ab 5 i g))]),(ad.box [(AV.t (T.ab 5 j h))])]=
 (bif decide (d < (↑g.length:Int)) then U' (if(0:Int)<=d/\d < (↑g.length:Int) then some () else none) λx=>U' g[d.toNat]? λl=>U' l.head? λx=>U' l.tail.head? λs=>
 U' l.tail.tail.head? λu=>U' l.tail.tail.tail.head? λv=>U' l.tail.tail.tail.tail.head? λw=>U' (T.ak 5 x) λp=>U' (T.int? i64 s) λn=>U' (T.int?
 i64 u) λk=>U' (T.ak 2 v) λe=>U' (T.int? i64 w) λm=>U' (if(0:Int)<=d/\d < (↑h.length:Int) then some () else none) λx=>U' h[d.toNat]? fun
 l=>U' l.head? λx=>U' l.tail.head? λy=>U' l.tail.tail.head? λz=>U' l.tail.tail.tail.head? λA=>U' l.tail.tail.tail.tail.head? λB=>U' (T.ak 5 x) fun
 a=>U' (T.int? i64 y) λo=>U' (T.int? i64 z) λq=>U' (T.ak 2 A) λf=>U' (T.int? i64 B) λr=>U' (cD (some !!(↑p.snd.length:Int)
 == (↑a.snd.length:Int)) (O (Key.call 35) [AV.agg [I n,I k,AV.t (T.ab 2 e.fst e.snd),I m],AV.agg [I o,I q,AV.t (T.ab 2 f.fst f.snd),I r]] [])) λl=>aa (some !!(↑p.snd.length:Int)==
 (↑a.snd.length:Int)) l.head? λx=>aa (some !!(↑p.snd.length:Int)== (↑a.snd.length:Int)) x.bool? λb=>bif bif !(↑p.snd.length:Int)== (↑a.snd.length:Int) then true else !b then some [T.bool false]
 else O sf [Y'0,Y'1,I d,Y'2,Y'3,I (0:Int)] [ad.box [AV.t (T.ab 5 i g)],ad.box [AV.t (T.ab 5 j h)],ad.box [AV.t (T.ab 5 p.fst p.snd),I n,I
 k,AV.t (T.ab 2 e.fst e.snd),I m],ad.box [AV.t (T.ab 5 a.fst a.snd),I o,I q,AV.t (T.ab 2 f.fst f.snd),I r]] else some [T.bool true]):=by kernel_rfl
theorem z6(O:aq)(b:Bool)(a:List (List T))(e:Int)(f:Int)(d:Bool)(g:List (List T))(h:Int):au ai ann O (Key.call 22) [(AV.agg [(AV.t (T.ab 5 b a)),(I e),(I f),(AV.t (T.ab 2 d g)),(I h)])] []=
 (U' (O (Key.call 44) [AV.t (T.ab 2 d g)] []) λl=>U' l.head? λx=>U' (T.ak 2 x) λp=>O oG [Y'0,Y'1,AV.t (T.ab 5 b a),I (↑a.length:Int),
 I (0:Int)] [ad.box [AV.t (T.ae true),I (0:Int),I (0:Int),AV.t (T.ae true),I (0:Int)],ad.box [AV.t (T.ae true),I e,I f,AV.t (T.ab 2 p.fst p.snd),I h]]):=by kernel_rfl
theorem Gn(O:aq)(f:ByteArray)(e:Bool)(g:List (List T))(h:Int)(d:Bool)(a:List (List T))(j:Int)(k:Int)(i:Bool)(m:List (List T))(n:Int):au ai ann O (Key.call 27) [(AV.agg [(AV.t (T.str f)),(AV.t (T.ab 1 e g)),(I h)]),(AV.agg [(AV.t (T.ab 5 d a)),(I j),(I k),(AV.t (T.ab 2 i m)),(I n)])] []=
 (U' (cD (some !decide ((↑a.length:Int) > (1000:Int))) (O (Key.call 45) [AV.t (T.ab 5 d a),AV.fn 46 [] [AV.t (T.ptr [T.str f,T.ab 1 e g,T.int i64 h])]] [])) λl=>aa (some
 !decide ((↑a.length:Int) > (1000:Int))) l.head? λx=>aa (some !decide ((↑a.length:Int) > (1000:Int))) x.bool? λb=>bif bif decide ((↑a.length:Int) > (1000:Int)) then true else b then some
 [T.int i64 (9:Int)] else U' (O (Key.call 45) [AV.t (T.ab 5 d a),AV.fn 47 [] []] []) λl=>U' l.head? λx=>U' x.bool? λb=>bif b then some [T.int i64 (3:Int)] else
 O sn [Y'0,Y'1,AV.t (T.ab 5 d a),I (↑a.length:Int),I (0:Int)] [ad.box [AV.t (T.str f),AV.t (T.ab 1 e g),I h],ad.box [AV.t (T.ab 5 d a),I j,I
 k,AV.t (T.ab 2 i m),I n]]):=by kernel_rfl
theorem Gj(O:aq)(a:Int):au ai ann O (Key.call 20) [(I a)] []=
 (bif bif decide (a > (10:Int)) then decide (a<=(18:Int)) else false then some [T.int i64 (i64.wrap (a - (10:Int)))] else some [T.int i64 (0:Int)]):=by kernel_rfl
theorem Gz(O:aq)(a:Int)(b:Int)(j:Bool)(d:List (List T))(e:Int)(f:Int)(g:Int)(k:Bool)(h:List (List T))(i:Int):au ai ann O (Key.call 35) [(AV.agg [(I a),(I b),(AV.t (T.ab 2 j d)),(I e)]),(AV.agg [(I f),(I g),(AV.t (T.ab 2 k h)),(I i)])] []=
 (bif bif bif !(a==f && (b==g && true)) then true else !e==i then true else !(↑d.length:Int)== (↑h.length:Int) then some [T.bool false] else O sv [Y'0,Y'1,
 I (0:Int)] [ad.box [I a,I b,AV.t (T.ab 2 j d),I e],ad.box [I f,I g,AV.t (T.ab 2 k h),I i]]):=by kernel_rfl
theorem zJ(O:aq)(C:Int)(d:Int)(v:Bool)(A:List (List T))(w:Bool)(B:List (List T))(f:Bool)(a:List (List T))(j:Int)(k:Int)(g:Bool)(m:List (List T))(o:Int)(h:Bool)(e:List (List T))(q:Int)(r:Int)(i:Bool)(s:List (List T))(u:Int):au ai ann O sf [Y'0,Y'1,(I C),Y'2,Y'3,(I d)] [(ad.box [(AV.t (T.ab 5 v A))]),(ad.box [(AV.t (T.ab 5 w B))]),(ad.box [(AV.t (T.ab 5 f a)),(I j),(I k),(AV.t (T.ab 2 g m)),(I o)]),(ad.box [(AV.t (T.ab 5 h e)),(I q),(I r),(AV.t (T.ab 2 i s)),(I u)])]=
 (bif decide (d < (↑a.length:Int)) then U' (if(0:Int)<=d/\d < (↑a.length:Int) then some () else none) λx=>U' a[d.toNat]? λl=>U' l.head? λx=>U' (T.ak 1 x) λp
 =>U' (if(0:Int)<=d/\d < (↑e.length:Int) then some () else none) λx=>U' e[d.toNat]? λl=>U' l.head? λx=>U' (T.ak 1 x) λy=>U' (O (Key.call 36) [AV.t
 (T.ab 1 p.fst p.snd),AV.t (T.ab 1 y.fst y.snd)] []) λl=>U' l.head? λx=>U' x.bool? λb=>aa (some !!b) (if(0:Int)<=d/\d < (↑a.length:Int) then some () else none) λx=>aa
 (some !!b) a[d.toNat]? λl=>aa (some !!b) (List.drop 1 l).head? λx=>aa (some !!b) (List.drop 1 l).tail.head? λK=>aa (some !!b) (List.drop 1 l).tail.tail.head? λL=>aa (some !!b) (List.drop 1
 l).tail.tail.tail.head? λM=>aa (some !!b) (T.int? i64 x) λn=>aa (some !!b) (T.int? i64 K) λE=>aa (some !!b) (T.ak 2 L) λp=>aa (some !!b) (T.int? i64 M) λF
 =>aa (some !!b) (if(0:Int)<=d/\d < (↑e.length:Int) then some () else none) λx=>aa (some !!b) e[d.toNat]? λl=>aa (some !!b) (List.drop 1 l).head? λx=>aa (some !!b) (List.drop 1
 l).tail.head? λN=>aa (some !!b) (List.drop 1 l).tail.tail.head? λP=>aa (some !!b) (List.drop 1 l).tail.tail.tail.head? λQ=>aa (some !!b) (T.int? i64 x) λG=>aa (some !!b) (T.int?
 i64 N) λH=>aa (some !!b) (T.ak 2 P) λz=>aa (some !!b) (T.int? i64 Q) λJ=>U' (cD (some !!b) (O (Key.call 35) [AV.agg [I n,I E,AV.t (T.ab 2 p.fst p.snd),I F],
 AV.agg [I G,I H,AV.t (T.ab 2 z.fst z.snd),I J]] [])) λl=>aa (some !!b) l.head? λx=>aa (some !!b) x.bool? λD=>bif bif !b then true else !D then some [T.bool false] else O sf [AV.ref
 (Id.c 0) 0,Y'1,I C,Y'2,Y'3,AV.t (T.int i64 (i64.wrap (d+ (1:Int))))] [ad.box [AV.t (T.ab 5 v A)],ad.box [AV.t (T.ab 5 w B)],ad.box [AV.t
 (T.ab 5 f a),I j,I k,AV.t (T.ab 2 g m),I o],ad.box [AV.t (T.ab 5 h e),I q,I r,AV.t (T.ab 2 i s),I u]] else O qh [Y'0,Y'1,I
 (i64.wrap (C+ (1:Int)))] [ad.box [AV.t (T.ab 5 v A)],ad.box [AV.t (T.ab 5 w B)]]):=by kernel_rfl
theorem AN(O:aq)(a:Bool)(b:List (List T)):au ai ann O (Key.call 44) [(AV.t (T.ab 2 a b))] []=
 (bif a then some [T.ae true] else U' (bt 16 (0+b.length)) λx=>some [T.ab 2 false b]):=by kernel_rfl
theorem z7(O:aq)(r:Bool)(k:List (List T))(s:Int)(a:Int)(i:Bool)(m:Int)(o:Int)(j:Bool)(q:Int)(b:Bool)(e:Int)(f:Int)(d:Bool)(g:List (List T))(h:Int):au ai ann O oG [Y'0,Y'1,(AV.t (T.ab 5 r k)),(I s),(I a)] [(ad.box [(AV.t (T.ae i)),(I m),(I o),(AV.t (T.ae j)),(I q)]),(ad.box [(AV.t (T.ae b)),(I e),(I f),(AV.t (T.ab 2 d g)),(I h)])]=
 (bif decide (a < s) then U' (if(0:Int)<=a/\a < (↑k.length:Int) then some () else none) λx=>U' k[a.toNat]? λl=>U' l.head? λx=>U' l.tail.head? λz=>U'
 l.tail.tail.head? λA=>U' l.tail.tail.tail.head? λB=>U' l.tail.tail.tail.tail.head? λC=>U' (T.ak 1 x) λp=>U' (T.int? i64 z) λn=>U' (T.int?
 i64 A) λw=>U' (T.ak 2 B) λu=>U' (T.int? i64 C) λy=>U' (O (Key.call 25) [AV.t (T.ab 1 p.fst p.snd)] []) λl=>U' l.head? λx=>U' (T.ak 1
 x) λp=>U' (O (Key.call 44) [AV.t (T.ab 2 u.fst u.snd)] []) λl=>U' l.head? λx=>U' (T.ak 2 x) λv=>O oG [Y'0,Y'1,AV.t (T.ab 5 r k),I s,
 I (i64.wrap (a+ (1:Int)))] [ad.box [AV.t (T.ae i),I m,I o,AV.t (T.ae j),I q],ad.box [V'2,I e,I f,AV.t (T.ab 2 d g),I h],ad.sl false 5 (b &&
 false) [[T.ab 1 p.fst p.snd,T.int i64 n,T.int i64 w,T.ab 2 v.fst v.snd,T.int i64 y]]] else some [T.ae b,T.int i64 e,T.int i64 f,T.ab 2 d g,T.int
 i64 h]):=by kernel_rfl
theorem GD(O:aq)(e:Bool)(f:List (List T))(b:ByteArray)(a:Bool)(c:List (List T))(d:Int):au ai ann O (Key.call 45) [(AV.t (T.ab 5 e f)),(AV.fn 46 [] [(AV.t (T.ptr [(T.str b),(T.ab 1 a c),(T.int i64 d)]))])] []=
 (U' (O (Key.call 85) [AV.t (T.ab 5 e f),AV.fn 46 [] [AV.t (T.ptr [T.str b,T.ab 1 a c,T.int i64 d])]] []) λl=>U' l.head? λx=>U' (T.int? i64 x) λn=>
 some [T.bool (decide (n>=(0:Int)))]):=by kernel_rfl
theorem GF(O:aq)(a:Bool)(b:List (List T)):au ai ann O (Key.call 45) [(AV.t (T.ab 5 a b)),(AV.fn 47 [] [])] []=
 (U' (O (Key.call 85) [AV.t (T.ab 5 a b),AV.fn 47 [] []] []) λl=>U' l.head? λx=>U' (T.int? i64 x) λn=>some [T.bool (decide (n>=(0:Int)))]):=by kernel_rfl
theorem vU(O:aq)(s:Bool)(r:List (List T))(u:Int)(a:Int)(i:ByteArray)(g:Bool)(j:List (List T))(f:Int)(d:Bool)(e:List (List T))(k:Int)(m:Int)(h:Bool)(o:List (List T))(q:Int):au ai ann O sn [Y'0,Y'1,(AV.t (T.ab 5 s r)),(I u),(I a)] [(ad.box [(AV.t (T.str i)),(AV.t (T.ab 1 g j)),(I f)]),(ad.box [(AV.t (T.ab 5 d e)),(I k),(I m),(AV.t (T.ab 2 h o)),(I q)])]=
 (bif decide (a < u) then U' (if(0:Int)<=a/\a < (↑r.length:Int) then some () else none) λx=>U' r[a.toNat]? λl=>U' l.head? λx=>U' l.tail.head? λA=>U'
 l.tail.tail.head? λB=>U' l.tail.tail.tail.head? λC=>U' l.tail.tail.tail.tail.head? λD=>U' (T.ak 1 x) λp=>U' (T.int? i64 A) λn=>U' (T.int?
 i64 B) λy=>U' (T.ak 2 C) λv=>U' (T.int? i64 D) λz=>U' (eO (0:Int) a (↑e.length:Int)) λx=>U' (O (Key.call 45) [AV.t (T.ab 5 d (sub (0
 :Int) a e)),AV.fn 51 [] [AV.t (T.ptr [T.ab 1 p.fst p.snd,T.int i64 n,T.int i64 y,T.ab 2 v.fst v.snd,T.int i64 z])]] []) λl=>U' l.head? λx=>U' x.bool? fun
 b=>bif b then some [T.int i64 (7:Int)] else O sn [Y'0,Y'1,AV.t (T.ab 5 s r),I u,I (i64.wrap (a+ (1:Int)))] [ad.box [AV.t (T.str i),AV.t (T.ab 1
 g j),I f],ad.box [AV.t (T.ab 5 d e),I k,I m,AV.t (T.ab 2 h o),I q]] else U' (O (Key.call 53) [I f,AV.agg [I k,I m,AV.t (T.ab 2 h o),I q]] []) λl
 =>U' l.head? λx=>U' x.bool? λb=>U' (cD (some !!b) (O (Key.call 45) [AV.t (T.ab 5 d e),AV.fn 54 [] [AV.t (T.ptr [T.str i,T.ab 1 g j,T.int i64 f])]] [])) λl
 =>aa (some !!b) l.head? λx=>aa (some !!b) x.bool? λw=>bif bif !b then true else w then some [T.int i64 (8:Int)] else some [T.int i64 (0:Int)]):=by kernel_rfl
theorem AF(O:aq)(d:Int)(g:Int)(h:Int)(e:Bool)(a:List (List T))(i:Int)(j:Int)(k:Int)(f:Bool)(b:List (List T))(m:Int):au ai ann O sv [Y'0,Y'1,(I d)] [(ad.box [(I g),(I h),(AV.t (T.ab 2 e a)),(I i)]),(ad.box [(I j),(I k),(AV.t (T.ab 2 f b)),(I m)])]=
 (bif decide (d < (↑a.length:Int)) then U' (if(0:Int)<=d/\d < (↑a.length:Int) then some () else none) λx=>U' a[d.toNat]? λl=>U' l.head? λx=>U' l.tail.head? fun
 r=>U' (T.int? i64 x) λn=>U' (T.int? i64 r) λo=>U' (if(0:Int)<=d/\d < (↑b.length:Int) then some () else none) λx=>U' b[d.toNat]? λl=>aa
 none l.head? λx=>U' l.tail.head? λs=>U' (T.int? i64 x) λp=>U' (T.int? i64 s) λq=>bif !(n==p && (o==q && true)) then some [T.bool false] else O sv
 [Y'0,Y'1,I (i64.wrap (d+ (1:Int)))] [ad.box [I g,I h,AV.t (T.ab 2 e a),I i],ad.box [I j,I k,AV.t (T.ab 2 f b),I m]] else some [T.bool
 true]):=by kernel_rfl
theorem GA(O:aq)(a:Bool)(c:List (List T))(b:Bool)(d:List (List T)):au ai ann O (Key.call 36) [(AV.t (T.ab 1 a c)),(AV.t (T.ab 1 b d))] []=
 (O sw [AV.t (T.ab 1 a c),AV.t (T.ab 1 b d),I (0:Int)] []):=by kernel_rfl
theorem z8(O:aq)(s:Bool)(k:List (List T))(u:Int)(a:Int)(h:Bool)(m:Int)(o:Int)(i:Bool)(q:Int)(d:Int)(e:Int)(b:Bool)(f:List (List T))(g:Int)(r:Bool)(v:List (List T)):au ai ann O oG [Y'0,Y'1,(AV.t (T.ab 5 s k)),(I u),(I a)] [(ad.box [(AV.t (T.ae h)),(I m),(I o),(AV.t (T.ae i)),(I q)]),(ad.box [V'2,(I d),(I e),(AV.t (T.ab 2 b f)),(I g)]),(ad.sl false 5 r v)]=
 (bif decide (a < u) then U' (if(0:Int)<=a/\a < (↑k.length:Int) then some () else none) λx=>U' k[a.toNat]? λl=>U' l.head? λx=>U' l.tail.head? λA=>U'
 l.tail.tail.head? λB=>U' l.tail.tail.tail.head? λC=>U' l.tail.tail.tail.tail.head? λD=>U' (T.ak 1 x) λp=>U' (T.int? i64 A) λn=>U' (T.int?
 i64 B) λw=>U' (T.ak 2 C) λz=>U' (T.int? i64 D) λy=>U' (O (Key.call 25) [AV.t (T.ab 1 p.fst p.snd)] []) λl=>U' l.head? λx=>U' (T.ak 1
 x) λp=>U' (O (Key.call 44) [AV.t (T.ab 2 z.fst z.snd)] []) λl=>U' l.head? λx=>U' (T.ak 2 x) λj=>U' (bt 72 (v.length+ [[T.ab 1 p.fst p.snd,T.int i64 n,
 T.int i64 w,T.ab 2 j.fst j.snd,T.int i64 y]].length)) λx=>O oG [Y'0,Y'1,AV.t (T.ab 5 s k),I u,I (i64.wrap (a+ (1:Int)))] [ad.box
 [AV.t (T.ae h),I m,I o,AV.t (T.ae i),I q],ad.box [V'2,I d,I e,AV.t (T.ab 2 b f),I g],ad.sl false 5 (r && false) (v++ [[T.ab 1 p.fst p.snd,T.int i64
 n,T.int i64 w,T.ab 2 j.fst j.snd,T.int i64 y]])] else some [T.ab 5 r v,T.int i64 d,T.int i64 e,T.ab 2 b f,T.int i64 g]):=by kernel_rfl
theorem Aa(O:aq)(a:Int):au ai ann O (Key.call 24) [(I a)] []=
 (some [T.int i64 a,T.int i64 (1:Int),T.ae true,T.int i64 (0:Int)]):=by kernel_rfl
theorem HL(O:aq)(e:Bool)(f:List (List T))(b:ByteArray)(a:Bool)(c:List (List T))(d:Int):au ai ann O (Key.call 85) [(AV.t (T.ab 5 e f)),(AV.fn 46 [] [(AV.t (T.ptr [(T.str b),(T.ab 1 a c),(T.int i64 d)]))])] []=
 (O eX [AV.t (T.ab 5 e f),AV.fn 46 [] [AV.t (T.ptr [T.str b,T.ab 1 a c,T.int i64 d])],I (↑f.length:Int),I (0:Int)] []):=by kernel_rfl
theorem HM(O:aq)(a:Bool)(b:List (List T)):au ai ann O (Key.call 85) [(AV.t (T.ab 5 a b)),(AV.fn 47 [] [])] []=
 (O eX [AV.t (T.ab 5 a b),AV.fn 47 [] [],I (↑b.length:Int),I (0:Int)] []):=by kernel_rfl
theorem GG(O:aq)(h:Bool)(i:List (List T))(a:Bool)(c:List (List T))(d:Int)(e:Int)(b:Bool)(f:List (List T))(g:Int):au ai ann O (Key.call 45) [(AV.t (T.ab 5 h i)),(AV.fn 51 [] [(AV.t (T.ptr [(T.ab 1 a c),(T.int i64 d),(T.int i64 e),(T.ab 2 b f),(T.int i64 g)]))])] []=
 (U' (O (Key.call 85) [AV.t (T.ab 5 h i),AV.fn 51 [] [AV.t (T.ptr [T.ab 1 a c,T.int i64 d,T.int i64 e,T.ab 2 b f,T.int i64 g])]] []) λl=>U'
 l.head? λx=>U' (T.int? i64 x) λn=>some [T.bool (decide (n>=(0:Int)))]):=by kernel_rfl
theorem GX(O:aq)(f:Int)(a:Int)(e:Int)(g:Bool)(c:List (List T))(d:Int):au ai ann O (Key.call 53) [(I f),(AV.agg [(I a),(I e),(AV.t (T.ab 2 g c)),(I d)])] []=
 (bif f== (5:Int) then U' (O (Key.call 87) [AV.agg [I a,I e,AV.t (T.ab 2 g c),I d]] []) λl=>U' l.head? λx=>U' x.bool? λb=>some [T.bool b] else U' (cD (some
 !bif decide ((↑c.length:Int) > (0:Int)) then true else !d== (0:Int)) (O (Key.call 88) [AV.agg [I a,I e]] [])) λl=>aa (some !bif decide ((↑c.length:Int) > (0:Int)) then true else !d==
 (0:Int)) l.head? λx=>aa (some !bif decide ((↑c.length:Int) > (0:Int)) then true else !d== (0:Int)) (T.int? i64 x) λn=>aa (some !bif decide ((↑c.length:Int) > (0:Int)) then true
 else !d== (0:Int)) l.tail.head? λx=>aa (some !bif decide ((↑c.length:Int) > (0:Int)) then true else !d== (0:Int)) (T.int? i64 x) λh=>bif bif bif bif decide ((↑c.length:Int) >
 (0:Int)) then true else !d== (0:Int) then true else !n== (0:Int) then true else bif !f== (3:Int) then !e== (1:Int) else false then some [T.bool false] else bif f== (1:Int) then some [T.bool (bif
 a== (0:Int) then true else a== (1:Int))] else bif f== (4:Int) then U' (O (Key.call 50) [I a] []) λl=>U' l.head? λx=>U' x.bool? λb=>some [T.bool b] else U' (O
 (Key.call 21) [I f] []) λl=>U' l.head? λx=>U' x.bool? λb=>bif b then aa (some (decide (a>=(0:Int)))) (if i64.wrap (f - (10:Int)) < (0:Int) then none else some ()) λx=>
 some [T.bool (bif decide (a>=(0:Int)) then decide (a < i64.wrap ((1:Int) * (2:Int) ^ min (i64.wrap (f - (10:Int))).toNat 64)) else false)] else some [T.bool true]):=by kernel_rfl
theorem GH(O:aq)(e:Bool)(f:List (List T))(b:ByteArray)(a:Bool)(c:List (List T))(d:Int):au ai ann O (Key.call 45) [(AV.t (T.ab 5 e f)),(AV.fn 54 [] [(AV.t (T.ptr [(T.str b),(T.ab 1 a c),(T.int i64 d)]))])] []=
 (U' (O (Key.call 85) [AV.t (T.ab 5 e f),AV.fn 54 [] [AV.t (T.ptr [T.str b,T.ab 1 a c,T.int i64 d])]] []) λl=>U' l.head? λx=>U' (T.int? i64 x) λn=>
 some [T.bool (decide (n>=(0:Int)))]):=by kernel_rfl
theorem we(O:aq)(d:Bool)(c:List (List T))(e:Bool)(b:List (List T))(a:Int):au ai ann O sw [(AV.t (T.ab 1 d c)),(AV.t (T.ab 1 e b)),(I a)] []=
 (bif decide (a < (↑c.length:Int)) then aa (some !decide (a>=(↑b.length:Int))) (if(0:Int)<=a/\a < (↑c.length:Int) then some () else none) λx=>aa (some !decide (a>=(↑b.length:Int)))
 c[a.toNat]? λl=>aa (some !decide (a>=(↑b.length:Int))) l.head? λx=>aa (some !decide (a>=(↑b.length:Int))) (T.int? i64 x) λn=>aa (some !decide (a>=(↑b.length:Int))) (if(0:Int)
 <=a/\a < (↑b.length:Int) then some () else none) λx=>aa (some !decide (a>=(↑b.length:Int))) b[a.toNat]? λl=>aa (some !decide (a>=(↑b.length:Int))) l.head? λx=>aa (some !decide (a>=
 (↑b.length:Int))) (T.int? i64 x) λf=>bif bif decide (a>=(↑b.length:Int)) then true else !n==f then some [T.bool false] else O sw [AV.t (T.ab 1 d c),AV.t (T.ab 1 e b),I
 (i64.wrap (a+ (1:Int)))] [] else some [T.bool ((↑c.length:Int)== (↑b.length:Int))]):=by kernel_rfl
theorem wB(O:aq)(h:Bool)(g:List (List T))(c:ByteArray)(a:Bool)(d:List (List T))(e:Int)(j:Int)(f:Int):au ai ann O eX [(AV.t (T.ab 5 h g)),(AV.fn 46 [] [(AV.t (T.ptr [(T.str c),(T.ab 1 a d),(T.int i64 e)]))]),(I j),(I f)] []=
 (bif decide (f < j) then U' (if(0:Int)<=f/\f < (↑g.length:Int) then some () else none) λx=>U' g[f.toNat]? λl=>U' l.head? λx=>U' l.tail.head? λo=>U'
 l.tail.tail.head? λq=>U' l.tail.tail.tail.head? λr=>U' l.tail.tail.tail.tail.head? λs=>U' (T.ak 1 x) λp=>U' (T.int? i64 o) λn=>U' (T.int?
 i64 q) λk=>U' (T.ak 2 r) λi=>U' (T.int? i64 s) λm=>U' (O (Key.call 46) [AV.agg [AV.t (T.ab 1 p.fst p.snd),I n,I k,AV.t (T.ab 2 i.fst i.snd),I
 m],AV.t (T.ptr [T.str c,T.ab 1 a d,T.int i64 e])] []) λl=>U' l.head? λx=>U' x.bool? λb=>bif b then some [T.int i64 f] else O eX [AV.t (T.ab 5 h g),
 AV.fn 46 [] [AV.t (T.ptr [T.str c,T.ab 1 a d,T.int i64 e])],I j,I (i64.wrap (f+ (1:Int)))] [] else some [T.int i64 (-1:Int)]):=by kernel_rfl
theorem wC(O:aq)(d:Bool)(c:List (List T))(f:Int)(a:Int):au ai ann O eX [(AV.t (T.ab 5 d c)),(AV.fn 47 [] []),(I f),(I a)] []=
 (bif decide (a < f) then U' (if(0:Int)<=a/\a < (↑c.length:Int) then some () else none) λx=>U' c[a.toNat]? λl=>U' l.head? λx=>U' l.tail.head? λi=>U'
 l.tail.tail.head? λj=>U' l.tail.tail.tail.head? λk=>U' l.tail.tail.tail.tail.head? λm=>U' (T.ak 1 x) λp=>U' (T.int? i64 i) λn=>U' (T.int?
 i64 j) λg=>U' (T.ak 2 k) λe=>U' (T.int? i64 m) λh=>U' (O (Key.call 47) [AV.agg [AV.t (T.ab 1 p.fst p.snd),I n,I g,AV.t (T.ab 2 e.fst e.snd),I
 h]] []) λl=>U' l.head? λx=>U' x.bool? λb=>bif b then some [T.int i64 a] else O eX [AV.t (T.ab 5 d c),AV.fn 47 [] [],I f,I (i64.wrap (a+ (1:Int)))] [] else some
 [T.int i64 (-1:Int)]):=by kernel_rfl
theorem HN(O:aq)(h:Bool)(i:List (List T))(a:Bool)(c:List (List T))(d:Int)(e:Int)(b:Bool)(f:List (List T))(g:Int):au ai ann O (Key.call 85) [(AV.t (T.ab 5 h i)),(AV.fn 51 [] [(AV.t (T.ptr [(T.ab 1 a c),(T.int i64 d),(T.int i64 e),(T.ab 2 b f),(T.int i64 g)]))])] []=
 (O eX [AV.t (T.ab 5 h i),AV.fn 51 [] [AV.t (T.ptr [T.ab 1 a c,T.int i64 d,T.int i64 e,T.ab 2 b f,T.int i64 g])],I (↑i.length:Int),I (0:Int)] []):=by kernel_rfl
theorem HX(O:aq)(a:Int)(d:Int)(f:Bool)(e:List (List T))(g:Int):au ai ann O (Key.call 87) [(AV.agg [(I a),(I d),(AV.t (T.ab 2 f e)),(I g)])] []=
 (U' (cD (some !!(a== (0:Int) && (d== (0:Int) && true))) (O (Key.call 50) [I g] [])) λl=>aa (some !!(a== (0:Int) && (d== (0:Int) && true))) l.head? λx=>aa (some !!(a== (0:
 Int) && (d== (0:Int) && true))) x.bool? λb=>bif bif !(a== (0:Int) && (d== (0:Int) && true)) then true else !b then some [T.bool false] else O sF [Y'0,AV.t (T.ab 2 f e),I
 (↑e.length:Int),I (0:Int)] [ad.box [I a,I d,AV.t (T.ab 2 f e),I g]]):=by kernel_rfl
theorem HY(O:aq)(a:Int)(b:Int):au ai ann O (Key.call 88) [(AV.agg [(I a),(I b)])] []=
 (U' (cD (some !bif bif bif decide (b < (1:Int)) then true else decide (b > (1073741824:Int)) then true else decide (a < (-1073741824:Int)) then true else decide (a > (1073741824:Int))) (O
 (Key.call 102) [I a] [])) λl=>aa (some !bif bif bif decide (b < (1:Int)) then true else decide (b > (1073741824:Int)) then true else decide (a < (-1073741824:Int)) then true else decide (a >
 (1073741824:Int))) l.head? λx=>aa (some !bif bif bif decide (b < (1:Int)) then true else decide (b > (1073741824:Int)) then true else decide (a < (-1073741824:Int)) then true else decide (a >
 (1073741824:Int))) (T.int? u64 x) λn=>U' (cD (some !bif bif bif decide (b < (1:Int)) then true else decide (b > (1073741824:Int)) then true else decide (a < (-1073741824:Int)) then
 true else decide (a > (1073741824:Int))) (O (Key.call 102) [I b] [])) λl=>aa (some !bif bif bif decide (b < (1:Int)) then true else decide (b > (1073741824:Int)) then true else decide (a <
 (-1073741824:Int)) then true else decide (a > (1073741824:Int))) l.head? λx=>aa (some !bif bif bif decide (b < (1:Int)) then true else decide (b > (1073741824:Int)) then true else decide (a <
 (-1073741824:Int)) then true else decide (a > (1073741824:Int))) (T.int? u64 x) λc=>U' (cD (some !bif bif bif decide (b < (1:Int)) then true else decide (b > (1073741824:Int)) then
 true else decide (a < (-1073741824:Int)) then true else decide (a > (1073741824:Int))) (O (Key.call 101) [AV.t (T.int u64 n),AV.t (T.int u64 c)] [])) λl=>aa (some !bif bif bif decide
 (b < (1:Int)) then true else decide (b > (1073741824:Int)) then true else decide (a < (-1073741824:Int)) then true else decide (a > (1073741824:Int))) l.head? λx=>aa (some !bif bif bif decide
 (b < (1:Int)) then true else decide (b > (1073741824:Int)) then true else decide (a < (-1073741824:Int)) then true else decide (a > (1073741824:Int))) (T.int? u64 x) λn=>bif bif bif bif
 bif decide (b < (1:Int)) then true else decide (b > (1073741824:Int)) then true else decide (a < (-1073741824:Int)) then true else decide (a > (1073741824:Int)) then true else !n== (1:Int) then some
 [T.int i64 (3:Int),T.int i64 (0:Int)] else some [T.int i64 (0:Int),T.int i64 (0:Int)]):=by kernel_rfl
theorem GV(O:aq)(a:Int):au ai ann O (Key.call 50) [(I a)] []=
 (some [T.bool (bif decide (a>=(0:Int)) then decide (a<=(1000:Int)) else false)]):=by kernel_rfl
theorem HO(O:aq)(e:Bool)(f:List (List T))(b:ByteArray)(a:Bool)(c:List (List T))(d:Int):au ai ann O (Key.call 85) [(AV.t (T.ab 5 e f)),(AV.fn 54 [] [(AV.t (T.ptr [(T.str b),(T.ab 1 a c),(T.int i64 d)]))])] []=
 (O eX [AV.t (T.ab 5 e f),AV.fn 54 [] [AV.t (T.ptr [T.str b,T.ab 1 a c,T.int i64 d])],I (↑f.length:Int),I (0:Int)] []):=by kernel_rfl
theorem GJ(O:aq)(c:Bool)(a:List (List T))(f:Int)(g:Int)(d:Bool)(h:List (List T))(i:Int)(j:ByteArray)(e:Bool)(b:List (List T))(k:Int):au ai ann O (Key.call 46) [(AV.agg [(AV.t (T.ab 1 c a)),(I f),(I g),(AV.t (T.ab 2 d h)),(I i)]),(AV.t (T.ptr [(T.str j),(T.ab 1 e b),(T.int i64 k)]))] []=
 (some [T.bool !(↑a.length:Int)== (↑b.length:Int)]):=by kernel_rfl
theorem GL(O:aq)(a:Bool)(c:List (List T))(e:Int)(f:Int)(d:Bool)(g:List (List T))(h:Int):au ai ann O (Key.call 47) [(AV.agg [(AV.t (T.ab 1 a c)),(I e),(I f),(AV.t (T.ab 2 d g)),(I h)])] []=
 (U' (O (Key.call 48) [AV.t (T.ab 1 a c),AV.fn 49 [] []] []) λl=>U' l.head? λx=>U' x.bool? λb=>some [T.bool b]):=by kernel_rfl
theorem wD(O:aq)(k:Bool)(j:List (List T))(a:Bool)(d:List (List T))(e:Int)(f:Int)(c:Bool)(g:List (List T))(h:Int)(o:Int)(i:Int):au ai ann O eX [(AV.t (T.ab 5 k j)),(AV.fn 51 [] [(AV.t (T.ptr [(T.ab 1 a d),(T.int i64 e),(T.int i64 f),(T.ab 2 c g),(T.int i64 h)]))]),(I o),(I i)] []=
 (bif decide (i < o) then U' (if(0:Int)<=i/\i < (↑j.length:Int) then some () else none) λx=>U' j[i.toNat]? λl=>U' l.head? λx=>U' l.tail.head? λs=>U'
 l.tail.tail.head? λu=>U' l.tail.tail.tail.head? λv=>U' l.tail.tail.tail.tail.head? λw=>U' (T.ak 1 x) λp=>U' (T.int? i64 s) λn=>U' (T.int?
 i64 u) λq=>U' (T.ak 2 v) λm=>U' (T.int? i64 w) λr=>U' (O (Key.call 51) [AV.agg [AV.t (T.ab 1 p.fst p.snd),I n,I q,AV.t (T.ab 2 m.fst m.snd),I
 r],AV.t (T.ptr [T.ab 1 a d,T.int i64 e,T.int i64 f,T.ab 2 c g,T.int i64 h])] []) λl=>U' l.head? λx=>U' x.bool? λb=>bif b then some
 [T.int i64 i] else O eX [AV.t (T.ab 5 k j),AV.fn 51 [] [AV.t (T.ptr [T.ab 1 a d,T.int i64 e,T.int i64 f,T.ab 2 c g,T.int i64 h])],I o,I
 (i64.wrap (i+ (1:Int)))] [] else some [T.int i64 (-1:Int)]):=by kernel_rfl
theorem Bg(O:aq)(m:Bool)(i:List (List T))(o:Int)(a:Int)(j:Int)(k:Int)(h:Bool)(f:List (List T))(d:Int):au ai ann O sF [Y'0,(AV.t (T.ab 2 m i)),(I o),(I a)] [(ad.box [(I j),(I k),(AV.t (T.ab 2 h f)),(I d)])]=
 (bif decide (a < o) then U' (if(0:Int)<=a/\a < (↑i.length:Int) then some () else none) λx=>U' i[a.toNat]? λl=>U' l.head? λx=>U' l.tail.head? λq=>U'
 (T.int? i64 x) λn=>U' (T.int? i64 q) λe=>U' (O (Key.call 50) [I n] []) λl=>U' l.head? λx=>U' x.bool? λb=>U' (cD (some !!b) (O (Key.call 50) [I
 e] [])) λl=>aa (some !!b) l.head? λx=>aa (some !!b) x.bool? λg=>aa (some (bif !bif bif !b then true else !g then true else e==d then decide (a > (0:Int)) else false)) (if(0:Int)<=
 i64.wrap (a - (1:Int))/\i64.wrap (a - (1:Int)) < (↑f.length:Int) then some () else none) λx=>aa (some (bif !bif bif !b then true else !g then true else e==d then decide (a >
 (0:Int)) else false)) f[(i64.wrap (a - (1:Int))).toNat]? λl=>aa (some (bif !bif bif !b then true else !g then true else e==d then decide (a > (0:Int)) else false)) l.head? λx=>aa
 (some (bif !bif bif !b then true else !g then true else e==d then decide (a > (0:Int)) else false)) (T.int? i64 x) λp=>bif bif bif bif !b then true else !g then true else e==d then
 true else bif decide (a > (0:Int)) then decide (n<=p) else false then some [T.bool false] else O sF [Y'0,AV.t (T.ab 2 m i),I o,I (i64.wrap (a+ (1:Int)))] [ad.box [I j,I
 k,AV.t (T.ab 2 h f),I d]] else some [T.bool true]):=by kernel_rfl
theorem Gc(O:aq)(a:Int):au ai ann O (Key.call 102) [(I a)] []=
 (bif decide (a < (0:Int)) then some [T.int u64 (u64.wrap ((0:Int) - u64.wrap a))] else some [T.int u64 (u64.wrap a)]):=by kernel_rfl
theorem Ga(O:aq)(a:Int)(b:Int):au ai ann O (Key.call 101) [(AV.t (T.int u64 a)),(AV.t (T.int u64 b))] []=
 (O se [AV.t (T.int u64 a),AV.t (T.int u64 b)] []):=by kernel_rfl
theorem wE(O:aq)(h:Bool)(g:List (List T))(c:ByteArray)(a:Bool)(d:List (List T))(e:Int)(j:Int)(f:Int):au ai ann O eX [(AV.t (T.ab 5 h g)),(AV.fn 54 [] [(AV.t (T.ptr [(T.str c),(T.ab 1 a d),(T.int i64 e)]))]),(I j),(I f)] []=
 (bif decide (f < j) then U' (if(0:Int)<=f/\f < (↑g.length:Int) then some () else none) λx=>U' g[f.toNat]? λl=>U' l.head? λx=>U' l.tail.head? λo=>U'
 l.tail.tail.head? λq=>U' l.tail.tail.tail.head? λr=>U' l.tail.tail.tail.tail.head? λs=>U' (T.ak 1 x) λp=>U' (T.int? i64 o) λn=>U' (T.int?
 i64 q) λk=>U' (T.ak 2 r) λi=>U' (T.int? i64 s) λm=>U' (O (Key.call 54) [AV.agg [AV.t (T.ab 1 p.fst p.snd),I n,I k,AV.t (T.ab 2 i.fst i.snd),I
 m],AV.t (T.ptr [T.str c,T.ab 1 a d,T.int i64 e])] []) λl=>U' l.head? λx=>U' x.bool? λb=>bif b then some [T.int i64 f] else O eX [AV.t (T.ab 5 h g),
 AV.fn 54 [] [AV.t (T.ptr [T.str c,T.ab 1 a d,T.int i64 e])],I j,I (i64.wrap (f+ (1:Int)))] [] else some [T.int i64 (-1:Int)]):=by kernel_rfl
theorem GS(O:aq)(a:Bool)(b:List (List T)):au ai ann O (Key.call 48) [(AV.t (T.ab 1 a b)),(AV.fn 49 [] [])] []=
 (U' (O (Key.call 86) [AV.t (T.ab 1 a b),AV.fn 49 [] []] []) λl=>U' l.head? λx=>U' (T.int? i64 x) λn=>some [T.bool (decide (n>=(0:Int)))]):=by kernel_rfl
theorem GW(O:aq)(a:Bool)(d:List (List T))(h:Int)(i:Int)(f:Bool)(j:List (List T))(k:Int)(c:Bool)(e:List (List T))(m:Int)(n:Int)(g:Bool)(o:List (List T))(p:Int):au ai ann O (Key.call 51) [(AV.agg [(AV.t (T.ab 1 a d)),(I h),(I i),(AV.t (T.ab 2 f j)),(I k)]),(AV.t (T.ptr [(T.ab 1 c e),(T.int i64 m),(T.int i64 n),(T.ab 2 g o),(T.int i64 p)]))] []=
 (U' (O (Key.call 52) [AV.t (T.ab 1 a d),AV.t (T.ab 1 c e)] []) λl=>U' l.head? λx=>U' x.bool? λb=>some [T.bool b]):=by kernel_rfl
theorem Gb(O:aq)(b:Int)(a:Int):au ai ann O se [(AV.t (T.int u64 b)),(AV.t (T.int u64 a))] []=
 (bif !a== (0:Int) then U' (if a= (0:Int) then none else some ()) λx=>O se [AV.t (T.int u64 a),AV.t (T.int u64 (b.tmod a))] [] else some [T.int u64 b]):=by kernel_rfl
theorem GY(O:aq)(h:Bool)(j:List (List T))(c:Int)(d:Int)(a:Bool)(e:List (List T))(f:Int)(k:ByteArray)(i:Bool)(m:List (List T))(g:Int):au ai ann O (Key.call 54) [(AV.agg [(AV.t (T.ab 1 h j)),(I c),(I d),(AV.t (T.ab 2 a e)),(I f)]),(AV.t (T.ptr [(T.str k),(T.ab 1 i m),(T.int i64 g)]))] []=
 (U' (O (Key.call 53) [I g,AV.agg [I c,I d,AV.t (T.ab 2 a e),I f]] []) λl=>U' l.head? λx=>U' x.bool? λb=>some [T.bool !b]):=by kernel_rfl
theorem HW(O:aq)(a:Bool)(b:List (List T)):au ai ann O (Key.call 86) [(AV.t (T.ab 1 a b)),(AV.fn 49 [] [])] []=
 (O ei [AV.t (T.ab 1 a b),AV.fn 49 [] [],I (↑b.length:Int),I (0:Int)] []):=by kernel_rfl
theorem wL(O:aq)(d:Bool)(c:List (List T))(e:Int)(a:Int):au ai ann O ei [(AV.t (T.ab 1 d c)),(AV.fn 49 [] []),(I e),(I a)] []=
 (bif decide (a < e) then U' (if(0:Int)<=a/\a < (↑c.length:Int) then some () else none) λx=>U' c[a.toNat]? λl=>U' l.head? λx=>U' (T.int? i64 x) λn=>U'
 (O (Key.call 49) [I n] []) λl=>U' l.head? λx=>U' x.bool? λb=>bif b then some [T.int i64 a] else O ei [AV.t (T.ab 1 d c),AV.fn 49 [] [],I e,I (i64.wrap (a+ (1:
 Int)))] [] else some [T.int i64 (-1:Int)]):=by kernel_rfl
theorem GU(O:aq)(a:Int):au ai ann O (Key.call 49) [(I a)] []=
 (U' (O (Key.call 50) [I a] []) λl=>U' l.head? λx=>U' x.bool? λb=>some [T.bool !b]):=by kernel_rfl
theorem e4(O:aq)(ed:Bool)(d:List (List T))(en:Bool)(nd:List (List T))(eh:Bool)(f:List (List T))(em:Bool)(m:List (List T)):au ai ann O (Key.call 4) [AV.agg [AV.t (T.ab 3 ed d),AV.t (T.ab 5 en nd),AV.t (T.ab 1 eh f)],AV.agg [AV.t (T.ab 5 em m)]] []=
 (U' (O (Key.call 6) [] []) λl=>U' l.head? λx=>U' x.bool? λb=>bif !b then some [T.bool false] else U' (O (Key.call 12) [AV.agg [AV.t (T.ab 3 ed d),AV.t (T.ab 5 en nd),AV.t (T.ab 1
 eh f)],AV.agg [AV.t (T.ab 5 em m)]] []) λl=>U' l.head? λx=>U' (T.ak 5 x) λp=>U' (List.drop 1 l).head? λx=>U' (T.int? i64 x) λn=>U' (List.drop 1
 l).tail.head? λx=>U' (T.int? i64 x) λc=>U' (O (Key.call 9) [AV.agg [AV.t (T.ab 3 ed d),AV.t (T.ab 5 en nd),AV.t (T.ab 1 eh f)]] []) λl=>U' l.head? λx=>U' (T.ak
 3 x) λi=>U' l.tail.head? λx=>U' (T.ak 5 x) λj=>U' l.tail.tail.head? λx=>U' (T.ak 1 x) λk=>U' (List.drop 3 l).head? λx=>U' (T.int? i64 x)
 λg=>U' (List.drop 3 l).tail.head? λx=>U' (T.int? i64 x) λo=>bif g== (0:Int) then U' (O (Key.call 8) [AV.agg [AV.t (T.ab 3 i.fst i.snd),AV.t (T.ab 5 j.fst
 j.snd),AV.t (T.ab 1 k.fst k.snd)],AV.agg [AV.t (T.ab 5 em m)]] []) λl=>U' l.head? λx=>U' (T.int? i64 x) λe=>U' l.tail.head? λx=>U' (T.int? i64 x) fun
 h=>bif !e== (0:Int) then some [T.bool (bif n==e && (c==h && true) then(↑p.snd.length:Int)== (0:Int) else false)] else U' (O (Key.call 13) [AV.agg [AV.t (T.ab 3 ed d),AV.t (T.ab 5 en nd),
 AV.t (T.ab 1 eh f)],AV.agg [AV.t (T.ab 5 em m)]] []) λl=>U' l.head? λx=>U' (T.ak 5 x) λa=>U' (List.drop 1 l).head? λx=>U' x.bool? λb=>bif !b then U' (O
 (Key.call 14) [I (10:Int),I (0:Int)] []) λl=>U' l.head? λx=>U' (T.int? i64 x) λq=>U' l.tail.head? λx=>U' (T.int? i64 x) λr=>some [T.bool (bif n==
 q && (c==r && true) then(↑p.snd.length:Int)== (0:Int) else false)] else U' (cD (some (n== (0:Int))) (O (Key.call 10) [AV.agg [AV.t (T.ab 5 p.fst p.snd)],AV.agg [AV.t (T.ab 5 a.fst a.snd)]]
 [])) λl=>aa (some (n== (0:Int))) l.head? λx=>aa (some (n== (0:Int))) x.bool? λb=>some [T.bool (bif n== (0:Int) then b else false)] else bif !g== (0:Int) then some [T.bool (bif n==g &&
 (c==o && true) then(↑p.snd.length:Int)== (0:Int) else false)] else U' (O (Key.call 13) [AV.agg [AV.t (T.ab 3 ed d),AV.t (T.ab 5 en nd),AV.t (T.ab 1 eh f)],AV.agg [AV.t (T.ab 5 em m)]] []) λl
 =>U' l.head? λx=>U' (T.ak 5 x) λa=>U' (List.drop 1 l).head? λx=>U' x.bool? λb=>bif !b then U' (O (Key.call 14) [I (10:Int),I (0:Int)] []) λl=>U'
 l.head? λx=>U' (T.int? i64 x) λe=>U' l.tail.head? λx=>U' (T.int? i64 x) λh=>some [T.bool (bif n==e && (c==h && true) then(↑p.snd.length:Int)== (0:
 Int) else false)] else U' (cD (some (n== (0:Int))) (O (Key.call 10) [AV.agg [AV.t (T.ab 5 p.fst p.snd)],AV.agg [AV.t (T.ab 5 a.fst a.snd)]] [])) λl=>aa (some (n== (0:Int))) l.head? λx=>aa
 (some (n== (0:Int))) x.bool? λb=>some [T.bool (bif n== (0:Int) then b else false)]):=by kernel_rfl
theorem vR(O:aq)(b:Bool)(a:List (List T))(d:Bool)(f:List (List T))(e:Bool)(g:List (List T))(h:Bool)(k:List (List T)):au ai ann O (Key.call 12) [(AV.agg [(AV.t (T.ab 3 b a)),(AV.t (T.ab 5 d f)),(AV.t (T.ab 1 e g))]),(AV.agg [(AV.t (T.ab 5 h k))])] []=
 (U' (O (Key.call 9) [AV.agg [AV.t (T.ab 3 b a),AV.t (T.ab 5 d f),AV.t (T.ab 1 e g)]] []) λl=>U' l.head? λx=>U' (T.ak 3 x) λp=>U' l.tail.head? λx=>aa
 none (T.ak 5 x) λi=>U' l.tail.tail.head? λx=>U' (T.ak 1 x) λj=>U' (List.drop 3 l).head? λx=>U' (T.int? i64 x) λn=>U' (List.drop 3 l).tail.head? λx
 =>U' (T.int? i64 x) λm=>bif !n== (0:Int) then some [T.ae true,T.int i64 n,T.int i64 m] else U' (O (Key.call 8) [AV.agg [AV.t (T.ab 3 p.fst p.snd),AV.t (T.ab 5 i.fst
 i.snd),AV.t (T.ab 1 j.fst j.snd)],AV.agg [AV.t (T.ab 5 h k)]] []) λl=>U' l.head? λx=>U' (T.int? i64 x) λn=>U' l.tail.head? λx=>U' (T.int? i64 x) fun
 o=>bif !n== (0:Int) then some [T.ae true,T.int i64 n,T.int i64 o] else O mf [Y'0,Y'1,Y'2,Y'3,I (0:Int),AV.t (T.ab 3 b
 a),I (↑a.length:Int),I (0:Int)] [ad.box [AV.t (T.ab 5 h k)],ad.box [AV.t (T.ae true)],ad.box [I (0:Int),I (0:Int)],ad.box [AV.t (T.ae true)]]):=by kernel_rfl
theorem Gh(O:aq)(a:Bool)(e:List (List T))(b:Bool)(f:List (List T))(d:Bool)(g:List (List T))(h:Bool)(i:List (List T)):au ai ann O (Key.call 13) [(AV.agg [(AV.t (T.ab 3 a e)),(AV.t (T.ab 5 b f)),(AV.t (T.ab 1 d g))]),(AV.agg [(AV.t (T.ab 5 h i))])] []=
 (O jA [Y'0,Y'1,Y'2,Y'3,I (0:Int),I (0:Int)] [ad.box [AV.t (T.ab 3 a e),AV.t (T.ab 5 b f),AV.t (T.ab 1 d g)],ad.box [AV.t
 (T.ab 5 h i)],ad.box [AV.t (T.ae true)],ad.box [AV.t (T.ae true)]]):=by kernel_rfl
theorem Gi(O:aq)(a:Int)(b:Int):au ai ann O (Key.call 14) [(I a),(I b)] []=
 (some [T.int i64 a,T.int i64 b]):=by kernel_rfl
theorem te(O:aq)(a:Int)(j:Bool)(f:List (List T))(o:Int)(d:Int)(k:Bool)(g:List (List T))(q:Bool)(h:Int)(i:Int)(m:Bool):au ai ann O mf [Y'0,Y'1,Y'2,Y'3,(I a),(AV.t (T.ab 3 j f)),(I o),(I d)] [(ad.box [(AV.t (T.ab 5 k g))]),(ad.box [(AV.t (T.ae q))]),(ad.box [(I h),(I i)]),(ad.box [(AV.t (T.ae m))])]=
 (bif decide (d < o) then U' (if(0:Int)<=d/\d < (↑f.length:Int) then some () else none) λx=>U' f[d.toNat]? λl=>U' l.head? λx=>U' l.tail.head? λz=>U'
 l.tail.tail.head? λA=>U' x.bh λs=>U' (T.ak 1 z) λp=>U' (T.int? i64 A) λn=>U' (O (Key.call 21) [I n] []) λl=>U' l.head? λx=>U' x.bool? fun
 b=>bif !b then U' (if(0:Int)<=a/\a < (↑g.length:Int) then some () else none) λx=>U' g[a.toNat]? λl=>U' l.head? λx=>U' l.tail.head? λB=>U'
 l.tail.tail.head? λC=>U' l.tail.tail.tail.head? λD=>U' l.tail.tail.tail.tail.head? λE=>U' (T.ak 5 x) λp=>U' (T.int? i64 B) λn=>U' (T.int?
 i64 C) λr=>U' (T.ak 2 D) λe=>U' (T.int? i64 E) λu=>U' (O (Key.call 22) [AV.agg [AV.t (T.ab 5 p.fst p.snd),I n,I r,AV.t (T.ab 2 e.fst e.snd),I
 u]] []) λl=>U' l.head? λx=>U' (T.ak 5 x) λp=>U' l.tail.head? λx=>U' (T.int? i64 x) λn=>U' l.tail.tail.head? λx=>U' (T.int? i64 x) fun
 v=>U' l.tail.tail.tail.head? λx=>U' (T.ak 2 x) λw=>U' l.tail.tail.tail.tail.head? λx=>U' (T.int? i64 x) λy=>O mf [Y'0,Y'1,
 Y'2,Y'3,AV.t (T.int i64 (i64.wrap (a+ (1:Int)))),AV.t (T.ab 3 j f),I o,AV.t (T.int i64 (i64.wrap (d+ (1:Int))))] [ad.box [AV.t (T.ab 5
 k g)],ad.box [AV.t (T.ae q)],ad.box [I h,I i],ad.box [V'4],ad.sl false 5 (m && false) [[T.ab 5 p.fst p.snd,T.int i64 n,T.int i64 v,T.ab 2 w.fst w.snd,T.int
 i64 y]]] else U' (eO a (i64.wrap (a+i64.wrap (n - (10:Int)))) (↑g.length:Int)) λx=>U' (O (Key.call 38) [AV.t (T.ab 5 k (sub a (i64.wrap (a+
 i64.wrap (n - (10:Int)))) g))] []) λl=>U' l.head? λx=>U' (T.ak 5 x) λp=>U' l.tail.head? λx=>U' (T.int? i64 x) λr=>U' l.tail.tail.head? λx=>
 U' (T.int? i64 x) λu=>U' l.tail.tail.tail.head? λx=>U' (T.ak 2 x) λe=>U' l.tail.tail.tail.tail.head? λx=>U' (T.int? i64 x) λv=>bif decide
 ((↑p.snd.length:Int) > (1000:Int)) then some [T.ae true,T.int i64 (10:Int),T.int i64 (0:Int)] else O mf [Y'0,Y'1,Y'2,Y'3,AV.t
 (T.int i64 (i64.wrap (a+i64.wrap (n - (10:Int))))),AV.t (T.ab 3 j f),I o,I (i64.wrap (d+ (1:Int)))] [ad.box [AV.t (T.ab 5 k g)],ad.box [AV.t (T.ae q)],
 ad.box [I h,I i],ad.box [V'4],ad.sl false 5 (m && false) [[T.ab 5 p.fst p.snd,T.int i64 r,T.int i64 u,T.ab 2 e.fst e.snd,T.int i64 v]]] else some [T.ae
 m,T.int i64 (0:Int),T.int i64 (0:Int)]):=by kernel_rfl
theorem vS(O:aq)(j:Int)(h:Int)(b:Bool)(a:List (List T))(d:Bool)(f:List (List T))(e:Bool)(g:List (List T))(m:Bool)(k:List (List T))(o:Bool)(i:Bool):au ai ann O jA [Y'0,Y'1,Y'2,Y'3,(I j),(I h)] [(ad.box [(AV.t (T.ab 3 b a)),(AV.t (T.ab 5 d f)),(AV.t (T.ab 1 e g))]),(ad.box [(AV.t (T.ab 5 m k))]),(ad.box [(AV.t (T.ae o))]),(ad.box [(AV.t (T.ae i))])]=
 (bif decide (h < (↑a.length:Int)) then U' (if(0:Int)<=h/\h < (↑a.length:Int) then some () else none) λx=>U' a[h.toNat]? λl=>U' (List.drop 2 l).head? λx=>U'
 (T.int? i64 x) λn=>U' (O (Key.call 20) [I n] []) λl=>U' l.head? λx=>U' (T.int? i64 x) λn=>bif n== (0:Int) then U' (if(0:Int)<=j/\j < (↑k.length:Int)
 then some () else none) λx=>U' k[j.toNat]? λl=>U' l.head? λx=>U' l.tail.head? λu=>U' l.tail.tail.head? λv=>U' l.tail.tail.tail.head? λw=>U'
 l.tail.tail.tail.tail.head? λy=>U' (T.ak 5 x) λp=>U' (T.int? i64 u) λn=>U' (T.int? i64 v) λr=>U' (T.ak 2 w) λq=>U' (T.int? i64
 y) λs=>O jA [Y'0,Y'1,Y'2,Y'3,I (i64.wrap (j+ (1:Int))),I (i64.wrap (h+ (1:Int)))] [ad.box [AV.t (T.ab 3 b a),AV.t
 (T.ab 5 d f),AV.t (T.ab 1 e g)],ad.box [AV.t (T.ab 5 m k)],ad.box [AV.t (T.ae o)],ad.box [V'4],ad.sl false 5 (i && false) [[T.ab 5 p.fst p.snd,T.int i64 n,T.int
 i64 r,T.ab 2 q.fst q.snd,T.int i64 s]]] else O iD [Y'0,Y'1,Y'2,Y'3,I j,I h,I n,Y'4,I (0:Int)] [ad.box [AV.t
 (T.ab 3 b a),AV.t (T.ab 5 d f),AV.t (T.ab 1 e g)],ad.box [AV.t (T.ab 5 m k)],ad.box [AV.t (T.ae o)],ad.box [AV.t (T.ae i)],ad.box [AV.t (T.ae true),I (0:Int),I (1:Int),
 AV.t (T.ae true),I (0:Int)]] else some [T.ae i,T.bool true]):=by kernel_rfl
theorem tf(O:aq)(a:Int)(k:Bool)(g:List (List T))(v:Int)(e:Int)(m:Bool)(h:List (List T))(y:Bool)(i:Int)(j:Int)(o:Bool)(w:List (List T)):au ai ann O mf [Y'0,Y'1,Y'2,Y'3,(I a),(AV.t (T.ab 3 k g)),(I v),(I e)] [(ad.box [(AV.t (T.ab 5 m h))]),(ad.box [(AV.t (T.ae y))]),(ad.box [(I i),(I j)]),(ad.box [V'4]),(ad.sl false 5 o w)]=
 (bif decide (e < v) then U' (if(0:Int)<=e/\e < (↑g.length:Int) then some () else none) λx=>U' g[e.toNat]? λl=>U' l.head? λx=>U' l.tail.head? λA=>U'
 l.tail.tail.head? λB=>U' x.bh λs=>U' (T.ak 1 A) λp=>U' (T.int? i64 B) λn=>U' (O (Key.call 21) [I n] []) λl=>U' l.head? λx=>U' x.bool? fun
 b=>bif !b then U' (if(0:Int)<=a/\a < (↑h.length:Int) then some () else none) λx=>U' h[a.toNat]? λl=>U' l.head? λx=>U' l.tail.head? λC=>U'
 l.tail.tail.head? λD=>U' l.tail.tail.tail.head? λE=>U' l.tail.tail.tail.tail.head? λF=>U' (T.ak 5 x) λp=>U' (T.int? i64 C) λn=>U' (T.int?
 i64 D) λq=>U' (T.ak 2 E) λd=>U' (T.int? i64 F) λr=>U' (O (Key.call 22) [AV.agg [AV.t (T.ab 5 p.fst p.snd),I n,I q,AV.t (T.ab 2 d.fst d.snd),I
 r]] []) λl=>U' l.head? λx=>U' (T.ak 5 x) λp=>U' l.tail.head? λx=>U' (T.int? i64 x) λn=>U' l.tail.tail.head? λx=>U' (T.int? i64 x) fun
 f=>U' l.tail.tail.tail.head? λx=>U' (T.ak 2 x) λu=>U' l.tail.tail.tail.tail.head? λx=>U' (T.int? i64 x) λz=>U' (bt 72 (w.length+ [[T.ab 5 p.fst
 p.snd,T.int i64 n,T.int i64 f,T.ab 2 u.fst u.snd,T.int i64 z]].length)) λx=>O mf [Y'0,Y'1,Y'2,Y'3,AV.t (T.int
 i64 (i64.wrap (a+ (1:Int)))),AV.t (T.ab 3 k g),I v,AV.t (T.int i64 (i64.wrap (e+ (1:Int))))] [ad.box [AV.t (T.ab 5 m h)],ad.box [AV.t (T.ae y)],ad.box [I
 i,I j],ad.box [V'4],ad.sl false 5 (o && false) (w++ [[T.ab 5 p.fst p.snd,T.int i64 n,T.int i64 f,T.ab 2 u.fst u.snd,T.int i64 z]])] else U' (eO a
 (i64.wrap (a+i64.wrap (n - (10:Int)))) (↑h.length:Int)) λx=>U' (O (Key.call 38) [AV.t (T.ab 5 m (sub a (i64.wrap (a+i64.wrap (n - (10:Int)))) h))] []) λl
 =>U' l.head? λx=>U' (T.ak 5 x) λp=>U' l.tail.head? λx=>U' (T.int? i64 x) λq=>U' l.tail.tail.head? λx=>U' (T.int? i64 x) λr=>U'
 l.tail.tail.tail.head? λx=>U' (T.ak 2 x) λd=>U' l.tail.tail.tail.tail.head? λx=>U' (T.int? i64 x) λf=>bif decide ((↑p.snd.length:Int) > (1000:Int)) then some [T.ae
 true,T.int i64 (10:Int),T.int i64 (0:Int)] else U' (bt 72 (w.length+ [[T.ab 5 p.fst p.snd,T.int i64 q,T.int i64 r,T.ab 2 d.fst d.snd,T.int i64
 f]].length)) λx=>O mf [Y'0,Y'1,Y'2,Y'3,AV.t (T.int i64 (i64.wrap (a+i64.wrap (n - (10:Int))))),AV.t (T.ab 3 k g),
 I v,I (i64.wrap (e+ (1:Int)))] [ad.box [AV.t (T.ab 5 m h)],ad.box [AV.t (T.ae y)],ad.box [I i,I j],ad.box [V'4],ad.sl false 5 (o && false) (w++ [[T.ab 5 p.fst p.snd,
 T.int i64 q,T.int i64 r,T.ab 2 d.fst d.snd,T.int i64 f]])] else some [T.ab 5 o w,T.int i64 (0:Int),T.int i64 (0:Int)]):=by kernel_rfl
theorem GB(O:aq)(a:Bool)(b:List (List T)):au ai ann O (Key.call 38) [(AV.t (T.ab 5 a b))] []=
 (O nw [AV.t (T.ab 5 a b),Y'0,Y'1,I (0:Int),AV.t (T.ab 5 a b),I (↑b.length:Int),I (0:Int)] [ad.box [AV.t (T.ae true),I (0:Int),I (0:Int),AV.t (T.ae true),I (0:
 Int)],ad.box [AV.t (T.ae true),I (0:Int),I (0:Int),AV.t (T.ae true),I (0:Int)]]):=by kernel_rfl
theorem vT(O:aq)(k:Int)(h:Int)(b:Bool)(a:List (List T))(d:Bool)(f:List (List T))(e:Bool)(g:List (List T))(q:Bool)(m:List (List T))(r:Bool)(i:Bool)(o:List (List T)):au ai ann O jA [Y'0,Y'1,Y'2,Y'3,(I k),(I h)] [(ad.box [(AV.t (T.ab 3 b a)),(AV.t (T.ab 5 d f)),(AV.t (T.ab 1 e g))]),(ad.box [(AV.t (T.ab 5 q m))]),(ad.box [(AV.t (T.ae r))]),(ad.box [V'4]),(ad.sl false 5 i o)]=
 (bif decide (h < (↑a.length:Int)) then U' (if(0:Int)<=h/\h < (↑a.length:Int) then some () else none) λx=>U' a[h.toNat]? λl=>U' (List.drop 2 l).head? λx=>U'
 (T.int? i64 x) λn=>U' (O (Key.call 20) [I n] []) λl=>U' l.head? λx=>U' (T.int? i64 x) λn=>bif n== (0:Int) then U' (if(0:Int)<=k/\k < (↑m.length:Int)
 then some () else none) λx=>U' m[k.toNat]? λl=>U' l.head? λx=>U' l.tail.head? λv=>U' l.tail.tail.head? λw=>U' l.tail.tail.tail.head? λy=>U'
 l.tail.tail.tail.tail.head? λz=>U' (T.ak 5 x) λp=>U' (T.int? i64 v) λn=>U' (T.int? i64 w) λs=>U' (T.ak 2 y) λj=>U' (T.int? i64
 z) λu=>U' (bt 72 (o.length+ [[T.ab 5 p.fst p.snd,T.int i64 n,T.int i64 s,T.ab 2 j.fst j.snd,T.int i64 u]].length)) λx=>O jA [Y'0,AV.ref
 (Id.c 1) 0,Y'2,Y'3,I (i64.wrap (k+ (1:Int))),I (i64.wrap (h+ (1:Int)))] [ad.box [AV.t (T.ab 3 b a),AV.t (T.ab 5 d f),AV.t (T.ab 1 e g)],
 ad.box [AV.t (T.ab 5 q m)],ad.box [AV.t (T.ae r)],ad.box [V'4],ad.sl false 5 (i && false) (o++ [[T.ab 5 p.fst p.snd,T.int i64 n,T.int i64 s,T.ab 2 j.fst j.snd,
 T.int i64 u]])] else O iD [Y'0,Y'1,Y'2,Y'3,I k,I h,I n,Y'4,I (0:Int)] [ad.box [AV.t (T.ab 3 b a),AV.t (T.ab 5
 d f),AV.t (T.ab 1 e g)],ad.box [AV.t (T.ab 5 q m)],ad.box [AV.t (T.ae r)],ad.box [V'5],ad.box [AV.t (T.ae true),I (0:Int),I (1:Int),AV.t (T.ae true),I (0:Int)],
 ad.sl false 5 i o] else some [T.ab 5 i o,T.bool true]):=by kernel_rfl
theorem zL(O:aq)(q:Int)(z:Int)(w:Int)(a:Int)(b:Bool)(h:List (List T))(d:Bool)(i:List (List T))(e:Bool)(j:List (List T))(s:Bool)(r:List (List T))(u:Bool)(v:Bool)(f:Bool)(k:Int)(m:Int)(g:Bool)(o:Int):au ai ann O iD [Y'0,Y'1,Y'2,Y'3,(I q),(I z),(I w),Y'4,(I a)] [(ad.box [(AV.t (T.ab 3 b h)),(AV.t (T.ab 5 d i)),(AV.t (T.ab 1 e j))]),(ad.box [(AV.t (T.ab 5 s r))]),(ad.box [(AV.t (T.ae u))]),(ad.box [(AV.t (T.ae v))]),(ad.box [(AV.t (T.ae f)),(I k),(I m),(AV.t (T.ae g)),(I o)])]=
 (bif decide (a < w) then U' (if(0:Int)<=i64.wrap (q+a)/\i64.wrap (q+a) < (↑r.length:Int) then some () else none) λx=>U' r[(i64.wrap (q+a)).toNat]? λl
 =>U' l.head? λx=>U' l.tail.head? λC=>U' l.tail.tail.head? λD=>U' l.tail.tail.tail.head? λE=>U' l.tail.tail.tail.tail.head? λF=>U' (T.ak 5 x) λp=>
 U' (T.int? i64 C) λn=>U' (T.int? i64 D) λA=>U' (T.ak 2 E) λy=>U' (T.int? i64 F) λB=>U' (if u64.wrap a < (0:Int) then
 none else some ()) λx=>O fx [Y'0,Y'1,Y'2,Y'3,I q,I z,I w,Y'4,I a,Y'5,I (0:Int)] [ad.box [AV.t (T.ab 3 b
 h),AV.t (T.ab 5 d i),AV.t (T.ab 1 e j)],ad.box [AV.t (T.ab 5 s r)],ad.box [AV.t (T.ae u)],ad.box [AV.t (T.ae v)],ad.box [AV.t (T.ae f),AV.t (T.int i64 (i64.wrap
 (k+i64.wrap (n * (2:Int) ^ min (u64.wrap a).toNat 64)))),I m,AV.t (T.ae g),I o],ad.box [AV.t (T.ab 5 p.fst p.snd),I n,I A,AV.t (T.ab 2 y.fst y.snd),I B]] else O jA
 [Y'0,Y'1,Y'2,Y'3,I (i64.wrap (q+w)),I (i64.wrap (z+ (1:Int)))] [ad.box [AV.t (T.ab 3 b h),AV.t (T.ab 5 d i),AV.t
 (T.ab 1 e j)],ad.box [AV.t (T.ab 5 s r)],ad.box [AV.t (T.ae u)],ad.box [V'4],ad.sl false 5 (v && false) [[T.ae f,T.int i64 k,T.int i64 m,T.ae g,
 T.int i64 o]]]):=by kernel_rfl
theorem AJ(O:aq)(s:Bool)(y:List (List T))(w:Int)(q:Bool)(g:List (List T))(r:Int)(a:Int)(d:Bool)(h:Int)(i:Int)(e:Bool)(j:Int)(b:Bool)(k:Int)(m:Int)(f:Bool)(o:Int):au ai ann O nw [(AV.t (T.ab 5 s y)),Y'0,Y'1,(I w),(AV.t (T.ab 5 q g)),(I r),(I a)] [(ad.box [(AV.t (T.ae d)),(I h),(I i),(AV.t (T.ae e)),(I j)]),(ad.box [(AV.t (T.ae b)),(I k),(I m),(AV.t (T.ae f)),(I o)])]=
 (bif decide (a < r) then U' (if(0:Int)<=a/\a < (↑g.length:Int) then some () else none) λx=>U' g[a.toNat]? λl=>U' l.head? λx=>U' l.tail.head? λz=>U'
 l.tail.tail.head? λA=>U' l.tail.tail.tail.head? λB=>U' l.tail.tail.tail.tail.head? λC=>U' (T.ak 5 x) λp=>U' (T.int? i64 z) λn=>U' (T.int?
 i64 A) λu=>U' (T.ak 2 B) λD=>U' (T.int? i64 C) λv=>U' (if a < (0:Int) then none else some ()) λx=>O kk [AV.t (T.ab 5 s y),Y'0,
 Y'1,AV.t (T.int i64 (i64.wrap (↑(BitVec.ofInt 64 w ||| BitVec.ofInt 64 (i64.wrap (n * (2:Int) ^ min a.toNat 64))).toNat:Int))),AV.t (T.ab 5 q g),I r,I a,AV.t
 (T.ab 5 p.fst p.snd),I (↑p.snd.length:Int),I (0:Int)] [ad.box [AV.t (T.ae d),I h,I i,AV.t (T.ae e),I j],ad.box [AV.t (T.ae b),I k,I m,AV.t (T.ae f),I o]] else aa
 none (O (Key.call 24) [I w] []) λl=>U' l.head? λx=>U' (T.int? i64 x) λn=>U' l.tail.head? λx=>U' (T.int? i64 x) λu=>U' l.tail.tail.head? λx=>
 U' (T.ak 2 x) λp=>U' l.tail.tail.tail.head? λx=>U' (T.int? i64 x) λv=>some [T.ae b,T.int i64 n,T.int i64 u,T.ab 2 p.fst p.snd,T.int i64 v]):=by kernel_rfl
theorem zM(O:aq)(q:Int)(A:Int)(y:Int)(a:Int)(h:Bool)(k:List (List T))(i:Bool)(m:List (List T))(j:Bool)(o:List (List T))(s:Bool)(r:List (List T))(u:Bool)(b:Bool)(e:Int)(f:Int)(d:Bool)(g:Int)(v:Bool)(w:List (List T)):au ai ann O iD [Y'0,Y'1,Y'2,Y'3,(I q),(I A),(I y),Y'4,(I a)] [(ad.box [(AV.t (T.ab 3 h k)),(AV.t (T.ab 5 i m)),(AV.t (T.ab 1 j o))]),(ad.box [(AV.t (T.ab 5 s r))]),(ad.box [(AV.t (T.ae u))]),(ad.box [V'5]),(ad.box [(AV.t (T.ae b)),(I e),(I f),(AV.t (T.ae d)),(I g)]),(ad.sl false 5 v w)]=
 (bif decide (a < y) then U' (if(0:Int)<=i64.wrap (q+a)/\i64.wrap (q+a) < (↑r.length:Int) then some () else none) λx=>U' r[(i64.wrap (q+a)).toNat]? λl
 =>U' l.head? λx=>U' l.tail.head? λD=>U' l.tail.tail.head? λE=>U' l.tail.tail.tail.head? λF=>U' l.tail.tail.tail.tail.head? λG=>U' (T.ak 5 x) λp=>
 U' (T.int? i64 D) λn=>U' (T.int? i64 E) λB=>U' (T.ak 2 F) λz=>U' (T.int? i64 G) λC=>U' (if u64.wrap a < (0:Int) then
 none else some ()) λx=>O fx [Y'0,Y'1,Y'2,Y'3,I q,I A,I y,Y'4,I a,Y'5,I (0:Int)] [ad.box [AV.t (T.ab 3 h
 k),AV.t (T.ab 5 i m),AV.t (T.ab 1 j o)],ad.box [AV.t (T.ab 5 s r)],ad.box [AV.t (T.ae u)],ad.box [V'6],ad.box [AV.t (T.ae b),AV.t (T.int i64 (i64.wrap
 (e+i64.wrap (n * (2:Int) ^ min (u64.wrap a).toNat 64)))),I f,AV.t (T.ae d),I g],ad.box [AV.t (T.ab 5 p.fst p.snd),I n,I B,AV.t (T.ab 2 z.fst z.snd),I C],ad.sl false
 5 v w] else U' (bt 72 (w.length+ [[T.ae b,T.int i64 e,T.int i64 f,T.ae d,T.int i64 g]].length)) λx=>O jA [Y'0,Y'1,AV.ref
 (Id.c 2) 0,Y'3,I (i64.wrap (q+y)),I (i64.wrap (A+ (1:Int)))] [ad.box [AV.t (T.ab 3 h k),AV.t (T.ab 5 i m),AV.t (T.ab 1 j o)],ad.box [AV.t (T.ab 5 s
 r)],ad.box [AV.t (T.ae u)],ad.box [V'4],ad.sl false 5 (v && false) (w++ [[T.ae b,T.int i64 e,T.int i64 f,T.ae d,T.int i64 g]])]):=by kernel_rfl
theorem zP(O:aq)(A:Int)(C:Int)(D:Int)(x:Int)(y:Int)(a:Bool)(g:List (List T))(b:Bool)(h:List (List T))(d:Bool)(i:List (List T))(u:Bool)(z:List (List T))(v:Bool)(w:Bool)(e:Bool)(j:Int)(k:Int)(f:Bool)(l:Int)(n:Bool)(m:List (List T))(p:Int)(q:Int)(o:Bool)(r:List (List T))(s:Int):au ai ann O fx [Y'0,Y'1,Y'2,Y'3,(I A),(I C),(I D),Y'4,(I x),Y'5,(I y)] [(ad.box [(AV.t (T.ab 3 a g)),(AV.t (T.ab 5 b h)),(AV.t (T.ab 1 d i))]),(ad.box [(AV.t (T.ab 5 u z))]),(ad.box [(AV.t (T.ae v))]),(ad.box [(AV.t (T.ae w))]),(ad.box [(AV.t (T.ae e)),(I j),(I k),(AV.t (T.ae f)),(I l)]),(ad.box [(AV.t (T.ab 5 n m)),(I p),(I q),(AV.t (T.ab 2 o r)),(I s)])]=
 (bif decide (y < (↑m.length:Int)) then O ic [Y'0,Y'1,Y'2,Y'3,I A,I C,I D,Y'4,I x,Y'5,I y,B false,I (0:
 Int)] [ad.box [AV.t (T.ab 3 a g),AV.t (T.ab 5 b h),AV.t (T.ab 1 d i)],ad.box [AV.t (T.ab 5 u z)],ad.box [AV.t (T.ae v)],ad.box [AV.t (T.ae w)],ad.box [AV.t (T.ae e),I
 j,I k,AV.t (T.ae f),I l],ad.box [AV.t (T.ab 5 n m),I p,I q,AV.t (T.ab 2 o r),I s]] else O iD [Y'0,Y'1,Y'2,Y'3,
 I A,I C,I D,Y'4,I (i64.wrap (x+ (1:Int)))] [ad.box [AV.t (T.ab 3 a g),AV.t (T.ab 5 b h),AV.t (T.ab 1 d i)],ad.box [AV.t (T.ab 5 u z)],ad.box [AV.t
 (T.ae v)],ad.box [AV.t (T.ae w)],ad.box [AV.t (T.ae e),I j,I k,AV.t (T.ae f),I l]]):=by kernel_rfl
theorem AL(O:aq)(r:Bool)(B:List (List T))(C:Int)(q:Bool)(w:List (List T))(y:Int)(z:Int)(u:Bool)(s:List (List T))(A:Int)(g:Int)(d:Bool)(h:Int)(i:Int)(e:Bool)(j:Int)(a:Bool)(k:Int)(m:Int)(f:Bool)(o:Int):au ai ann O kk [(AV.t (T.ab 5 r B)),Y'0,Y'1,(I C),(AV.t (T.ab 5 q w)),(I y),(I z),(AV.t (T.ab 5 u s)),(I A),(I g)] [(ad.box [(AV.t (T.ae d)),(I h),(I i),(AV.t (T.ae e)),(I j)]),(ad.box [(AV.t (T.ae a)),(I k),(I m),(AV.t (T.ae f)),(I o)])]=
 (bif decide (g < A) then U' (if(0:Int)<=g/\g < (↑s.length:Int) then some () else none) λx=>U' s[g.toNat]? λl=>U' l.head? λx=>U' l.tail.head? λF=>U'
 l.tail.tail.head? λG=>U' l.tail.tail.tail.head? λH=>U' l.tail.tail.tail.tail.head? λJ=>U' (T.ak 1 x) λp=>U' (T.int? i64 F) λn=>U' (T.int?
 i64 G) λD=>U' (T.ak 2 H) λv=>U' (T.int? i64 J) λE=>U' (O (Key.call 45) [AV.t (T.ab 5 a []),AV.fn 75 [] [AV.t (T.ptr [T.ab 1 p.fst p.snd,T.int
 i64 n,T.int i64 D,T.ab 2 v.fst v.snd,T.int i64 E])]] []) λl=>U' l.head? λx=>U' x.bool? λb=>bif b then O kk [AV.t (T.ab 5 r B),Y'0,
 Y'1,I C,AV.t (T.ab 5 q w),I y,I z,AV.t (T.ab 5 u s),I A,I (i64.wrap (g+ (1:Int)))] [ad.box [AV.t (T.ae d),I h,I i,AV.t (T.ae e),I j],ad.box
 [AV.t (T.ae a),I k,I m,AV.t (T.ae f),I o]] else O nv [AV.t (T.ab 5 r B),Y'0,Y'1,I C,Y'2,I (0:Int),AV.t (T.ab 5 q w),I y,I z,
 AV.t (T.ab 5 u s),I A,I g,AV.t (T.ab 5 r B),I (↑B.length:Int),I (0:Int)] [ad.box [AV.t (T.ae d),I h,I i,AV.t (T.ae e),I j],ad.box [AV.t (T.ae a),I k,I m,AV.t
 (T.ae f),I o],ad.box [AV.t (T.ab 1 p.fst p.snd),I n,I D,AV.t (T.ab 2 v.fst v.snd),I E]] else O nw [AV.t (T.ab 5 r B),Y'0,Y'1,I C,AV.t (T.ab 5 q w),I
 y,I (i64.wrap (z+ (1:Int)))] [ad.box [AV.t (T.ae d),I h,I i,AV.t (T.ae e),I j],ad.box [AV.t (T.ae a),I k,I m,AV.t (T.ae f),I o]]):=by kernel_rfl
theorem zQ(O:aq)(C:Int)(D:Int)(E:Int)(x:Int)(y:Int)(a:Bool)(g:List (List T))(b:Bool)(h:List (List T))(d:Bool)(i:List (List T))(u:Bool)(z:List (List T))(v:Bool)(e:Bool)(j:Int)(k:Int)(f:Bool)(l:Int)(n:Bool)(m:List (List T))(p:Int)(q:Int)(o:Bool)(r:List (List T))(s:Int)(w:Bool)(A:List (List T)):au ai ann O fx [Y'0,Y'1,Y'2,Y'3,(I C),(I D),(I E),Y'4,(I x),Y'5,(I y)] [(ad.box [(AV.t (T.ab 3 a g)),(AV.t (T.ab 5 b h)),(AV.t (T.ab 1 d i))]),(ad.box [(AV.t (T.ab 5 u z))]),(ad.box [(AV.t (T.ae v))]),(ad.box [V'6]),(ad.box [(AV.t (T.ae e)),(I j),(I k),(AV.t (T.ae f)),(I l)]),(ad.box [(AV.t (T.ab 5 n m)),(I p),(I q),(AV.t (T.ab 2 o r)),(I s)]),(ad.sl false 5 w A)]=
 (bif decide (y < (↑m.length:Int)) then O ic [Y'0,Y'1,Y'2,Y'3,I C,I D,I E,Y'4,I x,Y'5,I y,B false,I (0:
 Int)] [ad.box [AV.t (T.ab 3 a g),AV.t (T.ab 5 b h),AV.t (T.ab 1 d i)],ad.box [AV.t (T.ab 5 u z)],ad.box [AV.t (T.ae v)],ad.box [V'6],ad.box [AV.t (T.ae e),I
 j,I k,AV.t (T.ae f),I l],ad.box [AV.t (T.ab 5 n m),I p,I q,AV.t (T.ab 2 o r),I s],ad.sl false 5 w A] else O iD [Y'0,Y'1,AV.ref (Id.c
 2) 0,Y'3,I C,I D,I E,Y'4,I (i64.wrap (x+ (1:Int)))] [ad.box [AV.t (T.ab 3 a g),AV.t (T.ab 5 b h),AV.t (T.ab 1 d i)],ad.box [AV.t (T.ab 5 u
 z)],ad.box [AV.t (T.ae v)],ad.box [V'5],ad.box [AV.t (T.ae e),I j,I k,AV.t (T.ae f),I l],ad.sl false 5 w A]):=by kernel_rfl
theorem zT(O:aq)(H:Int)(J:Int)(K:Int)(F:Int)(m:Int)(a:Bool)(A:Int)(e:Bool)(n:List (List T))(f:Bool)(o:List (List T))(g:Bool)(q:List (List T))(C:Bool)(G:List (List T))(D:Bool)(E:Bool)(h:Bool)(r:Int)(s:Int)(i:Bool)(u:Int)(j:Bool)(d:List (List T))(v:Int)(w:Int)(k:Bool)(y:List (List T))(z:Int):au ai ann O ic [Y'0,Y'1,Y'2,Y'3,(I H),(I J),(I K),Y'4,(I F),Y'5,(I m),(B a),(I A)] [(ad.box [(AV.t (T.ab 3 e n)),(AV.t (T.ab 5 f o)),(AV.t (T.ab 1 g q))]),(ad.box [(AV.t (T.ab 5 C G))]),(ad.box [(AV.t (T.ae D))]),(ad.box [(AV.t (T.ae E))]),(ad.box [(AV.t (T.ae h)),(I r),(I s),(AV.t (T.ae i)),(I u)]),(ad.box [(AV.t (T.ab 5 j d)),(I v),(I w),(AV.t (T.ab 2 k y)),(I z)])]=
 (bif decide (A < (↑0:Int)) then aa (some !a) (if(0:Int)<=A/\A < (↑(0:Nat):Int) then some () else none) λx=>aa (some !a) (none:Option (List T)) λl=>aa (some !a) l.head? λx=>aa
 (some !a) (T.ak 1 x) λp=>aa (some !a) (if(0:Int)<=m/\m < (↑d.length:Int) then some () else none) λx=>aa (some !a) d[m.toNat]? λl=>aa (some !a) l.head? λx=>aa (some
 !a) (T.ak 1 x) λL=>U' (cD (some !a) (O (Key.call 36) [AV.t (T.ab 1 p.fst p.snd),AV.t (T.ab 1 L.fst L.snd)] [])) λl=>aa (some !a) l.head? λx=>aa (some !a) x.bool? λb=>O
 ic [Y'0,Y'1,Y'2,Y'3,I H,I J,I K,Y'4,I F,Y'5,I m,B (bif a then true else b),I (i64.wrap (A+ (1:
 Int)))] [ad.box [AV.t (T.ab 3 e n),AV.t (T.ab 5 f o),AV.t (T.ab 1 g q)],ad.box [AV.t (T.ab 5 C G)],ad.box [AV.t (T.ae D)],ad.box [AV.t (T.ae E)],ad.box [AV.t (T.ae h),I
 r,I s,AV.t (T.ae i),I u],ad.box [AV.t (T.ab 5 j d),I v,I w,AV.t (T.ab 2 k y),I z]] else bif a then O fx [Y'0,Y'1,Y'2,
 Y'3,I H,I J,I K,Y'4,I F,Y'5,I (i64.wrap (m+ (1:Int)))] [ad.box [AV.t (T.ab 3 e n),AV.t (T.ab 5 f o),AV.t (T.ab 1 g q)],ad.box
 [AV.t (T.ab 5 C G)],ad.box [AV.t (T.ae D)],ad.box [AV.t (T.ae E)],ad.box [AV.t (T.ae h),I r,I s,AV.t (T.ae i),I u],ad.box [AV.t (T.ab 5 j d),I v,I w,AV.t (T.ab 2
 k y),I z]] else O ig [Y'0,Y'1,Y'2,Y'3,I H,I J,I K,Y'4,I F,Y'5,I m,I (0:Int),I (0:Int)] [ad.box
 [AV.t (T.ab 3 e n),AV.t (T.ab 5 f o),AV.t (T.ab 1 g q)],ad.box [AV.t (T.ab 5 C G)],ad.box [AV.t (T.ae D)],ad.box [AV.t (T.ae E)],ad.box [AV.t (T.ae h),I r,I s,AV.t
 (T.ae i),I u],ad.box [AV.t (T.ab 5 j d),I v,I w,AV.t (T.ab 2 k y),I z]]):=by kernel_rfl
theorem GI(O:aq)(h:Bool)(i:List (List T))(a:Bool)(c:List (List T))(d:Int)(e:Int)(b:Bool)(f:List (List T))(g:Int):au ai ann O (Key.call 45) [(AV.t (T.ab 5 h i)),(AV.fn 75 [] [(AV.t (T.ptr [(T.ab 1 a c),(T.int i64 d),(T.int i64 e),(T.ab 2 b f),(T.int i64 g)]))])] []=
 (U' (O (Key.call 85) [AV.t (T.ab 5 h i),AV.fn 75 [] [AV.t (T.ptr [T.ab 1 a c,T.int i64 d,T.int i64 e,T.ab 2 b f,T.int i64 g])]] []) λl=>U'
 l.head? λx=>U' (T.int? i64 x) λn=>some [T.bool (decide (n>=(0:Int)))]):=by kernel_rfl
theorem AH(O:aq)(C:Bool)(P:List (List T))(Q:Int)(R:Int)(s:Bool)(G:List (List T))(H:Int)(J:Int)(u:Bool)(K:List (List T))(L:Int)(M:Int)(D:Bool)(w:List (List T))(N:Int)(a:Int)(e:Bool)(j:Int)(k:Int)(f:Bool)(m:Int)(g:Bool)(o:Int)(q:Int)(h:Bool)(r:Int)(b:Bool)(d:List (List T))(y:Int)(z:Int)(v:Bool)(A:List (List T))(B:Int):au ai ann O nv [(AV.t (T.ab 5 C P)),Y'0,Y'1,(I Q),Y'2,(I R),(AV.t (T.ab 5 s G)),(I H),(I J),(AV.t (T.ab 5 u K)),(I L),(I M),(AV.t (T.ab 5 D w)),(I N),(I a)] [(ad.box [(AV.t (T.ae e)),(I j),(I k),(AV.t (T.ae f)),(I m)]),(ad.box [(AV.t (T.ae g)),(I o),(I q),(AV.t (T.ae h)),(I r)]),(ad.box [(AV.t (T.ab 1 b d)),(I y),(I z),(AV.t (T.ab 2 v A)),(I B)])]=
 (bif decide (a < N) then U' (if(0:Int)<=a/\a < (↑w.length:Int) then some () else none) λx=>U' w[a.toNat]? λl=>U' l.head? λx=>U' l.tail.head? λS=>U'
 l.tail.tail.head? λU=>U' l.tail.tail.tail.head? λV=>U' l.tail.tail.tail.tail.head? λW=>U' (T.ak 5 x) λp=>U' (T.int? i64 S) λn=>U' (T.int?
 i64 U) λE=>U' (T.ak 2 V) λi=>U' (T.int? i64 W) λF=>U' (O (Key.call 76) [AV.agg [AV.t (T.ab 5 p.fst p.snd),I n,I E,AV.t (T.ab 2 i.fst i.snd),I
 F],AV.t (T.ab 1 b d)] []) λl=>U' l.head? λx=>U' (T.int? i64 x) λn=>U' (if a < (0:Int) then none else some ()) λx=>O nv [AV.t (T.ab 5 C P),AV.ref (Id.c
 0) 0,Y'1,I Q,Y'2,AV.t (T.int i64 (i64.wrap (↑(BitVec.ofInt 64 R ||| BitVec.ofInt 64 (i64.wrap (n * (2:Int) ^ min a.toNat 64))).toNat:Int))),AV.t (T.ab 5
 s G),I H,I J,AV.t (T.ab 5 u K),I L,I M,AV.t (T.ab 5 D w),I N,I (i64.wrap (a+ (1:Int)))] [ad.box [AV.t (T.ae e),I j,I k,AV.t (T.ae f),I m],ad.box
 [AV.t (T.ae g),I o,I q,AV.t (T.ae h),I r],ad.box [AV.t (T.ab 1 b d),I y,I z,AV.t (T.ab 2 v A),I B]] else U' (O (Key.call 25) [AV.t (T.ab 1 b d)] []) fun
 l=>U' l.head? λx=>U' (T.ak 1 x) λp=>U' (O (Key.call 24) [I R] []) λl=>U' l.head? λx=>U' (T.int? i64 x) λn=>U' l.tail.head? λx=>U'
 (T.int? i64 x) λE=>U' l.tail.tail.head? λx=>U' (T.ak 2 x) λi=>U' l.tail.tail.tail.head? λx=>U' (T.int? i64 x) λF=>O kk [AV.t (T.ab 5 C P),
 Y'0,Y'1,I Q,AV.t (T.ab 5 s G),I H,I J,AV.t (T.ab 5 u K),I L,I (i64.wrap (M+ (1:Int)))] [ad.box [AV.t (T.ae e),I j,I k,AV.t (T.ae f),
 I m],ad.box [V'2,I o,I q,AV.t (T.ae h),I r],ad.sl false 5 (g && false) [[T.ab 1 p.fst p.snd,T.int i64 n,T.int i64 E,T.ab 2 i.fst i.snd,T.int i64
 F]]]):=by kernel_rfl
theorem zU(O:aq)(J:Int)(K:Int)(L:Int)(F:Int)(m:Int)(a:Bool)(A:Int)(e:Bool)(n:List (List T))(f:Bool)(o:List (List T))(g:Bool)(q:List (List T))(C:Bool)(G:List (List T))(D:Bool)(h:Bool)(r:Int)(s:Int)(i:Bool)(u:Int)(j:Bool)(d:List (List T))(v:Int)(w:Int)(k:Bool)(y:List (List T))(z:Int)(E:Bool)(H:List (List T)):au ai ann O ic [Y'0,Y'1,Y'2,Y'3,(I J),(I K),(I L),Y'4,(I F),Y'5,(I m),(B a),(I A)] [(ad.box [(AV.t (T.ab 3 e n)),(AV.t (T.ab 5 f o)),(AV.t (T.ab 1 g q))]),(ad.box [(AV.t (T.ab 5 C G))]),(ad.box [(AV.t (T.ae D))]),(ad.box [V'6]),(ad.box [(AV.t (T.ae h)),(I r),(I s),(AV.t (T.ae i)),(I u)]),(ad.box [(AV.t (T.ab 5 j d)),(I v),(I w),(AV.t (T.ab 2 k y)),(I z)]),(ad.sl false 5 E H)]=
 (bif decide (A < (↑0:Int)) then aa (some !a) (if(0:Int)<=A/\A < (↑(0:Nat):Int) then some () else none) λx=>aa (some !a) (none:Option (List T)) λl=>aa (some !a) l.head? λx=>aa
 (some !a) (T.ak 1 x) λp=>aa (some !a) (if(0:Int)<=m/\m < (↑d.length:Int) then some () else none) λx=>aa (some !a) d[m.toNat]? λl=>aa (some !a) l.head? λx=>aa (some
 !a) (T.ak 1 x) λM=>U' (cD (some !a) (O (Key.call 36) [AV.t (T.ab 1 p.fst p.snd),AV.t (T.ab 1 M.fst M.snd)] [])) λl=>aa (some !a) l.head? λx=>aa (some !a) x.bool? λb=>O
 ic [Y'0,Y'1,Y'2,Y'3,I J,I K,I L,Y'4,I F,Y'5,I m,B (bif a then true else b),I (i64.wrap (A+ (1:
 Int)))] [ad.box [AV.t (T.ab 3 e n),AV.t (T.ab 5 f o),AV.t (T.ab 1 g q)],ad.box [AV.t (T.ab 5 C G)],ad.box [AV.t (T.ae D)],ad.box [V'6],ad.box [AV.t (T.ae h),I
 r,I s,AV.t (T.ae i),I u],ad.box [AV.t (T.ab 5 j d),I v,I w,AV.t (T.ab 2 k y),I z],ad.sl false 5 E H] else bif a then O fx [Y'0,Y'1,
 Y'2,Y'3,I J,I K,I L,Y'4,I F,Y'5,I (i64.wrap (m+ (1:Int)))] [ad.box [AV.t (T.ab 3 e n),AV.t (T.ab 5 f o),AV.t (T.ab 1
 g q)],ad.box [AV.t (T.ab 5 C G)],ad.box [AV.t (T.ae D)],ad.box [V'6],ad.box [AV.t (T.ae h),I r,I s,AV.t (T.ae i),I u],ad.box [AV.t (T.ab 5 j d),I v,I
 w,AV.t (T.ab 2 k y),I z],ad.sl false 5 E H] else O ig [Y'0,Y'1,Y'2,Y'3,I J,I K,I L,Y'4,I F,Y'5,I
 m,I (0:Int),I (0:Int)] [ad.box [AV.t (T.ab 3 e n),AV.t (T.ab 5 f o),AV.t (T.ab 1 g q)],ad.box [AV.t (T.ab 5 C G)],ad.box [AV.t (T.ae D)],ad.box [V'6],ad.box
 [AV.t (T.ae h),I r,I s,AV.t (T.ae i),I u],ad.box [AV.t (T.ab 5 j d),I v,I w,AV.t (T.ab 2 k y),I z],ad.sl false 5 E H]):=by kernel_rfl
theorem zV(O:aq)(A:Int)(L:Int)(H:Int)(F:Int)(b:Int)(G:Int)(d:Int)(e:Bool)(m:List (List T))(f:Bool)(o:List (List T))(g:Bool)(q:List (List T))(C:Bool)(B:List (List T))(D:Bool)(E:Bool)(h:Bool)(r:Int)(s:Int)(i:Bool)(u:Int)(j:Bool)(a:List (List T))(v:Int)(w:Int)(k:Bool)(y:List (List T))(z:Int):au ai ann O ig [Y'0,Y'1,Y'2,Y'3,(I A),(I L),(I H),Y'4,(I F),Y'5,(I b),(I G),(I d)] [(ad.box [(AV.t (T.ab 3 e m)),(AV.t (T.ab 5 f o)),(AV.t (T.ab 1 g q))]),(ad.box [(AV.t (T.ab 5 C B))]),(ad.box [(AV.t (T.ae D))]),(ad.box [(AV.t (T.ae E))]),(ad.box [(AV.t (T.ae h)),(I r),(I s),(AV.t (T.ae i)),(I u)]),(ad.box [(AV.t (T.ab 5 j a)),(I v),(I w),(AV.t (T.ab 2 k y)),(I z)])]=
 (bif decide (d < H) then U' (if(0:Int)<=i64.wrap (A+d)/\i64.wrap (A+d) < (↑B.length:Int) then some () else none) λx=>U' B[(i64.wrap (A+d)).toNat]? λl
 =>U' l.head? λx=>U' l.tail.head? λP=>U' l.tail.tail.head? λQ=>U' l.tail.tail.tail.head? λR=>U' l.tail.tail.tail.tail.head? λS=>U' (T.ak 5 x) λp=>
 U' (T.int? i64 P) λn=>U' (T.int? i64 Q) λM=>U' (T.ak 2 R) λJ=>U' (T.int? i64 S) λN=>U' (if(0:Int)<=b/\b < (↑a.length:
 Int) then some () else none) λx=>U' a[b.toNat]? λl=>U' l.head? λx=>U' (T.ak 1 x) λK=>U' (O (Key.call 39) [AV.agg [AV.t (T.ab 5 p.fst p.snd),I n,I M,AV.t (T.ab 2
 J.fst J.snd),I N],AV.t (T.ab 1 K.fst K.snd)] []) λl=>U' l.head? λx=>U' (T.int? i64 x) λn=>U' (if u64.wrap d < (0:Int) then none else some ()) λx=>O
 ig [Y'0,Y'1,Y'2,Y'3,I A,I L,I H,Y'4,I F,Y'5,I b,AV.t (T.int i64 (i64.wrap (G+i64.wrap
 (n * (2:Int) ^ min (u64.wrap d).toNat 64)))),I (i64.wrap (d+ (1:Int)))] [ad.box [AV.t (T.ab 3 e m),AV.t (T.ab 5 f o),AV.t (T.ab 1 g q)],ad.box [AV.t (T.ab 5 C
 B)],ad.box [AV.t (T.ae D)],ad.box [AV.t (T.ae E)],ad.box [AV.t (T.ae h),I r,I s,AV.t (T.ae i),I u],ad.box [AV.t (T.ab 5 j a),I v,I w,AV.t (T.ab 2 k y),I
 z]] else U' (if(0:Int)<=b/\b < (↑a.length:Int) then some () else none) λx=>U' a[b.toNat]? λl=>U' l.head? λx=>U' (T.ak 1 x) λp=>O fx [AV.ref (Id.c 0)
 0,Y'1,Y'2,Y'3,I A,I L,I H,Y'4,I F,Y'5,I (i64.wrap (b+ (1:Int)))] [ad.box [AV.t (T.ab 3 e m),AV.t (T.ab 5 f
 o),AV.t (T.ab 1 g q)],ad.box [AV.t (T.ab 5 C B)],ad.box [AV.t (T.ae D)],ad.box [AV.t (T.ae E)],ad.box [V'6,I r,I s,AV.t (T.ae i),I u],ad.box [AV.t (T.ab 5
 j a),I v,I w,AV.t (T.ab 2 k y),I z],ad.sl false 5 (h && false) [[T.ab 1 p.fst p.snd,T.int i64 G,T.int i64 (1:Int),T.ae true,T.int i64 (0:Int)]]]):=by kernel_rfl
theorem HP(O:aq)(h:Bool)(i:List (List T))(a:Bool)(c:List (List T))(d:Int)(e:Int)(b:Bool)(f:List (List T))(g:Int):au ai ann O (Key.call 85) [(AV.t (T.ab 5 h i)),(AV.fn 75 [] [(AV.t (T.ptr [(T.ab 1 a c),(T.int i64 d),(T.int i64 e),(T.ab 2 b f),(T.int i64 g)]))])] []=
 (O eX [AV.t (T.ab 5 h i),AV.fn 75 [] [AV.t (T.ptr [T.ab 1 a c,T.int i64 d,T.int i64 e,T.ab 2 b f,T.int i64 g])],I (↑i.length:Int),I (0:Int)] []):=by kernel_rfl
theorem Hq(O:aq)(b:Bool)(a:List (List T))(e:Int)(f:Int)(d:Bool)(g:List (List T))(h:Int)(i:Bool)(j:List (List T)):au ai ann O (Key.call 76) [(AV.agg [(AV.t (T.ab 5 b a)),(I e),(I f),(AV.t (T.ab 2 d g)),(I h)]),(AV.t (T.ab 1 i j))] []=
 (O sD [AV.t (T.ab 1 i j),Y'0,AV.t (T.ab 5 b a),I (↑a.length:Int),I (0:Int)] [ad.box [AV.t (T.ab 5 b a),I e,I f,AV.t (T.ab 2 d g),I h]]):=by kernel_rfl
theorem wg(O:aq)(r:Bool)(B:List (List T))(D:Int)(o:Bool)(w:List (List T))(y:Int)(z:Int)(u:Bool)(s:List (List T))(A:Int)(f:Int)(a:Bool)(g:Int)(h:Int)(d:Bool)(i:Int)(j:Int)(k:Int)(e:Bool)(m:Int)(q:Bool)(C:List (List T)):au ai ann O kk [(AV.t (T.ab 5 r B)),Y'0,Y'1,(I D),(AV.t (T.ab 5 o w)),(I y),(I z),(AV.t (T.ab 5 u s)),(I A),(I f)] [(ad.box [(AV.t (T.ae a)),(I g),(I h),(AV.t (T.ae d)),(I i)]),(ad.box [V'2,(I j),(I k),(AV.t (T.ae e)),(I m)]),(ad.sl false 5 q C)]=
 (bif decide (f < A) then U' (if(0:Int)<=f/\f < (↑s.length:Int) then some () else none) λx=>U' s[f.toNat]? λl=>U' l.head? λx=>U' l.tail.head? λG=>U'
 l.tail.tail.head? λH=>U' l.tail.tail.tail.head? λJ=>U' l.tail.tail.tail.tail.head? λK=>U' (T.ak 1 x) λp=>U' (T.int? i64 G) λn=>U' (T.int?
 i64 H) λE=>U' (T.ak 2 J) λv=>U' (T.int? i64 K) λF=>U' (O (Key.call 45) [AV.t (T.ab 5 q C),AV.fn 75 [] [AV.t (T.ptr [T.ab 1 p.fst p.snd,T.int
 i64 n,T.int i64 E,T.ab 2 v.fst v.snd,T.int i64 F])]] []) λl=>U' l.head? λx=>U' x.bool? λb=>bif b then O kk [AV.t (T.ab 5 r B),Y'0,
 Y'1,I D,AV.t (T.ab 5 o w),I y,I z,AV.t (T.ab 5 u s),I A,I (i64.wrap (f+ (1:Int)))] [ad.box [AV.t (T.ae a),I g,I h,AV.t (T.ae d),I i],ad.box
 [V'2,I j,I k,AV.t (T.ae e),I m],ad.sl false 5 q C] else O nv [AV.t (T.ab 5 r B),Y'0,Y'1,I D,Y'2,I (0:Int),AV.t (T.ab 5 o
 w),I y,I z,AV.t (T.ab 5 u s),I A,I f,AV.t (T.ab 5 r B),I (↑B.length:Int),I (0:Int)] [ad.box [AV.t (T.ae a),I g,I h,AV.t (T.ae d),I i],ad.box [V'3,I
 j,I k,AV.t (T.ae e),I m],ad.box [AV.t (T.ab 1 p.fst p.snd),I n,I E,AV.t (T.ab 2 v.fst v.snd),I F],ad.sl false 5 q C] else O nw [AV.t (T.ab 5 r B),Y'0,AV.ref
 (Id.c 1) 0,I D,AV.t (T.ab 5 o w),I y,I (i64.wrap (z+ (1:Int)))] [ad.box [AV.t (T.ae a),I g,I h,AV.t (T.ae d),I i],ad.box [V'2,I j,I k,AV.t (T.ae
 e),I m],ad.sl false 5 q C]):=by kernel_rfl
theorem zW(O:aq)(A:Int)(M:Int)(H:Int)(F:Int)(b:Int)(G:Int)(d:Int)(e:Bool)(m:List (List T))(f:Bool)(o:List (List T))(g:Bool)(q:List (List T))(C:Bool)(B:List (List T))(D:Bool)(h:Bool)(r:Int)(s:Int)(i:Bool)(u:Int)(j:Bool)(a:List (List T))(v:Int)(w:Int)(k:Bool)(y:List (List T))(z:Int)(E:Bool)(L:List (List T)):au ai ann O ig [Y'0,Y'1,Y'2,Y'3,(I A),(I M),(I H),Y'4,(I F),Y'5,(I b),(I G),(I d)] [(ad.box [(AV.t (T.ab 3 e m)),(AV.t (T.ab 5 f o)),(AV.t (T.ab 1 g q))]),(ad.box [(AV.t (T.ab 5 C B))]),(ad.box [(AV.t (T.ae D))]),(ad.box [V'6]),(ad.box [(AV.t (T.ae h)),(I r),(I s),(AV.t (T.ae i)),(I u)]),(ad.box [(AV.t (T.ab 5 j a)),(I v),(I w),(AV.t (T.ab 2 k y)),(I z)]),(ad.sl false 5 E L)]=
 (bif decide (d < H) then U' (if(0:Int)<=i64.wrap (A+d)/\i64.wrap (A+d) < (↑B.length:Int) then some () else none) λx=>U' B[(i64.wrap (A+d)).toNat]? λl
 =>U' l.head? λx=>U' l.tail.head? λQ=>U' l.tail.tail.head? λR=>U' l.tail.tail.tail.head? λS=>U' l.tail.tail.tail.tail.head? λU=>U' (T.ak 5 x) λp=>
 U' (T.int? i64 Q) λn=>U' (T.int? i64 R) λN=>U' (T.ak 2 S) λJ=>U' (T.int? i64 U) λP=>U' (if(0:Int)<=b/\b < (↑a.length:
 Int) then some () else none) λx=>U' a[b.toNat]? λl=>U' l.head? λx=>U' (T.ak 1 x) λK=>U' (O (Key.call 39) [AV.agg [AV.t (T.ab 5 p.fst p.snd),I n,I N,AV.t (T.ab 2
 J.fst J.snd),I P],AV.t (T.ab 1 K.fst K.snd)] []) λl=>U' l.head? λx=>U' (T.int? i64 x) λn=>U' (if u64.wrap d < (0:Int) then none else some ()) λx=>O
 ig [Y'0,Y'1,Y'2,Y'3,I A,I M,I H,Y'4,I F,Y'5,I b,AV.t (T.int i64 (i64.wrap (G+i64.wrap
 (n * (2:Int) ^ min (u64.wrap d).toNat 64)))),I (i64.wrap (d+ (1:Int)))] [ad.box [AV.t (T.ab 3 e m),AV.t (T.ab 5 f o),AV.t (T.ab 1 g q)],ad.box [AV.t (T.ab 5 C
 B)],ad.box [AV.t (T.ae D)],ad.box [V'6],ad.box [AV.t (T.ae h),I r,I s,AV.t (T.ae i),I u],ad.box [AV.t (T.ab 5 j a),I v,I w,AV.t (T.ab 2 k y),I
 z],ad.sl false 5 E L] else U' (if(0:Int)<=b/\b < (↑a.length:Int) then some () else none) λx=>U' a[b.toNat]? λl=>U' l.head? λx=>U' (T.ak 1 x) λp=>O
 fx [Y'0,Y'1,Y'2,Y'3,I A,I M,I H,Y'4,I F,Y'5,I (i64.wrap (b+ (1:Int)))] [ad.box [AV.t (T.ab 3 e
 m),AV.t (T.ab 5 f o),AV.t (T.ab 1 g q)],ad.box [AV.t (T.ab 5 C B)],ad.box [AV.t (T.ae D)],ad.box [V'6],ad.box [V'7,I r,I s,AV.t (T.ae i),I u],
 ad.box [AV.t (T.ab 5 j a),I v,I w,AV.t (T.ab 2 k y),I z],ad.sl false 5 E L,ad.sl false 5 (h && false) [[T.ab 1 p.fst p.snd,T.int i64 G,T.int i64 (1:Int),
 T.ae true,T.int i64 (0:Int)]]]):=by kernel_rfl
theorem GC(O:aq)(a:Bool)(d:List (List T))(e:Int)(f:Int)(b:Bool)(g:List (List T))(h:Int)(i:Bool)(j:List (List T)):au ai ann O (Key.call 39) [(AV.agg [(AV.t (T.ab 5 a d)),(I e),(I f),(AV.t (T.ab 2 b g)),(I h)]),(AV.t (T.ab 1 i j))] []=
 (O sA [AV.t (T.ab 1 i j),Y'0,I (0:Int)] [ad.box [AV.t (T.ab 5 a d),I e,I f,AV.t (T.ab 2 b g),I h]]):=by kernel_rfl
theorem zR(O:aq)(C:Int)(D:Int)(E:Int)(x:Int)(y:Int)(a:Bool)(f:List (List T))(b:Bool)(g:List (List T))(d:Bool)(h:List (List T))(s:Bool)(z:List (List T))(u:Bool)(v:Bool)(i:Int)(j:Int)(e:Bool)(k:Int)(m:Bool)(l:List (List T))(o:Int)(p:Int)(n:Bool)(q:List (List T))(r:Int)(w:Bool)(A:List (List T)):au ai ann O fx [Y'0,Y'1,Y'2,Y'3,(I C),(I D),(I E),Y'4,(I x),Y'5,(I y)] [(ad.box [(AV.t (T.ab 3 a f)),(AV.t (T.ab 5 b g)),(AV.t (T.ab 1 d h))]),(ad.box [(AV.t (T.ab 5 s z))]),(ad.box [(AV.t (T.ae u))]),(ad.box [(AV.t (T.ae v))]),(ad.box [V'6,(I i),(I j),(AV.t (T.ae e)),(I k)]),(ad.box [(AV.t (T.ab 5 m l)),(I o),(I p),(AV.t (T.ab 2 n q)),(I r)]),(ad.sl false 5 w A)]=
 (bif decide (y < (↑l.length:Int)) then O ic [Y'0,Y'1,Y'2,Y'3,I C,I D,I E,Y'4,I x,Y'5,I y,B false,I (0:
 Int)] [ad.box [AV.t (T.ab 3 a f),AV.t (T.ab 5 b g),AV.t (T.ab 1 d h)],ad.box [AV.t (T.ab 5 s z)],ad.box [AV.t (T.ae u)],ad.box [AV.t (T.ae v)],ad.box [V'6,I i,
 I j,AV.t (T.ae e),I k],ad.box [AV.t (T.ab 5 m l),I o,I p,AV.t (T.ab 2 n q),I r],ad.sl false 5 w A] else O iD [Y'0,Y'1,Y'2,
 Y'3,I C,I D,I E,Y'4,I (i64.wrap (x+ (1:Int)))] [ad.box [AV.t (T.ab 3 a f),AV.t (T.ab 5 b g),AV.t (T.ab 1 d h)],ad.box [AV.t (T.ab 5 s z)],
 ad.box [AV.t (T.ae u)],ad.box [AV.t (T.ae v)],ad.box [V'5,I i,I j,AV.t (T.ae e),I k],ad.sl false 5 w A]):=by kernel_rfl
theorem wF(O:aq)(k:Bool)(j:List (List T))(a:Bool)(d:List (List T))(e:Int)(f:Int)(c:Bool)(g:List (List T))(h:Int)(o:Int)(i:Int):au ai ann O eX [(AV.t (T.ab 5 k j)),(AV.fn 75 [] [(AV.t (T.ptr [(T.ab 1 a d),(T.int i64 e),(T.int i64 f),(T.ab 2 c g),(T.int i64 h)]))]),(I o),(I i)] []=
 (bif decide (i < o) then U' (if(0:Int)<=i/\i < (↑j.length:Int) then some () else none) λx=>U' j[i.toNat]? λl=>U' l.head? λx=>U' l.tail.head? λs=>U'
 l.tail.tail.head? λu=>U' l.tail.tail.tail.head? λv=>U' l.tail.tail.tail.tail.head? λw=>U' (T.ak 1 x) λp=>U' (T.int? i64 s) λn=>U' (T.int?
 i64 u) λq=>U' (T.ak 2 v) λm=>U' (T.int? i64 w) λr=>U' (O (Key.call 75) [AV.agg [AV.t (T.ab 1 p.fst p.snd),I n,I q,AV.t (T.ab 2 m.fst m.snd),I
 r],AV.t (T.ptr [T.ab 1 a d,T.int i64 e,T.int i64 f,T.ab 2 c g,T.int i64 h])] []) λl=>U' l.head? λx=>U' x.bool? λb=>bif b then some
 [T.int i64 i] else O eX [AV.t (T.ab 5 k j),AV.fn 75 [] [AV.t (T.ptr [T.ab 1 a d,T.int i64 e,T.int i64 f,T.ab 2 c g,T.int i64 h])],I o,I
 (i64.wrap (i+ (1:Int)))] [] else some [T.int i64 (-1:Int)]):=by kernel_rfl
theorem wA(O:aq)(k:Bool)(q:List (List T))(o:Bool)(m:List (List T))(r:Int)(a:Int)(e:Bool)(g:List (List T))(d:Int)(h:Int)(f:Bool)(i:List (List T))(j:Int):au ai ann O sD [(AV.t (T.ab 1 k q)),Y'0,(AV.t (T.ab 5 o m)),(I r),(I a)] [(ad.box [(AV.t (T.ab 5 e g)),(I d),(I h),(AV.t (T.ab 2 f i)),(I j)])]=
 (bif decide (a < r) then U' (if(0:Int)<=a/\a < (↑m.length:Int) then some () else none) λx=>U' m[a.toNat]? λl=>U' l.head? λx=>U' l.tail.head? λs=>U'
 l.tail.tail.head? λu=>U' l.tail.tail.tail.head? λv=>U' l.tail.tail.tail.tail.head? λw=>U' (T.ak 1 x) λp=>U' (T.int? i64 s) λn=>U' (T.int?
 i64 u) λy=>U' (T.ak 2 v) λA=>U' (T.int? i64 w) λz=>U' (O (Key.call 52) [AV.t (T.ab 1 p.fst p.snd),AV.t (T.ab 1 k q)] []) λl=>U' l.head? λx
 =>U' x.bool? λb=>bif b then some [T.int i64 n] else O sD [AV.t (T.ab 1 k q),Y'0,AV.t (T.ab 5 o m),I r,I (i64.wrap (a+ (1:Int)))] [ad.box [AV.t (T.ab 5 e
 g),I d,I h,AV.t (T.ab 2 f i),I j]] else some [T.int i64 d]):=by kernel_rfl
theorem AI(O:aq)(E:Bool)(P:List (List T))(Q:Int)(R:Int)(r:Bool)(G:List (List T))(H:Int)(J:Int)(s:Bool)(K:List (List T))(L:Int)(M:Int)(F:Bool)(y:List (List T))(N:Int)(a:Int)(f:Bool)(i:Int)(j:Int)(g:Bool)(k:Int)(m:Int)(o:Int)(h:Bool)(q:Int)(b:Bool)(e:List (List T))(z:Int)(A:Int)(u:Bool)(B:List (List T))(C:Int)(D:Bool)(c3:List (List T)):au ai ann O nv [(AV.t (T.ab 5 E P)),Y'0,Y'1,(I Q),Y'2,(I R),(AV.t (T.ab 5 r G)),(I H),(I J),(AV.t (T.ab 5 s K)),(I L),(I M),(AV.t (T.ab 5 F y)),(I N),(I a)] [(ad.box [(AV.t (T.ae f)),(I i),(I j),(AV.t (T.ae g)),(I k)]),(ad.box [V'3,(I m),(I o),(AV.t (T.ae h)),(I q)]),(ad.box [(AV.t (T.ab 1 b e)),(I z),(I A),(AV.t (T.ab 2 u B)),(I C)]),(ad.sl false 5 D c3)]=
 (bif decide (a < N) then U' (if(0:Int)<=a/\a < (↑y.length:Int) then some () else none) λx=>U' y[a.toNat]? λl=>U' l.head? λx=>U' l.tail.head? λS=>U'
 l.tail.tail.head? λU=>U' l.tail.tail.tail.head? λV=>U' l.tail.tail.tail.tail.head? λW=>U' (T.ak 5 x) λp=>U' (T.int? i64 S) λn=>U' (T.int?
 i64 U) λv=>U' (T.ak 2 V) λd=>U' (T.int? i64 W) λw=>U' (O (Key.call 76) [AV.agg [AV.t (T.ab 5 p.fst p.snd),I n,I v,AV.t (T.ab 2 d.fst d.snd),I
 w],AV.t (T.ab 1 b e)] []) λl=>U' l.head? λx=>U' (T.int? i64 x) λn=>U' (if a < (0:Int) then none else some ()) λx=>O nv [AV.t (T.ab 5 E P),AV.ref (Id.c
 0) 0,Y'1,I Q,Y'2,AV.t (T.int i64 (i64.wrap (↑(BitVec.ofInt 64 R ||| BitVec.ofInt 64 (i64.wrap (n * (2:Int) ^ min a.toNat 64))).toNat:Int))),AV.t (T.ab 5
 r G),I H,I J,AV.t (T.ab 5 s K),I L,I M,AV.t (T.ab 5 F y),I N,I (i64.wrap (a+ (1:Int)))] [ad.box [AV.t (T.ae f),I i,I j,AV.t (T.ae g),I k],ad.box
 [V'3,I m,I o,AV.t (T.ae h),I q],ad.box [AV.t (T.ab 1 b e),I z,I A,AV.t (T.ab 2 u B),I C],ad.sl false 5 D c3] else U' (O (Key.call 25) [AV.t (T.ab 1
 b e)] []) λl=>U' l.head? λx=>U' (T.ak 1 x) λp=>U' (O (Key.call 24) [I R] []) λl=>U' l.head? λx=>U' (T.int? i64 x) λn=>U' l.tail.head? fun
 x=>U' (T.int? i64 x) λv=>U' l.tail.tail.head? λx=>U' (T.ak 2 x) λd=>U' l.tail.tail.tail.head? λx=>U' (T.int? i64 x) λw=>U' (bt 72
 (c3.length+ [[T.ab 1 p.fst p.snd,T.int i64 n,T.int i64 v,T.ab 2 d.fst d.snd,T.int i64 w]].length)) λx=>O kk [AV.t (T.ab 5 E P),Y'0,Y'1,I
 Q,AV.t (T.ab 5 r G),I H,I J,AV.t (T.ab 5 s K),I L,I (i64.wrap (M+ (1:Int)))] [ad.box [AV.t (T.ae f),I i,I j,AV.t (T.ae g),I k],ad.box [V'2,I
 m,I o,AV.t (T.ae h),I q],ad.sl false 5 (D && false) (c3++ [[T.ab 1 p.fst p.snd,T.int i64 n,T.int i64 v,T.ab 2 d.fst d.snd,T.int i64 w]])]):=by kernel_rfl
theorem AK(O:aq)(s:Bool)(z:List (List T))(y:Int)(q:Bool)(f:List (List T))(r:Int)(a:Int)(b:Bool)(g:Int)(h:Int)(d:Bool)(i:Int)(j:Int)(k:Int)(e:Bool)(m:Int)(o:Bool)(w:List (List T)):au ai ann O nw [(AV.t (T.ab 5 s z)),Y'0,Y'1,(I y),(AV.t (T.ab 5 q f)),(I r),(I a)] [(ad.box [(AV.t (T.ae b)),(I g),(I h),(AV.t (T.ae d)),(I i)]),(ad.box [V'2,(I j),(I k),(AV.t (T.ae e)),(I m)]),(ad.sl false 5 o w)]=
 (bif decide (a < r) then U' (if(0:Int)<=a/\a < (↑f.length:Int) then some () else none) λx=>U' f[a.toNat]? λl=>U' l.head? λx=>U' l.tail.head? λA=>U'
 l.tail.tail.head? λB=>U' l.tail.tail.tail.head? λC=>U' l.tail.tail.tail.tail.head? λD=>U' (T.ak 5 x) λp=>U' (T.int? i64 A) λn=>U' (T.int?
 i64 B) λu=>U' (T.ak 2 C) λE=>U' (T.int? i64 D) λv=>U' (if a < (0:Int) then none else some ()) λx=>O kk [AV.t (T.ab 5 s z),Y'0,
 Y'1,AV.t (T.int i64 (i64.wrap (↑(BitVec.ofInt 64 y ||| BitVec.ofInt 64 (i64.wrap (n * (2:Int) ^ min a.toNat 64))).toNat:Int))),AV.t (T.ab 5 q f),I r,I a,AV.t
 (T.ab 5 p.fst p.snd),I (↑p.snd.length:Int),I (0:Int)] [ad.box [AV.t (T.ae b),I g,I h,AV.t (T.ae d),I i],ad.box [V'2,I j,I k,AV.t (T.ae e),I m],ad.sl false 5
 o w] else U' (O (Key.call 24) [I y] []) λl=>U' l.head? λx=>U' (T.int? i64 x) λn=>U' l.tail.head? λx=>U' (T.int? i64 x) λu=>U'
 l.tail.tail.head? λx=>U' (T.ak 2 x) λp=>U' l.tail.tail.tail.head? λx=>U' (T.int? i64 x) λv=>some [T.ab 5 o w,T.int i64 n,T.int i64 u,T.ab 2 p.fst
 p.snd,T.int i64 v]):=by kernel_rfl
theorem zS(O:aq)(C:Int)(D:Int)(E:Int)(x:Int)(y:Int)(a:Bool)(f:List (List T))(b:Bool)(g:List (List T))(d:Bool)(h:List (List T))(s:Bool)(z:List (List T))(u:Bool)(i:Int)(j:Int)(e:Bool)(k:Int)(m:Bool)(l:List (List T))(o:Int)(p:Int)(n:Bool)(q:List (List T))(r:Int)(v:Bool)(A:List (List T))(w:Bool)(c7:List (List T)):au ai ann O fx [Y'0,Y'1,Y'2,Y'3,(I C),(I D),(I E),Y'4,(I x),Y'5,(I y)] [(ad.box [(AV.t (T.ab 3 a f)),(AV.t (T.ab 5 b g)),(AV.t (T.ab 1 d h))]),(ad.box [(AV.t (T.ab 5 s z))]),(ad.box [(AV.t (T.ae u))]),(ad.box [V'6]),(ad.box [V'7,(I i),(I j),(AV.t (T.ae e)),(I k)]),(ad.box [(AV.t (T.ab 5 m l)),(I o),(I p),(AV.t (T.ab 2 n q)),(I r)]),(ad.sl false 5 v A),(ad.sl false 5 w c7)]=
 (bif decide (y < (↑l.length:Int)) then O ic [Y'0,Y'1,Y'2,Y'3,I C,I D,I E,Y'4,I x,Y'5,I y,B false,I (0:
 Int)] [ad.box [AV.t (T.ab 3 a f),AV.t (T.ab 5 b g),AV.t (T.ab 1 d h)],ad.box [AV.t (T.ab 5 s z)],ad.box [AV.t (T.ae u)],ad.box [V'6],ad.box [V'7,I i,I
 j,AV.t (T.ae e),I k],ad.box [AV.t (T.ab 5 m l),I o,I p,AV.t (T.ab 2 n q),I r],ad.sl false 5 v A,ad.sl false 5 w c7] else O iD [Y'0,Y'1,
 Y'2,Y'3,I C,I D,I E,Y'4,I (i64.wrap (x+ (1:Int)))] [ad.box [AV.t (T.ab 3 a f),AV.t (T.ab 5 b g),AV.t (T.ab 1 d h)],ad.box [AV.t
 (T.ab 5 s z)],ad.box [AV.t (T.ae u)],ad.box [V'5],ad.box [V'6,I i,I j,AV.t (T.ae e),I k],ad.sl false 5 v A,ad.sl false 5 w c7]):=by kernel_rfl
theorem wh(O:aq)(k:Bool)(m:List (List T))(d:Int)(f:Bool)(a:List (List T))(e:Int)(h:Int)(g:Bool)(i:List (List T))(j:Int):au ai ann O sA [(AV.t (T.ab 1 k m)),Y'0,(I d)] [(ad.box [(AV.t (T.ab 5 f a)),(I e),(I h),(AV.t (T.ab 2 g i)),(I j)])]=
 (bif decide (d < (↑a.length:Int)) then U' (if(0:Int)<=d/\d < (↑a.length:Int) then some () else none) λx=>U' a[d.toNat]? λl=>U' l.head? λx=>U' (T.ak 1 x) λp
 =>U' (O (Key.call 36) [AV.t (T.ab 1 p.fst p.snd),AV.t (T.ab 1 k m)] []) λl=>U' l.head? λx=>U' x.bool? λb=>bif b then U' (if(0:Int)<=d/\d < (↑a.length:Int) then
 some () else none) λx=>U' a[d.toNat]? λl=>U' (List.drop 0 (List.drop 0 (List.drop 1 l))).head? λx=>U' (T.int? i64 x) λn=>some [T.int i64 n] else O sA [AV.t
 (T.ab 1 k m),Y'0,I (i64.wrap (d+ (1:Int)))] [ad.box [AV.t (T.ab 5 f a),I e,I h,AV.t (T.ab 2 g i),I j]] else some [T.int i64 e]):=by kernel_rfl
theorem tg(O:aq)(J:Int)(K:Int)(L:Int)(G:Int)(k:Int)(a:Bool)(m:Int)(e:Bool)(n:List (List T))(f:Bool)(o:List (List T))(g:Bool)(q:List (List T))(C:Bool)(H:List (List T))(D:Bool)(E:Bool)(r:Int)(s:Int)(h:Bool)(u:Int)(i:Bool)(d:List (List T))(v:Int)(w:Int)(j:Bool)(y:List (List T))(z:Int)(F:Bool)(A:List (List T)):au ai ann O ic [Y'0,Y'1,Y'2,Y'3,(I J),(I K),(I L),Y'4,(I G),Y'5,(I k),(B a),(I m)] [(ad.box [(AV.t (T.ab 3 e n)),(AV.t (T.ab 5 f o)),(AV.t (T.ab 1 g q))]),(ad.box [(AV.t (T.ab 5 C H))]),(ad.box [(AV.t (T.ae D))]),(ad.box [(AV.t (T.ae E))]),(ad.box [V'6,(I r),(I s),(AV.t (T.ae h)),(I u)]),(ad.box [(AV.t (T.ab 5 i d)),(I v),(I w),(AV.t (T.ab 2 j y)),(I z)]),(ad.sl false 5 F A)]=
 (bif decide (m < (↑A.length:Int)) then aa (some !a) (if(0:Int)<=m/\m < (↑A.length:Int) then some () else none) λx=>aa (some !a) A[m.toNat]? λl=>aa (some !a) l.head? λx=>aa (some
 !a) (T.ak 1 x) λp=>aa (some !a) (if(0:Int)<=k/\k < (↑d.length:Int) then some () else none) λx=>aa (some !a) d[k.toNat]? λl=>aa (some !a) l.head? λx=>aa (some !a)
 (T.ak 1 x) λM=>U' (cD (some !a) (O (Key.call 36) [AV.t (T.ab 1 p.fst p.snd),AV.t (T.ab 1 M.fst M.snd)] [])) λl=>aa (some !a) l.head? λx=>aa (some !a) x.bool? λb=>O ic
 [Y'0,Y'1,Y'2,Y'3,I J,I K,I L,Y'4,I G,Y'5,I k,B (bif a then true else b),I (i64.wrap (m+ (1:Int)))]
 [ad.box [AV.t (T.ab 3 e n),AV.t (T.ab 5 f o),AV.t (T.ab 1 g q)],ad.box [AV.t (T.ab 5 C H)],ad.box [AV.t (T.ae D)],ad.box [AV.t (T.ae E)],ad.box [V'6,I r,I
 s,AV.t (T.ae h),I u],ad.box [AV.t (T.ab 5 i d),I v,I w,AV.t (T.ab 2 j y),I z],ad.sl false 5 F A] else bif a then O fx [Y'0,Y'1,AV.ref
 (Id.c 2) 0,Y'3,I J,I K,I L,Y'4,I G,Y'5,I (i64.wrap (k+ (1:Int)))] [ad.box [AV.t (T.ab 3 e n),AV.t (T.ab 5 f o),AV.t (T.ab 1 g
 q)],ad.box [AV.t (T.ab 5 C H)],ad.box [AV.t (T.ae D)],ad.box [AV.t (T.ae E)],ad.box [V'6,I r,I s,AV.t (T.ae h),I u],ad.box [AV.t (T.ab 5 i d),I v,I w,
 AV.t (T.ab 2 j y),I z],ad.sl false 5 F A] else O ig [Y'0,Y'1,Y'2,Y'3,I J,I K,I L,Y'4,I G,Y'5,I k,I
 (0:Int),I (0:Int)] [ad.box [AV.t (T.ab 3 e n),AV.t (T.ab 5 f o),AV.t (T.ab 1 g q)],ad.box [AV.t (T.ab 5 C H)],ad.box [AV.t (T.ae D)],ad.box [AV.t (T.ae E)],ad.box [AV.own
 (Id.c 6),I r,I s,AV.t (T.ae h),I u],ad.box [AV.t (T.ab 5 i d),I v,I w,AV.t (T.ab 2 j y),I z],ad.sl false 5 F A]):=by kernel_rfl
theorem zN(O:aq)(o:Int)(A:Int)(y:Int)(a:Int)(b:Bool)(g:List (List T))(d:Bool)(h:List (List T))(e:Bool)(i:List (List T))(r:Bool)(q:List (List T))(s:Bool)(u:Bool)(j:Int)(k:Int)(f:Bool)(m:Int)(v:Bool)(w:List (List T)):au ai ann O iD [Y'0,Y'1,Y'2,Y'3,(I o),(I A),(I y),Y'4,(I a)] [(ad.box [(AV.t (T.ab 3 b g)),(AV.t (T.ab 5 d h)),(AV.t (T.ab 1 e i))]),(ad.box [(AV.t (T.ab 5 r q))]),(ad.box [(AV.t (T.ae s))]),(ad.box [(AV.t (T.ae u))]),(ad.box [V'5,(I j),(I k),(AV.t (T.ae f)),(I m)]),(ad.sl false 5 v w)]=
 (bif decide (a < y) then U' (if(0:Int)<=i64.wrap (o+a)/\i64.wrap (o+a) < (↑q.length:Int) then some () else none) λx=>U' q[(i64.wrap (o+a)).toNat]? λl
 =>U' l.head? λx=>U' l.tail.head? λD=>U' l.tail.tail.head? λE=>U' l.tail.tail.tail.head? λF=>U' l.tail.tail.tail.tail.head? λG=>U' (T.ak 5 x) λp=>
 U' (T.int? i64 D) λn=>U' (T.int? i64 E) λB=>U' (T.ak 2 F) λz=>U' (T.int? i64 G) λC=>U' (if u64.wrap a < (0:Int) then
 none else some ()) λx=>O fx [Y'0,Y'1,Y'2,Y'3,I o,I A,I y,Y'4,I a,Y'5,I (0:Int)] [ad.box [AV.t (T.ab 3 b
 g),AV.t (T.ab 5 d h),AV.t (T.ab 1 e i)],ad.box [AV.t (T.ab 5 r q)],ad.box [AV.t (T.ae s)],ad.box [AV.t (T.ae u)],ad.box [V'6,AV.t (T.int i64 (i64.wrap
 (j+i64.wrap (n * (2:Int) ^ min (u64.wrap a).toNat 64)))),I k,AV.t (T.ae f),I m],ad.box [AV.t (T.ab 5 p.fst p.snd),I n,I B,AV.t (T.ab 2 z.fst z.snd),I C],ad.sl false
 5 v w] else bif decide ((↑w.length:Int) > (1000:Int)) then some [T.ae true,T.bool false] else O jA [Y'0,Y'1,Y'2,Y'3,I (i64.wrap (o+y)),
 I (i64.wrap (A+ (1:Int)))] [ad.box [AV.t (T.ab 3 b g),AV.t (T.ab 5 d h),AV.t (T.ab 1 e i)],ad.box [AV.t (T.ab 5 r q)],ad.box [AV.t (T.ae s)],ad.box [V'4],
 ad.sl false 5 (u && false) [[T.ab 5 v w,T.int i64 j,T.int i64 k,T.ae f,T.int i64 m]]]):=by kernel_rfl
theorem Hp(O:aq)(a:Bool)(d:List (List T))(h:Int)(i:Int)(f:Bool)(j:List (List T))(k:Int)(c:Bool)(e:List (List T))(m:Int)(n:Int)(g:Bool)(o:List (List T))(p:Int):au ai ann O (Key.call 75) [(AV.agg [(AV.t (T.ab 1 a d)),(I h),(I i),(AV.t (T.ab 2 f j)),(I k)]),(AV.t (T.ptr [(T.ab 1 c e),(T.int i64 m),(T.int i64 n),(T.ab 2 g o),(T.int i64 p)]))] []=
 (U' (O (Key.call 52) [AV.t (T.ab 1 a d),AV.t (T.ab 1 c e)] []) λl=>U' l.head? λx=>U' x.bool? λb=>some [T.bool b]):=by kernel_rfl
theorem th(O:aq)(J:Int)(K:Int)(L:Int)(F:Int)(k:Int)(a:Bool)(m:Int)(e:Bool)(n:List (List T))(f:Bool)(o:List (List T))(g:Bool)(q:List (List T))(A:Bool)(G:List (List T))(C:Bool)(r:Int)(s:Int)(h:Bool)(u:Int)(i:Bool)(d:List (List T))(v:Int)(w:Int)(j:Bool)(y:List (List T))(z:Int)(D:Bool)(H:List (List T))(E:Bool)(c7:List (List T)):au ai ann O ic [Y'0,Y'1,Y'2,Y'3,(I J),(I K),(I L),Y'4,(I F),Y'5,(I k),(B a),(I m)] [(ad.box [(AV.t (T.ab 3 e n)),(AV.t (T.ab 5 f o)),(AV.t (T.ab 1 g q))]),(ad.box [(AV.t (T.ab 5 A G))]),(ad.box [(AV.t (T.ae C))]),(ad.box [V'6]),(ad.box [V'7,(I r),(I s),(AV.t (T.ae h)),(I u)]),(ad.box [(AV.t (T.ab 5 i d)),(I v),(I w),(AV.t (T.ab 2 j y)),(I z)]),(ad.sl false 5 D H),(ad.sl false 5 E c7)]=
 (bif decide (m < (↑c7.length:Int)) then aa (some !a) (if(0:Int)<=m/\m < (↑c7.length:Int) then some () else none) λx=>aa (some !a) c7[m.toNat]? λl=>aa (some !a) l.head? λx=>aa (some
 !a) (T.ak 1 x) λp=>aa (some !a) (if(0:Int)<=k/\k < (↑d.length:Int) then some () else none) λx=>aa (some !a) d[k.toNat]? λl=>aa (some !a) l.head? λx=>aa (some !a)
 (T.ak 1 x) λM=>U' (cD (some !a) (O (Key.call 36) [AV.t (T.ab 1 p.fst p.snd),AV.t (T.ab 1 M.fst M.snd)] [])) λl=>aa (some !a) l.head? λx=>aa (some !a) x.bool? λb=>O ic
 [Y'0,Y'1,Y'2,Y'3,I J,I K,I L,Y'4,I F,Y'5,I k,B (bif a then true else b),I (i64.wrap (m+ (1:Int)))]
 [ad.box [AV.t (T.ab 3 e n),AV.t (T.ab 5 f o),AV.t (T.ab 1 g q)],ad.box [AV.t (T.ab 5 A G)],ad.box [AV.t (T.ae C)],ad.box [V'6],ad.box [V'7,I r,I s,
 AV.t (T.ae h),I u],ad.box [AV.t (T.ab 5 i d),I v,I w,AV.t (T.ab 2 j y),I z],ad.sl false 5 D H,ad.sl false 5 E c7] else bif a then O fx [Y'0,AV.ref
 (Id.c 1) 0,Y'2,Y'3,I J,I K,I L,Y'4,I F,Y'5,I (i64.wrap (k+ (1:Int)))] [ad.box [AV.t (T.ab 3 e n),AV.t (T.ab 5 f o),AV.t
 (T.ab 1 g q)],ad.box [AV.t (T.ab 5 A G)],ad.box [AV.t (T.ae C)],ad.box [V'6],ad.box [V'7,I r,I s,AV.t (T.ae h),I u],ad.box [AV.t (T.ab 5 i d),I
 v,I w,AV.t (T.ab 2 j y),I z],ad.sl false 5 D H,ad.sl false 5 E c7] else O ig [Y'0,Y'1,Y'2,Y'3,I J,I K,I L,AV.ref (Id.c 4)
 0,I F,Y'5,I k,I (0:Int),I (0:Int)] [ad.box [AV.t (T.ab 3 e n),AV.t (T.ab 5 f o),AV.t (T.ab 1 g q)],ad.box [AV.t (T.ab 5 A G)],ad.box [AV.t (T.ae C)],
 ad.box [V'6],ad.box [V'7,I r,I s,AV.t (T.ae h),I u],ad.box [AV.t (T.ab 5 i d),I v,I w,AV.t (T.ab 2 j y),I z],ad.sl false 5 D H,ad.sl false
 5 E c7]):=by kernel_rfl
theorem zO(O:aq)(q:Int)(B:Int)(z:Int)(a:Int)(g:Bool)(j:List (List T))(h:Bool)(k:List (List T))(i:Bool)(m:List (List T))(u:Bool)(r:List (List T))(v:Bool)(d:Int)(e:Int)(b:Bool)(f:Int)(w:Bool)(y:List (List T))(o:Bool)(s:List (List T)):au ai ann O iD [Y'0,Y'1,Y'2,Y'3,(I q),(I B),(I z),Y'4,(I a)] [(ad.box [(AV.t (T.ab 3 g j)),(AV.t (T.ab 5 h k)),(AV.t (T.ab 1 i m))]),(ad.box [(AV.t (T.ab 5 u r))]),(ad.box [(AV.t (T.ae v))]),(ad.box [V'5]),(ad.box [V'6,(I d),(I e),(AV.t (T.ae b)),(I f)]),(ad.sl false 5 w y),(ad.sl false 5 o s)]=
 (bif decide (a < z) then U' (if(0:Int)<=i64.wrap (q+a)/\i64.wrap (q+a) < (↑r.length:Int) then some () else none) λx=>U' r[(i64.wrap (q+a)).toNat]? λl
 =>U' l.head? λx=>U' l.tail.head? λE=>U' l.tail.tail.head? λF=>U' l.tail.tail.tail.head? λG=>U' l.tail.tail.tail.tail.head? λH=>U' (T.ak 5 x) λp=>
 U' (T.int? i64 E) λn=>U' (T.int? i64 F) λC=>U' (T.ak 2 G) λA=>U' (T.int? i64 H) λD=>U' (if u64.wrap a < (0:Int) then
 none else some ()) λx=>O fx [Y'0,Y'1,Y'2,Y'3,I q,I B,I z,Y'4,I a,Y'5,I (0:Int)] [ad.box [AV.t (T.ab 3 g
 j),AV.t (T.ab 5 h k),AV.t (T.ab 1 i m)],ad.box [AV.t (T.ab 5 u r)],ad.box [AV.t (T.ae v)],ad.box [V'6],ad.box [V'7,AV.t (T.int i64 (i64.wrap
 (d+i64.wrap (n * (2:Int) ^ min (u64.wrap a).toNat 64)))),I e,AV.t (T.ae b),I f],ad.box [AV.t (T.ab 5 p.fst p.snd),I n,I C,AV.t (T.ab 2 A.fst A.snd),I D],ad.sl false
 5 w y,ad.sl false 5 o s] else bif decide ((↑s.length:Int) > (1000:Int)) then some [T.ae true,T.bool false] else U' (bt 72 (y.length+ [[T.ab 5 o s,T.int i64 d,T.int i64
 e,T.ae b,T.int i64 f]].length)) λx=>O jA [Y'0,Y'1,Y'2,Y'3,I (i64.wrap (q+z)),I (i64.wrap (B+ (1:Int)))]
 [ad.box [AV.t (T.ab 3 g j),AV.t (T.ab 5 h k),AV.t (T.ab 1 i m)],ad.box [AV.t (T.ab 5 u r)],ad.box [AV.t (T.ae v)],ad.box [V'4],ad.sl false 5 (w && false) (y++
 [[T.ab 5 o s,T.int i64 d,T.int i64 e,T.ae b,T.int i64 f]])]):=by kernel_rfl
theorem zX(O:aq)(A:Int)(M:Int)(J:Int)(G:Int)(b:Int)(z:Int)(d:Int)(e:Bool)(k:List (List T))(f:Bool)(m:List (List T))(g:Bool)(o:List (List T))(C:Bool)(B:List (List T))(D:Bool)(E:Bool)(q:Int)(r:Int)(h:Bool)(s:Int)(i:Bool)(a:List (List T))(u:Int)(v:Int)(j:Bool)(w:List (List T))(y:Int)(F:Bool)(H:List (List T)):au ai ann O ig [Y'0,Y'1,Y'2,Y'3,(I A),(I M),(I J),Y'4,(I G),Y'5,(I b),(I z),(I d)] [(ad.box [(AV.t (T.ab 3 e k)),(AV.t (T.ab 5 f m)),(AV.t (T.ab 1 g o))]),(ad.box [(AV.t (T.ab 5 C B))]),(ad.box [(AV.t (T.ae D))]),(ad.box [(AV.t (T.ae E))]),(ad.box [V'6,(I q),(I r),(AV.t (T.ae h)),(I s)]),(ad.box [(AV.t (T.ab 5 i a)),(I u),(I v),(AV.t (T.ab 2 j w)),(I y)]),(ad.sl false 5 F H)]=
 (bif decide (d < J) then U' (if(0:Int)<=i64.wrap (A+d)/\i64.wrap (A+d) < (↑B.length:Int) then some () else none) λx=>U' B[(i64.wrap (A+d)).toNat]? λl
 =>U' l.head? λx=>U' l.tail.head? λQ=>U' l.tail.tail.head? λR=>U' l.tail.tail.tail.head? λS=>U' l.tail.tail.tail.tail.head? λU=>U' (T.ak 5 x) λp=>
 U' (T.int? i64 Q) λn=>U' (T.int? i64 R) λN=>U' (T.ak 2 S) λK=>U' (T.int? i64 U) λP=>U' (if(0:Int)<=b/\b < (↑a.length:
 Int) then some () else none) λx=>U' a[b.toNat]? λl=>U' l.head? λx=>U' (T.ak 1 x) λL=>U' (O (Key.call 39) [AV.agg [AV.t (T.ab 5 p.fst p.snd),I n,I N,AV.t (T.ab 2
 K.fst K.snd),I P],AV.t (T.ab 1 L.fst L.snd)] []) λl=>U' l.head? λx=>U' (T.int? i64 x) λn=>U' (if u64.wrap d < (0:Int) then none else some ()) λx=>O
 ig [Y'0,Y'1,Y'2,Y'3,I A,I M,I J,Y'4,I G,Y'5,I b,AV.t (T.int i64 (i64.wrap (z+i64.wrap
 (n * (2:Int) ^ min (u64.wrap d).toNat 64)))),I (i64.wrap (d+ (1:Int)))] [ad.box [AV.t (T.ab 3 e k),AV.t (T.ab 5 f m),AV.t (T.ab 1 g o)],ad.box [AV.t (T.ab 5 C
 B)],ad.box [AV.t (T.ae D)],ad.box [AV.t (T.ae E)],ad.box [V'6,I q,I r,AV.t (T.ae h),I s],ad.box [AV.t (T.ab 5 i a),I u,I v,AV.t (T.ab 2 j w),I y],
 ad.sl false 5 F H] else U' (if(0:Int)<=b/\b < (↑a.length:Int) then some () else none) λx=>U' a[b.toNat]? λl=>U' l.head? λx=>U' (T.ak 1 x) λp=>U'
 (bt 72 (H.length+ [[T.ab 1 p.fst p.snd,T.int i64 z,T.int i64 (1:Int),T.ae true,T.int i64 (0:Int)]].length)) λx=>O fx [Y'0,Y'1,AV.ref (Id.c 2)
 0,Y'3,I A,I M,I J,Y'4,I G,Y'5,I (i64.wrap (b+ (1:Int)))] [ad.box [AV.t (T.ab 3 e k),AV.t (T.ab 5 f m),AV.t (T.ab 1 g o)],
 ad.box [AV.t (T.ab 5 C B)],ad.box [AV.t (T.ae D)],ad.box [AV.t (T.ae E)],ad.box [V'6,I q,I r,AV.t (T.ae h),I s],ad.box [AV.t (T.ab 5 i a),I u,I v,AV.t
 (T.ab 2 j w),I y],ad.sl false 5 (F && false) (H++ [[T.ab 1 p.fst p.snd,T.int i64 z,T.int i64 (1:Int),T.ae true,T.int i64 (0:Int)]])]):=by kernel_rfl
theorem zY(O:aq)(A:Int)(M:Int)(H:Int)(G:Int)(b:Int)(z:Int)(d:Int)(e:Bool)(k:List (List T))(f:Bool)(m:List (List T))(g:Bool)(o:List (List T))(C:Bool)(B:List (List T))(D:Bool)(q:Int)(r:Int)(h:Bool)(s:Int)(i:Bool)(a:List (List T))(u:Int)(v:Int)(j:Bool)(w:List (List T))(y:Int)(E:Bool)(L:List (List T))(F:Bool)(c7:List (List T)):au ai ann O ig [Y'0,Y'1,Y'2,Y'3,(I A),(I M),(I H),Y'4,(I G),Y'5,(I b),(I z),(I d)] [(ad.box [(AV.t (T.ab 3 e k)),(AV.t (T.ab 5 f m)),(AV.t (T.ab 1 g o))]),(ad.box [(AV.t (T.ab 5 C B))]),(ad.box [(AV.t (T.ae D))]),(ad.box [V'6]),(ad.box [V'7,(I q),(I r),(AV.t (T.ae h)),(I s)]),(ad.box [(AV.t (T.ab 5 i a)),(I u),(I v),(AV.t (T.ab 2 j w)),(I y)]),(ad.sl false 5 E L),(ad.sl false 5 F c7)]=
 (bif decide (d < H) then U' (if(0:Int)<=i64.wrap (A+d)/\i64.wrap (A+d) < (↑B.length:Int) then some () else none) λx=>U' B[(i64.wrap (A+d)).toNat]? λl
 =>U' l.head? λx=>U' l.tail.head? λQ=>U' l.tail.tail.head? λR=>U' l.tail.tail.tail.head? λS=>U' l.tail.tail.tail.tail.head? λU=>U' (T.ak 5 x) λp=>
 U' (T.int? i64 Q) λn=>U' (T.int? i64 R) λN=>U' (T.ak 2 S) λJ=>U' (T.int? i64 U) λP=>U' (if(0:Int)<=b/\b < (↑a.length:
 Int) then some () else none) λx=>U' a[b.toNat]? λl=>U' l.head? λx=>U' (T.ak 1 x) λK=>U' (O (Key.call 39) [AV.agg [AV.t (T.ab 5 p.fst p.snd),I n,I N,AV.t (T.ab 2
 J.fst J.snd),I P],AV.t (T.ab 1 K.fst K.snd)] []) λl=>U' l.head? λx=>U' (T.int? i64 x) λn=>U' (if u64.wrap d < (0:Int) then none else some ()) λx=>O
 ig [Y'0,Y'1,Y'2,Y'3,I A,I M,I H,Y'4,I G,Y'5,I b,AV.t (T.int i64 (i64.wrap (z+i64.wrap
 (n * (2:Int) ^ min (u64.wrap d).toNat 64)))),I (i64.wrap (d+ (1:Int)))] [ad.box [AV.t (T.ab 3 e k),AV.t (T.ab 5 f m),AV.t (T.ab 1 g o)],ad.box [AV.t (T.ab 5 C
 B)],ad.box [AV.t (T.ae D)],ad.box [V'6],ad.box [V'7,I q,I r,AV.t (T.ae h),I s],ad.box [AV.t (T.ab 5 i a),I u,I v,AV.t (T.ab 2 j w),I y],
 ad.sl false 5 E L,ad.sl false 5 F c7] else U' (if(0:Int)<=b/\b < (↑a.length:Int) then some () else none) λx=>U' a[b.toNat]? λl=>U' l.head? λx=>U' (T.ak 1
 x) λp=>U' (bt 72 (c7.length+ [[T.ab 1 p.fst p.snd,T.int i64 z,T.int i64 (1:Int),T.ae true,T.int i64 (0:Int)]].length)) λx=>O fx [Y'0,AV.ref (Id.c
 1) 0,Y'2,Y'3,I A,I M,I H,Y'4,I G,Y'5,I (i64.wrap (b+ (1:Int)))] [ad.box [AV.t (T.ab 3 e k),AV.t (T.ab 5 f m),AV.t
 (T.ab 1 g o)],ad.box [AV.t (T.ab 5 C B)],ad.box [AV.t (T.ae D)],ad.box [V'6],ad.box [V'7,I q,I r,AV.t (T.ae h),I s],ad.box [AV.t (T.ab 5 i a),I
 u,I v,AV.t (T.ab 2 j w),I y],ad.sl false 5 E L,ad.sl false 5 (F && false) (c7++ [[T.ab 1 p.fst p.snd,T.int i64 z,T.int i64 (1:Int),T.ae true,T.int i64 (0:
 Int)]])]):=by kernel_rfl
theorem e5(O:aq)(ed:Bool)(d:List (List T))(en:Bool)(nd:List (List T))(eh:Bool)(k:List (List T)):au ai ann O (Key.call 5) [AV.agg [AV.t (T.ab 3 ed d),AV.t (T.ab 5 en nd),AV.t (T.ab 1 eh k)]] []=
 (U' (O (Key.call 6) [] []) λl=>U' l.head? λx=>U' x.bool? λb=>bif !b then some [T.bool false] else U' (O (Key.call 9) [AV.agg [AV.t (T.ab 3 ed d),AV.t (T.ab 5 en nd),AV.t (T.ab 1
 eh k)]] []) λl=>U' l.head? λx=>U' (T.ak 3 x) λp=>U' l.tail.head? λx=>U' (T.ak 5 x) λg=>U' l.tail.tail.head? λx=>U' (T.ak 1 x) λh=>U'
 (List.drop 3 l).head? λx=>U' (T.int? i64 x) λn=>U' (List.drop 3 l).tail.head? λx=>U' (T.int? i64 x) λa=>U' (O (Key.call 15) [AV.agg [AV.t (T.ab 3 ed d),AV.t
 (T.ab 5 en nd),AV.t (T.ab 1 eh k)]] []) λl=>U' l.head? λx=>U' (T.ak 1 x) λo=>U' l.tail.head? λx=>U' (T.int? i64 x) λi=>U' l.tail.tail.head? λx=>
 U' (T.int? i64 x) λj=>bif !i== (0:Int) then U' (cD (some (n==i && (a==j && true))) (O (Key.call 16) [AV.agg [AV.t (T.ab 3 p.fst p.snd),AV.t (T.ab 5 g.fst g.snd),AV.t
 (T.ab 1 h.fst h.snd)]] [])) λl=>aa (some (n==i && (a==j && true))) l.head? λx=>aa (some (n==i && (a==j && true))) x.bool? λb=>some [T.bool (bif n==i && (a==j && true)
 then b else false)] else U' (O (Key.call 17) [AV.agg [AV.t (T.ab 3 ed d),AV.t (T.ab 5 en nd),AV.t (T.ab 1 eh k)]] []) λl=>U' l.head? λx=>U' (T.ak 3 x) λq=>U' l.tail.head?
 λx=>U' x.bool? λb=>bif !b then U' (O (Key.call 14) [I (10:Int),I (0:Int)] []) λl=>U' l.head? λx=>U' (T.int? i64 x) λe=>U' l.tail.head? λx=>aa
 none (T.int? i64 x) λf=>U' (cD (some (n==e && (a==f && true))) (O (Key.call 16) [AV.agg [AV.t (T.ab 3 p.fst p.snd),AV.t (T.ab 5 g.fst g.snd),AV.t (T.ab 1 h.fst h.snd)]] []))
 λl=>aa (some (n==e && (a==f && true))) l.head? λx=>aa (some (n==e && (a==f && true))) x.bool? λb=>some [T.bool (bif n==e && (a==f && true) then b else false)] else bif !n==
 (0:Int) then U' (O (Key.call 14) [I (10:Int),I (0:Int)] []) λl=>U' l.head? λx=>U' (T.int? i64 x) λe=>U' l.tail.head? λx=>U' (T.int? i64 x) λf
 =>U' (cD (some (n==e && (a==f && true))) (O (Key.call 16) [AV.agg [AV.t (T.ab 3 p.fst p.snd),AV.t (T.ab 5 g.fst g.snd),AV.t (T.ab 1 h.fst h.snd)]] [])) λl=>aa (some (n==e && (a
 ==f && true))) l.head? λx=>aa (some (n==e && (a==f && true))) x.bool? λb=>U' (cD (some (bif n==e && (a==f && true) then b else false)) (O (Key.call 18) [AV.agg [AV.t (T.ab 3 ed
 d),AV.t (T.ab 5 en nd),AV.t (T.ab 1 eh k)],AV.t (T.ab 1 o.fst o.snd)] [])) λl=>aa (some (bif n==e && (a==f && true) then b else false)) l.head? λx=>aa (some (bif n==e && (a==f &&
 true) then b else false)) x.bool? λr=>some [T.bool (bif bif n==e && (a==f && true) then b else false then !r else false)] else U' (O (Key.call 15) [AV.agg [AV.t (T.ab 3 p.fst p.snd),AV.t (T.ab
 5 g.fst g.snd),AV.t (T.ab 1 h.fst h.snd)]] []) λl=>U' l.head? λx=>U' (T.ak 1 x) λm=>U' l.tail.head? λx=>U' (T.int? i64 x) λn=>U'
 l.tail.tail.head? λx=>U' (T.int? i64 x) λe=>U' (cD (some !!n== (0:Int)) (O (Key.call 19) [AV.t (T.ab 3 p.fst p.snd),AV.t (T.ab 3 q.fst q.snd)] [])) λl=>aa (some !!n== (0
 :Int)) l.head? λx=>aa (some !!n== (0:Int)) x.bool? λb=>bif bif bif bif !n== (0:Int) then true else !b then true else !(↑h.snd.length:Int)== (↑k.length:Int) then true else !(↑m.snd.length:Int)
 == (↑g.snd.length:Int) then some [T.bool false] else O EZ [Y'0,AV.t (T.ab 1 m.fst m.snd),AV.t (T.int i64 (0:Int))] [ad.box [AV.t (T.ab 3 p.fst p.snd),AV.t (T.ab 5 g.fst
 g.snd),AV.t (T.ab 1 h.fst h.snd)]]):=by kernel_rfl
end Go.Aev.Gen
