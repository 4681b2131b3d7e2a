import Derived.Test.YtcjplcpngagalaaGreatDoorBlastFormQ7
set_option linter.all false
namespace Go.Aev.Gen
open Go Go.Aev Go.IntKind
noncomputable abbrev EN:Key:=bZ ao 7 true 9 [(3,none),(4,none),(5,none),(9,none),(37,none),(38,none),(39,none)] (0,0)
noncomputable abbrev sn:Key:=bZ ao 5 true 17 [(4,none),(10,none),(12,none)] (0,0)
noncomputable abbrev r9:Key:=bZ ao 17 true 2 [(1,none),(4,none)] (0,0)
noncomputable abbrev qe:Key:=bZ ao 18 true 3 [(1,none),(2,none),(5,none),(6,none)] (0,0)
noncomputable abbrev qf:Key:=bZ ao 19 true 4 [(0,none),(1,none),(5,none)] (0,0)
noncomputable abbrev kN:Key:=bZ ao 17 true 6 [(1,none),(4,none),(5,none),(6,none)] (0,0)
noncomputable abbrev sa:Key:=bZ ao 19 true 9 [(0,none),(1,none),(5,none),(6,none)] (0,0)
noncomputable abbrev se:Key:=bZ ao 42 true 2 [(1,none),(2,none),(5,none)] (0,0)
noncomputable abbrev jZ:Key:=bZ ao 17 true 13 [(1,none),(4,none),(5,none),(6,none),(7,none),(8,none),(9,none)] (0,0)
theorem e3(O:ax)(ed:Bool)(d:List (List T))(en:Bool)(nd:List (List T))(eh:Bool)(a:List (List T))(em:Bool)(m:List (List T)):aA ao ann O (Key.call 3) [AV.agg [AV.t (T.ad 3 ed d),AV.t (T.ad 5 en nd),AV.t (T.ad 1 eh a)],AV.agg [AV.t (T.ad 5 em m)]] []=
 (aa none (O (Key.call 6) [] []) λl=>aa none l.head? λx=>aa none x.bool? λb=>bif !b then some [T.bool false] else aa none (O (Key.call 7) [AV.agg [AV.t (T.ad 3 ed d),AV.t (T.ad 5 en nd),AV.t (T.ad 1
 eh a)],AV.agg [AV.t (T.ad 5 em m)]] []) λl=>aa none l.head? λx=>aa none (T.au 5 x) λp=>aa none (List.drop 1 l).head? λx=>aa none (T.int? i64 x) λn=>aa none (List.drop 1
 l).tail.head? λx=>aa none (T.int? i64 x) λf=>aa none (O (Key.call 8) [AV.agg [AV.t (T.ad 3 ed d),AV.t (T.ad 5 en nd),AV.t (T.ad 1 eh a)],AV.agg [AV.t (T.ad 5 em m)]] []) λl=>aa none
 l.head? λx=>aa none (T.int? i64 x) λc=>aa none l.tail.head? λx=>aa none (T.int? i64 x) λi=>bif c== (0:Int) then aa none (O (Key.call 9) [AV.agg [AV.t (T.ad 3 ed d),AV.t
 (T.ad 5 en nd),AV.t (T.ad 1 eh a)]] []) λl=>aa none l.head? λx=>aa none (T.au 3 x) λe=>aa none l.tail.head? λx=>aa none (T.au 5 x) λk=>aa none l.tail.tail.head? λx=>aa none
 (T.au 1 x) λo=>aa none (List.drop 3 l).head? λx=>aa none (T.int? i64 x) λg=>aa none (List.drop 3 l).tail.head? λx=>aa none (T.int? i64 x) λj=>bif !g== (0:Int) then
 some [T.bool (bif n==g && (f==j && true) then(↑p.snd.length:Int)== (0:Int) else false)] else aa none (dL (some (n== (0:Int))) (O (Key.call 11) [AV.agg [AV.t (T.ad 3 ed d),AV.t (T.ad 5 en nd),AV.t
 (T.ad 1 eh a)],AV.agg [AV.t (T.ad 5 em m)]] [])) λl=>aa (some (n== (0:Int))) l.head? λx=>aa (some (n== (0:Int))) (T.au 5 x) λh=>aa none (dL (some (n== (0:Int))) (O (Key.call 10)
 [AV.agg [AV.t (T.ad 5 p.fst p.snd)],AV.agg [AV.t (T.ad 5 h.fst h.snd)]] [])) λl=>aa (some (n== (0:Int))) l.head? λx=>aa (some (n== (0:Int))) x.bool? λb=>some [T.bool (bif n== (0:Int) then
 b else false)] else bif !c== (0:Int) then some [T.bool (bif n==c && (f==i && true) then(↑p.snd.length:Int)== (0:Int) else false)] else aa none (dL (some (n== (0:Int))) (O (Key.call 11) [AV.agg
 [AV.t (T.ad 3 ed d),AV.t (T.ad 5 en nd),AV.t (T.ad 1 eh a)],AV.agg [AV.t (T.ad 5 em m)]] [])) λl=>aa (some (n== (0:Int))) l.head? λx=>aa (some (n== (0:Int))) (T.au 5 x) λe=>aa none
 (dL (some (n== (0:Int))) (O (Key.call 10) [AV.agg [AV.t (T.ad 5 p.fst p.snd)],AV.agg [AV.t (T.ad 5 e.fst e.snd)]] [])) λl=>aa (some (n== (0:Int))) l.head? λx=>aa (some (n== (0:Int))) x.bool?
 λb=>some [T.bool (bif n== (0:Int) then b else false)]):=by kernel_rfl
theorem e7(O:ax)(a:Bool)(b:List (List T))(d:Bool)(f:List (List T))(e:Bool)(g:List (List T))(h:Bool)(i:List (List T)):aA ao ann O (Key.call 7) [(AV.agg [(AV.t (T.ad 3 a b)),(AV.t (T.ad 5 d f)),(AV.t (T.ad 1 e g))]),(AV.agg [(AV.t (T.ad 5 h i))])] []=
 (aa none (O (Key.call 8) [AV.agg [AV.t (T.ad 3 a b),AV.t (T.ad 5 d f),AV.t (T.ad 1 e g)],AV.agg [AV.t (T.ad 5 h i)]] []) λl=>aa none l.head? λx=>aa none (T.int? i64 x)
 λn=>aa none l.tail.head? λx=>aa none (T.int? i64 x) λj=>bif !n== (0:Int) then some [T.af true,T.int i64 n,T.int i64 j] else aa none (O (Key.call 9) [AV.agg [AV.t (T.ad
 3 a b),AV.t (T.ad 5 d f),AV.t (T.ad 1 e g)]] []) λl=>aa none l.head? λx=>aa none (T.au 3 x) λp=>aa none l.tail.head? λx=>aa none (T.au 5 x) λp=>aa none
 l.tail.tail.head? λx=>aa none (T.au 1 x) λp=>aa none (List.drop 3 l).head? λx=>aa none (T.int? i64 x) λn=>aa none (List.drop 3 l).tail.head? λx=>aa none (T.int? i64 x) fun
 k=>bif !n== (0:Int) then some [T.af true,T.int i64 n,T.int i64 k] else O EN [AV.ref (Id.c 0) 0,AV.ref (Id.c 1) 0,AV.ref (Id.c 2) 0,AV.ref (Id.c 3) 0,AV.t (T.ad 3 a b),I (↑b.length:Int),I (0:Int)] [ab.box [AV.t (T.ad 5 h
 i)],ab.box [AV.t (T.af true)],ab.box [I (0:Int),I (0:Int)],ab.box [AV.t (T.af true)]]):=by kernel_rfl
theorem Ga(O:ax)(a:Int):aA ao ann O (Key.call 20) [(I a)] []=
 (bif bif decide (a > (10:Int)) then decide (a<=(18:Int)) else false then some [T.int i64 (i64.wrap (a - (10:Int)))] else some [T.int i64 (0:Int)]):=by kernel_rfl
theorem e4(O:ax)(ed:Bool)(d:List (List T))(en:Bool)(nd:List (List T))(eh:Bool)(f:List (List T))(em:Bool)(m:List (List T)):aA ao ann O (Key.call 4) [AV.agg [AV.t (T.ad 3 ed d),AV.t (T.ad 5 en nd),AV.t (T.ad 1 eh f)],AV.agg [AV.t (T.ad 5 em m)]] []=
 (aa none (O (Key.call 6) [] []) λl=>aa none l.head? λx=>aa none x.bool? λb=>bif !b then some [T.bool false] else aa none (O (Key.call 12) [AV.agg [AV.t (T.ad 3 ed d),AV.t (T.ad 5 en nd),AV.t (T.ad 1
 eh f)],AV.agg [AV.t (T.ad 5 em m)]] []) λl=>aa none l.head? λx=>aa none (T.au 5 x) λp=>aa none (List.drop 1 l).head? λx=>aa none (T.int? i64 x) λn=>aa none (List.drop 1
 l).tail.head? λx=>aa none (T.int? i64 x) λc=>aa none (O (Key.call 9) [AV.agg [AV.t (T.ad 3 ed d),AV.t (T.ad 5 en nd),AV.t (T.ad 1 eh f)]] []) λl=>aa none l.head? λx=>aa none (T.au
 3 x) λi=>aa none l.tail.head? λx=>aa none (T.au 5 x) λj=>aa none l.tail.tail.head? λx=>aa none (T.au 1 x) λk=>aa none (List.drop 3 l).head? λx=>aa none (T.int? i64 x)
 λg=>aa none (List.drop 3 l).tail.head? λx=>aa none (T.int? i64 x) λo=>bif g== (0:Int) then aa none (O (Key.call 8) [AV.agg [AV.t (T.ad 3 i.fst i.snd),AV.t (T.ad 5 j.fst
 j.snd),AV.t (T.ad 1 k.fst k.snd)],AV.agg [AV.t (T.ad 5 em m)]] []) λl=>aa none l.head? λx=>aa none (T.int? i64 x) λe=>aa none l.tail.head? λx=>aa none (T.int? i64 x) fun
 h=>bif !e== (0:Int) then some [T.bool (bif n==e && (c==h && true) then(↑p.snd.length:Int)== (0:Int) else false)] else aa none (O (Key.call 13) [AV.agg [AV.t (T.ad 3 ed d),AV.t (T.ad 5 en nd),
 AV.t (T.ad 1 eh f)],AV.agg [AV.t (T.ad 5 em m)]] []) λl=>aa none l.head? λx=>aa none (T.au 5 x) λa=>aa none (List.drop 1 l).head? λx=>aa none x.bool? λb=>bif !b then aa none (O
 (Key.call 14) [I (10:Int),I (0:Int)] []) λl=>aa none l.head? λx=>aa none (T.int? i64 x) λq=>aa none l.tail.head? λx=>aa none (T.int? i64 x) λr=>some [T.bool (bif n==
 q && (c==r && true) then(↑p.snd.length:Int)== (0:Int) else false)] else aa none (dL (some (n== (0:Int))) (O (Key.call 10) [AV.agg [AV.t (T.ad 5 p.fst p.snd)],AV.agg [AV.t (T.ad 5 a.fst a.snd)]]
 [])) λl=>aa (some (n== (0:Int))) l.head? λx=>aa (some (n== (0:Int))) x.bool? λb=>some [T.bool (bif n== (0:Int) then b else false)] else bif !g== (0:Int) then some [T.bool (bif n==g &&
 (c==o && true) then(↑p.snd.length:Int)== (0:Int) else false)] else aa none (O (Key.call 13) [AV.agg [AV.t (T.ad 3 ed d),AV.t (T.ad 5 en nd),AV.t (T.ad 1 eh f)],AV.agg [AV.t (T.ad 5 em m)]] []) λl
 =>aa none l.head? λx=>aa none (T.au 5 x) λa=>aa none (List.drop 1 l).head? λx=>aa none x.bool? λb=>bif !b then aa none (O (Key.call 14) [I (10:Int),I (0:Int)] []) λl=>aa none
 l.head? λx=>aa none (T.int? i64 x) λe=>aa none l.tail.head? λx=>aa none (T.int? i64 x) λh=>some [T.bool (bif n==e && (c==h && true) then(↑p.snd.length:Int)== (0:
 Int) else false)] else aa none (dL (some (n== (0:Int))) (O (Key.call 10) [AV.agg [AV.t (T.ad 5 p.fst p.snd)],AV.agg [AV.t (T.ad 5 a.fst a.snd)]] [])) λl=>aa (some (n== (0:Int))) l.head? λx=>aa
 (some (n== (0:Int))) x.bool? λb=>some [T.bool (bif n== (0:Int) then b else false)]):=by kernel_rfl
theorem F5(O:ax)(a:Int)(b:Int):aA ao ann O (Key.call 14) [(I a),(I b)] []=
 (some [T.int i64 a,T.int i64 b]):=by kernel_rfl
theorem e5(O:ax)(ed:Bool)(d:List (List T))(en:Bool)(nd:List (List T))(eh:Bool)(k:List (List T)):aA ao ann O (Key.call 5) [AV.agg [AV.t (T.ad 3 ed d),AV.t (T.ad 5 en nd),AV.t (T.ad 1 eh k)]] []=
 (aa none (O (Key.call 6) [] []) λl=>aa none l.head? λx=>aa none x.bool? λb=>bif !b then some [T.bool false] else aa none (O (Key.call 9) [AV.agg [AV.t (T.ad 3 ed d),AV.t (T.ad 5 en nd),AV.t (T.ad 1
 eh k)]] []) λl=>aa none l.head? λx=>aa none (T.au 3 x) λp=>aa none l.tail.head? λx=>aa none (T.au 5 x) λg=>aa none l.tail.tail.head? λx=>aa none (T.au 1 x) λh=>aa none
 (List.drop 3 l).head? λx=>aa none (T.int? i64 x) λn=>aa none (List.drop 3 l).tail.head? λx=>aa none (T.int? i64 x) λa=>aa none (O (Key.call 15) [AV.agg [AV.t (T.ad 3 ed d),AV.t
 (T.ad 5 en nd),AV.t (T.ad 1 eh k)]] []) λl=>aa none l.head? λx=>aa none (T.au 1 x) λo=>aa none l.tail.head? λx=>aa none (T.int? i64 x) λi=>aa none l.tail.tail.head? λx=>
 aa none (T.int? i64 x) λj=>bif !i== (0:Int) then aa none (dL (some (n==i && (a==j && true))) (O (Key.call 16) [AV.agg [AV.t (T.ad 3 p.fst p.snd),AV.t (T.ad 5 g.fst g.snd),AV.t
 (T.ad 1 h.fst h.snd)]] [])) λl=>aa (some (n==i && (a==j && true))) l.head? λx=>aa (some (n==i && (a==j && true))) x.bool? λb=>some [T.bool (bif n==i && (a==j && true)
 then b else false)] else aa none (O (Key.call 17) [AV.agg [AV.t (T.ad 3 ed d),AV.t (T.ad 5 en nd),AV.t (T.ad 1 eh k)]] []) λl=>aa none l.head? λx=>aa none (T.au 3 x) λq=>aa none l.tail.head?
 λx=>aa none x.bool? λb=>bif !b then aa none (O (Key.call 14) [I (10:Int),I (0:Int)] []) λl=>aa none l.head? λx=>aa none (T.int? i64 x) λe=>aa none l.tail.head? λx=>aa
 none (T.int? i64 x) λf=>aa none (dL (some (n==e && (a==f && true))) (O (Key.call 16) [AV.agg [AV.t (T.ad 3 p.fst p.snd),AV.t (T.ad 5 g.fst g.snd),AV.t (T.ad 1 h.fst h.snd)]] []))
 λl=>aa (some (n==e && (a==f && true))) l.head? λx=>aa (some (n==e && (a==f && true))) x.bool? λb=>some [T.bool (bif n==e && (a==f && true) then b else false)] else bif !n==
 (0:Int) then aa none (O (Key.call 14) [I (10:Int),I (0:Int)] []) λl=>aa none l.head? λx=>aa none (T.int? i64 x) λe=>aa none l.tail.head? λx=>aa none (T.int? i64 x) λf
 =>aa none (dL (some (n==e && (a==f && true))) (O (Key.call 16) [AV.agg [AV.t (T.ad 3 p.fst p.snd),AV.t (T.ad 5 g.fst g.snd),AV.t (T.ad 1 h.fst h.snd)]] [])) λl=>aa (some (n==e && (a
 ==f && true))) l.head? λx=>aa (some (n==e && (a==f && true))) x.bool? λb=>aa none (dL (some (bif n==e && (a==f && true) then b else false)) (O (Key.call 18) [AV.agg [AV.t (T.ad 3 ed
 d),AV.t (T.ad 5 en nd),AV.t (T.ad 1 eh k)],AV.t (T.ad 1 o.fst o.snd)] [])) λl=>aa (some (bif n==e && (a==f && true) then b else false)) l.head? λx=>aa (some (bif n==e && (a==f &&
 true) then b else false)) x.bool? λr=>some [T.bool (bif bif n==e && (a==f && true) then b else false then !r else false)] else aa none (O (Key.call 15) [AV.agg [AV.t (T.ad 3 p.fst p.snd),AV.t (T.ad
 5 g.fst g.snd),AV.t (T.ad 1 h.fst h.snd)]] []) λl=>aa none l.head? λx=>aa none (T.au 1 x) λm=>aa none l.tail.head? λx=>aa none (T.int? i64 x) λn=>aa none
 l.tail.tail.head? λx=>aa none (T.int? i64 x) λe=>aa none (dL (some !!n== (0:Int)) (O (Key.call 19) [AV.t (T.ad 3 p.fst p.snd),AV.t (T.ad 3 q.fst q.snd)] [])) λl=>aa (some !!n== (0
 :Int)) l.head? λx=>aa (some !!n== (0:Int)) x.bool? λb=>bif bif bif bif !n== (0:Int) then true else !b then true else !(↑h.snd.length:Int)== (↑k.length:Int) then true else !(↑m.snd.length:Int)
 == (↑g.snd.length:Int) then some [T.bool false] else O sn [AV.ref (Id.c 0) 0,AV.t (T.ad 1 m.fst m.snd),AV.t (T.int i64 (0:Int))] [ab.box [AV.t (T.ad 3 p.fst p.snd),AV.t (T.ad 5 g.fst
 g.snd),AV.t (T.ad 1 h.fst h.snd)]]):=by kernel_rfl
theorem F6(O:ax)(d:Bool)(a:List (List T))(e:Bool)(b:List (List T))(f:Bool)(c:List (List T)):aA ao ann O (Key.call 16) [(AV.agg [(AV.t (T.ad 3 d a)),(AV.t (T.ad 5 e b)),(AV.t (T.ad 1 f c))])] []=
 (some [T.bool (i64.wrap (i64.wrap ((↑a.length:Int)+ (↑b.length:Int))+ (↑c.length:Int))== (0:Int))]):=by kernel_rfl
theorem F7(O:ax)(a:Bool)(e:List (List T))(b:Bool)(f:List (List T))(d:Bool)(g:List (List T)):aA ao ann O (Key.call 17) [(AV.agg [(AV.t (T.ad 3 a e)),(AV.t (T.ad 5 b f)),(AV.t (T.ad 1 d g))])] []=
 (O r9 [AV.ref (Id.c 0) 0,AV.t (T.str (ByteArray.mk #[(95:UInt8)]))] [ab.box [AV.t (T.ad 3 a e),AV.t (T.ad 5 b f),AV.t (T.ad 1 d g)]]):=by kernel_rfl
theorem F8(O:ax)(a:Bool)(e:List (List T))(b:Bool)(f:List (List T))(d:Bool)(g:List (List T))(h:Bool)(i:List (List T)):aA ao ann O (Key.call 18) [(AV.agg [(AV.t (T.ad 3 a e)),(AV.t (T.ad 5 b f)),(AV.t (T.ad 1 d g))]),(AV.t (T.ad 1 h i))] []=
 (O qe [AV.t (T.ad 1 h i),AV.ref (Id.c 0) 0,I (0:Int),I (0:Int)] [ab.box [AV.t (T.ad 3 a e),AV.t (T.ad 5 b f),AV.t (T.ad 1 d g)]]):=by kernel_rfl
theorem F9(O:ax)(a:Bool)(c:List (List T))(b:Bool)(d:List (List T)):aA ao ann O (Key.call 19) [(AV.t (T.ad 3 a c)),(AV.t (T.ad 3 b d))] []=
 (bif !(↑c.length:Int)== (↑d.length:Int) then some [T.bool false] else O qf [AV.t (T.ad 3 a c),AV.t (T.ad 3 b d),I (0:Int)] []):=by kernel_rfl
theorem Aj(O:ax)(k:Bool)(e:List (List T))(a:Int)(f:Bool)(i:List (List T))(g:Bool)(b:List (List T))(h:Bool)(j:List (List T)):aA ao ann O sn [(AV.ref (Id.c 0) 0),(AV.t (T.ad 1 k e)),(I a)] [(ab.box [(AV.t (T.ad 3 f i)),(AV.t (T.ad 5 g b)),(AV.t (T.ad 1 h j))])]=
 (bif decide (a < (↑e.length:Int)) then aa none (if(0:Int)<=a/\a < (↑e.length:Int) then some () else none) λx=>aa none e[a.toNat]? λl=>aa none l.head? λx=>aa none (T.int?
 i64 x) λn=>aa none (O (Key.call 20) [I n] []) λl=>aa none l.head? λx=>aa none (T.int? i64 x) λn=>aa (some !decide (n > (0:Int))) (if(0:Int)<=a/\a < (↑b.length:Int)
 then some () else none) λx=>aa (some !decide (n > (0:Int))) b[a.toNat]? λl=>aa (some !decide (n > (0:Int))) l.head? λx=>aa (some !decide (n > (0:Int))) (T.int? i64 x) λd=>aa
 (some (bif !decide (n > (0:Int)) then decide (d>=(15:Int)) else false)) (if(0:Int)<=a/\a < (↑b.length:Int) then some () else none) λx=>aa (some (bif !decide (n > (0:Int)) then decide (d>=
 (15:Int)) else false)) b[a.toNat]? λl=>aa (some (bif !decide (n > (0:Int)) then decide (d>=(15:Int)) else false)) l.head? λx=>aa (some (bif !decide (n > (0:Int)) then decide (d>=(15:Int))
 else false)) (T.int? i64 x) λm=>bif bif decide (n > (0:Int)) then true else bif decide (d>=(15:Int)) then decide (m<=(23:Int)) else false then some [T.bool false] else O sn [AV.ref (Id.c 0)
 0,AV.t (T.ad 1 k e),I (i64.wrap (a+ (1:Int)))] [ab.box [AV.t (T.ad 3 f i),AV.t (T.ad 5 g b),AV.t (T.ad 1 h j)]] else some [T.bool true]):=by kernel_rfl
theorem vC(O:ax)(i:ByteArray)(a:Bool)(f:List (List T))(d:Bool)(g:List (List T))(e:Bool)(h:List (List T)):aA ao ann O r9 [(AV.ref (Id.c 0) 0),(AV.t (T.str i))] [(ab.box [(AV.t (T.ad 3 a f)),(AV.t (T.ad 5 d g)),(AV.t (T.ad 1 e h))])]=
 (aa none (O (Key.call 42) [AV.agg [AV.t (T.ad 3 a f),AV.t (T.ad 5 d g),AV.t (T.ad 1 e h)],AV.t (T.str i)] []) λl=>aa none l.head? λx=>aa none x.bool? λb=>bif b then aa none
 (if i.size+1<=4294967296 then some () else none) λx=>O r9 [AV.ref (Id.c 0) 0,AV.t (T.str (i++ (ByteArray.mk #[(95:UInt8)])))] [ab.box [AV.t (T.ad 3 a f),AV.t (T.ad 5 d g),AV.t (T.ad 1
 e h)]] else O kN [AV.ref (Id.c 0) 0,AV.t (T.str i),AV.t (T.af true),I (0:Int)] [ab.box [AV.t (T.ad 3 a f),AV.t (T.ad 5 d g),AV.t (T.ad 1 e h)]]):=by kernel_rfl
theorem sS(O:ax)(j:Bool)(i:List (List T))(k:Int)(b:Int)(d:Bool)(g:List (List T))(e:Bool)(a:List (List T))(f:Bool)(h:List (List T)):aA ao ann O qe [(AV.t (T.ad 1 j i)),(AV.ref (Id.c 0) 0),(I k),(I b)] [(ab.box [(AV.t (T.ad 3 d g)),(AV.t (T.ad 5 e a)),(AV.t (T.ad 1 f h))])]=
 (bif bif decide (b < (↑a.length:Int)) then decide (b < (↑i.length:Int)) else false then aa none (if(0:Int)<=b/\b < (↑i.length:Int) then some () else none) λx=>aa none i[b.toNat]? λl=>aa
 none l.head? λx=>aa none (T.int? i64 x) λn=>aa none (O (Key.call 20) [I n] []) λl=>aa none l.head? λx=>aa none (T.int? i64 x) λn=>bif decide (n > (3:Int)) then some [T.bool
 false] else aa none (if(0:Int)<=b/\b < (↑a.length:Int) then some () else none) λx=>aa none a[b.toNat]? λl=>aa none l.head? λx=>aa none (T.int? i64 x) λn=>bif n== (21:Int)
 then O qe [AV.t (T.ad 1 j i),AV.ref (Id.c 0) 0,I (i64.wrap (k+ (1:Int))),I (i64.wrap (b+ (1:Int)))] [ab.box [AV.t (T.ad 3 d g),AV.t (T.ad 5 e a),AV.t (T.ad 1 f
 h)]] else O qe [AV.t (T.ad 1 j i),AV.ref (Id.c 0) 0,I k,I (i64.wrap (b+ (1:Int)))] [ab.box [AV.t (T.ad 3 d g),AV.t (T.ad 5 e a),AV.t (T.ad 1 f h)]] else some [T.bool
 (bif decide ((↑a.length:Int) < (9:Int)) then decide (k < (2:Int)) else false)]):=by kernel_rfl
theorem zG(O:ax)(f:Bool)(d:List (List T))(g:Bool)(e:List (List T))(b:Int):aA ao ann O qf [(AV.t (T.ad 3 f d)),(AV.t (T.ad 3 g e)),(I b)] []=
 (bif decide (b < (↑d.length:Int)) then aa none (if(0:Int)<=b/\b < (↑d.length:Int) then some () else none) λx=>aa none d[b.toNat]? λl=>aa none l.head? λx=>aa none x.a8 λs=>aa none
 (if(0:Int)<=b/\b < (↑e.length:Int) then some () else none) λx=>aa none e[b.toNat]? λl=>aa none l.head? λx=>aa none x.a8 λa=>aa (some !!s.toList==a.toList) (if(0:Int)<=b/\
 b < (↑d.length:Int) then some () else none) λx=>aa (some !!s.toList==a.toList) d[b.toNat]? λl=>aa (some !!s.toList==a.toList) (List.drop 2 l).head? λx=>aa (some !!s.toList==a.toList)
 (T.int? i64 x) λn=>aa (some !!s.toList==a.toList) (if(0:Int)<=b/\b < (↑e.length:Int) then some () else none) λx=>aa (some !!s.toList==a.toList) e[b.toNat]? λl=>aa (some
 !!s.toList==a.toList) (List.drop 2 l).head? λx=>aa (some !!s.toList==a.toList) (T.int? i64 x) λc=>aa (some !bif !s.toList==a.toList then true else !n==c) (if(0:Int)<=b/\b <
 (↑d.length:Int) then some () else none) λx=>aa (some !bif !s.toList==a.toList then true else !n==c) d[b.toNat]? λl=>aa (some !bif !s.toList==a.toList then true else !n==c) (List.drop 1
 l).head? λx=>aa (some !bif !s.toList==a.toList then true else !n==c) (T.au 1 x) λp=>aa (some !bif !s.toList==a.toList then true else !n==c) (if(0:Int)<=b/\b < (↑e.length:Int) then
 some () else none) λx=>aa (some !bif !s.toList==a.toList then true else !n==c) e[b.toNat]? λl=>aa (some !bif !s.toList==a.toList then true else !n==c) (List.drop 1 l).head? λx=>aa (some
 !bif !s.toList==a.toList then true else !n==c) (T.au 1 x) λh=>bif bif bif !s.toList==a.toList then true else !n==c then true else !(↑p.snd.length:Int)== (↑h.snd.length:Int) then some
 [T.bool false] else O sa [AV.t (T.ad 3 f d),AV.t (T.ad 3 g e),I b,I (0:Int)] [] else some [T.bool true]):=by kernel_rfl
theorem Gm(O:ax)(a:Bool)(e:List (List T))(b:Bool)(f:List (List T))(d:Bool)(g:List (List T))(h:ByteArray):aA ao ann O (Key.call 42) [(AV.agg [(AV.t (T.ad 3 a e)),(AV.t (T.ad 5 b f)),(AV.t (T.ad 1 d g))]),(AV.t (T.str h))] []=
 (O se [AV.t (T.str h),AV.ref (Id.c 0) 0,I (0:Int)] [ab.box [AV.t (T.ad 3 a e),AV.t (T.ad 5 b f),AV.t (T.ad 1 d g)]]):=by kernel_rfl
theorem vD(O:ax)(k:ByteArray)(i:Bool)(h:Int)(b:Bool)(a:List (List T))(d:Bool)(f:List (List T))(e:Bool)(g:List (List T)):aA ao ann O kN [(AV.ref (Id.c 0) 0),(AV.t (T.str k)),(AV.t (T.af i)),(I h)] [(ab.box [(AV.t (T.ad 3 b a)),(AV.t (T.ad 5 d f)),(AV.t (T.ad 1 e g))])]=
 (bif decide (h < (↑a.length:Int)) then aa none (if(0:Int)<=h/\h < (↑a.length:Int) then some () else none) λx=>aa none a[h.toNat]? λl=>aa none l.head? λx=>aa none l.tail.head? fun
 m=>aa none l.tail.tail.head? λo=>aa none x.a8 λs=>aa none (T.au 1 m) λp=>aa none (T.int? i64 o) λn=>aa none (O (Key.call 20) [I n] []) λl=>aa none l.head? λx=>aa
 none (T.int? i64 x) λj=>bif j== (0:Int) then O jZ [AV.ref (Id.c 0) 0,AV.t (T.str k),AV.own (Id.c 1),I h,AV.ref (Id.c 2) 0,I j,I (0:Int)] [ab.box [AV.t (T.ad 3 b a),AV.t (T.ad
 5 d f),AV.t (T.ad 1 e g)],ab.sl false 3 (i && false) [[T.str s,T.ad 1 p.fst p.snd,T.int i64 n]],ab.box [AV.t (T.str s),AV.t (T.ad 1 p.fst p.snd),I n]] else O jZ [AV.ref (Id.c 0) 0,
 AV.t (T.str k),AV.t (T.af i),I h,AV.ref (Id.c 1) 0,I j,I (0:Int)] [ab.box [AV.t (T.ad 3 b a),AV.t (T.ad 5 d f),AV.t (T.ad 1 e g)],ab.box [AV.t (T.str s),AV.t (T.ad 1 p.fst
 p.snd),I n]] else some [T.af i,T.bool true]):=by kernel_rfl
theorem zH(O:ax)(d:Bool)(c:List (List T))(e:Bool)(f:List (List T))(a:Int)(b:Int):aA ao ann O sa [(AV.t (T.ad 3 d c)),(AV.t (T.ad 3 e f)),(I a),(I b)] []=
 (aa none (if(0:Int)<=a/\a < (↑c.length:Int) then some () else none) λx=>aa none c[a.toNat]? λl=>aa none (List.drop 1 l).head? λx=>aa none (T.au 1 x) λp=>bif decide (b < (↑p.snd.length
 :Int)) then aa none (if(0:Int)<=a/\a < (↑c.length:Int) then some () else none) λx=>aa none c[a.toNat]? λl=>aa none (List.drop 1 l).head? λx=>aa none (T.au 1 x) λp=>aa none (if(0:
 Int)<=b/\b < (↑p.snd.length:Int) then some () else none) λx=>aa none p.snd[b.toNat]? λl=>aa none l.head? λx=>aa none (T.int? i64 x) λn=>aa none (if(0:Int)<=a/\a < (↑f.length
 :Int) then some () else none) λx=>aa none f[a.toNat]? λl=>aa none (List.drop 1 l).head? λx=>aa none (T.au 1 x) λp=>aa none (if(0:Int)<=b/\b < (↑p.snd.length:Int) then some () else
 none) λx=>aa none p.snd[b.toNat]? λl=>aa none l.head? λx=>aa none (T.int? i64 x) λg=>bif !n==g then some [T.bool false] else O sa [AV.t (T.ad 3 d c),AV.t (T.ad 3 e f),I
 a,I (i64.wrap (b+ (1:Int)))] [] else O qf [AV.t (T.ad 3 d c),AV.t (T.ad 3 e f),I (i64.wrap (a+ (1:Int)))] []):=by kernel_rfl
theorem sU(O:ax)(a:ByteArray)(g:Int)(d:Bool)(b:List (List T))(e:Bool)(h:List (List T))(f:Bool)(i:List (List T)):aA ao ann O se [(AV.t (T.str a)),(AV.ref (Id.c 0) 0),(I g)] [(ab.box [(AV.t (T.ad 3 d b)),(AV.t (T.ad 5 e h)),(AV.t (T.ad 1 f i))])]=
 (bif decide (g < (↑b.length:Int)) then aa none (if(0:Int)<=g/\g < (↑b.length:Int) then some () else none) λx=>aa none b[g.toNat]? λl=>aa none l.head? λx=>aa none x.a8 λs=>aa
 (some (decide ((↑s.size:Int) > (↑a.size:Int)))) (eZ (0:Int) (↑a.size:Int) (↑s.size:Int)) λx=>aa (some (bif decide ((↑s.size:Int) > (↑a.size:Int)) then(s.extract 0 (↑a.size:Int).toNat).toList==
 a.toList else false)) (if(0:Int)<=(↑a.size:Int)/\(↑a.size:Int) < (↑s.size:Int) then some () else none) λx=>aa (some (bif decide ((↑s.size:Int) > (↑a.size:Int)) then(s.extract 0 (↑a.size:
 Int).toNat).toList==a.toList else false)) s.data.toList[(↑a.size:Int).toNat]? λx=>aa (some (bif bif decide ((↑s.size:Int) > (↑a.size:Int)) then(s.extract 0 (↑a.size:Int).toNat).toList==a.toList
 else false then decide ((↑x.toNat:Int)>=(48:Int)) else false)) (if(0:Int)<=(↑a.size:Int)/\(↑a.size:Int) < (↑s.size:Int) then some () else none) λk=>aa (some (bif bif decide ((↑s.size:Int) >
 (↑a.size:Int)) then(s.extract 0 (↑a.size:Int).toNat).toList==a.toList else false then decide ((↑x.toNat:Int)>=(48:Int)) else false)) s.data.toList[(↑a.size:Int).toNat]? λj=>bif bif bif bif decide
 ((↑s.size:Int) > (↑a.size:Int)) then(s.extract 0 (↑a.size:Int).toNat).toList==a.toList else false then decide ((↑x.toNat:Int)>=(48:Int)) else false then decide ((↑j.toNat:Int)<=(57:Int)) else false
 then some [T.bool true] else O se [AV.t (T.str a),AV.ref (Id.c 0) 0,I (i64.wrap (g+ (1:Int)))] [ab.box [AV.t (T.ad 3 d b),AV.t (T.ad 5 e h),AV.t (T.ad 1 f i)]] else some
 [T.bool false]):=by kernel_rfl
theorem vB(O:ax)(g:ByteArray)(q:Int)(u:Int)(r:Int)(d:Bool)(h:List (List T))(e:Bool)(i:List (List T))(f:Bool)(j:List (List T))(o:Bool)(p:List (List T))(m:ByteArray)(a:Bool)(b:List (List T))(n:Int):aA ao ann O jZ [(AV.ref (Id.c 0) 0),(AV.t (T.str g)),(AV.own (Id.c 1)),(I q),(AV.ref (Id.c 2) 0),(I u),(I r)] [(ab.box [(AV.t (T.ad 3 d h)),(AV.t (T.ad 5 e i)),(AV.t (T.ad 1 f j))]),(ab.sl false 3 o p),(ab.box [(AV.t (T.str m)),(AV.t (T.ad 1 a b)),(I n)])]=
 (bif decide (r < u) then aa none (O (Key.call 43) [I q] []) λl=>aa none l.head? λx=>aa none x.a8 λs=>aa none (if g.size+s.size<=4294967296 then some () else none) λx=>aa none (if(g++
 s).size+1<=4294967296 then some () else none) λx=>aa none (O (Key.call 43) [I r] []) λl=>aa none l.head? λx=>aa none x.a8 λk=>aa none (if(g++s++ (ByteArray.mk #[(95:UInt8)])).size+
 k.size<=4294967296 then some () else none) λx=>bif decide ((↑(g++s++ (ByteArray.mk #[(95:UInt8)])++k).size:Int) > (12:Int)) then some [T.af true,T.bool false] else aa none (bp 48 (p.length+
 [[T.str (g++s++ (ByteArray.mk #[(95:UInt8)])++k),T.ad 1 a b,T.int i64 (1:Int)]].length)) λx=>O jZ [AV.ref (Id.c 0) 0,AV.t (T.str g),AV.own (Id.c 1),I q,AV.ref (Id.c 2) 0,I u,
 I (i64.wrap (r+ (1:Int)))] [ab.box [AV.t (T.ad 3 d h),AV.t (T.ad 5 e i),AV.t (T.ad 1 f j)],ab.sl false 3 (o && false) (p++ [[T.str (g++s++ (ByteArray.mk #[(95:UInt8)])++
 k),T.ad 1 a b,T.int i64 (1:Int)]]),ab.box [AV.t (T.str m),AV.t (T.ad 1 a b),I n]] else O kN [AV.ref (Id.c 0) 0,AV.t (T.str g),AV.own (Id.c 1),I (i64.wrap (q+ (1:
 Int)))] [ab.box [AV.t (T.ad 3 d h),AV.t (T.ad 5 e i),AV.t (T.ad 1 f j)],ab.sl false 3 o p]):=by kernel_rfl
theorem zF(O:ax)(f:ByteArray)(n:Bool)(p:Int)(r:Int)(q:Int)(a:Bool)(g:List (List T))(b:Bool)(h:List (List T))(d:Bool)(i:List (List T))(k:ByteArray)(e:Bool)(j:List (List T))(m:Int):aA ao ann O jZ [(AV.ref (Id.c 0) 0),(AV.t (T.str f)),(AV.t (T.af n)),(I p),(AV.ref (Id.c 1) 0),(I r),(I q)] [(ab.box [(AV.t (T.ad 3 a g)),(AV.t (T.ad 5 b h)),(AV.t (T.ad 1 d i))]),(ab.box [(AV.t (T.str k)),(AV.t (T.ad 1 e j)),(I m)])]=
 (bif decide (q < r) then aa none (O (Key.call 43) [I p] []) λl=>aa none l.head? λx=>aa none x.a8 λs=>aa none (if f.size+s.size<=4294967296 then some () else none) λx=>aa none (if(f++
 s).size+1<=4294967296 then some () else none) λx=>aa none (O (Key.call 43) [I q] []) λl=>aa none l.head? λx=>aa none x.a8 λo=>aa none (if(f++s++ (ByteArray.mk #[(95:UInt8)])).size+
 o.size<=4294967296 then some () else none) λx=>bif decide ((↑(f++s++ (ByteArray.mk #[(95:UInt8)])++o).size:Int) > (12:Int)) then some [T.af true,T.bool false] else O jZ [AV.ref (Id.c 0) 0,AV.t
 (T.str f),AV.own (Id.c 1),I p,AV.ref (Id.c 2) 0,I r,I (i64.wrap (q+ (1:Int)))] [ab.box [AV.t (T.ad 3 a g),AV.t (T.ad 5 b h),AV.t (T.ad 1 d i)],ab.sl false 3 (n && false)
 [[T.str (f++s++ (ByteArray.mk #[(95:UInt8)])++o),T.ad 1 e j,T.int i64 (1:Int)]],ab.box [AV.t (T.str k),AV.t (T.ad 1 e j),I m]] else O kN [AV.ref (Id.c 0) 0,AV.t (T.str
 f),AV.t (T.af n),I (i64.wrap (p+ (1:Int)))] [ab.box [AV.t (T.ad 3 a g),AV.t (T.ad 5 b h),AV.t (T.ad 1 d i)]]):=by kernel_rfl
theorem Ag(O:ax)(a:Int):aA ao ann O (Key.call 43) [(I a)] []=
 (bif decide (a < (10:Int)) then aa none (eZ a (i64.wrap (a+ (1:Int))) (↑10:Int)) λx=>some [T.str ((ByteArray.mk #[(48:UInt8),(49:UInt8),(50:UInt8),(51:UInt8),(52:UInt8),(53:UInt8),
 (54:UInt8),(55:UInt8),(56:UInt8),(57:UInt8)]).extract a.toNat (i64.wrap (a+ (1:Int))).toNat)] else aa none (O (Key.call 43) [I (i64.wrap (a.tdiv (10:Int)))] []) λl=>aa none
 l.head? λx=>aa none x.a8 λs=>aa none (O (Key.call 43) [I (a.tmod (10:Int))] []) λl=>aa none l.head? λx=>aa none x.a8 λb=>aa none (if s.size+b.size<=4294967296 then some () else
 none) λx=>some [T.str (s++b)]):=by kernel_rfl
theorem vE(O:ax)(m:ByteArray)(h:Int)(b:Bool)(a:List (List T))(d:Bool)(f:List (List T))(e:Bool)(g:List (List T))(i:Bool)(j:List (List T)):aA ao ann O kN [(AV.ref (Id.c 0) 0),(AV.t (T.str m)),(AV.own (Id.c 1)),(I h)] [(ab.box [(AV.t (T.ad 3 b a)),(AV.t (T.ad 5 d f)),(AV.t (T.ad 1 e g))]),(ab.sl false 3 i j)]=
 (bif decide (h < (↑a.length:Int)) then aa none (if(0:Int)<=h/\h < (↑a.length:Int) then some () else none) λx=>aa none a[h.toNat]? λl=>aa none l.head? λx=>aa none l.tail.head? fun
 o=>aa none l.tail.tail.head? λq=>aa none x.a8 λs=>aa none (T.au 1 o) λp=>aa none (T.int? i64 q) λn=>aa none (O (Key.call 20) [I n] []) λl=>aa none l.head? λx=>aa
 none (T.int? i64 x) λk=>bif k== (0:Int) then aa none (bp 48 (j.length+ [[T.str s,T.ad 1 p.fst p.snd,T.int i64 n]].length)) λx=>O jZ [AV.ref (Id.c 0) 0,AV.t (T.str m),AV.own
 (Id.c 1),I h,AV.ref (Id.c 2) 0,I k,I (0:Int)] [ab.box [AV.t (T.ad 3 b a),AV.t (T.ad 5 d f),AV.t (T.ad 1 e g)],ab.sl false 3 (i && false) (j++ [[T.str s,T.ad 1 p.fst p.snd,T.int
 i64 n]]),ab.box [AV.t (T.str s),AV.t (T.ad 1 p.fst p.snd),I n]] else O jZ [AV.ref (Id.c 0) 0,AV.t (T.str m),AV.own (Id.c 1),I h,AV.ref (Id.c 2) 0,I k,I (0:Int)] [ab.box [AV.t (T.ad 3 b
 a),AV.t (T.ad 5 d f),AV.t (T.ad 1 e g)],ab.sl false 3 i j,ab.box [AV.t (T.str s),AV.t (T.ad 1 p.fst p.snd),I n]] else some [T.ad 3 i j,T.bool (decide ((↑j.length:Int)<=(30:Int)))]):=by kernel_rfl
end Go.Aev.Gen
