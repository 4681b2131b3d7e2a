import Derived.Test.YtcjplcpngagalaaGreatDoorBlastDownsQ7
set_option linter.all false
namespace Go.Aev.Gen
open Go Go.Aev Go.IntKind
noncomputable abbrev jq:Key:=bP ak 7 true 9 [(3,none),(4,none),(5,none),(9,none),(37,none),(38,none),(39,none)] (0,0)
noncomputable abbrev rX:Key:=bP ak 8 true 7 [(3,none),(4,none),(24,none),(25,none),(26,none)] (0,0)
noncomputable abbrev kM:Key:=bP ak 11 true 3 [(2,none),(3,none),(4,none),(5,none),(6,none)] (0,0)
noncomputable abbrev pW:Key:=bP ak 10 true 4 [(2,none),(3,none),(5,none)] (0,0)
noncomputable abbrev hJ:Key:=bP ak 7 true 15 [(3,none),(4,none),(5,none),(9,none),(12,none),(37,none),(38,none),(39,none),(62,none),(63,none)] (0,0)
noncomputable abbrev fU:Key:=bP ak 11 true 10 [(2,none),(3,none),(4,none),(5,none),(6,none),(7,none),(8,none),(9,none)] (0,0)
noncomputable abbrev rM:Key:=bP ak 10 true 10 [(2,none),(3,none),(5,none),(6,none),(7,none),(8,none)] (0,0)
noncomputable abbrev n6:Key:=bP ak 22 true 4 [(2,none),(3,none),(16,none),(17,none),(18,none)] (0,0)
noncomputable abbrev hP:Key:=bP ak 7 true 20 [(3,none),(4,none),(5,none),(9,none),(12,none),(14,none),(15,none),(37,none),(38,none),(39,none),(62,none),(63,none),(73,none),(74,none),(75,none)] (0,0)
noncomputable abbrev rN:Key:=bP ak 27 true 6 [(2,none),(3,none),(21,none),(22,none),(23,none)] (0,0)
noncomputable abbrev hF:Key:=bP ak 11 true 14 [(2,none),(3,none),(4,none),(5,none),(6,none),(7,none),(8,none),(9,none),(10,none),(11,none)] (0,0)
noncomputable abbrev rR:Key:=bP ak 35 true 4 [(2,none),(3,none),(5,none)] (0,0)
noncomputable abbrev rS:Key:=bP ak 36 true 2 [(0,none),(1,none),(5,none)] (0,0)
noncomputable abbrev fW:Key:=bP ak 85 true 2 [(0,none),(1,none),(7,none),(8,none)] (0,0)
noncomputable abbrev rW:Key:=bP ak 87 true 4 [(1,none),(16,none),(17,none),(18,none)] (0,0)
noncomputable abbrev rL:Key:=bP ak 101 true 1 [(0,none),(1,none)] (0,0)
noncomputable abbrev DT:Key:=bP ak 5 true 17 [(4,none),(10,none),(12,none)] (0,0)
theorem e3(O:aq)(ed:Bool)(d:List (List T))(en:Bool)(nd:List (List T))(eh:Bool)(a:List (List T))(em:Bool)(m:List (List T)):ax ak ann O (Key.call 3) [AV.agg [AV.t (T.ab 3 ed d),AV.t (T.ab 5 en nd),AV.t (T.ab 1 eh a)],AV.agg [AV.t (T.ab 5 em m)]] []=
 (aa none (O (Key.call 6) [] []) λl=>aa none l.head? λx=>aa none x.bool? λb=>bif !b then some [T.bool false] else aa none (O (Key.call 7) [AV.agg [AV.t (T.ab 3 ed d),AV.t (T.ab 5 en nd),AV.t (T.ab 1
 eh a)],AV.agg [AV.t (T.ab 5 em m)]] []) λl=>aa none l.head? λx=>aa none (T.an 5 x) λp=>aa none (List.drop 1 l).head? λx=>aa none (T.int? i64 x) λn=>aa none (List.drop 1
 l).tail.head? λx=>aa none (T.int? i64 x) λf=>aa none (O (Key.call 8) [AV.agg [AV.t (T.ab 3 ed d),AV.t (T.ab 5 en nd),AV.t (T.ab 1 eh a)],AV.agg [AV.t (T.ab 5 em m)]] []) λl=>aa none
 l.head? λx=>aa none (T.int? i64 x) λc=>aa none l.tail.head? λx=>aa none (T.int? i64 x) λi=>bif c== (0:Int) then aa none (O (Key.call 9) [AV.agg [AV.t (T.ab 3 ed d),AV.t
 (T.ab 5 en nd),AV.t (T.ab 1 eh a)]] []) λl=>aa none l.head? λx=>aa none (T.an 3 x) λe=>aa none l.tail.head? λx=>aa none (T.an 5 x) λk=>aa none l.tail.tail.head? λx=>aa none
 (T.an 1 x) λo=>aa none (List.drop 3 l).head? λx=>aa none (T.int? i64 x) λg=>aa none (List.drop 3 l).tail.head? λx=>aa none (T.int? i64 x) λj=>bif !g== (0:Int) then
 some [T.bool (bif n==g && (f==j && true) then(↑p.snd.length:Int)== (0:Int) else false)] else aa none (cB (some (n== (0:Int))) (O (Key.call 11) [AV.agg [AV.t (T.ab 3 ed d),AV.t (T.ab 5 en nd),AV.t
 (T.ab 1 eh a)],AV.agg [AV.t (T.ab 5 em m)]] [])) λl=>aa (some (n== (0:Int))) l.head? λx=>aa (some (n== (0:Int))) (T.an 5 x) λh=>aa none (cB (some (n== (0:Int))) (O (Key.call 10)
 [AV.agg [AV.t (T.ab 5 p.fst p.snd)],AV.agg [AV.t (T.ab 5 h.fst h.snd)]] [])) λl=>aa (some (n== (0:Int))) l.head? λx=>aa (some (n== (0:Int))) x.bool? λb=>some [T.bool (bif n== (0:Int) then
 b else false)] else bif !c== (0:Int) then some [T.bool (bif n==c && (f==i && true) then(↑p.snd.length:Int)== (0:Int) else false)] else aa none (cB (some (n== (0:Int))) (O (Key.call 11) [AV.agg
 [AV.t (T.ab 3 ed d),AV.t (T.ab 5 en nd),AV.t (T.ab 1 eh a)],AV.agg [AV.t (T.ab 5 em m)]] [])) λl=>aa (some (n== (0:Int))) l.head? λx=>aa (some (n== (0:Int))) (T.an 5 x) λe=>aa none
 (cB (some (n== (0:Int))) (O (Key.call 10) [AV.agg [AV.t (T.ab 5 p.fst p.snd)],AV.agg [AV.t (T.ab 5 e.fst e.snd)]] [])) λl=>aa (some (n== (0:Int))) l.head? λx=>aa (some (n== (0:Int))) x.bool?
 λb=>some [T.bool (bif n== (0:Int) then b else false)]):=by kernel_rfl
theorem e7(O:aq)(a:Bool)(b:List (List T))(d:Bool)(f:List (List T))(e:Bool)(g:List (List T))(h:Bool)(i:List (List T)):ax ak ann O (Key.call 7) [(AV.agg [(AV.t (T.ab 3 a b)),(AV.t (T.ab 5 d f)),(AV.t (T.ab 1 e g))]),(AV.agg [(AV.t (T.ab 5 h i))])] []=
 (aa none (O (Key.call 8) [AV.agg [AV.t (T.ab 3 a b),AV.t (T.ab 5 d f),AV.t (T.ab 1 e g)],AV.agg [AV.t (T.ab 5 h i)]] []) λl=>aa none l.head? λx=>aa none (T.int? i64 x)
 λn=>aa none l.tail.head? λx=>aa none (T.int? i64 x) λj=>bif !n== (0:Int) then some [T.af true,T.int i64 n,T.int i64 j] else aa none (O (Key.call 9) [AV.agg [AV.t (T.ab
 3 a b),AV.t (T.ab 5 d f),AV.t (T.ab 1 e g)]] []) λl=>aa none l.head? λx=>aa none (T.an 3 x) λp=>aa none l.tail.head? λx=>aa none (T.an 5 x) λp=>aa none
 l.tail.tail.head? λx=>aa none (T.an 1 x) λp=>aa none (List.drop 3 l).head? λx=>aa none (T.int? i64 x) λn=>aa none (List.drop 3 l).tail.head? λx=>aa none (T.int? i64 x) fun
 k=>bif !n== (0:Int) then some [T.af true,T.int i64 n,T.int i64 k] else O jq [AV.ref (Id.c 0) 0,AV.ref (Id.c 1) 0,AV.ref (Id.c 2) 0,AV.ref (Id.c 3) 0,AV.t (T.ab 3 a b),I (↑b.length:Int),I (0:Int)] [ad.box [AV.t (T.ab 5 h
 i)],ad.box [AV.t (T.af true)],ad.box [I (0:Int),I (0:Int)],ad.box [AV.t (T.af true)]]):=by kernel_rfl
theorem e8(O:aq)(b:Bool)(a:List (List T))(d:Bool)(f:List (List T))(e:Bool)(g:List (List T))(h:Bool)(i:List (List T)):ax ak ann O (Key.call 8) [(AV.agg [(AV.t (T.ab 3 b a)),(AV.t (T.ab 5 d f)),(AV.t (T.ab 1 e g))]),(AV.agg [(AV.t (T.ab 5 h i))])] []=
 (aa none (O (Key.call 26) [AV.agg [AV.t (T.ab 3 b a),AV.t (T.ab 5 d f),AV.t (T.ab 1 e g)]] []) λl=>aa none l.head? λx=>aa none (T.int? i64 x) λn=>aa none l.tail.head?
 λx=>aa none (T.int? i64 x) λj=>bif !n== (0:Int) then some [T.int i64 n,T.int i64 j] else bif !(↑i.length:Int)== (↑a.length:Int) then some [T.int i64 (9:Int),
 T.int i64 (0:Int)] else O rX [AV.ref (Id.c 0) 0,AV.ref (Id.c 1) 0,AV.t (T.ab 3 b a),I (↑a.length:Int),I (0:Int)] [ad.box [AV.t (T.ab 5 h i)],ad.box [I (0:Int),I (0:Int)]]):=by kernel_rfl
theorem Fb(O:aq)(a:Bool)(e:List (List T))(b:Bool)(f:List (List T))(d:Bool)(g:List (List T))(h:Bool)(i:List (List T)):ax ak ann O (Key.call 11) [(AV.agg [(AV.t (T.ab 3 a e)),(AV.t (T.ab 5 b f)),(AV.t (T.ab 1 d g))]),(AV.agg [(AV.t (T.ab 5 h i))])] []=
 (O kM [AV.ref (Id.c 0) 0,AV.ref (Id.c 1) 0,AV.ref (Id.c 2) 0,AV.ref (Id.c 3) 0,I (0:Int)] [ad.box [AV.t (T.ab 3 a e),AV.t (T.ab 5 b f),AV.t (T.ab 1 d g)],ad.box [AV.t (T.ab 5 h
 i)],ad.box [AV.t (T.af true)],ad.box [AV.t (T.af true)]]):=by kernel_rfl
theorem E0(O:aq)(a:Bool)(d:List (List T))(b:Bool)(e:List (List T)):ax ak ann O (Key.call 10) [(AV.agg [(AV.t (T.ab 5 a d))]),(AV.agg [(AV.t (T.ab 5 b e))])] []=
 (bif !(↑d.length:Int)== (↑e.length:Int) then some [T.bool false] else O pW [AV.ref (Id.c 0) 0,AV.ref (Id.c 1) 0,I (0:Int)] [ad.box [AV.t (T.ab 5 a d)],ad.box [AV.t (T.ab 5 b e)]]):=by kernel_rfl
theorem vE(O:aq)(g:Bool)(d:List (List T))(j:Int)(a:Int)(m:Bool)(k:List (List T))(o:Bool)(e:Int)(f:Int)(h:Bool):ax ak ann O jq [(AV.ref (Id.c 0) 0),(AV.ref (Id.c 1) 0),(AV.ref (Id.c 2) 0),(AV.ref (Id.c 3) 0),(AV.t (T.ab 3 g d)),(I j),(I a)] [(ad.box [(AV.t (T.ab 5 m k))]),(ad.box [(AV.t (T.af o))]),(ad.box [(I e),(I f)]),(ad.box [(AV.t (T.af h))])]=
 (bif decide (a < j) then aa none (if(0:Int)<=a/\a < (↑d.length:Int) then some () else none) λx=>aa none d[a.toNat]? λl=>aa none l.head? λx=>aa none l.tail.head? λz=>aa none
 l.tail.tail.head? λA=>aa none x.bc λs=>aa none (T.an 1 z) λp=>aa none (T.int? i64 A) λn=>aa none (if(0:Int)<=a/\a < (↑k.length:Int) then some () else none) λx=>
 aa none k[a.toNat]? λl=>aa none l.head? λx=>aa none l.tail.head? λB=>aa none l.tail.tail.head? λC=>aa none l.tail.tail.tail.head? λD=>aa none l.tail.tail.tail.tail.head? λE=>
 aa none (T.an 5 x) λp=>aa none (T.int? i64 B) λq=>aa none (T.int? i64 C) λr=>aa none (T.an 2 D) λi=>aa none (T.int? i64 E) λu=>aa none (O
 (Key.call 21) [I n] []) λl=>aa none l.head? λx=>aa none x.bool? λb=>bif !b then aa none (O (Key.call 22) [AV.agg [AV.t (T.ab 5 p.fst p.snd),I q,I r,AV.t (T.ab 2 i.fst i.snd),I u]] []) fun
 l=>aa none l.head? λx=>aa none (T.an 5 x) λp=>aa none l.tail.head? λx=>aa none (T.int? i64 x) λn=>aa none l.tail.tail.head? λx=>aa none (T.int? i64 x) λw=>aa none
 l.tail.tail.tail.head? λx=>aa none (T.an 2 x) λv=>aa none l.tail.tail.tail.tail.head? λx=>aa none (T.int? i64 x) λy=>O jq [AV.ref (Id.c 0) 0,AV.ref (Id.c 1) 0,AV.ref (Id.c 2) 0,
 AV.ref (Id.c 3) 0,AV.t (T.ab 3 g d),I j,AV.t (T.int i64 (i64.wrap (a+ (1:Int))))] [ad.box [AV.t (T.ab 5 m k)],ad.box [AV.t (T.af o)],ad.box [I e,I f],ad.box [AV.own
 (Id.c 4)],ad.sl false 5 (h && false) [[T.ab 5 p.fst p.snd,T.int i64 n,T.int i64 w,T.ab 2 v.fst v.snd,T.int i64 y]]] else O hJ [AV.ref (Id.c 0) 0,AV.ref (Id.c 1) 0,AV.ref
 (Id.c 2) 0,AV.ref (Id.c 3) 0,AV.ref (Id.c 4) 0,AV.t (T.ab 3 g d),I j,I a,I (i64.wrap (n - (10:Int))),I (0:Int)] [ad.box [AV.t (T.ab 5 m k)],ad.box [AV.t (T.af o)],ad.box [I e,I
 f],ad.box [AV.t (T.af h)],ad.box [AV.t (T.ab 5 p.fst p.snd),I q,I r,AV.t (T.ab 2 i.fst i.snd),I u]] else some [T.af h,T.int i64 (0:Int),T.int i64 (0:Int)]):=by kernel_rfl
theorem Fj(O:aq)(a:Bool)(d:List (List T))(b:Bool)(e:List (List T))(c:Bool)(f:List (List T)):ax ak ann O (Key.call 26) [(AV.agg [(AV.t (T.ab 3 a d)),(AV.t (T.ab 5 b e)),(AV.t (T.ab 1 c f))])] []=
 (aa none (O (Key.call 15) [AV.agg [AV.t (T.ab 3 a d),AV.t (T.ab 5 b e),AV.t (T.ab 1 c f)]] []) λl=>aa none l.head? λx=>aa none (T.an 1 x) λp=>aa none l.tail.head? λx=>aa
 none (T.int? i64 x) λn=>aa none l.tail.tail.head? λx=>aa none (T.int? i64 x) λg=>some [T.int i64 n,T.int i64 g]):=by kernel_rfl
theorem Am(O:aq)(f:Bool)(b:List (List T))(g:Int)(a:Int)(i:Bool)(h:List (List T))(d:Int)(e:Int):ax ak ann O rX [(AV.ref (Id.c 0) 0),(AV.ref (Id.c 1) 0),(AV.t (T.ab 3 f b)),(I g),(I a)] [(ad.box [(AV.t (T.ab 5 i h))]),(ad.box [(I d),(I e)])]=
 (bif decide (a < g) then aa none (if(0:Int)<=a/\a < (↑b.length:Int) then some () else none) λx=>aa none b[a.toNat]? λl=>aa none l.head? λx=>aa none l.tail.head? λr=>aa none
 l.tail.tail.head? λu=>aa none x.bc λs=>aa none (T.an 1 r) λp=>aa none (T.int? i64 u) λn=>aa none (if(0:Int)<=a/\a < (↑h.length:Int) then some () else none) λx=>
 aa none h[a.toNat]? λl=>aa none l.head? λx=>aa none l.tail.head? λv=>aa none l.tail.tail.head? λw=>aa none l.tail.tail.tail.head? λy=>aa none l.tail.tail.tail.tail.head? λz=>
 aa none (T.an 5 x) λj=>aa none (T.int? i64 v) λm=>aa none (T.int? i64 w) λo=>aa none (T.an 2 y) λk=>aa none (T.int? i64 z) λq=>aa none (O
 (Key.call 27) [AV.agg [AV.t (T.str s),AV.t (T.ab 1 p.fst p.snd),I n],AV.agg [AV.t (T.ab 5 j.fst j.snd),I m,I o,AV.t (T.ab 2 k.fst k.snd),I q]] []) λl=>aa none l.head? λx=>aa none
 (T.int? i64 x) λn=>bif !n== (0:Int) then some [T.int i64 n,T.int i64 a] else O rX [AV.ref (Id.c 0) 0,AV.ref (Id.c 1) 0,AV.t (T.ab 3 f b),I g,I (i64.wrap (a+ (1:
 Int)))] [ad.box [AV.t (T.ab 5 i h)],ad.box [I d,I e]] else some [T.int i64 (0:Int),T.int i64 (0:Int)]):=by kernel_rfl
theorem ve(O:aq)(b:Int)(e:Bool)(a:List (List T))(f:Bool)(h:List (List T))(g:Bool)(i:List (List T))(m:Bool)(k:List (List T))(o:Bool)(j:Bool):ax ak ann O kM [(AV.ref (Id.c 0) 0),(AV.ref (Id.c 1) 0),(AV.ref (Id.c 2) 0),(AV.ref (Id.c 3) 0),(I b)] [(ad.box [(AV.t (T.ab 3 e a)),(AV.t (T.ab 5 f h)),(AV.t (T.ab 1 g i))]),(ad.box [(AV.t (T.ab 5 m k))]),(ad.box [(AV.t (T.af o))]),(ad.box [(AV.t (T.af j))])]=
 (bif decide (b < (↑a.length:Int)) then aa none (if(0:Int)<=b/\b < (↑k.length:Int) then some () else none) λx=>aa none k[b.toNat]? λl=>aa none l.head? λx=>aa none l.tail.head? λv=>
 aa none l.tail.tail.head? λw=>aa none l.tail.tail.tail.head? λy=>aa none l.tail.tail.tail.tail.head? λz=>aa none (T.an 5 x) λp=>aa none (T.int? i64 v) λn=>aa none (T.int?
 i64 w) λq=>aa none (T.an 2 y) λd=>aa none (T.int? i64 z) λr=>aa none (if(0:Int)<=b/\b < (↑a.length:Int) then some () else none) λx=>aa none a[b.toNat]?
 λl=>aa none (List.drop 2 l).head? λx=>aa none (T.int? i64 x) λu=>aa none (O (Key.call 20) [I u] []) λl=>aa none l.head? λx=>aa none (T.int? i64 x) λs=>bif s== (0
 :Int) then O fU [AV.ref (Id.c 0) 0,AV.ref (Id.c 1) 0,AV.ref (Id.c 2) 0,AV.ref (Id.c 3) 0,I b,AV.ref (Id.c 4) 0,I s,I (0:Int)] [ad.box [AV.t (T.ab 3 e a),AV.t (T.ab 5 f h),AV.t (T.ab 1
 g i)],ad.box [AV.t (T.ab 5 m k)],ad.box [AV.t (T.af o)],ad.box [AV.own (Id.c 5)],ad.box [AV.t (T.ab 5 p.fst p.snd),I n,I q,AV.t (T.ab 2 d.fst d.snd),I r],ad.sl false 5 (j && false)
 [[T.ab 5 p.fst p.snd,T.int i64 n,T.int i64 q,T.ab 2 d.fst d.snd,T.int i64 r]]] else O fU [AV.ref (Id.c 0) 0,AV.ref (Id.c 1) 0,AV.ref (Id.c 2) 0,AV.ref (Id.c 3) 0,I b,AV.ref
 (Id.c 4) 0,I s,I (0:Int)] [ad.box [AV.t (T.ab 3 e a),AV.t (T.ab 5 f h),AV.t (T.ab 1 g i)],ad.box [AV.t (T.ab 5 m k)],ad.box [AV.t (T.af o)],ad.box [AV.t (T.af j)],ad.box
 [AV.t (T.ab 5 p.fst p.snd),I n,I q,AV.t (T.ab 2 d.fst d.snd),I r]] else some [T.af j]):=by kernel_rfl
theorem yY(O:aq)(d:Int)(i:Bool)(g:List (List T))(j:Bool)(h:List (List T)):ax ak ann O pW [(AV.ref (Id.c 0) 0),(AV.ref (Id.c 1) 0),(I d)] [(ad.box [(AV.t (T.ab 5 i g))]),(ad.box [(AV.t (T.ab 5 j h))])]=
 (bif decide (d < (↑g.length:Int)) then aa none (if(0:Int)<=d/\d < (↑g.length:Int) then some () else none) λx=>aa none g[d.toNat]? λl=>aa none l.head? λx=>aa none l.tail.head? λs=>
 aa none l.tail.tail.head? λu=>aa none l.tail.tail.tail.head? λv=>aa none l.tail.tail.tail.tail.head? λw=>aa none (T.an 5 x) λp=>aa none (T.int? i64 s) λn=>aa none (T.int?
 i64 u) λk=>aa none (T.an 2 v) λe=>aa none (T.int? i64 w) λm=>aa none (if(0:Int)<=d/\d < (↑h.length:Int) then some () else none) λx=>aa none h[d.toNat]? fun
 l=>aa none l.head? λx=>aa none l.tail.head? λy=>aa none l.tail.tail.head? λz=>aa none l.tail.tail.tail.head? λA=>aa none l.tail.tail.tail.tail.head? λB=>aa none (T.an 5 x) fun
 a=>aa none (T.int? i64 y) λo=>aa none (T.int? i64 z) λq=>aa none (T.an 2 A) λf=>aa none (T.int? i64 B) λr=>aa none (cB (some !!(↑p.snd.length:Int)
 == (↑a.snd.length:Int)) (O (Key.call 35) [AV.agg [I n,I k,AV.t (T.ab 2 e.fst e.snd),I m],AV.agg [I o,I q,AV.t (T.ab 2 f.fst f.snd),I r]] [])) λl=>aa (some !!(↑p.snd.length:Int)==
 (↑a.snd.length:Int)) l.head? λx=>aa (some !!(↑p.snd.length:Int)== (↑a.snd.length:Int)) x.bool? λb=>bif bif !(↑p.snd.length:Int)== (↑a.snd.length:Int) then true else !b then some [T.bool false]
 else O rM [AV.ref (Id.c 0) 0,AV.ref (Id.c 1) 0,I d,AV.ref (Id.c 2) 0,AV.ref (Id.c 3) 0,I (0:Int)] [ad.box [AV.t (T.ab 5 i g)],ad.box [AV.t (T.ab 5 j h)],ad.box [AV.t (T.ab 5 p.fst p.snd),I n,I
 k,AV.t (T.ab 2 e.fst e.snd),I m],ad.box [AV.t (T.ab 5 a.fst a.snd),I o,I q,AV.t (T.ab 2 f.fst f.snd),I r]] else some [T.bool true]):=by kernel_rfl
theorem y9(O:aq)(b:Bool)(a:List (List T))(e:Int)(f:Int)(d:Bool)(g:List (List T))(h:Int):ax ak ann O (Key.call 22) [(AV.agg [(AV.t (T.ab 5 b a)),(I e),(I f),(AV.t (T.ab 2 d g)),(I h)])] []=
 (aa none (O (Key.call 44) [AV.t (T.ab 2 d g)] []) λl=>aa none l.head? λx=>aa none (T.an 2 x) λp=>O n6 [AV.ref (Id.c 0) 0,AV.ref (Id.c 1) 0,AV.t (T.ab 5 b a),I (↑a.length:Int),
 I (0:Int)] [ad.box [AV.t (T.af true),I (0:Int),I (0:Int),AV.t (T.af true),I (0:Int)],ad.box [AV.t (T.af true),I e,I f,AV.t (T.ab 2 p.fst p.snd),I h]]):=by kernel_rfl
theorem vF(O:aq)(g:Bool)(d:List (List T))(k:Int)(a:Int)(q:Bool)(m:List (List T))(r:Bool)(e:Int)(f:Int)(h:Bool)(o:List (List T)):ax ak ann O jq [(AV.ref (Id.c 0) 0),(AV.ref (Id.c 1) 0),(AV.ref (Id.c 2) 0),(AV.ref (Id.c 3) 0),(AV.t (T.ab 3 g d)),(I k),(I a)] [(ad.box [(AV.t (T.ab 5 q m))]),(ad.box [(AV.t (T.af r))]),(ad.box [(I e),(I f)]),(ad.box [(AV.own (Id.c 4))]),(ad.sl false 5 h o)]=
 (bif decide (a < k) then aa none (if(0:Int)<=a/\a < (↑d.length:Int) then some () else none) λx=>aa none d[a.toNat]? λl=>aa none l.head? λx=>aa none l.tail.head? λA=>aa none
 l.tail.tail.head? λB=>aa none x.bc λs=>aa none (T.an 1 A) λp=>aa none (T.int? i64 B) λn=>aa none (if(0:Int)<=a/\a < (↑m.length:Int) then some () else none) λx=>
 aa none m[a.toNat]? λl=>aa none l.head? λx=>aa none l.tail.head? λC=>aa none l.tail.tail.head? λD=>aa none l.tail.tail.tail.head? λE=>aa none l.tail.tail.tail.tail.head? λF=>
 aa none (T.an 5 x) λp=>aa none (T.int? i64 C) λu=>aa none (T.int? i64 D) λv=>aa none (T.an 2 E) λi=>aa none (T.int? i64 F) λw=>aa none (O
 (Key.call 21) [I n] []) λl=>aa none l.head? λx=>aa none x.bool? λb=>bif !b then aa none (O (Key.call 22) [AV.agg [AV.t (T.ab 5 p.fst p.snd),I u,I v,AV.t (T.ab 2 i.fst i.snd),I w]] []) fun
 l=>aa none l.head? λx=>aa none (T.an 5 x) λp=>aa none l.tail.head? λx=>aa none (T.int? i64 x) λn=>aa none l.tail.tail.head? λx=>aa none (T.int? i64 x) λy=>aa none
 l.tail.tail.tail.head? λx=>aa none (T.an 2 x) λj=>aa none l.tail.tail.tail.tail.head? λx=>aa none (T.int? i64 x) λz=>aa none (bg 72 (o.length+ [[T.ab 5 p.fst p.snd,T.int
 i64 n,T.int i64 y,T.ab 2 j.fst j.snd,T.int i64 z]].length)) λx=>O jq [AV.ref (Id.c 0) 0,AV.ref (Id.c 1) 0,AV.ref (Id.c 2) 0,AV.ref (Id.c 3) 0,AV.t (T.ab 3 g d),I k,
 AV.t (T.int i64 (i64.wrap (a+ (1:Int))))] [ad.box [AV.t (T.ab 5 q m)],ad.box [AV.t (T.af r)],ad.box [I e,I f],ad.box [AV.own (Id.c 4)],ad.sl false 5 (h && false) (o++
 [[T.ab 5 p.fst p.snd,T.int i64 n,T.int i64 y,T.ab 2 j.fst j.snd,T.int i64 z]])] else O hJ [AV.ref (Id.c 0) 0,AV.ref (Id.c 1) 0,AV.ref (Id.c 2) 0,AV.ref (Id.c 3) 0,AV.ref (Id.c
 4) 0,AV.t (T.ab 3 g d),I k,I a,I (i64.wrap (n - (10:Int))),I (0:Int)] [ad.box [AV.t (T.ab 5 q m)],ad.box [AV.t (T.af r)],ad.box [I e,I f],ad.box [AV.own (Id.c 5)],ad.box
 [AV.t (T.ab 5 p.fst p.snd),I u,I v,AV.t (T.ab 2 i.fst i.snd),I w],ad.sl false 5 h o] else some [T.ab 5 h o,T.int i64 (0:Int),T.int i64 (0:Int)]):=by kernel_rfl
theorem Gl(O:aq)(m:Bool)(s:List (List T))(u:Int)(v:Int)(w:Int)(e:Int)(o:Bool)(y:List (List T))(q:Bool)(f:Int)(g:Int)(r:Bool)(b:Bool)(a:List (List T))(h:Int)(i:Int)(d:Bool)(j:List (List T))(k:Int):ax ak ann O hJ [(AV.ref (Id.c 0) 0),(AV.ref (Id.c 1) 0),(AV.ref (Id.c 2) 0),(AV.ref (Id.c 3) 0),(AV.ref (Id.c 4) 0),(AV.t (T.ab 3 m s)),(I u),(I v),(I w),(I e)] [(ad.box [(AV.t (T.ab 5 o y))]),(ad.box [(AV.t (T.af q))]),(ad.box [(I f),(I g)]),(ad.box [(AV.t (T.af r))]),(ad.box [(AV.t (T.ab 5 b a)),(I h),(I i),(AV.t (T.ab 2 d j)),(I k)])]=
 (bif decide (e < w) then aa none (O (Key.call 23) [AV.agg [I h,I i,AV.t (T.ab 2 d j),I k],AV.t (T.ptr [T.int i64 e])] []) λl=>aa none l.head? λx=>aa none (T.int? i64
 x) λn=>aa none l.tail.head? λx=>aa none (T.int? i64 x) λz=>aa none l.tail.tail.head? λx=>aa none (T.an 2 x) λp=>aa none l.tail.tail.tail.head? λx=>aa none (T.int?
 i64 x) λA=>O hP [AV.ref (Id.c 0) 0,AV.ref (Id.c 1) 0,AV.ref (Id.c 2) 0,AV.ref (Id.c 3) 0,AV.ref (Id.c 4) 0,AV.fn 23 [] [AV.ref (Id.c 5) 0],AV.ref (Id.c 6) 0,AV.t (T.ab 3 m s),I u,I v,
 I w,I e,AV.t (T.ab 5 b a),I (↑a.length:Int),I (0:Int)] [ad.box [AV.t (T.ab 5 o y)],ad.box [AV.t (T.af q)],ad.box [I f,I g],ad.box [AV.t (T.af r)],ad.box [AV.t (T.ab 5
 b a),I h,I i,AV.t (T.ab 2 d j),I k],ad.cE [T.int i64 e],ad.box [AV.t (T.af true),I n,I z,AV.t (T.ab 2 p.fst p.snd),I A]] else O jq [AV.ref (Id.c 0) 0,AV.ref (Id.c
 1) 0,AV.ref (Id.c 2) 0,AV.ref (Id.c 3) 0,AV.t (T.ab 3 m s),I u,I (i64.wrap (v+ (1:Int)))] [ad.box [AV.t (T.ab 5 o y)],ad.box [AV.t (T.af q)],ad.box [I f,I g],ad.box [AV.t
 (T.af r)]]):=by kernel_rfl
theorem Fk(O:aq)(f:ByteArray)(e:Bool)(g:List (List T))(h:Int)(d:Bool)(a:List (List T))(j:Int)(k:Int)(i:Bool)(m:List (List T))(n:Int):ax ak ann O (Key.call 27) [(AV.agg [(AV.t (T.str f)),(AV.t (T.ab 1 e g)),(I h)]),(AV.agg [(AV.t (T.ab 5 d a)),(I j),(I k),(AV.t (T.ab 2 i m)),(I n)])] []=
 (aa none (cB (some !decide ((↑a.length:Int) > (1000:Int))) (O (Key.call 45) [AV.t (T.ab 5 d a),AV.fn 46 [] [AV.t (T.ptr [T.str f,T.ab 1 e g,T.int i64 h])]] [])) λl=>aa (some
 !decide ((↑a.length:Int) > (1000:Int))) l.head? λx=>aa (some !decide ((↑a.length:Int) > (1000:Int))) x.bool? λb=>bif bif decide ((↑a.length:Int) > (1000:Int)) then true else b then some
 [T.int i64 (9:Int)] else aa none (O (Key.call 45) [AV.t (T.ab 5 d a),AV.fn 47 [] []] []) λl=>aa none l.head? λx=>aa none x.bool? λb=>bif b then some [T.int i64 (3:Int)] else
 O rN [AV.ref (Id.c 0) 0,AV.ref (Id.c 1) 0,AV.t (T.ab 5 d a),I (↑a.length:Int),I (0:Int)] [ad.box [AV.t (T.str f),AV.t (T.ab 1 e g),I h],ad.box [AV.t (T.ab 5 d a),I j,I
 k,AV.t (T.ab 2 i m),I n]]):=by kernel_rfl
theorem Fe(O:aq)(a:Int):ax ak ann O (Key.call 20) [(I a)] []=
 (bif bif decide (a > (10:Int)) then decide (a<=(18:Int)) else false then some [T.int i64 (i64.wrap (a - (10:Int)))] else some [T.int i64 (0:Int)]):=by kernel_rfl
theorem yZ(O:aq)(z:Int)(A:Int)(v:Int)(a:Bool)(f:List (List T))(b:Bool)(g:List (List T))(d:Bool)(h:List (List T))(r:Bool)(w:List (List T))(s:Bool)(o:Bool)(q:List (List T))(i:Int)(j:Int)(e:Bool)(k:List (List T))(m:Int)(u:Bool)(y:List (List T)):ax ak ann O fU [(AV.ref (Id.c 0) 0),(AV.ref (Id.c 1) 0),(AV.ref (Id.c 2) 0),(AV.ref (Id.c 3) 0),(I z),(AV.ref (Id.c 4) 0),(I A),(I v)] [(ad.box [(AV.t (T.ab 3 a f)),(AV.t (T.ab 5 b g)),(AV.t (T.ab 1 d h))]),(ad.box [(AV.t (T.ab 5 r w))]),(ad.box [(AV.t (T.af s))]),(ad.box [(AV.own (Id.c 5))]),(ad.box [(AV.t (T.ab 5 o q)),(I i),(I j),(AV.t (T.ab 2 e k)),(I m)]),(ad.sl false 5 u y)]=
 (bif decide (v < A) then aa none (O (Key.call 37) [AV.agg [I i,I j,AV.t (T.ab 2 e k),I m],I v] []) λl=>aa none l.head? λx=>aa none (T.int? i64 x) λn=>aa none l.tail.head?
 λx=>aa none (T.int? i64 x) λB=>aa none l.tail.tail.head? λx=>aa none (T.an 2 x) λp=>aa none l.tail.tail.tail.head? λx=>aa none (T.int? i64 x) λC=>O hF [AV.ref
 (Id.c 0) 0,AV.ref (Id.c 1) 0,AV.ref (Id.c 2) 0,AV.ref (Id.c 3) 0,I z,AV.ref (Id.c 4) 0,I A,I v,AV.ref (Id.c 5) 0,I (0:Int)] [ad.box [AV.t (T.ab 3 a f),AV.t (T.ab 5 b g),AV.t (T.ab 1 d
 h)],ad.box [AV.t (T.ab 5 r w)],ad.box [AV.t (T.af s)],ad.box [AV.own (Id.c 6)],ad.box [AV.t (T.ab 5 o q),I i,I j,AV.t (T.ab 2 e k),I m],ad.box [AV.t (T.af true),I n,I
 B,AV.t (T.ab 2 p.fst p.snd),I C],ad.sl false 5 u y] else O kM [AV.ref (Id.c 0) 0,AV.ref (Id.c 1) 0,AV.ref (Id.c 2) 0,AV.ref (Id.c 3) 0,I (i64.wrap (z+ (1:Int)))] [ad.box [AV.t (T.ab 3
 a f),AV.t (T.ab 5 b g),AV.t (T.ab 1 d h)],ad.box [AV.t (T.ab 5 r w)],ad.box [AV.t (T.af s)],ad.box [AV.own (Id.c 4)],ad.sl false 5 u y]):=by kernel_rfl
theorem Fc(O:aq)(y:Int)(z:Int)(v:Int)(a:Bool)(f:List (List T))(b:Bool)(g:List (List T))(d:Bool)(h:List (List T))(r:Bool)(w:List (List T))(s:Bool)(u:Bool)(o:Bool)(q:List (List T))(i:Int)(j:Int)(e:Bool)(k:List (List T))(m:Int):ax ak ann O fU [(AV.ref (Id.c 0) 0),(AV.ref (Id.c 1) 0),(AV.ref (Id.c 2) 0),(AV.ref (Id.c 3) 0),(I y),(AV.ref (Id.c 4) 0),(I z),(I v)] [(ad.box [(AV.t (T.ab 3 a f)),(AV.t (T.ab 5 b g)),(AV.t (T.ab 1 d h))]),(ad.box [(AV.t (T.ab 5 r w))]),(ad.box [(AV.t (T.af s))]),(ad.box [(AV.t (T.af u))]),(ad.box [(AV.t (T.ab 5 o q)),(I i),(I j),(AV.t (T.ab 2 e k)),(I m)])]=
 (bif decide (v < z) then aa none (O (Key.call 37) [AV.agg [I i,I j,AV.t (T.ab 2 e k),I m],I v] []) λl=>aa none l.head? λx=>aa none (T.int? i64 x) λn=>aa none l.tail.head?
 λx=>aa none (T.int? i64 x) λA=>aa none l.tail.tail.head? λx=>aa none (T.an 2 x) λp=>aa none l.tail.tail.tail.head? λx=>aa none (T.int? i64 x) λB=>O hF [AV.ref
 (Id.c 0) 0,AV.ref (Id.c 1) 0,AV.ref (Id.c 2) 0,AV.ref (Id.c 3) 0,I y,AV.ref (Id.c 4) 0,I z,I v,AV.ref (Id.c 5) 0,I (0:Int)] [ad.box [AV.t (T.ab 3 a f),AV.t (T.ab 5 b g),AV.t (T.ab 1 d
 h)],ad.box [AV.t (T.ab 5 r w)],ad.box [AV.t (T.af s)],ad.box [AV.t (T.af u)],ad.box [AV.t (T.ab 5 o q),I i,I j,AV.t (T.ab 2 e k),I m],ad.box [AV.t (T.af true),I n,I
 A,AV.t (T.ab 2 p.fst p.snd),I B]] else O kM [AV.ref (Id.c 0) 0,AV.ref (Id.c 1) 0,AV.ref (Id.c 2) 0,AV.ref (Id.c 3) 0,I (i64.wrap (y+ (1:Int)))] [ad.box [AV.t (T.ab 3 a f),AV.t (T.ab 5
 b g),AV.t (T.ab 1 d h)],ad.box [AV.t (T.ab 5 r w)],ad.box [AV.t (T.af s)],ad.box [AV.t (T.af u)]]):=by kernel_rfl
theorem Fw(O:aq)(a:Int)(b:Int)(j:Bool)(d:List (List T))(e:Int)(f:Int)(g:Int)(k:Bool)(h:List (List T))(i:Int):ax ak ann O (Key.call 35) [(AV.agg [(I a),(I b),(AV.t (T.ab 2 j d)),(I e)]),(AV.agg [(I f),(I g),(AV.t (T.ab 2 k h)),(I i)])] []=
 (bif bif bif !(a==f && (b==g && true)) then true else !e==i then true else !(↑d.length:Int)== (↑h.length:Int) then some [T.bool false] else O rR [AV.ref (Id.c 0) 0,AV.ref (Id.c 1) 0,
 I (0:Int)] [ad.box [I a,I b,AV.t (T.ab 2 j d),I e],ad.box [I f,I g,AV.t (T.ab 2 k h),I i]]):=by kernel_rfl
theorem yX(O:aq)(C:Int)(d:Int)(v:Bool)(A:List (List T))(w:Bool)(B:List (List T))(f:Bool)(a:List (List T))(j:Int)(k:Int)(g:Bool)(m:List (List T))(o:Int)(h:Bool)(e:List (List T))(q:Int)(r:Int)(i:Bool)(s:List (List T))(u:Int):ax ak ann O rM [(AV.ref (Id.c 0) 0),(AV.ref (Id.c 1) 0),(I C),(AV.ref (Id.c 2) 0),(AV.ref (Id.c 3) 0),(I d)] [(ad.box [(AV.t (T.ab 5 v A))]),(ad.box [(AV.t (T.ab 5 w B))]),(ad.box [(AV.t (T.ab 5 f a)),(I j),(I k),(AV.t (T.ab 2 g m)),(I o)]),(ad.box [(AV.t (T.ab 5 h e)),(I q),(I r),(AV.t (T.ab 2 i s)),(I u)])]=
 (bif decide (d < (↑a.length:Int)) then aa none (if(0:Int)<=d/\d < (↑a.length:Int) then some () else none) λx=>aa none a[d.toNat]? λl=>aa none l.head? λx=>aa none (T.an 1 x) λp
 =>aa none (if(0:Int)<=d/\d < (↑e.length:Int) then some () else none) λx=>aa none e[d.toNat]? λl=>aa none l.head? λx=>aa none (T.an 1 x) λy=>aa none (O (Key.call 36) [AV.t
 (T.ab 1 p.fst p.snd),AV.t (T.ab 1 y.fst y.snd)] []) λl=>aa none l.head? λx=>aa none x.bool? λb=>aa (some !!b) (if(0:Int)<=d/\d < (↑a.length:Int) then some () else none) λx=>aa
 (some !!b) a[d.toNat]? λl=>aa (some !!b) (List.drop 1 l).head? λx=>aa (some !!b) (List.drop 1 l).tail.head? λK=>aa (some !!b) (List.drop 1 l).tail.tail.head? λL=>aa (some !!b) (List.drop 1
 l).tail.tail.tail.head? λM=>aa (some !!b) (T.int? i64 x) λn=>aa (some !!b) (T.int? i64 K) λE=>aa (some !!b) (T.an 2 L) λp=>aa (some !!b) (T.int? i64 M) λF
 =>aa (some !!b) (if(0:Int)<=d/\d < (↑e.length:Int) then some () else none) λx=>aa (some !!b) e[d.toNat]? λl=>aa (some !!b) (List.drop 1 l).head? λx=>aa (some !!b) (List.drop 1
 l).tail.head? λN=>aa (some !!b) (List.drop 1 l).tail.tail.head? λP=>aa (some !!b) (List.drop 1 l).tail.tail.tail.head? λQ=>aa (some !!b) (T.int? i64 x) λG=>aa (some !!b) (T.int?
 i64 N) λH=>aa (some !!b) (T.an 2 P) λz=>aa (some !!b) (T.int? i64 Q) λJ=>aa none (cB (some !!b) (O (Key.call 35) [AV.agg [I n,I E,AV.t (T.ab 2 p.fst p.snd),I F],
 AV.agg [I G,I H,AV.t (T.ab 2 z.fst z.snd),I J]] [])) λl=>aa (some !!b) l.head? λx=>aa (some !!b) x.bool? λD=>bif bif !b then true else !D then some [T.bool false] else O rM [AV.ref
 (Id.c 0) 0,AV.ref (Id.c 1) 0,I C,AV.ref (Id.c 2) 0,AV.ref (Id.c 3) 0,AV.t (T.int i64 (i64.wrap (d+ (1:Int))))] [ad.box [AV.t (T.ab 5 v A)],ad.box [AV.t (T.ab 5 w B)],ad.box [AV.t
 (T.ab 5 f a),I j,I k,AV.t (T.ab 2 g m),I o],ad.box [AV.t (T.ab 5 h e),I q,I r,AV.t (T.ab 2 i s),I u]] else O pW [AV.ref (Id.c 0) 0,AV.ref (Id.c 1) 0,I
 (i64.wrap (C+ (1:Int)))] [ad.box [AV.t (T.ab 5 v A)],ad.box [AV.t (T.ab 5 w B)]]):=by kernel_rfl
theorem zG(O:aq)(a:Bool)(b:List (List T)):ax ak ann O (Key.call 44) [(AV.t (T.ab 2 a b))] []=
 (bif a then some [T.af true] else aa none (bg 16 (0+b.length)) λx=>some [T.ab 2 false b]):=by kernel_rfl
theorem za(O:aq)(r:Bool)(k:List (List T))(s:Int)(a:Int)(i:Bool)(m:Int)(o:Int)(j:Bool)(q:Int)(b:Bool)(e:Int)(f:Int)(d:Bool)(g:List (List T))(h:Int):ax ak ann O n6 [(AV.ref (Id.c 0) 0),(AV.ref (Id.c 1) 0),(AV.t (T.ab 5 r k)),(I s),(I a)] [(ad.box [(AV.t (T.af i)),(I m),(I o),(AV.t (T.af j)),(I q)]),(ad.box [(AV.t (T.af b)),(I e),(I f),(AV.t (T.ab 2 d g)),(I h)])]=
 (bif decide (a < s) then aa none (if(0:Int)<=a/\a < (↑k.length:Int) then some () else none) λx=>aa none k[a.toNat]? λl=>aa none l.head? λx=>aa none l.tail.head? λz=>aa none
 l.tail.tail.head? λA=>aa none l.tail.tail.tail.head? λB=>aa none l.tail.tail.tail.tail.head? λC=>aa none (T.an 1 x) λp=>aa none (T.int? i64 z) λn=>aa none (T.int?
 i64 A) λw=>aa none (T.an 2 B) λu=>aa none (T.int? i64 C) λy=>aa none (O (Key.call 25) [AV.t (T.ab 1 p.fst p.snd)] []) λl=>aa none l.head? λx=>aa none (T.an 1
 x) λp=>aa none (O (Key.call 44) [AV.t (T.ab 2 u.fst u.snd)] []) λl=>aa none l.head? λx=>aa none (T.an 2 x) λv=>O n6 [AV.ref (Id.c 0) 0,AV.ref (Id.c 1) 0,AV.t (T.ab 5 r k),I s,
 I (i64.wrap (a+ (1:Int)))] [ad.box [AV.t (T.af i),I m,I o,AV.t (T.af j),I q],ad.box [AV.own (Id.c 2),I e,I f,AV.t (T.ab 2 d g),I h],ad.sl false 5 (b &&
 false) [[T.ab 1 p.fst p.snd,T.int i64 n,T.int i64 w,T.ab 2 v.fst v.snd,T.int i64 y]]] else some [T.af b,T.int i64 e,T.int i64 f,T.ab 2 d g,T.int
 i64 h]):=by kernel_rfl
theorem zX(O:aq)(m:Bool)(s:List (List T))(u:Int)(v:Int)(w:Int)(e:Int)(o:Bool)(y:List (List T))(q:Bool)(f:Int)(g:Int)(b:Bool)(a:List (List T))(h:Int)(i:Int)(d:Bool)(j:List (List T))(k:Int)(r:Bool)(z:List (List T)):ax ak ann O hJ [(AV.ref (Id.c 0) 0),(AV.ref (Id.c 1) 0),(AV.ref (Id.c 2) 0),(AV.ref (Id.c 3) 0),(AV.ref (Id.c 4) 0),(AV.t (T.ab 3 m s)),(I u),(I v),(I w),(I e)] [(ad.box [(AV.t (T.ab 5 o y))]),(ad.box [(AV.t (T.af q))]),(ad.box [(I f),(I g)]),(ad.box [(AV.own (Id.c 5))]),(ad.box [(AV.t (T.ab 5 b a)),(I h),(I i),(AV.t (T.ab 2 d j)),(I k)]),(ad.sl false 5 r z)]=
 (bif decide (e < w) then aa none (O (Key.call 23) [AV.agg [I h,I i,AV.t (T.ab 2 d j),I k],AV.t (T.ptr [T.int i64 e])] []) λl=>aa none l.head? λx=>aa none (T.int? i64
 x) λn=>aa none l.tail.head? λx=>aa none (T.int? i64 x) λA=>aa none l.tail.tail.head? λx=>aa none (T.an 2 x) λp=>aa none l.tail.tail.tail.head? λx=>aa none (T.int?
 i64 x) λB=>O hP [AV.ref (Id.c 0) 0,AV.ref (Id.c 1) 0,AV.ref (Id.c 2) 0,AV.ref (Id.c 3) 0,AV.ref (Id.c 4) 0,AV.fn 23 [] [AV.ref (Id.c 5) 0],AV.ref (Id.c 6) 0,AV.t (T.ab 3 m s),I u,I v,
 I w,I e,AV.t (T.ab 5 b a),I (↑a.length:Int),I (0:Int)] [ad.box [AV.t (T.ab 5 o y)],ad.box [AV.t (T.af q)],ad.box [I f,I g],ad.box [AV.own (Id.c 7)],ad.box [AV.t (T.ab 5 b
 a),I h,I i,AV.t (T.ab 2 d j),I k],ad.cE [T.int i64 e],ad.box [AV.t (T.af true),I n,I A,AV.t (T.ab 2 p.fst p.snd),I B],ad.sl false 5 r z] else O jq [AV.ref (Id.c 0)
 0,AV.ref (Id.c 1) 0,AV.ref (Id.c 2) 0,AV.ref (Id.c 3) 0,AV.t (T.ab 3 m s),I u,I (i64.wrap (v+ (1:Int)))] [ad.box [AV.t (T.ab 5 o y)],ad.box [AV.t (T.af q)],ad.box [I f,I g],
 ad.box [AV.own (Id.c 4)],ad.sl false 5 r z]):=by kernel_rfl
theorem Fg(O:aq)(a:Int)(c:Int)(b:Bool)(d:List (List T))(e:Int)(f:Int):ax ak ann O (Key.call 23) [(AV.agg [(I a),(I c),(AV.t (T.ab 2 b d)),(I e)]),(AV.t (T.ptr [(T.int i64 f)]))] []=
 (aa none (if f < (0:Int) then none else some ()) λx=>aa none (O (Key.call 24) [AV.t (T.int i64 (i64.wrap (↑(BitVec.ofInt 64 (a.fdiv ((2:Int) ^ min f.toNat 64)) &&& BitVec.ofInt 64 (1:
 Int)).toNat:Int)))] []) λl=>aa none l.head? λx=>aa none (T.int? i64 x) λn=>aa none l.tail.head? λx=>aa none (T.int? i64 x) λg=>aa none l.tail.tail.head? λx=>aa none
 (T.an 2 x) λp=>aa none l.tail.tail.tail.head? λx=>aa none (T.int? i64 x) λh=>some [T.int i64 n,T.int i64 g,T.ab 2 p.fst p.snd,T.int i64 h]):=by kernel_rfl
theorem zY(O:aq)(v:Bool)(C:List (List T))(D:Int)(E:Int)(F:Int)(G:Int)(B:Bool)(w:List (List T))(H:Int)(a:Int)(y:Bool)(L:List (List T))(z:Bool)(g:Int)(h:Int)(A:Bool)(b:Bool)(i:List (List T))(j:Int)(k:Int)(d:Bool)(m:List (List T))(o:Int)(M:Int)(e:Bool)(q:Int)(r:Int)(f:Bool)(s:List (List T))(u:Int):ax ak ann O hP [(AV.ref (Id.c 0) 0),(AV.ref (Id.c 1) 0),(AV.ref (Id.c 2) 0),(AV.ref (Id.c 3) 0),(AV.ref (Id.c 4) 0),(AV.fn 23 [] [(AV.ref (Id.c 5) 0)]),(AV.ref (Id.c 6) 0),(AV.t (T.ab 3 v C)),(I D),(I E),(I F),(I G),(AV.t (T.ab 5 B w)),(I H),(I a)] [(ad.box [(AV.t (T.ab 5 y L))]),(ad.box [(AV.t (T.af z))]),(ad.box [(I g),(I h)]),(ad.box [(AV.t (T.af A))]),(ad.box [(AV.t (T.ab 5 b i)),(I j),(I k),(AV.t (T.ab 2 d m)),(I o)]),(ad.cE [(T.int i64 M)]),(ad.box [(AV.t (T.af e)),(I q),(I r),(AV.t (T.ab 2 f s)),(I u)])]=
 (bif decide (a < H) then aa none (if(0:Int)<=a/\a < (↑w.length:Int) then some () else none) λx=>aa none w[a.toNat]? λl=>aa none l.head? λx=>aa none l.tail.head? λS=>aa none
 l.tail.tail.head? λU=>aa none l.tail.tail.tail.head? λV=>aa none l.tail.tail.tail.tail.head? λW=>aa none (T.an 1 x) λp=>aa none (T.int? i64 S) λn=>aa none (T.int?
 i64 U) λN=>aa none (T.an 2 V) λJ=>aa none (T.int? i64 W) λP=>aa none (O (Key.call 25) [AV.t (T.ab 1 p.fst p.snd)] []) λl=>aa none l.head? λx=>aa none (T.an 1
 x) λp=>aa none (O (Key.call 23) [AV.agg [I n,I N,AV.t (T.ab 2 J.fst J.snd),I P],AV.t (T.ptr [T.int i64 M])] []) λl=>aa none l.head? λx=>aa none (T.int? i64 x) λn=>aa
 none l.tail.head? λx=>aa none (T.int? i64 x) λQ=>aa none l.tail.tail.head? λx=>aa none (T.an 2 x) λK=>aa none l.tail.tail.tail.head? λx=>aa none (T.int? i64 x) λR
 =>O hP [AV.ref (Id.c 0) 0,AV.ref (Id.c 1) 0,AV.ref (Id.c 2) 0,AV.ref (Id.c 3) 0,AV.ref (Id.c 4) 0,AV.fn 23 [] [AV.ref (Id.c 5) 0],AV.ref (Id.c 6) 0,AV.t (T.ab 3 v C),I D,I E,I F,I G,AV.t
 (T.ab 5 B w),I H,I (i64.wrap (a+ (1:Int)))] [ad.box [AV.t (T.ab 5 y L)],ad.box [AV.t (T.af z)],ad.box [I g,I h],ad.box [AV.t (T.af A)],ad.box [AV.t (T.ab 5 b i),I
 j,I k,AV.t (T.ab 2 d m),I o],ad.cE [T.int i64 M],ad.box [AV.own (Id.c 7),I q,I r,AV.t (T.ab 2 f s),I u],ad.sl false 5 (e && false) [[T.ab 1 p.fst p.snd,T.int
 i64 n,T.int i64 Q,T.ab 2 K.fst K.snd,T.int i64 R]]] else O hJ [AV.ref (Id.c 0) 0,AV.ref (Id.c 1) 0,AV.ref (Id.c 2) 0,AV.ref (Id.c 3) 0,AV.ref (Id.c 4) 0,AV.t (T.ab 3 v C),
 I D,I E,I F,I (i64.wrap (G+ (1:Int)))] [ad.box [AV.t (T.ab 5 y L)],ad.box [AV.t (T.af z)],ad.box [I g,I h],ad.box [AV.own (Id.c 5)],ad.box [AV.t (T.ab 5 b i),I j,I
 k,AV.t (T.ab 2 d m),I o],ad.sl false 5 (A && false) [[T.af e,T.int i64 q,T.int i64 r,T.ab 2 f s,T.int i64 u]]]):=by kernel_rfl
theorem Fz(O:aq)(e:Bool)(f:List (List T))(b:ByteArray)(a:Bool)(c:List (List T))(d:Int):ax ak ann O (Key.call 45) [(AV.t (T.ab 5 e f)),(AV.fn 46 [] [(AV.t (T.ptr [(T.str b),(T.ab 1 a c),(T.int i64 d)]))])] []=
 (aa none (O (Key.call 85) [AV.t (T.ab 5 e f),AV.fn 46 [] [AV.t (T.ptr [T.str b,T.ab 1 a c,T.int i64 d])]] []) λl=>aa none l.head? λx=>aa none (T.int? i64 x) λn=>
 some [T.bool (decide (n>=(0:Int)))]):=by kernel_rfl
theorem FA(O:aq)(a:Bool)(b:List (List T)):ax ak ann O (Key.call 45) [(AV.t (T.ab 5 a b)),(AV.fn 47 [] [])] []=
 (aa none (O (Key.call 85) [AV.t (T.ab 5 a b),AV.fn 47 [] []] []) λl=>aa none l.head? λx=>aa none (T.int? i64 x) λn=>some [T.bool (decide (n>=(0:Int)))]):=by kernel_rfl
theorem vg(O:aq)(s:Bool)(r:List (List T))(u:Int)(a:Int)(i:ByteArray)(g:Bool)(j:List (List T))(f:Int)(d:Bool)(e:List (List T))(k:Int)(m:Int)(h:Bool)(o:List (List T))(q:Int):ax ak ann O rN [(AV.ref (Id.c 0) 0),(AV.ref (Id.c 1) 0),(AV.t (T.ab 5 s r)),(I u),(I a)] [(ad.box [(AV.t (T.str i)),(AV.t (T.ab 1 g j)),(I f)]),(ad.box [(AV.t (T.ab 5 d e)),(I k),(I m),(AV.t (T.ab 2 h o)),(I q)])]=
 (bif decide (a < u) then aa none (if(0:Int)<=a/\a < (↑r.length:Int) then some () else none) λx=>aa none r[a.toNat]? λl=>aa none l.head? λx=>aa none l.tail.head? λA=>aa none
 l.tail.tail.head? λB=>aa none l.tail.tail.tail.head? λC=>aa none l.tail.tail.tail.tail.head? λD=>aa none (T.an 1 x) λp=>aa none (T.int? i64 A) λn=>aa none (T.int?
 i64 B) λy=>aa none (T.an 2 C) λv=>aa none (T.int? i64 D) λz=>aa none (fD (0:Int) a (↑e.length:Int)) λx=>aa none (O (Key.call 45) [AV.t (T.ab 5 d (sub (0
 :Int) a e)),AV.fn 51 [] [AV.t (T.ptr [T.ab 1 p.fst p.snd,T.int i64 n,T.int i64 y,T.ab 2 v.fst v.snd,T.int i64 z])]] []) λl=>aa none l.head? λx=>aa none x.bool? fun
 b=>bif b then some [T.int i64 (7:Int)] else O rN [AV.ref (Id.c 0) 0,AV.ref (Id.c 1) 0,AV.t (T.ab 5 s r),I u,I (i64.wrap (a+ (1:Int)))] [ad.box [AV.t (T.str i),AV.t (T.ab 1
 g j),I f],ad.box [AV.t (T.ab 5 d e),I k,I m,AV.t (T.ab 2 h o),I q]] else aa none (O (Key.call 53) [I f,AV.agg [I k,I m,AV.t (T.ab 2 h o),I q]] []) λl
 =>aa none l.head? λx=>aa none x.bool? λb=>aa none (cB (some !!b) (O (Key.call 45) [AV.t (T.ab 5 d e),AV.fn 54 [] [AV.t (T.ptr [T.str i,T.ab 1 g j,T.int i64 f])]] [])) λl
 =>aa (some !!b) l.head? λx=>aa (some !!b) x.bool? λw=>bif bif !b then true else w then some [T.int i64 (8:Int)] else some [T.int i64 (0:Int)]):=by kernel_rfl
theorem Fy(O:aq)(a:Int)(c:Int)(b:Bool)(d:List (List T))(e:Int)(f:Int):ax ak ann O (Key.call 37) [(AV.agg [(I a),(I c),(AV.t (T.ab 2 b d)),(I e)]),(I f)] []=
 (aa none (if u64.wrap f < (0:Int) then none else some ()) λx=>some [T.int i64 (i64.wrap (↑(BitVec.ofInt 64 (a.fdiv ((2:Int) ^ min (u64.wrap f).toNat 64)) &&& BitVec.ofInt 64
 (1:Int)).toNat:Int)),T.int i64 (1:Int),T.af true,T.int i64 (0:Int)]):=by kernel_rfl
theorem y0(O:aq)(J:Int)(K:Int)(E:Int)(b:Int)(j:Bool)(r:List (List T))(k:Bool)(s:List (List T))(m:Bool)(u:List (List T))(A:Bool)(H:List (List T))(B:Bool)(o:Bool)(a:List (List T))(v:Int)(w:Int)(q:Bool)(y:List (List T))(z:Int)(d:Bool)(f:Int)(g:Int)(e:Bool)(h:List (List T))(i:Int)(C:Bool)(D:List (List T)):ax ak ann O hF [(AV.ref (Id.c 0) 0),(AV.ref (Id.c 1) 0),(AV.ref (Id.c 2) 0),(AV.ref (Id.c 3) 0),(I J),(AV.ref (Id.c 4) 0),(I K),(I E),(AV.ref (Id.c 5) 0),(I b)] [(ad.box [(AV.t (T.ab 3 j r)),(AV.t (T.ab 5 k s)),(AV.t (T.ab 1 m u))]),(ad.box [(AV.t (T.ab 5 A H))]),(ad.box [(AV.t (T.af B))]),(ad.box [(AV.own (Id.c 6))]),(ad.box [(AV.t (T.ab 5 o a)),(I v),(I w),(AV.t (T.ab 2 q y)),(I z)]),(ad.box [(AV.t (T.af d)),(I f),(I g),(AV.t (T.ab 2 e h)),(I i)]),(ad.sl false 5 C D)]=
 (bif decide (b < (↑a.length:Int)) then aa none (if(0:Int)<=b/\b < (↑a.length:Int) then some () else none) λx=>aa none a[b.toNat]? λl=>aa none l.head? λx=>aa none (T.an 1 x)
 λp=>aa none (if(0:Int)<=b/\b < (↑a.length:Int) then some () else none) λx=>aa none a[b.toNat]? λl=>aa none (List.drop 1 l).head? λx=>aa none (List.drop 1 l).tail.head? λQ=>
 aa none (List.drop 1 l).tail.tail.head? λR=>aa none (List.drop 1 l).tail.tail.tail.head? λS=>aa none (T.int? i64 x) λn=>aa none (T.int? i64 Q) λL=>aa none (T.an 2 R)
 λF=>aa none (T.int? i64 S) λM=>aa none (O (Key.call 37) [AV.agg [I n,I L,AV.t (T.ab 2 F.fst F.snd),I M],I E] []) λl=>aa none l.head? λx=>aa none (T.int? i64 x)
 λn=>aa none l.tail.head? λx=>aa none (T.int? i64 x) λN=>aa none l.tail.tail.head? λx=>aa none (T.an 2 x) λG=>aa none l.tail.tail.tail.head? λx=>aa none (T.int? i64
 x) λP=>O hF [AV.ref (Id.c 0) 0,AV.ref (Id.c 1) 0,AV.ref (Id.c 2) 0,AV.ref (Id.c 3) 0,I J,AV.ref (Id.c 4) 0,I K,I E,AV.ref (Id.c 5) 0,I (i64.wrap (b+ (1:Int)))] [ad.box [AV.t (T.ab 3
 j r),AV.t (T.ab 5 k s),AV.t (T.ab 1 m u)],ad.box [AV.t (T.ab 5 A H)],ad.box [AV.t (T.af B)],ad.box [AV.own (Id.c 6)],ad.box [AV.t (T.ab 5 o a),I v,I w,AV.t (T.ab 2
 q y),I z],ad.box [AV.own (Id.c 7),I f,I g,AV.t (T.ab 2 e h),I i],ad.sl false 5 C D,ad.sl false 5 (d && false) [[T.ab 1 p.fst p.snd,T.int i64 n,T.int i64 N,
 T.ab 2 G.fst G.snd,T.int i64 P]]] else aa none (bg 72 (D.length+ [[T.af d,T.int i64 f,T.int i64 g,T.ab 2 e h,T.int i64 i]].length)) λx=>O fU
 [AV.ref (Id.c 0) 0,AV.ref (Id.c 1) 0,AV.ref (Id.c 2) 0,AV.ref (Id.c 3) 0,I J,AV.ref (Id.c 4) 0,I K,I (i64.wrap (E+ (1:Int)))] [ad.box [AV.t (T.ab 3 j r),AV.t (T.ab 5 k s),AV.t
 (T.ab 1 m u)],ad.box [AV.t (T.ab 5 A H)],ad.box [AV.t (T.af B)],ad.box [AV.own (Id.c 5)],ad.box [AV.t (T.ab 5 o a),I v,I w,AV.t (T.ab 2 q y),I z],ad.sl false 5 (C &&
 false) (D++ [[T.af d,T.int i64 f,T.int i64 g,T.ab 2 e h,T.int i64 i]])]):=by kernel_rfl
theorem vf(O:aq)(d:Int)(e:Bool)(a:List (List T))(f:Bool)(h:List (List T))(g:Bool)(i:List (List T))(r:Bool)(o:List (List T))(s:Bool)(j:Bool)(q:List (List T)):ax ak ann O kM [(AV.ref (Id.c 0) 0),(AV.ref (Id.c 1) 0),(AV.ref (Id.c 2) 0),(AV.ref (Id.c 3) 0),(I d)] [(ad.box [(AV.t (T.ab 3 e a)),(AV.t (T.ab 5 f h)),(AV.t (T.ab 1 g i))]),(ad.box [(AV.t (T.ab 5 r o))]),(ad.box [(AV.t (T.af s))]),(ad.box [(AV.own (Id.c 4))]),(ad.sl false 5 j q)]=
 (bif decide (d < (↑a.length:Int)) then aa none (if(0:Int)<=d/\d < (↑o.length:Int) then some () else none) λx=>aa none o[d.toNat]? λl=>aa none l.head? λx=>aa none l.tail.head? λw=>
 aa none l.tail.tail.head? λy=>aa none l.tail.tail.tail.head? λz=>aa none l.tail.tail.tail.tail.head? λA=>aa none (T.an 5 x) λp=>aa none (T.int? i64 w) λn=>aa none (T.int?
 i64 y) λk=>aa none (T.an 2 z) λb=>aa none (T.int? i64 A) λm=>aa none (if(0:Int)<=d/\d < (↑a.length:Int) then some () else none) λx=>aa none a[d.toNat]?
 λl=>aa none (List.drop 2 l).head? λx=>aa none (T.int? i64 x) λv=>aa none (O (Key.call 20) [I v] []) λl=>aa none l.head? λx=>aa none (T.int? i64 x) λu=>bif u== (0
 :Int) then aa none (bg 72 (q.length+ [[T.ab 5 p.fst p.snd,T.int i64 n,T.int i64 k,T.ab 2 b.fst b.snd,T.int i64 m]].length)) λx=>O fU [AV.ref (Id.c 0) 0,AV.ref (Id.c
 1) 0,AV.ref (Id.c 2) 0,AV.ref (Id.c 3) 0,I d,AV.ref (Id.c 4) 0,I u,I (0:Int)] [ad.box [AV.t (T.ab 3 e a),AV.t (T.ab 5 f h),AV.t (T.ab 1 g i)],ad.box [AV.t (T.ab 5 r o)],ad.box
 [AV.t (T.af s)],ad.box [AV.own (Id.c 5)],ad.box [AV.t (T.ab 5 p.fst p.snd),I n,I k,AV.t (T.ab 2 b.fst b.snd),I m],ad.sl false 5 (j && false) (q++ [[T.ab 5 p.fst p.snd,T.int i64 n,
 T.int i64 k,T.ab 2 b.fst b.snd,T.int i64 m]])] else O fU [AV.ref (Id.c 0) 0,AV.ref (Id.c 1) 0,AV.ref (Id.c 2) 0,AV.ref (Id.c 3) 0,I d,AV.ref (Id.c 4) 0,I u,I (0:Int)] [ad.box
 [AV.t (T.ab 3 e a),AV.t (T.ab 5 f h),AV.t (T.ab 1 g i)],ad.box [AV.t (T.ab 5 r o)],ad.box [AV.t (T.af s)],ad.box [AV.own (Id.c 5)],ad.box [AV.t (T.ab 5 p.fst p.snd),I n,I k,
 AV.t (T.ab 2 b.fst b.snd),I m],ad.sl false 5 j q] else some [T.ab 5 j q]):=by kernel_rfl
theorem y5(O:aq)(H:Int)(J:Int)(D:Int)(b:Int)(d:Bool)(k:List (List T))(e:Bool)(m:List (List T))(f:Bool)(o:List (List T))(A:Bool)(G:List (List T))(B:Bool)(C:Bool)(g:Bool)(a:List (List T))(q:Int)(r:Int)(h:Bool)(s:List (List T))(u:Int)(i:Bool)(v:Int)(w:Int)(j:Bool)(y:List (List T))(z:Int):ax ak ann O hF [(AV.ref (Id.c 0) 0),(AV.ref (Id.c 1) 0),(AV.ref (Id.c 2) 0),(AV.ref (Id.c 3) 0),(I H),(AV.ref (Id.c 4) 0),(I J),(I D),(AV.ref (Id.c 5) 0),(I b)] [(ad.box [(AV.t (T.ab 3 d k)),(AV.t (T.ab 5 e m)),(AV.t (T.ab 1 f o))]),(ad.box [(AV.t (T.ab 5 A G))]),(ad.box [(AV.t (T.af B))]),(ad.box [(AV.t (T.af C))]),(ad.box [(AV.t (T.ab 5 g a)),(I q),(I r),(AV.t (T.ab 2 h s)),(I u)]),(ad.box [(AV.t (T.af i)),(I v),(I w),(AV.t (T.ab 2 j y)),(I z)])]=
 (bif decide (b < (↑a.length:Int)) then aa none (if(0:Int)<=b/\b < (↑a.length:Int) then some () else none) λx=>aa none a[b.toNat]? λl=>aa none l.head? λx=>aa none (T.an 1 x)
 λp=>aa none (if(0:Int)<=b/\b < (↑a.length:Int) then some () else none) λx=>aa none a[b.toNat]? λl=>aa none (List.drop 1 l).head? λx=>aa none (List.drop 1 l).tail.head? λP=>
 aa none (List.drop 1 l).tail.tail.head? λQ=>aa none (List.drop 1 l).tail.tail.tail.head? λR=>aa none (T.int? i64 x) λn=>aa none (T.int? i64 P) λK=>aa none (T.an 2 Q)
 λE=>aa none (T.int? i64 R) λL=>aa none (O (Key.call 37) [AV.agg [I n,I K,AV.t (T.ab 2 E.fst E.snd),I L],I D] []) λl=>aa none l.head? λx=>aa none (T.int? i64 x)
 λn=>aa none l.tail.head? λx=>aa none (T.int? i64 x) λM=>aa none l.tail.tail.head? λx=>aa none (T.an 2 x) λF=>aa none l.tail.tail.tail.head? λx=>aa none (T.int? i64
 x) λN=>O hF [AV.ref (Id.c 0) 0,AV.ref (Id.c 1) 0,AV.ref (Id.c 2) 0,AV.ref (Id.c 3) 0,I H,AV.ref (Id.c 4) 0,I J,I D,AV.ref (Id.c 5) 0,I (i64.wrap (b+ (1:Int)))] [ad.box [AV.t (T.ab 3
 d k),AV.t (T.ab 5 e m),AV.t (T.ab 1 f o)],ad.box [AV.t (T.ab 5 A G)],ad.box [AV.t (T.af B)],ad.box [AV.t (T.af C)],ad.box [AV.t (T.ab 5 g a),I q,I r,AV.t (T.ab
 2 h s),I u],ad.box [AV.own (Id.c 6),I v,I w,AV.t (T.ab 2 j y),I z],ad.sl false 5 (i && false) [[T.ab 1 p.fst p.snd,T.int i64 n,T.int i64 M,T.ab 2 F.fst
 F.snd,T.int i64 N]]] else O fU [AV.ref (Id.c 0) 0,AV.ref (Id.c 1) 0,AV.ref (Id.c 2) 0,AV.ref (Id.c 3) 0,I H,AV.ref (Id.c 4) 0,I J,I (i64.wrap (D+ (1:Int)))] [ad.box [AV.t (T.ab 3
 d k),AV.t (T.ab 5 e m),AV.t (T.ab 1 f o)],ad.box [AV.t (T.ab 5 A G)],ad.box [AV.t (T.af B)],ad.box [AV.own (Id.c 5)],ad.box [AV.t (T.ab 5 g a),I q,I r,AV.t (T.ab 2
 h s),I u],ad.sl false 5 (C && false) [[T.af i,T.int i64 v,T.int i64 w,T.ab 2 j y,T.int i64 z]]]):=by kernel_rfl
theorem zE(O:aq)(d:Int)(g:Int)(h:Int)(e:Bool)(a:List (List T))(i:Int)(j:Int)(k:Int)(f:Bool)(b:List (List T))(m:Int):ax ak ann O rR [(AV.ref (Id.c 0) 0),(AV.ref (Id.c 1) 0),(I d)] [(ad.box [(I g),(I h),(AV.t (T.ab 2 e a)),(I i)]),(ad.box [(I j),(I k),(AV.t (T.ab 2 f b)),(I m)])]=
 (bif decide (d < (↑a.length:Int)) then aa none (if(0:Int)<=d/\d < (↑a.length:Int) then some () else none) λx=>aa none a[d.toNat]? λl=>aa none l.head? λx=>aa none l.tail.head? fun
 r=>aa none (T.int? i64 x) λn=>aa none (T.int? i64 r) λo=>aa none (if(0:Int)<=d/\d < (↑b.length:Int) then some () else none) λx=>aa none b[d.toNat]? λl=>aa
 none l.head? λx=>aa none l.tail.head? λs=>aa none (T.int? i64 x) λp=>aa none (T.int? i64 s) λq=>bif !(n==p && (o==q && true)) then some [T.bool false] else O rR
 [AV.ref (Id.c 0) 0,AV.ref (Id.c 1) 0,I (i64.wrap (d+ (1:Int)))] [ad.box [I g,I h,AV.t (T.ab 2 e a),I i],ad.box [I j,I k,AV.t (T.ab 2 f b),I m]] else some [T.bool
 true]):=by kernel_rfl
theorem Fx(O:aq)(a:Bool)(c:List (List T))(b:Bool)(d:List (List T)):ax ak ann O (Key.call 36) [(AV.t (T.ab 1 a c)),(AV.t (T.ab 1 b d))] []=
 (O rS [AV.t (T.ab 1 a c),AV.t (T.ab 1 b d),I (0:Int)] []):=by kernel_rfl
theorem zb(O:aq)(s:Bool)(k:List (List T))(u:Int)(a:Int)(h:Bool)(m:Int)(o:Int)(i:Bool)(q:Int)(d:Int)(e:Int)(b:Bool)(f:List (List T))(g:Int)(r:Bool)(v:List (List T)):ax ak ann O n6 [(AV.ref (Id.c 0) 0),(AV.ref (Id.c 1) 0),(AV.t (T.ab 5 s k)),(I u),(I a)] [(ad.box [(AV.t (T.af h)),(I m),(I o),(AV.t (T.af i)),(I q)]),(ad.box [(AV.own (Id.c 2)),(I d),(I e),(AV.t (T.ab 2 b f)),(I g)]),(ad.sl false 5 r v)]=
 (bif decide (a < u) then aa none (if(0:Int)<=a/\a < (↑k.length:Int) then some () else none) λx=>aa none k[a.toNat]? λl=>aa none l.head? λx=>aa none l.tail.head? λA=>aa none
 l.tail.tail.head? λB=>aa none l.tail.tail.tail.head? λC=>aa none l.tail.tail.tail.tail.head? λD=>aa none (T.an 1 x) λp=>aa none (T.int? i64 A) λn=>aa none (T.int?
 i64 B) λw=>aa none (T.an 2 C) λz=>aa none (T.int? i64 D) λy=>aa none (O (Key.call 25) [AV.t (T.ab 1 p.fst p.snd)] []) λl=>aa none l.head? λx=>aa none (T.an 1
 x) λp=>aa none (O (Key.call 44) [AV.t (T.ab 2 z.fst z.snd)] []) λl=>aa none l.head? λx=>aa none (T.an 2 x) λj=>aa none (bg 72 (v.length+ [[T.ab 1 p.fst p.snd,T.int i64 n,
 T.int i64 w,T.ab 2 j.fst j.snd,T.int i64 y]].length)) λx=>O n6 [AV.ref (Id.c 0) 0,AV.ref (Id.c 1) 0,AV.t (T.ab 5 s k),I u,I (i64.wrap (a+ (1:Int)))] [ad.box
 [AV.t (T.af h),I m,I o,AV.t (T.af i),I q],ad.box [AV.own (Id.c 2),I d,I e,AV.t (T.ab 2 b f),I g],ad.sl false 5 (r && false) (v++ [[T.ab 1 p.fst p.snd,T.int i64
 n,T.int i64 w,T.ab 2 j.fst j.snd,T.int i64 y]])] else some [T.ab 5 r v,T.int i64 d,T.int i64 e,T.ab 2 b f,T.int i64 g]):=by kernel_rfl
theorem zZ(O:aq)(v:Bool)(C:List (List T))(D:Int)(E:Int)(F:Int)(G:Int)(B:Bool)(w:List (List T))(H:Int)(d:Int)(y:Bool)(L:List (List T))(z:Bool)(k:Int)(m:Int)(i:Bool)(o:List (List T))(q:Int)(r:Int)(j:Bool)(s:List (List T))(u:Int)(M:Int)(a:Bool)(e:Int)(f:Int)(b:Bool)(g:List (List T))(h:Int)(A:Bool)(c7:List (List T)):ax ak ann O hP [(AV.ref (Id.c 0) 0),(AV.ref (Id.c 1) 0),(AV.ref (Id.c 2) 0),(AV.ref (Id.c 3) 0),(AV.ref (Id.c 4) 0),(AV.fn 23 [] [(AV.ref (Id.c 5) 0)]),(AV.ref (Id.c 6) 0),(AV.t (T.ab 3 v C)),(I D),(I E),(I F),(I G),(AV.t (T.ab 5 B w)),(I H),(I d)] [(ad.box [(AV.t (T.ab 5 y L))]),(ad.box [(AV.t (T.af z))]),(ad.box [(I k),(I m)]),(ad.box [(AV.own (Id.c 7))]),(ad.box [(AV.t (T.ab 5 i o)),(I q),(I r),(AV.t (T.ab 2 j s)),(I u)]),(ad.cE [(T.int i64 M)]),(ad.box [(AV.t (T.af a)),(I e),(I f),(AV.t (T.ab 2 b g)),(I h)]),(ad.sl false 5 A c7)]=
 (bif decide (d < H) then aa none (if(0:Int)<=d/\d < (↑w.length:Int) then some () else none) λx=>aa none w[d.toNat]? λl=>aa none l.head? λx=>aa none l.tail.head? λS=>aa none
 l.tail.tail.head? λU=>aa none l.tail.tail.tail.head? λV=>aa none l.tail.tail.tail.tail.head? λW=>aa none (T.an 1 x) λp=>aa none (T.int? i64 S) λn=>aa none (T.int?
 i64 U) λN=>aa none (T.an 2 V) λJ=>aa none (T.int? i64 W) λP=>aa none (O (Key.call 25) [AV.t (T.ab 1 p.fst p.snd)] []) λl=>aa none l.head? λx=>aa none (T.an 1
 x) λp=>aa none (O (Key.call 23) [AV.agg [I n,I N,AV.t (T.ab 2 J.fst J.snd),I P],AV.t (T.ptr [T.int i64 M])] []) λl=>aa none l.head? λx=>aa none (T.int? i64 x) λn=>aa
 none l.tail.head? λx=>aa none (T.int? i64 x) λQ=>aa none l.tail.tail.head? λx=>aa none (T.an 2 x) λK=>aa none l.tail.tail.tail.head? λx=>aa none (T.int? i64 x) λR
 =>O hP [AV.ref (Id.c 0) 0,AV.ref (Id.c 1) 0,AV.ref (Id.c 2) 0,AV.ref (Id.c 3) 0,AV.ref (Id.c 4) 0,AV.fn 23 [] [AV.ref (Id.c 5) 0],AV.ref (Id.c 6) 0,AV.t (T.ab 3 v C),I D,I E,I F,I G,AV.t
 (T.ab 5 B w),I H,I (i64.wrap (d+ (1:Int)))] [ad.box [AV.t (T.ab 5 y L)],ad.box [AV.t (T.af z)],ad.box [I k,I m],ad.box [AV.own (Id.c 7)],ad.box [AV.t (T.ab 5 i o),I
 q,I r,AV.t (T.ab 2 j s),I u],ad.cE [T.int i64 M],ad.box [AV.own (Id.c 8),I e,I f,AV.t (T.ab 2 b g),I h],ad.sl false 5 A c7,ad.sl false 5 (a && false)
 [[T.ab 1 p.fst p.snd,T.int i64 n,T.int i64 Q,T.ab 2 K.fst K.snd,T.int i64 R]]] else aa none (bg 72 (c7.length+ [[T.af a,T.int i64 e,T.int i64 f,
 T.ab 2 b g,T.int i64 h]].length)) λx=>O hJ [AV.ref (Id.c 0) 0,AV.ref (Id.c 1) 0,AV.ref (Id.c 2) 0,AV.ref (Id.c 3) 0,AV.ref (Id.c 4) 0,AV.t (T.ab 3 v C),I D,I E,I F,I
 (i64.wrap (G+ (1:Int)))] [ad.box [AV.t (T.ab 5 y L)],ad.box [AV.t (T.af z)],ad.box [I k,I m],ad.box [AV.own (Id.c 5)],ad.box [AV.t (T.ab 5 i o),I q,I r,AV.t (T.ab 2
 j s),I u],ad.sl false 5 (A && false) (c7++ [[T.af a,T.int i64 e,T.int i64 f,T.ab 2 b g,T.int i64 h]])]):=by kernel_rfl
theorem Fh(O:aq)(a:Int):ax ak ann O (Key.call 24) [(I a)] []=
 (some [T.int i64 a,T.int i64 (1:Int),T.af true,T.int i64 (0:Int)]):=by kernel_rfl
theorem z6(O:aq)(u:Bool)(D:List (List T))(E:Int)(F:Int)(G:Int)(H:Int)(C:Bool)(w:List (List T))(J:Int)(a:Int)(y:Bool)(N:List (List T))(z:Bool)(f:Int)(g:Int)(A:Bool)(b:Bool)(h:List (List T))(i:Int)(j:Int)(d:Bool)(k:List (List T))(m:Int)(P:Int)(o:Int)(q:Int)(e:Bool)(r:List (List T))(s:Int)(B:Bool)(c7:List (List T)):ax ak ann O hP [(AV.ref (Id.c 0) 0),(AV.ref (Id.c 1) 0),(AV.ref (Id.c 2) 0),(AV.ref (Id.c 3) 0),(AV.ref (Id.c 4) 0),(AV.fn 23 [] [(AV.ref (Id.c 5) 0)]),(AV.ref (Id.c 6) 0),(AV.t (T.ab 3 u D)),(I E),(I F),(I G),(I H),(AV.t (T.ab 5 C w)),(I J),(I a)] [(ad.box [(AV.t (T.ab 5 y N))]),(ad.box [(AV.t (T.af z))]),(ad.box [(I f),(I g)]),(ad.box [(AV.t (T.af A))]),(ad.box [(AV.t (T.ab 5 b h)),(I i),(I j),(AV.t (T.ab 2 d k)),(I m)]),(ad.cE [(T.int i64 P)]),(ad.box [(AV.own (Id.c 7)),(I o),(I q),(AV.t (T.ab 2 e r)),(I s)]),(ad.sl false 5 B c7)]=
 (bif decide (a < J) then aa none (if(0:Int)<=a/\a < (↑w.length:Int) then some () else none) λx=>aa none w[a.toNat]? λl=>aa none l.head? λx=>aa none l.tail.head? λS=>aa none
 l.tail.tail.head? λU=>aa none l.tail.tail.tail.head? λV=>aa none l.tail.tail.tail.tail.head? λW=>aa none (T.an 1 x) λp=>aa none (T.int? i64 S) λn=>aa none (T.int?
 i64 U) λQ=>aa none (T.an 2 V) λM=>aa none (T.int? i64 W) λR=>aa none (O (Key.call 25) [AV.t (T.ab 1 p.fst p.snd)] []) λl=>aa none l.head? λx=>aa none (T.an 1
 x) λp=>aa none (O (Key.call 23) [AV.agg [I n,I Q,AV.t (T.ab 2 M.fst M.snd),I R],AV.t (T.ptr [T.int i64 P])] []) λl=>aa none l.head? λx=>aa none (T.int? i64 x) λn=>aa
 none l.tail.head? λx=>aa none (T.int? i64 x) λK=>aa none l.tail.tail.head? λx=>aa none (T.an 2 x) λv=>aa none l.tail.tail.tail.head? λx=>aa none (T.int? i64 x) λL
 =>aa none (bg 72 (c7.length+ [[T.ab 1 p.fst p.snd,T.int i64 n,T.int i64 K,T.ab 2 v.fst v.snd,T.int i64 L]].length)) λx=>O hP [AV.ref (Id.c 0) 0,AV.ref (Id.c 1) 0,
 AV.ref (Id.c 2) 0,AV.ref (Id.c 3) 0,AV.ref (Id.c 4) 0,AV.fn 23 [] [AV.ref (Id.c 5) 0],AV.ref (Id.c 6) 0,AV.t (T.ab 3 u D),I E,I F,I G,I H,AV.t (T.ab 5 C w),I J,I (i64.wrap (a+
 (1:Int)))] [ad.box [AV.t (T.ab 5 y N)],ad.box [AV.t (T.af z)],ad.box [I f,I g],ad.box [AV.t (T.af A)],ad.box [AV.t (T.ab 5 b h),I i,I j,AV.t (T.ab 2 d k),I m],
 ad.cE [T.int i64 P],ad.box [AV.own (Id.c 7),I o,I q,AV.t (T.ab 2 e r),I s],ad.sl false 5 (B && false) (c7++ [[T.ab 1 p.fst p.snd,T.int i64 n,T.int i64 K,T.ab
 2 v.fst v.snd,T.int i64 L]])] else O hJ [AV.ref (Id.c 0) 0,AV.ref (Id.c 1) 0,AV.ref (Id.c 2) 0,AV.ref (Id.c 3) 0,AV.ref (Id.c 4) 0,AV.t (T.ab 3 u D),I E,I F,I G,I (i64.wrap
 (H+ (1:Int)))] [ad.box [AV.t (T.ab 5 y N)],ad.box [AV.t (T.af z)],ad.box [I f,I g],ad.box [AV.own (Id.c 5)],ad.box [AV.t (T.ab 5 b h),I i,I j,AV.t (T.ab 2 d k),I
 m],ad.sl false 5 (A && false) [[T.ab 5 B c7,T.int i64 o,T.int i64 q,T.ab 2 e r,T.int i64 s]]]):=by kernel_rfl
theorem GG(O:aq)(e:Bool)(f:List (List T))(b:ByteArray)(a:Bool)(c:List (List T))(d:Int):ax ak ann O (Key.call 85) [(AV.t (T.ab 5 e f)),(AV.fn 46 [] [(AV.t (T.ptr [(T.str b),(T.ab 1 a c),(T.int i64 d)]))])] []=
 (O fW [AV.t (T.ab 5 e f),AV.fn 46 [] [AV.t (T.ptr [T.str b,T.ab 1 a c,T.int i64 d])],I (↑f.length:Int),I (0:Int)] []):=by kernel_rfl
theorem GH(O:aq)(a:Bool)(b:List (List T)):ax ak ann O (Key.call 85) [(AV.t (T.ab 5 a b)),(AV.fn 47 [] [])] []=
 (O fW [AV.t (T.ab 5 a b),AV.fn 47 [] [],I (↑b.length:Int),I (0:Int)] []):=by kernel_rfl
theorem FC(O:aq)(h:Bool)(i:List (List T))(a:Bool)(c:List (List T))(d:Int)(e:Int)(b:Bool)(f:List (List T))(g:Int):ax ak ann O (Key.call 45) [(AV.t (T.ab 5 h i)),(AV.fn 51 [] [(AV.t (T.ptr [(T.ab 1 a c),(T.int i64 d),(T.int i64 e),(T.ab 2 b f),(T.int i64 g)]))])] []=
 (aa none (O (Key.call 85) [AV.t (T.ab 5 h i),AV.fn 51 [] [AV.t (T.ptr [T.ab 1 a c,T.int i64 d,T.int i64 e,T.ab 2 b f,T.int i64 g])]] []) λl=>aa none
 l.head? λx=>aa none (T.int? i64 x) λn=>some [T.bool (decide (n>=(0:Int)))]):=by kernel_rfl
theorem FP(O:aq)(f:Int)(a:Int)(e:Int)(g:Bool)(c:List (List T))(d:Int):ax ak ann O (Key.call 53) [(I f),(AV.agg [(I a),(I e),(AV.t (T.ab 2 g c)),(I d)])] []=
 (bif f== (5:Int) then aa none (O (Key.call 87) [AV.agg [I a,I e,AV.t (T.ab 2 g c),I d]] []) λl=>aa none l.head? λx=>aa none x.bool? λb=>some [T.bool b] else aa none (cB (some
 !bif decide ((↑c.length:Int) > (0:Int)) then true else !d== (0:Int)) (O (Key.call 88) [AV.agg [I a,I e]] [])) λl=>aa (some !bif decide ((↑c.length:Int) > (0:Int)) then true else !d==
 (0:Int)) l.head? λx=>aa (some !bif decide ((↑c.length:Int) > (0:Int)) then true else !d== (0:Int)) (T.int? i64 x) λn=>aa (some !bif decide ((↑c.length:Int) > (0:Int)) then true
 else !d== (0:Int)) l.tail.head? λx=>aa (some !bif decide ((↑c.length:Int) > (0:Int)) then true else !d== (0:Int)) (T.int? i64 x) λh=>bif bif bif bif decide ((↑c.length:Int) >
 (0:Int)) then true else !d== (0:Int) then true else !n== (0:Int) then true else bif !f== (3:Int) then !e== (1:Int) else false then some [T.bool false] else bif f== (1:Int) then some [T.bool (bif
 a== (0:Int) then true else a== (1:Int))] else bif f== (4:Int) then aa none (O (Key.call 50) [I a] []) λl=>aa none l.head? λx=>aa none x.bool? λb=>some [T.bool b] else aa none (O
 (Key.call 21) [I f] []) λl=>aa none l.head? λx=>aa none x.bool? λb=>bif b then aa (some (decide (a>=(0:Int)))) (if i64.wrap (f - (10:Int)) < (0:Int) then none else some ()) λx=>
 some [T.bool (bif decide (a>=(0:Int)) then decide (a < i64.wrap ((1:Int) * (2:Int) ^ min (i64.wrap (f - (10:Int))).toNat 64)) else false)] else some [T.bool true]):=by kernel_rfl
theorem FD(O:aq)(e:Bool)(f:List (List T))(b:ByteArray)(a:Bool)(c:List (List T))(d:Int):ax ak ann O (Key.call 45) [(AV.t (T.ab 5 e f)),(AV.fn 54 [] [(AV.t (T.ptr [(T.str b),(T.ab 1 a c),(T.int i64 d)]))])] []=
 (aa none (O (Key.call 85) [AV.t (T.ab 5 e f),AV.fn 54 [] [AV.t (T.ptr [T.str b,T.ab 1 a c,T.int i64 d])]] []) λl=>aa none l.head? λx=>aa none (T.int? i64 x) λn=>
 some [T.bool (decide (n>=(0:Int)))]):=by kernel_rfl
theorem y6(O:aq)(L:Int)(M:Int)(F:Int)(b:Int)(i:Bool)(q:List (List T))(j:Bool)(r:List (List T))(k:Bool)(s:List (List T))(B:Bool)(K:List (List T))(C:Bool)(m:Bool)(a:List (List T))(u:Int)(v:Int)(o:Bool)(w:List (List T))(y:Int)(e:Int)(f:Int)(d:Bool)(g:List (List T))(h:Int)(D:Bool)(E:List (List T))(z:Bool)(c7:List (List T)):ax ak ann O hF [(AV.ref (Id.c 0) 0),(AV.ref (Id.c 1) 0),(AV.ref (Id.c 2) 0),(AV.ref (Id.c 3) 0),(I L),(AV.ref (Id.c 4) 0),(I M),(I F),(AV.ref (Id.c 5) 0),(I b)] [(ad.box [(AV.t (T.ab 3 i q)),(AV.t (T.ab 5 j r)),(AV.t (T.ab 1 k s))]),(ad.box [(AV.t (T.ab 5 B K))]),(ad.box [(AV.t (T.af C))]),(ad.box [(AV.own (Id.c 6))]),(ad.box [(AV.t (T.ab 5 m a)),(I u),(I v),(AV.t (T.ab 2 o w)),(I y)]),(ad.box [(AV.own (Id.c 7)),(I e),(I f),(AV.t (T.ab 2 d g)),(I h)]),(ad.sl false 5 D E),(ad.sl false 5 z c7)]=
 (bif decide (b < (↑a.length:Int)) then aa none (if(0:Int)<=b/\b < (↑a.length:Int) then some () else none) λx=>aa none a[b.toNat]? λl=>aa none l.head? λx=>aa none (T.an 1 x)
 λp=>aa none (if(0:Int)<=b/\b < (↑a.length:Int) then some () else none) λx=>aa none a[b.toNat]? λl=>aa none (List.drop 1 l).head? λx=>aa none (List.drop 1 l).tail.head? λQ=>
 aa none (List.drop 1 l).tail.tail.head? λR=>aa none (List.drop 1 l).tail.tail.tail.head? λS=>aa none (T.int? i64 x) λn=>aa none (T.int? i64 Q) λN=>aa none (T.an 2 R)
 λJ=>aa none (T.int? i64 S) λP=>aa none (O (Key.call 37) [AV.agg [I n,I N,AV.t (T.ab 2 J.fst J.snd),I P],I F] []) λl=>aa none l.head? λx=>aa none (T.int? i64 x)
 λn=>aa none l.tail.head? λx=>aa none (T.int? i64 x) λG=>aa none l.tail.tail.head? λx=>aa none (T.an 2 x) λA=>aa none l.tail.tail.tail.head? λx=>aa none (T.int? i64
 x) λH=>aa none (bg 72 (c7.length+ [[T.ab 1 p.fst p.snd,T.int i64 n,T.int i64 G,T.ab 2 A.fst A.snd,T.int i64 H]].length)) λx=>O hF [AV.ref (Id.c 0) 0,AV.ref (Id.c
 1) 0,AV.ref (Id.c 2) 0,AV.ref (Id.c 3) 0,I L,AV.ref (Id.c 4) 0,I M,I F,AV.ref (Id.c 5) 0,I (i64.wrap (b+ (1:Int)))] [ad.box [AV.t (T.ab 3 i q),AV.t (T.ab 5 j r),AV.t (T.ab 1
 k s)],ad.box [AV.t (T.ab 5 B K)],ad.box [AV.t (T.af C)],ad.box [AV.own (Id.c 6)],ad.box [AV.t (T.ab 5 m a),I u,I v,AV.t (T.ab 2 o w),I y],ad.box [AV.own (Id.c 7),I
 e,I f,AV.t (T.ab 2 d g),I h],ad.sl false 5 D E,ad.sl false 5 (z && false) (c7++ [[T.ab 1 p.fst p.snd,T.int i64 n,T.int i64 G,T.ab 2 A.fst A.snd,T.int i64
 H]])] else aa none (bg 72 (E.length+ [[T.ab 5 z c7,T.int i64 e,T.int i64 f,T.ab 2 d g,T.int i64 h]].length)) λx=>O fU [AV.ref (Id.c 0) 0,AV.ref (Id.c 1) 0,
 AV.ref (Id.c 2) 0,AV.ref (Id.c 3) 0,I L,AV.ref (Id.c 4) 0,I M,I (i64.wrap (F+ (1:Int)))] [ad.box [AV.t (T.ab 3 i q),AV.t (T.ab 5 j r),AV.t (T.ab 1 k s)],ad.box [AV.t (T.ab
 5 B K)],ad.box [AV.t (T.af C)],ad.box [AV.own (Id.c 5)],ad.box [AV.t (T.ab 5 m a),I u,I v,AV.t (T.ab 2 o w),I y],ad.sl false 5 (D && false) (E++ [[T.ab 5 z c7,T.int
 i64 e,T.int i64 f,T.ab 2 d g,T.int i64 h]])]):=by kernel_rfl
theorem y7(O:aq)(L:Int)(M:Int)(F:Int)(b:Int)(d:Bool)(j:List (List T))(e:Bool)(k:List (List T))(f:Bool)(m:List (List T))(A:Bool)(K:List (List T))(B:Bool)(C:Bool)(g:Bool)(a:List (List T))(o:Int)(q:Int)(h:Bool)(r:List (List T))(s:Int)(u:Int)(v:Int)(i:Bool)(w:List (List T))(y:Int)(D:Bool)(E:List (List T)):ax ak ann O hF [(AV.ref (Id.c 0) 0),(AV.ref (Id.c 1) 0),(AV.ref (Id.c 2) 0),(AV.ref (Id.c 3) 0),(I L),(AV.ref (Id.c 4) 0),(I M),(I F),(AV.ref (Id.c 5) 0),(I b)] [(ad.box [(AV.t (T.ab 3 d j)),(AV.t (T.ab 5 e k)),(AV.t (T.ab 1 f m))]),(ad.box [(AV.t (T.ab 5 A K))]),(ad.box [(AV.t (T.af B))]),(ad.box [(AV.t (T.af C))]),(ad.box [(AV.t (T.ab 5 g a)),(I o),(I q),(AV.t (T.ab 2 h r)),(I s)]),(ad.box [(AV.own (Id.c 6)),(I u),(I v),(AV.t (T.ab 2 i w)),(I y)]),(ad.sl false 5 D E)]=
 (bif decide (b < (↑a.length:Int)) then aa none (if(0:Int)<=b/\b < (↑a.length:Int) then some () else none) λx=>aa none a[b.toNat]? λl=>aa none l.head? λx=>aa none (T.an 1 x)
 λp=>aa none (if(0:Int)<=b/\b < (↑a.length:Int) then some () else none) λx=>aa none a[b.toNat]? λl=>aa none (List.drop 1 l).head? λx=>aa none (List.drop 1 l).tail.head? λQ=>
 aa none (List.drop 1 l).tail.tail.head? λR=>aa none (List.drop 1 l).tail.tail.tail.head? λS=>aa none (T.int? i64 x) λn=>aa none (T.int? i64 Q) λN=>aa none (T.an 2 R)
 λJ=>aa none (T.int? i64 S) λP=>aa none (O (Key.call 37) [AV.agg [I n,I N,AV.t (T.ab 2 J.fst J.snd),I P],I F] []) λl=>aa none l.head? λx=>aa none (T.int? i64 x)
 λn=>aa none l.tail.head? λx=>aa none (T.int? i64 x) λG=>aa none l.tail.tail.head? λx=>aa none (T.an 2 x) λz=>aa none l.tail.tail.tail.head? λx=>aa none (T.int? i64
 x) λH=>aa none (bg 72 (E.length+ [[T.ab 1 p.fst p.snd,T.int i64 n,T.int i64 G,T.ab 2 z.fst z.snd,T.int i64 H]].length)) λx=>O hF [AV.ref (Id.c 0) 0,AV.ref (Id.c
 1) 0,AV.ref (Id.c 2) 0,AV.ref (Id.c 3) 0,I L,AV.ref (Id.c 4) 0,I M,I F,AV.ref (Id.c 5) 0,I (i64.wrap (b+ (1:Int)))] [ad.box [AV.t (T.ab 3 d j),AV.t (T.ab 5 e k),AV.t (T.ab 1
 f m)],ad.box [AV.t (T.ab 5 A K)],ad.box [AV.t (T.af B)],ad.box [AV.t (T.af C)],ad.box [AV.t (T.ab 5 g a),I o,I q,AV.t (T.ab 2 h r),I s],ad.box [AV.own (Id.c 6),I
 u,I v,AV.t (T.ab 2 i w),I y],ad.sl false 5 (D && false) (E++ [[T.ab 1 p.fst p.snd,T.int i64 n,T.int i64 G,T.ab 2 z.fst z.snd,T.int i64 H]])] else O fU
 [AV.ref (Id.c 0) 0,AV.ref (Id.c 1) 0,AV.ref (Id.c 2) 0,AV.ref (Id.c 3) 0,I L,AV.ref (Id.c 4) 0,I M,I (i64.wrap (F+ (1:Int)))] [ad.box [AV.t (T.ab 3 d j),AV.t (T.ab 5 e k),AV.t
 (T.ab 1 f m)],ad.box [AV.t (T.ab 5 A K)],ad.box [AV.t (T.af B)],ad.box [AV.own (Id.c 5)],ad.box [AV.t (T.ab 5 g a),I o,I q,AV.t (T.ab 2 h r),I s],ad.sl false 5 (C &&
 false) [[T.ab 5 D E,T.int i64 u,T.int i64 v,T.ab 2 i w,T.int i64 y]]]):=by kernel_rfl
theorem vt(O:aq)(d:Bool)(c:List (List T))(e:Bool)(b:List (List T))(a:Int):ax ak ann O rS [(AV.t (T.ab 1 d c)),(AV.t (T.ab 1 e b)),(I a)] []=
 (bif decide (a < (↑c.length:Int)) then aa (some !decide (a>=(↑b.length:Int))) (if(0:Int)<=a/\a < (↑c.length:Int) then some () else none) λx=>aa (some !decide (a>=(↑b.length:Int)))
 c[a.toNat]? λl=>aa (some !decide (a>=(↑b.length:Int))) l.head? λx=>aa (some !decide (a>=(↑b.length:Int))) (T.int? i64 x) λn=>aa (some !decide (a>=(↑b.length:Int))) (if(0:Int)
 <=a/\a < (↑b.length:Int) then some () else none) λx=>aa (some !decide (a>=(↑b.length:Int))) b[a.toNat]? λl=>aa (some !decide (a>=(↑b.length:Int))) l.head? λx=>aa (some !decide (a>=
 (↑b.length:Int))) (T.int? i64 x) λf=>bif bif decide (a>=(↑b.length:Int)) then true else !n==f then some [T.bool false] else O rS [AV.t (T.ab 1 d c),AV.t (T.ab 1 e b),I
 (i64.wrap (a+ (1:Int)))] [] else some [T.bool ((↑c.length:Int)== (↑b.length:Int))]):=by kernel_rfl
theorem z7(O:aq)(u:Bool)(D:List (List T))(E:Int)(F:Int)(G:Int)(H:Int)(C:Bool)(y:List (List T))(J:Int)(b:Int)(z:Bool)(N:List (List T))(A:Bool)(j:Int)(k:Int)(h:Bool)(m:List (List T))(o:Int)(q:Int)(i:Bool)(r:List (List T))(s:Int)(P:Int)(d:Int)(e:Int)(a:Bool)(f:List (List T))(g:Int)(B:Bool)(c7:List (List T))(v:Bool)(c8:List (List T)):ax ak ann O hP [(AV.ref (Id.c 0) 0),(AV.ref (Id.c 1) 0),(AV.ref (Id.c 2) 0),(AV.ref (Id.c 3) 0),(AV.ref (Id.c 4) 0),(AV.fn 23 [] [(AV.ref (Id.c 5) 0)]),(AV.ref (Id.c 6) 0),(AV.t (T.ab 3 u D)),(I E),(I F),(I G),(I H),(AV.t (T.ab 5 C y)),(I J),(I b)] [(ad.box [(AV.t (T.ab 5 z N))]),(ad.box [(AV.t (T.af A))]),(ad.box [(I j),(I k)]),(ad.box [(AV.own (Id.c 7))]),(ad.box [(AV.t (T.ab 5 h m)),(I o),(I q),(AV.t (T.ab 2 i r)),(I s)]),(ad.cE [(T.int i64 P)]),(ad.box [(AV.own (Id.c 8)),(I d),(I e),(AV.t (T.ab 2 a f)),(I g)]),(ad.sl false 5 B c7),(ad.sl false 5 v c8)]=
 (bif decide (b < J) then aa none (if(0:Int)<=b/\b < (↑y.length:Int) then some () else none) λx=>aa none y[b.toNat]? λl=>aa none l.head? λx=>aa none l.tail.head? λS=>aa none
 l.tail.tail.head? λU=>aa none l.tail.tail.tail.head? λV=>aa none l.tail.tail.tail.tail.head? λW=>aa none (T.an 1 x) λp=>aa none (T.int? i64 S) λn=>aa none (T.int?
 i64 U) λQ=>aa none (T.an 2 V) λM=>aa none (T.int? i64 W) λR=>aa none (O (Key.call 25) [AV.t (T.ab 1 p.fst p.snd)] []) λl=>aa none l.head? λx=>aa none (T.an 1
 x) λp=>aa none (O (Key.call 23) [AV.agg [I n,I Q,AV.t (T.ab 2 M.fst M.snd),I R],AV.t (T.ptr [T.int i64 P])] []) λl=>aa none l.head? λx=>aa none (T.int? i64 x) λn=>aa
 none l.tail.head? λx=>aa none (T.int? i64 x) λK=>aa none l.tail.tail.head? λx=>aa none (T.an 2 x) λw=>aa none l.tail.tail.tail.head? λx=>aa none (T.int? i64 x) λL
 =>aa none (bg 72 (c8.length+ [[T.ab 1 p.fst p.snd,T.int i64 n,T.int i64 K,T.ab 2 w.fst w.snd,T.int i64 L]].length)) λx=>O hP [AV.ref (Id.c 0) 0,AV.ref (Id.c 1) 0,
 AV.ref (Id.c 2) 0,AV.ref (Id.c 3) 0,AV.ref (Id.c 4) 0,AV.fn 23 [] [AV.ref (Id.c 5) 0],AV.ref (Id.c 6) 0,AV.t (T.ab 3 u D),I E,I F,I G,I H,AV.t (T.ab 5 C y),I J,I (i64.wrap (b+
 (1:Int)))] [ad.box [AV.t (T.ab 5 z N)],ad.box [AV.t (T.af A)],ad.box [I j,I k],ad.box [AV.own (Id.c 7)],ad.box [AV.t (T.ab 5 h m),I o,I q,AV.t (T.ab 2 i r),I s],
 ad.cE [T.int i64 P],ad.box [AV.own (Id.c 8),I d,I e,AV.t (T.ab 2 a f),I g],ad.sl false 5 B c7,ad.sl false 5 (v && false) (c8++ [[T.ab 1 p.fst p.snd,T.int i64 n,T.int
 i64 K,T.ab 2 w.fst w.snd,T.int i64 L]])] else aa none (bg 72 (c7.length+ [[T.ab 5 v c8,T.int i64 d,T.int i64 e,T.ab 2 a f,T.int i64
 g]].length)) λx=>O hJ [AV.ref (Id.c 0) 0,AV.ref (Id.c 1) 0,AV.ref (Id.c 2) 0,AV.ref (Id.c 3) 0,AV.ref (Id.c 4) 0,AV.t (T.ab 3 u D),I E,I F,I G,I (i64.wrap (H+ (1:Int)))]
 [ad.box [AV.t (T.ab 5 z N)],ad.box [AV.t (T.af A)],ad.box [I j,I k],ad.box [AV.own (Id.c 5)],ad.box [AV.t (T.ab 5 h m),I o,I q,AV.t (T.ab 2 i r),I s],ad.sl false 5
 (B && false) (c7++ [[T.ab 5 v c8,T.int i64 d,T.int i64 e,T.ab 2 a f,T.int i64 g]])]):=by kernel_rfl
theorem vG(O:aq)(h:Bool)(g:List (List T))(c:ByteArray)(a:Bool)(d:List (List T))(e:Int)(j:Int)(f:Int):ax ak ann O fW [(AV.t (T.ab 5 h g)),(AV.fn 46 [] [(AV.t (T.ptr [(T.str c),(T.ab 1 a d),(T.int i64 e)]))]),(I j),(I f)] []=
 (bif decide (f < j) then aa none (if(0:Int)<=f/\f < (↑g.length:Int) then some () else none) λx=>aa none g[f.toNat]? λl=>aa none l.head? λx=>aa none l.tail.head? λo=>aa none
 l.tail.tail.head? λq=>aa none l.tail.tail.tail.head? λr=>aa none l.tail.tail.tail.tail.head? λs=>aa none (T.an 1 x) λp=>aa none (T.int? i64 o) λn=>aa none (T.int?
 i64 q) λk=>aa none (T.an 2 r) λi=>aa none (T.int? i64 s) λm=>aa none (O (Key.call 46) [AV.agg [AV.t (T.ab 1 p.fst p.snd),I n,I k,AV.t (T.ab 2 i.fst i.snd),I
 m],AV.t (T.ptr [T.str c,T.ab 1 a d,T.int i64 e])] []) λl=>aa none l.head? λx=>aa none x.bool? λb=>bif b then some [T.int i64 f] else O fW [AV.t (T.ab 5 h g),
 AV.fn 46 [] [AV.t (T.ptr [T.str c,T.ab 1 a d,T.int i64 e])],I j,I (i64.wrap (f+ (1:Int)))] [] else some [T.int i64 (-1:Int)]):=by kernel_rfl
theorem vH(O:aq)(d:Bool)(c:List (List T))(f:Int)(a:Int):ax ak ann O fW [(AV.t (T.ab 5 d c)),(AV.fn 47 [] []),(I f),(I a)] []=
 (bif decide (a < f) then aa none (if(0:Int)<=a/\a < (↑c.length:Int) then some () else none) λx=>aa none c[a.toNat]? λl=>aa none l.head? λx=>aa none l.tail.head? λi=>aa none
 l.tail.tail.head? λj=>aa none l.tail.tail.tail.head? λk=>aa none l.tail.tail.tail.tail.head? λm=>aa none (T.an 1 x) λp=>aa none (T.int? i64 i) λn=>aa none (T.int?
 i64 j) λg=>aa none (T.an 2 k) λe=>aa none (T.int? i64 m) λh=>aa none (O (Key.call 47) [AV.agg [AV.t (T.ab 1 p.fst p.snd),I n,I g,AV.t (T.ab 2 e.fst e.snd),I
 h]] []) λl=>aa none l.head? λx=>aa none x.bool? λb=>bif b then some [T.int i64 a] else O fW [AV.t (T.ab 5 d c),AV.fn 47 [] [],I f,I (i64.wrap (a+ (1:Int)))] [] else some
 [T.int i64 (-1:Int)]):=by kernel_rfl
theorem GI(O:aq)(h:Bool)(i:List (List T))(a:Bool)(c:List (List T))(d:Int)(e:Int)(b:Bool)(f:List (List T))(g:Int):ax ak ann O (Key.call 85) [(AV.t (T.ab 5 h i)),(AV.fn 51 [] [(AV.t (T.ptr [(T.ab 1 a c),(T.int i64 d),(T.int i64 e),(T.ab 2 b f),(T.int i64 g)]))])] []=
 (O fW [AV.t (T.ab 5 h i),AV.fn 51 [] [AV.t (T.ptr [T.ab 1 a c,T.int i64 d,T.int i64 e,T.ab 2 b f,T.int i64 g])],I (↑i.length:Int),I (0:Int)] []):=by kernel_rfl
theorem GS(O:aq)(a:Int)(d:Int)(f:Bool)(e:List (List T))(g:Int):ax ak ann O (Key.call 87) [(AV.agg [(I a),(I d),(AV.t (T.ab 2 f e)),(I g)])] []=
 (aa none (cB (some !!(a== (0:Int) && (d== (0:Int) && true))) (O (Key.call 50) [I g] [])) λl=>aa (some !!(a== (0:Int) && (d== (0:Int) && true))) l.head? λx=>aa (some !!(a== (0:
 Int) && (d== (0:Int) && true))) x.bool? λb=>bif bif !(a== (0:Int) && (d== (0:Int) && true)) then true else !b then some [T.bool false] else O rW [AV.ref (Id.c 0) 0,AV.t (T.ab 2 f e),I
 (↑e.length:Int),I (0:Int)] [ad.box [I a,I d,AV.t (T.ab 2 f e),I g]]):=by kernel_rfl
theorem GU(O:aq)(a:Int)(b:Int):ax ak ann O (Key.call 88) [(AV.agg [(I a),(I b)])] []=
 (aa none (cB (some !bif bif bif decide (b < (1:Int)) then true else decide (b > (1073741824:Int)) then true else decide (a < (-1073741824:Int)) then true else decide (a > (1073741824:Int))) (O
 (Key.call 102) [I a] [])) λl=>aa (some !bif bif bif decide (b < (1:Int)) then true else decide (b > (1073741824:Int)) then true else decide (a < (-1073741824:Int)) then true else decide (a >
 (1073741824:Int))) l.head? λx=>aa (some !bif bif bif decide (b < (1:Int)) then true else decide (b > (1073741824:Int)) then true else decide (a < (-1073741824:Int)) then true else decide (a >
 (1073741824:Int))) (T.int? u64 x) λn=>aa none (cB (some !bif bif bif decide (b < (1:Int)) then true else decide (b > (1073741824:Int)) then true else decide (a < (-1073741824:Int)) then
 true else decide (a > (1073741824:Int))) (O (Key.call 102) [I b] [])) λl=>aa (some !bif bif bif decide (b < (1:Int)) then true else decide (b > (1073741824:Int)) then true else decide (a <
 (-1073741824:Int)) then true else decide (a > (1073741824:Int))) l.head? λx=>aa (some !bif bif bif decide (b < (1:Int)) then true else decide (b > (1073741824:Int)) then true else decide (a <
 (-1073741824:Int)) then true else decide (a > (1073741824:Int))) (T.int? u64 x) λc=>aa none (cB (some !bif bif bif decide (b < (1:Int)) then true else decide (b > (1073741824:Int)) then
 true else decide (a < (-1073741824:Int)) then true else decide (a > (1073741824:Int))) (O (Key.call 101) [AV.t (T.int u64 n),AV.t (T.int u64 c)] [])) λl=>aa (some !bif bif bif decide
 (b < (1:Int)) then true else decide (b > (1073741824:Int)) then true else decide (a < (-1073741824:Int)) then true else decide (a > (1073741824:Int))) l.head? λx=>aa (some !bif bif bif decide
 (b < (1:Int)) then true else decide (b > (1073741824:Int)) then true else decide (a < (-1073741824:Int)) then true else decide (a > (1073741824:Int))) (T.int? u64 x) λn=>bif bif bif bif
 bif decide (b < (1:Int)) then true else decide (b > (1073741824:Int)) then true else decide (a < (-1073741824:Int)) then true else decide (a > (1073741824:Int)) then true else !n== (1:Int) then some
 [T.int i64 (3:Int),T.int i64 (0:Int)] else some [T.int i64 (0:Int),T.int i64 (0:Int)]):=by kernel_rfl
theorem FN(O:aq)(a:Int):ax ak ann O (Key.call 50) [(I a)] []=
 (some [T.bool (bif decide (a>=(0:Int)) then decide (a<=(1000:Int)) else false)]):=by kernel_rfl
theorem GJ(O:aq)(e:Bool)(f:List (List T))(b:ByteArray)(a:Bool)(c:List (List T))(d:Int):ax ak ann O (Key.call 85) [(AV.t (T.ab 5 e f)),(AV.fn 54 [] [(AV.t (T.ptr [(T.str b),(T.ab 1 a c),(T.int i64 d)]))])] []=
 (O fW [AV.t (T.ab 5 e f),AV.fn 54 [] [AV.t (T.ptr [T.str b,T.ab 1 a c,T.int i64 d])],I (↑f.length:Int),I (0:Int)] []):=by kernel_rfl
theorem FE(O:aq)(c:Bool)(a:List (List T))(f:Int)(g:Int)(d:Bool)(h:List (List T))(i:Int)(j:ByteArray)(e:Bool)(b:List (List T))(k:Int):ax ak ann O (Key.call 46) [(AV.agg [(AV.t (T.ab 1 c a)),(I f),(I g),(AV.t (T.ab 2 d h)),(I i)]),(AV.t (T.ptr [(T.str j),(T.ab 1 e b),(T.int i64 k)]))] []=
 (some [T.bool !(↑a.length:Int)== (↑b.length:Int)]):=by kernel_rfl
theorem FF(O:aq)(a:Bool)(c:List (List T))(e:Int)(f:Int)(d:Bool)(g:List (List T))(h:Int):ax ak ann O (Key.call 47) [(AV.agg [(AV.t (T.ab 1 a c)),(I e),(I f),(AV.t (T.ab 2 d g)),(I h)])] []=
 (aa none (O (Key.call 48) [AV.t (T.ab 1 a c),AV.fn 49 [] []] []) λl=>aa none l.head? λx=>aa none x.bool? λb=>some [T.bool b]):=by kernel_rfl
theorem vI(O:aq)(k:Bool)(j:List (List T))(a:Bool)(d:List (List T))(e:Int)(f:Int)(c:Bool)(g:List (List T))(h:Int)(o:Int)(i:Int):ax ak ann O fW [(AV.t (T.ab 5 k j)),(AV.fn 51 [] [(AV.t (T.ptr [(T.ab 1 a d),(T.int i64 e),(T.int i64 f),(T.ab 2 c g),(T.int i64 h)]))]),(I o),(I i)] []=
 (bif decide (i < o) then aa none (if(0:Int)<=i/\i < (↑j.length:Int) then some () else none) λx=>aa none j[i.toNat]? λl=>aa none l.head? λx=>aa none l.tail.head? λs=>aa none
 l.tail.tail.head? λu=>aa none l.tail.tail.tail.head? λv=>aa none l.tail.tail.tail.tail.head? λw=>aa none (T.an 1 x) λp=>aa none (T.int? i64 s) λn=>aa none (T.int?
 i64 u) λq=>aa none (T.an 2 v) λm=>aa none (T.int? i64 w) λr=>aa none (O (Key.call 51) [AV.agg [AV.t (T.ab 1 p.fst p.snd),I n,I q,AV.t (T.ab 2 m.fst m.snd),I
 r],AV.t (T.ptr [T.ab 1 a d,T.int i64 e,T.int i64 f,T.ab 2 c g,T.int i64 h])] []) λl=>aa none l.head? λx=>aa none x.bool? λb=>bif b then some
 [T.int i64 i] else O fW [AV.t (T.ab 5 k j),AV.fn 51 [] [AV.t (T.ptr [T.ab 1 a d,T.int i64 e,T.int i64 f,T.ab 2 c g,T.int i64 h])],I o,I
 (i64.wrap (i+ (1:Int)))] [] else some [T.int i64 (-1:Int)]):=by kernel_rfl
theorem Aj(O:aq)(m:Bool)(i:List (List T))(o:Int)(a:Int)(j:Int)(k:Int)(h:Bool)(f:List (List T))(d:Int):ax ak ann O rW [(AV.ref (Id.c 0) 0),(AV.t (T.ab 2 m i)),(I o),(I a)] [(ad.box [(I j),(I k),(AV.t (T.ab 2 h f)),(I d)])]=
 (bif decide (a < o) then aa none (if(0:Int)<=a/\a < (↑i.length:Int) then some () else none) λx=>aa none i[a.toNat]? λl=>aa none l.head? λx=>aa none l.tail.head? λq=>aa none
 (T.int? i64 x) λn=>aa none (T.int? i64 q) λe=>aa none (O (Key.call 50) [I n] []) λl=>aa none l.head? λx=>aa none x.bool? λb=>aa none (cB (some !!b) (O (Key.call 50) [I
 e] [])) λl=>aa (some !!b) l.head? λx=>aa (some !!b) x.bool? λg=>aa (some (bif !bif bif !b then true else !g then true else e==d then decide (a > (0:Int)) else false)) (if(0:Int)<=
 i64.wrap (a - (1:Int))/\i64.wrap (a - (1:Int)) < (↑f.length:Int) then some () else none) λx=>aa (some (bif !bif bif !b then true else !g then true else e==d then decide (a >
 (0:Int)) else false)) f[(i64.wrap (a - (1:Int))).toNat]? λl=>aa (some (bif !bif bif !b then true else !g then true else e==d then decide (a > (0:Int)) else false)) l.head? λx=>aa
 (some (bif !bif bif !b then true else !g then true else e==d then decide (a > (0:Int)) else false)) (T.int? i64 x) λp=>bif bif bif bif !b then true else !g then true else e==d then
 true else bif decide (a > (0:Int)) then decide (n<=p) else false then some [T.bool false] else O rW [AV.ref (Id.c 0) 0,AV.t (T.ab 2 m i),I o,I (i64.wrap (a+ (1:Int)))] [ad.box [I j,I
 k,AV.t (T.ab 2 h f),I d]] else some [T.bool true]):=by kernel_rfl
theorem E6(O:aq)(a:Int):ax ak ann O (Key.call 102) [(I a)] []=
 (bif decide (a < (0:Int)) then some [T.int u64 (u64.wrap ((0:Int) - u64.wrap a))] else some [T.int u64 (u64.wrap a)]):=by kernel_rfl
theorem E4(O:aq)(a:Int)(b:Int):ax ak ann O (Key.call 101) [(AV.t (T.int u64 a)),(AV.t (T.int u64 b))] []=
 (O rL [AV.t (T.int u64 a),AV.t (T.int u64 b)] []):=by kernel_rfl
theorem vJ(O:aq)(h:Bool)(g:List (List T))(c:ByteArray)(a:Bool)(d:List (List T))(e:Int)(j:Int)(f:Int):ax ak ann O fW [(AV.t (T.ab 5 h g)),(AV.fn 54 [] [(AV.t (T.ptr [(T.str c),(T.ab 1 a d),(T.int i64 e)]))]),(I j),(I f)] []=
 (bif decide (f < j) then aa none (if(0:Int)<=f/\f < (↑g.length:Int) then some () else none) λx=>aa none g[f.toNat]? λl=>aa none l.head? λx=>aa none l.tail.head? λo=>aa none
 l.tail.tail.head? λq=>aa none l.tail.tail.tail.head? λr=>aa none l.tail.tail.tail.tail.head? λs=>aa none (T.an 1 x) λp=>aa none (T.int? i64 o) λn=>aa none (T.int?
 i64 q) λk=>aa none (T.an 2 r) λi=>aa none (T.int? i64 s) λm=>aa none (O (Key.call 54) [AV.agg [AV.t (T.ab 1 p.fst p.snd),I n,I k,AV.t (T.ab 2 i.fst i.snd),I
 m],AV.t (T.ptr [T.str c,T.ab 1 a d,T.int i64 e])] []) λl=>aa none l.head? λx=>aa none x.bool? λb=>bif b then some [T.int i64 f] else O fW [AV.t (T.ab 5 h g),
 AV.fn 54 [] [AV.t (T.ptr [T.str c,T.ab 1 a d,T.int i64 e])],I j,I (i64.wrap (f+ (1:Int)))] [] else some [T.int i64 (-1:Int)]):=by kernel_rfl
theorem FL(O:aq)(a:Bool)(b:List (List T)):ax ak ann O (Key.call 48) [(AV.t (T.ab 1 a b)),(AV.fn 49 [] [])] []=
 (aa none (O (Key.call 86) [AV.t (T.ab 1 a b),AV.fn 49 [] []] []) λl=>aa none l.head? λx=>aa none (T.int? i64 x) λn=>some [T.bool (decide (n>=(0:Int)))]):=by kernel_rfl
theorem FO(O:aq)(a:Bool)(d:List (List T))(h:Int)(i:Int)(f:Bool)(j:List (List T))(k:Int)(c:Bool)(e:List (List T))(m:Int)(n:Int)(g:Bool)(o:List (List T))(p:Int):ax ak ann O (Key.call 51) [(AV.agg [(AV.t (T.ab 1 a d)),(I h),(I i),(AV.t (T.ab 2 f j)),(I k)]),(AV.t (T.ptr [(T.ab 1 c e),(T.int i64 m),(T.int i64 n),(T.ab 2 g o),(T.int i64 p)]))] []=
 (aa none (O (Key.call 52) [AV.t (T.ab 1 a d),AV.t (T.ab 1 c e)] []) λl=>aa none l.head? λx=>aa none x.bool? λb=>some [T.bool b]):=by kernel_rfl
theorem E5(O:aq)(b:Int)(a:Int):ax ak ann O rL [(AV.t (T.int u64 b)),(AV.t (T.int u64 a))] []=
 (bif !a== (0:Int) then aa none (if a= (0:Int) then none else some ()) λx=>O rL [AV.t (T.int u64 a),AV.t (T.int u64 (b.tmod a))] [] else some [T.int u64 b]):=by kernel_rfl
theorem FQ(O:aq)(h:Bool)(j:List (List T))(c:Int)(d:Int)(a:Bool)(e:List (List T))(f:Int)(k:ByteArray)(i:Bool)(m:List (List T))(g:Int):ax ak ann O (Key.call 54) [(AV.agg [(AV.t (T.ab 1 h j)),(I c),(I d),(AV.t (T.ab 2 a e)),(I f)]),(AV.t (T.ptr [(T.str k),(T.ab 1 i m),(T.int i64 g)]))] []=
 (aa none (O (Key.call 53) [I g,AV.agg [I c,I d,AV.t (T.ab 2 a e),I f]] []) λl=>aa none l.head? λx=>aa none x.bool? λb=>some [T.bool !b]):=by kernel_rfl
theorem GQ(O:aq)(a:Bool)(b:List (List T)):ax ak ann O (Key.call 86) [(AV.t (T.ab 1 a b)),(AV.fn 49 [] [])] []=
 (O dS [AV.t (T.ab 1 a b),AV.fn 49 [] [],I (↑b.length:Int),I (0:Int)] []):=by kernel_rfl
theorem vP(O:aq)(d:Bool)(c:List (List T))(e:Int)(a:Int):ax ak ann O dS [(AV.t (T.ab 1 d c)),(AV.fn 49 [] []),(I e),(I a)] []=
 (bif decide (a < e) then aa none (if(0:Int)<=a/\a < (↑c.length:Int) then some () else none) λx=>aa none c[a.toNat]? λl=>aa none l.head? λx=>aa none (T.int? i64 x) λn=>aa none
 (O (Key.call 49) [I n] []) λl=>aa none l.head? λx=>aa none x.bool? λb=>bif b then some [T.int i64 a] else O dS [AV.t (T.ab 1 d c),AV.fn 49 [] [],I e,I (i64.wrap (a+ (1:
 Int)))] [] else some [T.int i64 (-1:Int)]):=by kernel_rfl
theorem FM(O:aq)(a:Int):ax ak ann O (Key.call 49) [(I a)] []=
 (aa none (O (Key.call 50) [I a] []) λl=>aa none l.head? λx=>aa none x.bool? λb=>some [T.bool !b]):=by kernel_rfl
theorem e4(O:aq)(ed:Bool)(d:List (List T))(en:Bool)(nd:List (List T))(eh:Bool)(f:List (List T))(em:Bool)(m:List (List T)):ax ak ann O (Key.call 4) [AV.agg [AV.t (T.ab 3 ed d),AV.t (T.ab 5 en nd),AV.t (T.ab 1 eh f)],AV.agg [AV.t (T.ab 5 em m)]] []=
 (aa none (O (Key.call 6) [] []) λl=>aa none l.head? λx=>aa none x.bool? λb=>bif !b then some [T.bool false] else aa none (O (Key.call 12) [AV.agg [AV.t (T.ab 3 ed d),AV.t (T.ab 5 en nd),AV.t (T.ab 1
 eh f)],AV.agg [AV.t (T.ab 5 em m)]] []) λl=>aa none l.head? λx=>aa none (T.an 5 x) λp=>aa none (List.drop 1 l).head? λx=>aa none (T.int? i64 x) λn=>aa none (List.drop 1
 l).tail.head? λx=>aa none (T.int? i64 x) λc=>aa none (O (Key.call 9) [AV.agg [AV.t (T.ab 3 ed d),AV.t (T.ab 5 en nd),AV.t (T.ab 1 eh f)]] []) λl=>aa none l.head? λx=>aa none (T.an
 3 x) λi=>aa none l.tail.head? λx=>aa none (T.an 5 x) λj=>aa none l.tail.tail.head? λx=>aa none (T.an 1 x) λk=>aa none (List.drop 3 l).head? λx=>aa none (T.int? i64 x)
 λg=>aa none (List.drop 3 l).tail.head? λx=>aa none (T.int? i64 x) λo=>bif g== (0:Int) then aa none (O (Key.call 8) [AV.agg [AV.t (T.ab 3 i.fst i.snd),AV.t (T.ab 5 j.fst
 j.snd),AV.t (T.ab 1 k.fst k.snd)],AV.agg [AV.t (T.ab 5 em m)]] []) λl=>aa none l.head? λx=>aa none (T.int? i64 x) λe=>aa none l.tail.head? λx=>aa none (T.int? i64 x) fun
 h=>bif !e== (0:Int) then some [T.bool (bif n==e && (c==h && true) then(↑p.snd.length:Int)== (0:Int) else false)] else aa none (O (Key.call 13) [AV.agg [AV.t (T.ab 3 ed d),AV.t (T.ab 5 en nd),
 AV.t (T.ab 1 eh f)],AV.agg [AV.t (T.ab 5 em m)]] []) λl=>aa none l.head? λx=>aa none (T.an 5 x) λa=>aa none (List.drop 1 l).head? λx=>aa none x.bool? λb=>bif !b then aa none (O
 (Key.call 14) [I (10:Int),I (0:Int)] []) λl=>aa none l.head? λx=>aa none (T.int? i64 x) λq=>aa none l.tail.head? λx=>aa none (T.int? i64 x) λr=>some [T.bool (bif n==
 q && (c==r && true) then(↑p.snd.length:Int)== (0:Int) else false)] else aa none (cB (some (n== (0:Int))) (O (Key.call 10) [AV.agg [AV.t (T.ab 5 p.fst p.snd)],AV.agg [AV.t (T.ab 5 a.fst a.snd)]]
 [])) λl=>aa (some (n== (0:Int))) l.head? λx=>aa (some (n== (0:Int))) x.bool? λb=>some [T.bool (bif n== (0:Int) then b else false)] else bif !g== (0:Int) then some [T.bool (bif n==g &&
 (c==o && true) then(↑p.snd.length:Int)== (0:Int) else false)] else aa none (O (Key.call 13) [AV.agg [AV.t (T.ab 3 ed d),AV.t (T.ab 5 en nd),AV.t (T.ab 1 eh f)],AV.agg [AV.t (T.ab 5 em m)]] []) λl
 =>aa none l.head? λx=>aa none (T.an 5 x) λa=>aa none (List.drop 1 l).head? λx=>aa none x.bool? λb=>bif !b then aa none (O (Key.call 14) [I (10:Int),I (0:Int)] []) λl=>aa none
 l.head? λx=>aa none (T.int? i64 x) λe=>aa none l.tail.head? λx=>aa none (T.int? i64 x) λh=>some [T.bool (bif n==e && (c==h && true) then(↑p.snd.length:Int)== (0:
 Int) else false)] else aa none (cB (some (n== (0:Int))) (O (Key.call 10) [AV.agg [AV.t (T.ab 5 p.fst p.snd)],AV.agg [AV.t (T.ab 5 a.fst a.snd)]] [])) λl=>aa (some (n== (0:Int))) l.head? λx=>aa
 (some (n== (0:Int))) x.bool? λb=>some [T.bool (bif n== (0:Int) then b else false)]):=by kernel_rfl
theorem e5(O:aq)(ed:Bool)(d:List (List T))(en:Bool)(nd:List (List T))(eh:Bool)(k:List (List T)):ax ak ann O (Key.call 5) [AV.agg [AV.t (T.ab 3 ed d),AV.t (T.ab 5 en nd),AV.t (T.ab 1 eh k)]] []=
 (aa none (O (Key.call 6) [] []) λl=>aa none l.head? λx=>aa none x.bool? λb=>bif !b then some [T.bool false] else aa none (O (Key.call 9) [AV.agg [AV.t (T.ab 3 ed d),AV.t (T.ab 5 en nd),AV.t (T.ab 1
 eh k)]] []) λl=>aa none l.head? λx=>aa none (T.an 3 x) λp=>aa none l.tail.head? λx=>aa none (T.an 5 x) λg=>aa none l.tail.tail.head? λx=>aa none (T.an 1 x) λh=>aa none
 (List.drop 3 l).head? λx=>aa none (T.int? i64 x) λn=>aa none (List.drop 3 l).tail.head? λx=>aa none (T.int? i64 x) λa=>aa none (O (Key.call 15) [AV.agg [AV.t (T.ab 3 ed d),AV.t
 (T.ab 5 en nd),AV.t (T.ab 1 eh k)]] []) λl=>aa none l.head? λx=>aa none (T.an 1 x) λo=>aa none l.tail.head? λx=>aa none (T.int? i64 x) λi=>aa none l.tail.tail.head? λx=>
 aa none (T.int? i64 x) λj=>bif !i== (0:Int) then aa none (cB (some (n==i && (a==j && true))) (O (Key.call 16) [AV.agg [AV.t (T.ab 3 p.fst p.snd),AV.t (T.ab 5 g.fst g.snd),AV.t
 (T.ab 1 h.fst h.snd)]] [])) λl=>aa (some (n==i && (a==j && true))) l.head? λx=>aa (some (n==i && (a==j && true))) x.bool? λb=>some [T.bool (bif n==i && (a==j && true)
 then b else false)] else aa none (O (Key.call 17) [AV.agg [AV.t (T.ab 3 ed d),AV.t (T.ab 5 en nd),AV.t (T.ab 1 eh k)]] []) λl=>aa none l.head? λx=>aa none (T.an 3 x) λq=>aa none l.tail.head?
 λx=>aa none x.bool? λb=>bif !b then aa none (O (Key.call 14) [I (10:Int),I (0:Int)] []) λl=>aa none l.head? λx=>aa none (T.int? i64 x) λe=>aa none l.tail.head? λx=>aa
 none (T.int? i64 x) λf=>aa none (cB (some (n==e && (a==f && true))) (O (Key.call 16) [AV.agg [AV.t (T.ab 3 p.fst p.snd),AV.t (T.ab 5 g.fst g.snd),AV.t (T.ab 1 h.fst h.snd)]] []))
 λl=>aa (some (n==e && (a==f && true))) l.head? λx=>aa (some (n==e && (a==f && true))) x.bool? λb=>some [T.bool (bif n==e && (a==f && true) then b else false)] else bif !n==
 (0:Int) then aa none (O (Key.call 14) [I (10:Int),I (0:Int)] []) λl=>aa none l.head? λx=>aa none (T.int? i64 x) λe=>aa none l.tail.head? λx=>aa none (T.int? i64 x) λf
 =>aa none (cB (some (n==e && (a==f && true))) (O (Key.call 16) [AV.agg [AV.t (T.ab 3 p.fst p.snd),AV.t (T.ab 5 g.fst g.snd),AV.t (T.ab 1 h.fst h.snd)]] [])) λl=>aa (some (n==e && (a
 ==f && true))) l.head? λx=>aa (some (n==e && (a==f && true))) x.bool? λb=>aa none (cB (some (bif n==e && (a==f && true) then b else false)) (O (Key.call 18) [AV.agg [AV.t (T.ab 3 ed
 d),AV.t (T.ab 5 en nd),AV.t (T.ab 1 eh k)],AV.t (T.ab 1 o.fst o.snd)] [])) λl=>aa (some (bif n==e && (a==f && true) then b else false)) l.head? λx=>aa (some (bif n==e && (a==f &&
 true) then b else false)) x.bool? λr=>some [T.bool (bif bif n==e && (a==f && true) then b else false then !r else false)] else aa none (O (Key.call 15) [AV.agg [AV.t (T.ab 3 p.fst p.snd),AV.t (T.ab
 5 g.fst g.snd),AV.t (T.ab 1 h.fst h.snd)]] []) λl=>aa none l.head? λx=>aa none (T.an 1 x) λm=>aa none l.tail.head? λx=>aa none (T.int? i64 x) λn=>aa none
 l.tail.tail.head? λx=>aa none (T.int? i64 x) λe=>aa none (cB (some !!n== (0:Int)) (O (Key.call 19) [AV.t (T.ab 3 p.fst p.snd),AV.t (T.ab 3 q.fst q.snd)] [])) λl=>aa (some !!n== (0
 :Int)) l.head? λx=>aa (some !!n== (0:Int)) x.bool? λb=>bif bif bif bif !n== (0:Int) then true else !b then true else !(↑h.snd.length:Int)== (↑k.length:Int) then true else !(↑m.snd.length:Int)
 == (↑g.snd.length:Int) then some [T.bool false] else O DT [AV.ref (Id.c 0) 0,AV.t (T.ab 1 m.fst m.snd),AV.t (T.int i64 (0:Int))] [ad.box [AV.t (T.ab 3 p.fst p.snd),AV.t (T.ab 5 g.fst
 g.snd),AV.t (T.ab 1 h.fst h.snd)]]):=by kernel_rfl
end Go.Aev.Gen
