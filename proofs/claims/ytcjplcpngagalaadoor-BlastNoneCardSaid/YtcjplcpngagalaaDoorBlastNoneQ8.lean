import Derived.Test.YtcjplcpngagalaaDoorBlastNoneQ7
set_option linter.all false
namespace Go.Aev.Gen
open Go Go.Aev Go.IntKind
noncomputable abbrev DK:Key:=bY aq 6 true 9 [(3,none),(4,none),(5,none),(9,none),(37,none),(38,none),(39,none)] (0,0)
noncomputable abbrev pF:Key:=bY aq 11 true 4 [(0,none),(1,none),(5,none)] (0,0)
noncomputable abbrev rA:Key:=bY aq 11 true 9 [(0,none),(1,none),(5,none),(6,none)] (0,0)
theorem e7(O:ay)(a:Bool)(b:List (List T))(d:Bool)(f:List (List T))(e:Bool)(g:List (List T))(h:Bool)(i:List (List T)):aA aq ann O (Key.call 6) [(AV.agg [(AV.t (T.ad 3 a b)),(AV.t (T.ad 5 d f)),(AV.t (T.ad 1 e g))]),(AV.agg [(AV.t (T.ad 5 h i))])] []=
 (aa none (O (Key.call 13) [AV.agg [AV.t (T.ad 3 a b),AV.t (T.ad 5 d f),AV.t (T.ad 1 e g)],AV.agg [AV.t (T.ad 5 h i)]] []) λl=>aa none l.head? λx=>aa none (T.int? i64 x)
 λn=>aa none l.tail.head? λx=>aa none (T.int? i64 x) λj=>bif !n== (0:Int) then some [T.af true,T.int i64 n,T.int i64 j] else aa none (O (Key.call 9) [AV.agg [AV.t (T.ad
 3 a b),AV.t (T.ad 5 d f),AV.t (T.ad 1 e g)]] []) λl=>aa none l.head? λx=>aa none (T.au 3 x) λp=>aa none l.tail.head? λx=>aa none (T.au 5 x) λp=>aa none
 l.tail.tail.head? λx=>aa none (T.au 1 x) λp=>aa none (List.drop 3 l).head? λx=>aa none (T.int? i64 x) λn=>aa none (List.drop 3 l).tail.head? λx=>aa none (T.int? i64 x) fun
 k=>bif !n== (0:Int) then some [T.af true,T.int i64 n,T.int i64 k] else O DK [AV.ref (Id.c 0) 0,AV.ref (Id.c 1) 0,AV.ref (Id.c 2) 0,AV.ref (Id.c 3) 0,AV.t (T.ad 3 a b),I (↑b.length:Int),I (0:Int)] [ab.box [AV.t (T.ad 5 h
 i)],ab.box [AV.t (T.af true)],ab.box [I (0:Int),I (0:Int)],ab.box [AV.t (T.af true)]]):=by kernel_rfl
theorem EU(O:ay)(d:Bool)(a:List (List T))(e:Bool)(b:List (List T))(f:Bool)(c:List (List T)):aA aq ann O (Key.call 10) [(AV.agg [(AV.t (T.ad 3 d a)),(AV.t (T.ad 5 e b)),(AV.t (T.ad 1 f c))])] []=
 (some [T.bool (i64.wrap (i64.wrap ((↑a.length:Int)+ (↑b.length:Int))+ (↑c.length:Int))== (0:Int))]):=by kernel_rfl
theorem EV(O:ay)(a:Bool)(c:List (List T))(b:Bool)(d:List (List T)):aA aq ann O (Key.call 11) [(AV.t (T.ad 3 a c)),(AV.t (T.ad 3 b d))] []=
 (bif !(↑c.length:Int)== (↑d.length:Int) then some [T.bool false] else O pF [AV.t (T.ad 3 a c),AV.t (T.ad 3 b d),I (0:Int)] []):=by kernel_rfl
theorem yQ(O:ay)(f:Bool)(d:List (List T))(g:Bool)(e:List (List T))(b:Int):aA aq ann O pF [(AV.t (T.ad 3 f d)),(AV.t (T.ad 3 g e)),(I b)] []=
 (bif decide (b < (↑d.length:Int)) then aa none (if(0:Int)<=b/\b < (↑d.length:Int) then some () else none) λx=>aa none d[b.toNat]? λl=>aa none l.head? λx=>aa none x.ba λs=>aa none
 (if(0:Int)<=b/\b < (↑e.length:Int) then some () else none) λx=>aa none e[b.toNat]? λl=>aa none l.head? λx=>aa none x.ba λa=>aa (some !!s.toList==a.toList) (if(0:Int)<=b/\
 b < (↑d.length:Int) then some () else none) λx=>aa (some !!s.toList==a.toList) d[b.toNat]? λl=>aa (some !!s.toList==a.toList) (List.drop 2 l).head? λx=>aa (some !!s.toList==a.toList)
 (T.int? i64 x) λn=>aa (some !!s.toList==a.toList) (if(0:Int)<=b/\b < (↑e.length:Int) then some () else none) λx=>aa (some !!s.toList==a.toList) e[b.toNat]? λl=>aa (some
 !!s.toList==a.toList) (List.drop 2 l).head? λx=>aa (some !!s.toList==a.toList) (T.int? i64 x) λc=>aa (some !bif !s.toList==a.toList then true else !n==c) (if(0:Int)<=b/\b <
 (↑d.length:Int) then some () else none) λx=>aa (some !bif !s.toList==a.toList then true else !n==c) d[b.toNat]? λl=>aa (some !bif !s.toList==a.toList then true else !n==c) (List.drop 1
 l).head? λx=>aa (some !bif !s.toList==a.toList then true else !n==c) (T.au 1 x) λp=>aa (some !bif !s.toList==a.toList then true else !n==c) (if(0:Int)<=b/\b < (↑e.length:Int) then
 some () else none) λx=>aa (some !bif !s.toList==a.toList then true else !n==c) e[b.toNat]? λl=>aa (some !bif !s.toList==a.toList then true else !n==c) (List.drop 1 l).head? λx=>aa (some
 !bif !s.toList==a.toList then true else !n==c) (T.au 1 x) λh=>bif bif bif !s.toList==a.toList then true else !n==c then true else !(↑p.snd.length:Int)== (↑h.snd.length:Int) then some
 [T.bool false] else O rA [AV.t (T.ad 3 f d),AV.t (T.ad 3 g e),I b,I (0:Int)] [] else some [T.bool true]):=by kernel_rfl
theorem yR(O:ay)(d:Bool)(c:List (List T))(e:Bool)(f:List (List T))(a:Int)(b:Int):aA aq ann O rA [(AV.t (T.ad 3 d c)),(AV.t (T.ad 3 e f)),(I a),(I b)] []=
 (aa none (if(0:Int)<=a/\a < (↑c.length:Int) then some () else none) λx=>aa none c[a.toNat]? λl=>aa none (List.drop 1 l).head? λx=>aa none (T.au 1 x) λp=>bif decide (b < (↑p.snd.length
 :Int)) then aa none (if(0:Int)<=a/\a < (↑c.length:Int) then some () else none) λx=>aa none c[a.toNat]? λl=>aa none (List.drop 1 l).head? λx=>aa none (T.au 1 x) λp=>aa none (if(0:
 Int)<=b/\b < (↑p.snd.length:Int) then some () else none) λx=>aa none p.snd[b.toNat]? λl=>aa none l.head? λx=>aa none (T.int? i64 x) λn=>aa none (if(0:Int)<=a/\a < (↑f.length
 :Int) then some () else none) λx=>aa none f[a.toNat]? λl=>aa none (List.drop 1 l).head? λx=>aa none (T.au 1 x) λp=>aa none (if(0:Int)<=b/\b < (↑p.snd.length:Int) then some () else
 none) λx=>aa none p.snd[b.toNat]? λl=>aa none l.head? λx=>aa none (T.int? i64 x) λg=>bif !n==g then some [T.bool false] else O rA [AV.t (T.ad 3 d c),AV.t (T.ad 3 e f),I
 a,I (i64.wrap (b+ (1:Int)))] [] else O pF [AV.t (T.ad 3 d c),AV.t (T.ad 3 e f),I (i64.wrap (a+ (1:Int)))] []):=by kernel_rfl
end Go.Aev.Gen
