import Derived.Test.YtdjbbnlgpddbmaaAwayAllQ6
import Derived.Test.YtdjbbnlgpddbmaaAwayAllQ18
import Derived.Test.YtdjbbnlgpddbmaaAwayAllQ5
set_option linter.all false
namespace Go.Aev.Gen
open Go Go.Aev Go.IntKind
noncomputable abbrev oK:Key:=aW aq 7 true 6 [(0,none),(1,none),(2,none),(7,none),(9,some 3),(30,none),(31,none),(32,none)] (0,0)
noncomputable abbrev yt:Key:=aW aq 9 true 4 [(0,none),(1,none),(5,none)] (0,0)
noncomputable abbrev rG:Key:=aW aq 7 true 14 [(2,none),(7,none),(9,some 3),(15,none),(66,none),(67,none),(68,none)] (0,0)
noncomputable abbrev ue:Key:=aW aq 19 true 9 [(1,none),(2,none),(3,none),(5,none),(6,none),(32,none),(33,none),(34,none)] (0,0)
noncomputable abbrev pP:Key:=aW aq 20 true 4 [(1,none),(5,none),(8,some 1000004),(9,some 1000004),(10,none),(15,none),(16,none),(17,none)] (0,0)
noncomputable abbrev rH:Key:=aW aq 7 true 17 [(2,none),(7,none),(9,some 3),(15,none),(17,none),(66,none),(67,none),(68,none),(72,none),(73,none),(74,none)] (0,0)
noncomputable abbrev um:Key:=aW aq 47 true 1 [(0,none)] (0,0)
noncomputable abbrev uo:Key:=aW aq 49 true 1 [(0,none),(1,none)] (0,0)
noncomputable abbrev oJ:Key:=aW aq 19 true 14 [(1,none),(2,none),(3,none),(5,none),(6,none),(43,none),(44,none)] (0,0)
noncomputable abbrev uw:Key:=aW aq 67 true 4 [(0,none),(1,none),(5,none)] (0,0)
noncomputable abbrev ur:Key:=aW aq 53 true 3 [(3,some 1),(6,none),(7,none),(8,none)] (0,0)
noncomputable abbrev uf:Key:=aW aq 21 true 6 [(3,none),(4,none),(6,none),(8,none),(9,none),(11,none),(38,none),(39,none)] (0,0)
noncomputable abbrev uq:Key:=aW aq 50 true 4 [(1,none),(2,none),(21,none),(22,none)] (1,0)
noncomputable abbrev uu:Key:=aW aq 54 true 1 [(0,none),(1,none)] (0,0)
noncomputable abbrev uz:Key:=aW aq 75 true 2 [(0,none),(1,none),(7,none),(8,none)] (0,0)
noncomputable abbrev rF:Key:=aW aq 55 true 4 [(0,none),(1,none),(6,none),(8,none)] (0,0)
noncomputable abbrev pQ:Key:=aW aq 55 true 12 [(0,none),(1,none),(6,none),(8,none),(11,none),(53,none),(54,none),(55,none)] (0,0)
noncomputable abbrev rE:Key:=aW aq 55 true 19 [(1,none),(6,none),(8,some 1000001),(11,none),(14,none),(15,none),(68,none),(69,none),(70,none)] (0,0)
theorem e6(O:az)(a:Bool)(b:List (List T))(d:Int)(e:Int):aD aq ann O (Key.call 7) [(AV.t (T.ae 3 a b)),(AV.t (T.int i64 d)),(AV.t (T.int i64 e))] []=
 (aa none
  (O (Key.call 18) [AV.t (T.ae 3 a b),AV.t (T.int i64 d),AV.t (T.int i64 e)] [])
  λl=>
  aa none l.head? λx=>
   aa none (T.int? i64 x) λn=>
    aa none l.tail.head? λx=>
     aa none (T.int? i64 x) λf=>
      bif !n== (0:Int) then some [T.aL true,T.int i64 n,T.int i64 f]
      else
       O
        oK
        [AV.t (T.ae 3 a b),AV.t (T.int i64 d),AV.t (T.int i64 e),
         AV.ref (Id.c 0) 0,AV.own (Id.c 1),AV.t (T.ae 3 a b),
         AV.t (T.int i64 (↑b.length:Int)),AV.t (T.int i64 (0:Int))]
        [ab.box [AV.t (T.int i64 (0:Int)),AV.t (T.int i64 (0:Int))],
         ab.sl false 3 true []]):=by kernel_rfl
theorem zr(O:az)(a:Bool)(d:List (List T))(b:Int)(c:Int):aD aq ann O (Key.call 18) [(AV.t (T.ae 3 a d)),(AV.t (T.int i64 b)),(AV.t (T.int i64 c))] []=
 (aa none (O (Key.call 10) [AV.t (T.ae 3 a d),AV.t (T.int i64 b)] []) λl=>
  aa none l.head? λx=>
   aa none (T.int? i64 x) λn=>
    aa none l.tail.head? λx=>
     aa none (T.int? i64 x) λe=>
      bif !n== (0:Int) then some [T.int i64 n,T.int i64 e]
      else
       bif bif decide (c < (0:Int)) then true else decide (c>=b) then
        some [T.int i64 (3:Int),T.int i64 (-1:Int)]
       else some [T.int i64 (0:Int),T.int i64 (0:Int)]):=by kernel_rfl
theorem zA(O:az)(i:Bool)(m:List (List T))(o:Int)(a:Int)(g:Bool)(f:List (List T))(j:Int)(b:Int)(d:Int)(e:Int)(h:Bool)(k:List (List T)):aD aq ann O oK [(AV.t (T.ae 3 i m)),(AV.t (T.int i64 o)),(AV.t (T.int i64 a)),(AV.ref (Id.c 0) 0),(AV.own (Id.c 1)),(AV.t (T.ae 3 g f)),(AV.t (T.int i64 j)),(AV.t (T.int i64 b))] [(ab.box [(AV.t (T.int i64 d)),(AV.t (T.int i64 e))]),(ab.sl false 3 h k)]=
 (bif decide (b < j) then
  aa none (if(0:Int)<=b/\b < (↑f.length:Int) then some () else none) λx=>
   aa none f[b.toNat]? λl=>
    aa none l.head? λx=>
     aa none l.tail.head? λv=>
      aa none l.tail.tail.head? λw=>
       aa none (T.aM 1 x) λp=>
        aa none (T.int? i64 v) λn=>
         aa none (T.int? i64 w) λs=>
          aa (some !decide (a>=(↑p.snd.length:Int)))
           (if(0:Int)<=a/\a < (↑p.snd.length:Int) then some () else none) λx=>
           aa (some !decide (a>=(↑p.snd.length:Int))) p.snd[a.toNat]? λl=>
            aa (some !decide (a>=(↑p.snd.length:Int))) l.head? λx=>
             aa (some !decide (a>=(↑p.snd.length:Int))) (T.int? i64 x) λu=>
              bif bif decide (a>=(↑p.snd.length:Int)) then true else u== (0:Int) then
               aa none
                (O (Key.call 19)
                 [AV.agg
                   [AV.t (T.ae 1 p.fst p.snd),AV.t (T.int i64 n),
                    AV.t (T.int i64 s)]]
                 [])
                λl=>
                aa none l.head? λx=>
                 aa none (T.aM 1 x) λp=>
                  aa none l.tail.head? λx=>
                   aa none (T.int? i64 x) λn=>
                    aa none l.tail.tail.head? λx=>
                     aa none (T.int? i64 x) λq=>
                      aa none (List.drop 3 l).head? λx=>
                       aa none (T.int? i64 x) λy=>
                        aa none (List.drop 3 l).tail.head? λx=>
                         aa none (T.int? i64 x) λz=>
                          aa none
                           (bw 40
                            (k.length+
                             [[T.ae 1 p.fst p.snd,T.int i64 n,
                                T.int i64 q]].length))
                           λx=>
                           O
                            oK
                            [AV.t (T.ae 3 i m),AV.t (T.int i64 o),
                             AV.t (T.int i64 a),AV.ref (Id.c 0) 0,
                             AV.own (Id.c 1),AV.t (T.ae 3 g f),
                             AV.t (T.int i64 j),
                             AV.t (T.int i64 (i64.wrap (b+ (1:Int))))]
                            [ab.box
                              [AV.t (T.int i64 d),
                               AV.t (T.int i64 e)],
                             ab.sl false 3 (h && false)
                              (k++
                               [[T.ae 1 p.fst p.snd,T.int i64 n,
                                 T.int i64 q]])]
              else
               O
                oK
                [AV.t (T.ae 3 i m),AV.t (T.int i64 o),AV.t (T.int i64 a),
                 AV.ref (Id.c 0) 0,AV.own (Id.c 1),
                 AV.t (T.ae 3 g f),AV.t (T.int i64 j),
                 AV.t (T.int i64 (i64.wrap (b+ (1:Int))))]
                [ab.box [AV.t (T.int i64 d),AV.t (T.int i64 e)],
                 ab.sl false 3 h k]
 else
  aa none
   (O (Key.call 20) [AV.t (T.ae 3 i m),AV.t (T.int i64 o),AV.t (T.int i64 a)]
    [])
   λl=>
   aa none l.head? λx=>
    aa none (T.aM 4 x) λp=>
     aa none l.tail.head? λx=>
      aa none (T.aM 4 x) λr=>
       O
        rG
        [AV.t (T.int i64 a),AV.ref (Id.c 0) 0,AV.own (Id.c 1),
         AV.t (T.ae 4 r.fst r.snd),AV.t (T.ae 4 p.fst p.snd),
         AV.t (T.int i64 (↑p.snd.length:Int)),AV.t (T.int i64 (0:Int))]
        [ab.box [AV.t (T.int i64 d),AV.t (T.int i64 e)],ab.sl false 3 h k]):=by kernel_rfl
theorem Ea(O:az)(e:Bool)(c:List (List T))(f:Bool)(d:List (List T))(a:Int):aD aq ann O yt [(AV.t (T.ae 3 e c)),(AV.t (T.ae 3 f d)),(AV.t (T.int i64 a))] []=
 (bif decide (a < (↑c.length:Int)) then
  aa none (if(0:Int)<=a/\a < (↑c.length:Int) then some () else none) λx=>
   aa none c[a.toNat]? λl=>
    aa none l.head? λx=>
     aa none l.tail.head? λk=>
      aa none l.tail.tail.head? λm=>
       aa none (T.aM 1 x) λp=>
        aa none (T.int? i64 k) λn=>
         aa none (T.int? i64 m) λh=>
          aa none (if(0:Int)<=a/\a < (↑d.length:Int) then some () else none) λx=>
           aa none d[a.toNat]? λl=>
            aa none l.head? λx=>
             aa none l.tail.head? λo=>
              aa none l.tail.tail.head? λq=>
               aa none (T.aM 1 x) λg=>
                aa none (T.int? i64 o) λi=>
                 aa none (T.int? i64 q) λj=>
                  aa none
                   (O (Key.call 30)
                    [AV.agg
                      [AV.t (T.ae 1 p.fst p.snd),AV.t (T.int i64 n),
                       AV.t (T.int i64 h)],
                     AV.agg
                      [AV.t (T.ae 1 g.fst g.snd),AV.t (T.int i64 i),
                       AV.t (T.int i64 j)]]
                    [])
                   λl=>
                   aa none l.head? λx=>
                    aa none x.bool? λb=>
                     bif !b then some [T.bool false]
                     else
                      O
                       yt
                       [AV.t (T.ae 3 e c),AV.t (T.ae 3 f d),
                        AV.t (T.int i64 (i64.wrap (a+ (1:Int))))]
                       []
 else some [T.bool true]):=by kernel_rfl
theorem vG(O:az)(a:Bool)(d:List (List T))(e:Int)(b:Int):aD aq ann O (Key.call 19) [(AV.agg [(AV.t (T.ae 1 a d)),(AV.t (T.int i64 e)),(AV.t (T.int i64 b))])] []=
 (aa none
  (O (Key.call 31)
   [AV.agg [AV.t (T.ae 1 a d),AV.t (T.int i64 e),AV.t (T.int i64 b)],
    AV.t (T.int i64 (12:Int))]
   [])
  λl=>
  aa none l.head? λx=>
   aa none (T.int? i64 x) λn=>
    aa none l.tail.head? λx=>
     aa none (T.int? i64 x) λg=>
      bif !n== (0:Int) then none
      else
       aa none (O (Key.call 47) [AV.t (T.ae 1 a d)] []) λl=>
        aa none l.head? λx=>
         aa none (T.aM 1 x) λp=>
          bif (↑p.snd.length:Int)== (0:Int) then
           aa none (O (Key.call 48) [AV.t (T.int i64 e),AV.t (T.int i64 b)] [])
            λl=>
            aa none l.head? λx=>
             aa none (T.aM 1 x) λp=>
              aa none l.tail.head? λx=>
               aa none (T.int? i64 x) λn=>
                aa none l.tail.tail.head? λx=>
                 aa none (T.int? i64 x) λf=>
                  some
                   [T.ae 1 p.fst p.snd,T.int i64 n,T.int i64 f,
                    T.int i64 (0:Int),T.int i64 (0:Int)]
          else
           aa none
            (O (Key.call 49) [AV.t (T.int i64 b),AV.t (T.int i64 (0:Int))] [])
            λl=>
            aa none l.head? λx=>
             aa none (T.int? i64 x) λn=>
              O
               ue
               [AV.ref (Id.c 0) 0,AV.ref (Id.c 1) 0,
                AV.ref (Id.c 2) 0,AV.own (Id.c 3),AV.t (T.int i64 n),
                AV.own (Id.c 3),AV.t (T.int i64 (↑p.snd.length:Int)),
                AV.t (T.int i64 (0:Int))]
               [ab.box
                 [AV.t (T.ae 1 a d),AV.t (T.int i64 e),
                  AV.t (T.int i64 b)],
                ab.box
                 [AV.t (T.aL true),AV.t (T.int i64 (0:Int)),
                  AV.t (T.int i64 (0:Int))],
                ab.box [AV.t (T.int i64 (0:Int)),AV.t (T.int i64 (0:Int))],
                ab.sl false 1 p.fst p.snd]):=by kernel_rfl
theorem Ld(O:az)(a:Bool)(b:List (List T))(d:Int)(e:Int):aD aq ann O (Key.call 20) [(AV.t (T.ae 3 a b)),(AV.t (T.int i64 d)),(AV.t (T.int i64 e))] []=
 (O
  pP
  [AV.t (T.int i64 d),AV.ref (Id.c 0) 0,AV.ref (Id.c 1) 0,
   AV.ref (Id.c 2) 0,
   AV.fn 51 []
    [AV.ref (Id.c 0) 0,AV.ref (Id.c 1) 0,AV.ref (Id.c 2) 0],
   AV.t (T.ae 3 a b),AV.t (T.int i64 (↑b.length:Int)),AV.t (T.int i64 (0:Int))]
  [ab.box [AV.t (T.int i64 e)],ab.box [AV.own (Id.c 3)],ab.box [AV.own (Id.c 4)],
   ab.sl false 4 true [],ab.sl false 4 true []]):=by kernel_rfl
theorem ED(O:az)(q:Int)(d:Bool)(e:List (List T))(j:Bool)(f:List (List T))(k:Int)(a:Int)(g:Int)(h:Int)(i:Bool)(m:List (List T)):aD aq ann O rG [(AV.t (T.int i64 q)),(AV.ref (Id.c 0) 0),(AV.own (Id.c 1)),(AV.t (T.ae 4 d e)),(AV.t (T.ae 4 j f)),(AV.t (T.int i64 k)),(AV.t (T.int i64 a))] [(ab.box [(AV.t (T.int i64 g)),(AV.t (T.int i64 h))]),(ab.sl false 3 i m)]=
 (bif decide (a < k) then
  aa none (if(0:Int)<=a/\a < (↑f.length:Int) then some () else none) λx=>
   aa none f[a.toNat]? λl=>
    aa none l.head? λx=>
     aa none l.tail.head? λr=>
      aa none l.tail.tail.head? λs=>
       aa none l.tail.tail.tail.head? λu=>
        aa none (T.aM 1 x) λp=>
         aa none (T.int? i64 r) λn=>
          aa none s.bool? λb=>
           aa none (T.int? i64 u) λo=>
            O
             rH
             [AV.t (T.int i64 q),AV.ref (Id.c 0) 0,AV.own (Id.c 1),
              AV.t (T.ae 4 d e),AV.ref (Id.c 2) 0,
              AV.t (T.ae 4 j f),AV.t (T.int i64 k),AV.t (T.int i64 a),
              AV.t (T.ae 4 d e),AV.t (T.int i64 (↑e.length:Int)),
              AV.t (T.int i64 (0:Int))]
             [ab.box [AV.t (T.int i64 g),AV.t (T.int i64 h)],
              ab.sl false 3 i m,
              ab.box
               [AV.t (T.ae 1 p.fst p.snd),AV.t (T.int i64 n),AV.t (T.bool b),
                AV.t (T.int i64 o)]]
 else some [T.ae 3 i m,T.int i64 (0:Int),T.int i64 (0:Int)]):=by kernel_rfl
theorem vH(O:az)(f:Bool)(h:List (List T))(a:Int)(c:Int)(g:Bool)(i:List (List T))(d:Int)(e:Int):aD aq ann O (Key.call 30) [(AV.agg [(AV.t (T.ae 1 f h)),(AV.t (T.int i64 a)),(AV.t (T.int i64 c))]),(AV.agg [(AV.t (T.ae 1 g i)),(AV.t (T.int i64 d)),(AV.t (T.int i64 e))])] []=
 (aa none
  (eD (some (bif a==d then c==e else false))
   (O (Key.call 67) [AV.t (T.ae 1 f h),AV.t (T.ae 1 g i)] []))
  λl=>
  aa (some (bif a==d then c==e else false)) l.head? λx=>
   aa (some (bif a==d then c==e else false)) x.bool? λb=>
    some [T.bool (bif bif a==d then c==e else false then b else false)]):=by kernel_rfl
theorem Lp(O:az)(a:Bool)(b:List (List T)):aD aq ann O (Key.call 47) [(AV.t (T.ae 1 a b))] []=
 (O um [AV.t (T.ae 1 a b)] []):=by kernel_rfl
theorem Lq(O:az)(a:Int)(b:Int):aD aq ann O (Key.call 48) [(AV.t (T.int i64 a)),(AV.t (T.int i64 b))] []=
 (bif bif a== (1:Int) then decide (b < (0:Int)) else false then
  some [T.aL true,T.int i64 a,T.int i64 (-1:Int)]
 else
  bif bif a== (2:Int) then decide (b > (0:Int)) else false then
   bif bif a== (2:Int) then decide (b > (0:Int)) else false then
    some [T.aL true,T.int i64 a,T.int i64 (1:Int)]
   else some [T.aL true,T.int i64 a,T.int i64 (0:Int)]
  else
   bif bif a== (3:Int) then !b== (0:Int) else false then
    some [T.aL true,T.int i64 a,T.int i64 (1:Int)]
   else some [T.aL true,T.int i64 a,T.int i64 (0:Int)]):=by kernel_rfl
theorem Lr(O:az)(a:Int)(b:Int):aD aq ann O (Key.call 49) [(AV.t (T.int i64 a)),(AV.t (T.int i64 b))] []=
 (O uo
  [AV.t (T.int i64 a),AV.t (T.int i64 b)] []):=by kernel_rfl
theorem En(O:az)(q:Int)(p:Int)(a:Int)(b:Bool)(e:List (List T))(f:Int)(g:Int)(d:Bool)(h:Int)(i:Int)(j:Int)(k:Int)(o:Bool)(m:List (List T)):aD aq ann O ue [(AV.ref (Id.c 0) 0),(AV.ref (Id.c 1) 0),(AV.ref (Id.c 2) 0),(AV.own (Id.c 3)),(AV.t (T.int i64 q)),(AV.own (Id.c 3)),(AV.t (T.int i64 p)),(AV.t (T.int i64 a))] [(ab.box [(AV.t (T.ae 1 b e)),(AV.t (T.int i64 f)),(AV.t (T.int i64 g))]),(ab.box [(AV.t (T.aL d)),(AV.t (T.int i64 h)),(AV.t (T.int i64 i))]),(ab.box [(AV.t (T.int i64 j)),(AV.t (T.int i64 k))]),(ab.sl false 1 o m)]=
 (bif decide (a < p) then
  aa none (if(0:Int)<=a/\a < (↑m.length:Int) then some () else none) λx=>
   aa none m[a.toNat]? λl=>
    aa none l.head? λx=>
     aa none (T.int? i64 x) λn=>
      aa none (O (Key.call 49) [AV.t (T.int i64 q),AV.t (T.int i64 n)] []) λl=>
       aa none l.head? λx=>
        aa none (T.int? i64 x) λn=>
         O
          ue
          [AV.ref (Id.c 0) 0,AV.ref (Id.c 1) 0,
           AV.ref (Id.c 2) 0,AV.own (Id.c 3),AV.t (T.int i64 n),
           AV.own (Id.c 3),AV.t (T.int i64 p),
           AV.t (T.int i64 (i64.wrap (a+ (1:Int))))]
          [ab.box
            [AV.t (T.ae 1 b e),AV.t (T.int i64 f),AV.t (T.int i64 g)],
           ab.box [AV.t (T.aL d),AV.t (T.int i64 h),AV.t (T.int i64 i)],
           ab.box [AV.t (T.int i64 j),AV.t (T.int i64 k)],
           ab.sl false 1 o m]
 else
  O
   oJ
   [AV.ref (Id.c 0) 0,AV.ref (Id.c 1) 0,AV.ref (Id.c 2) 0,
    AV.own (Id.c 3),AV.t (T.int i64 q),AV.t (T.int i64 (↑m.length:Int)),
    AV.t (T.int i64 (0:Int))]
   [ab.box [AV.t (T.ae 1 b e),AV.t (T.int i64 f),AV.t (T.int i64 g)],
    ab.box [AV.t (T.aL d),AV.t (T.int i64 h),AV.t (T.int i64 i)],
    ab.box [AV.t (T.int i64 j),AV.t (T.int i64 k)],ab.sl false 1 o m]):=by kernel_rfl
theorem qf(O:az)(k:Int)(d:Bool)(b:List (List T))(e:Int)(a:Int)(j:Int)(f:Bool)(m:List (List T))(g:Bool)(o:List (List T)):aD aq ann O pP [(AV.t (T.int i64 k)),(AV.ref (Id.c 0) 0),(AV.ref (Id.c 1) 0),(AV.ref (Id.c 2) 0),(AV.fn 51 [] [(AV.ref (Id.c 0) 0),(AV.ref (Id.c 1) 0),(AV.ref (Id.c 2) 0)]),(AV.t (T.ae 3 d b)),(AV.t (T.int i64 e)),(AV.t (T.int i64 a))] [(ab.box [(AV.t (T.int i64 j))]),(ab.box [(AV.own (Id.c 3))]),(ab.box [(AV.own (Id.c 4))]),(ab.sl false 4 f m),(ab.sl false 4 g o)]=
 (bif decide (a < e) then
  aa none (if(0:Int)<=a/\a < (↑b.length:Int) then some () else none) λx=>
   aa none b[a.toNat]? λl=>
    aa none l.head? λx=>
     aa none l.tail.head? λv=>
      aa none l.tail.tail.head? λw=>
       aa none (T.aM 1 x) λp=>
        aa none (T.int? i64 v) λn=>
         aa none (T.int? i64 w) λq=>
          aa none
           (O (Key.call 52) [AV.t (T.ae 1 p.fst p.snd),AV.t (T.int i64 k)] [])
           λl=>
           aa none l.head? λx=>
            aa none (T.aM 1 x) λp=>
             aa none (if(0:Int)<=j/\j < (↑p.snd.length:Int) then some () else none) λx=>
              aa none p.snd[j.toNat]? λl=>
               aa none l.head? λx=>
                aa none (T.int? i64 x) λu=>
                 bif u== (0:Int) then
                  O
                   pP
                   [AV.t (T.int i64 k),AV.ref (Id.c 0) 0,
                    AV.ref (Id.c 1) 0,AV.ref (Id.c 2) 0,
                    AV.fn 51 []
                     [AV.ref (Id.c 0) 0,AV.ref (Id.c 1) 0,
                      AV.ref (Id.c 2) 0],
                    AV.t (T.ae 3 d b),AV.t (T.int i64 e),
                    AV.t (T.int i64 (i64.wrap (a+ (1:Int))))]
                   [ab.box [AV.t (T.int i64 j)],ab.box [AV.own (Id.c 3)],
                    ab.box [AV.own (Id.c 4)],ab.sl false 4 f m,
                    ab.sl false 4 g o]
                 else
                  aa none
                   (O (Key.call 51)
                    [AV.agg
                      [AV.t (T.ae 1 p.fst p.snd),AV.t (T.int i64 q),
                       AV.t (T.bool (n== (2:Int))),AV.t (T.int i64 a)],
                     AV.ref (Id.c 0) 0,AV.ref (Id.c 1) 0,
                     AV.ref (Id.c 2) 0]
                    [ab.box [AV.t (T.int i64 j)],ab.box [AV.own (Id.c 3)],
                     ab.box [AV.own (Id.c 4)],ab.sl false 4 f m,
                     ab.sl false 4 g o])
                   λl=>
                   aa none l.head? λx=>
                    aa none (T.int? i64 x) λr=>
                     aa none (List.drop 1 l).head? λx=>
                      aa none (T.aM 4 x) λh=>
                       aa none (List.drop 1 (List.drop 1 l)).head? λx=>
                        aa none (T.aM 4 x) λi=>
                         bif n== (3:Int) then
                          aa none
                           (O (Key.call 53) [AV.t (T.ae 1 p.fst p.snd)] [])
                           λl=>
                           aa none l.head? λx=>
                            aa none (T.aM 1 x) λp=>
                             aa none
                              (O (Key.call 51)
                               [AV.agg
                                 [AV.t (T.ae 1 p.fst p.snd),
                                  AV.t
                                   (T.int i64
                                    (i64.wrap ((0:Int) - q))),
                                  AV.t (T.bool false),AV.t (T.int i64 a)],
                                AV.ref (Id.c 0) 0,
                                AV.ref (Id.c 1) 0,
                                AV.ref (Id.c 2) 0]
                               [ab.box [AV.t (T.int i64 r)],
                                ab.box [AV.own (Id.c 3)],
                                ab.box [AV.own (Id.c 4)],
                                ab.sl false 4 h.fst h.snd,
                                ab.sl false 4 i.fst i.snd])
                              λl=>
                              aa none l.head? λx=>
                               aa none (T.int? i64 x) λn=>
                                aa none (List.drop 1 l).head? λx=>
                                 aa none (T.aM 4 x) λp=>
                                  aa none
                                   (List.drop 1 (List.drop 1 l)).head?
                                   λx=>
                                   aa none (T.aM 4 x) λs=>
                                    O
                                     pP
                                     [AV.t (T.int i64 k),
                                      AV.ref (Id.c 0) 0,
                                      AV.ref (Id.c 1) 0,
                                      AV.ref (Id.c 2) 0,
                                      AV.fn 51 []
                                       [AV.ref (Id.c 0) 0,
                                        AV.ref (Id.c 1) 0,
                                        AV.ref (Id.c 2) 0],
                                      AV.t (T.ae 3 d b),
                                      AV.t (T.int i64 e),
                                      AV.t
                                       (T.int i64
                                        (i64.wrap (a+ (1:Int))))]
                                     [ab.box [AV.t (T.int i64 n)],
                                      ab.box [AV.own (Id.c 3)],
                                      ab.box [AV.own (Id.c 4)],
                                      ab.sl false 4 p.fst p.snd,
                                      ab.sl false 4 s.fst s.snd]
                         else
                          O
                           pP
                           [AV.t (T.int i64 k),AV.ref (Id.c 0) 0,
                            AV.ref (Id.c 1) 0,
                            AV.ref (Id.c 2) 0,
                            AV.fn 51 []
                             [AV.ref (Id.c 0) 0,
                              AV.ref (Id.c 1) 0,
                              AV.ref (Id.c 2) 0],
                            AV.t (T.ae 3 d b),AV.t (T.int i64 e),
                            AV.t (T.int i64 (i64.wrap (a+ (1:Int))))]
                           [ab.box [AV.t (T.int i64 r)],
                            ab.box [AV.own (Id.c 3)],
                            ab.box [AV.own (Id.c 4)],
                            ab.sl false 4 h.fst h.snd,
                            ab.sl false 4 i.fst i.snd]
 else some [T.ae 4 f m,T.ae 4 g o]):=by kernel_rfl
theorem sd(O:az)(B:Int)(k:Bool)(s:List (List T))(m:Bool)(u:List (List T))(v:Int)(w:Int)(q:Bool)(o:List (List T))(y:Int)(e:Int)(f:Int)(g:Int)(r:Bool)(z:List (List T))(a:Bool)(h:List (List T))(i:Int)(j:Bool)(d:Int):aD aq ann O rH [(AV.t (T.int i64 B)),(AV.ref (Id.c 0) 0),(AV.own (Id.c 1)),(AV.t (T.ae 4 k s)),(AV.ref (Id.c 2) 0),(AV.t (T.ae 4 m u)),(AV.t (T.int i64 v)),(AV.t (T.int i64 w)),(AV.t (T.ae 4 q o)),(AV.t (T.int i64 y)),(AV.t (T.int i64 e))] [(ab.box [(AV.t (T.int i64 f)),(AV.t (T.int i64 g))]),(ab.sl false 3 r z),(ab.box [(AV.t (T.ae 1 a h)),(AV.t (T.int i64 i)),(AV.t (T.bool j)),(AV.t (T.int i64 d))])]=
 (bif decide (e < y) then
  aa none (if(0:Int)<=e/\e < (↑o.length:Int) then some () else none) λx=>
   aa none o[e.toNat]? λl=>
    aa none l.head? λx=>
     aa none l.tail.head? λD=>
      aa none l.tail.tail.head? λE=>
       aa none l.tail.tail.tail.head? λF=>
        aa none (T.aM 1 x) λp=>
         aa none (T.int? i64 D) λn=>
          aa none E.bool? λb=>
           aa none (T.int? i64 F) λC=>
            bif d==C then
             O
              rH
              [AV.t (T.int i64 B),AV.ref (Id.c 0) 0,AV.own (Id.c 1),
               AV.t (T.ae 4 k s),AV.ref (Id.c 2) 0,
               AV.t (T.ae 4 m u),AV.t (T.int i64 v),AV.t (T.int i64 w),
               AV.t (T.ae 4 q o),AV.t (T.int i64 y),
               AV.t (T.int i64 (i64.wrap (e+ (1:Int))))]
              [ab.box [AV.t (T.int i64 f),AV.t (T.int i64 g)],
               ab.sl false 3 r z,
               ab.box
                [AV.t (T.ae 1 a h),AV.t (T.int i64 i),AV.t (T.bool j),
                 AV.t (T.int i64 d)]]
            else
             aa none
              (O (Key.call 21)
               [AV.agg
                 [AV.t (T.ae 1 a h),AV.t (T.int i64 i),AV.t (T.bool j),
                  AV.t (T.int i64 d)],
                AV.agg
                 [AV.t (T.ae 1 p.fst p.snd),AV.t (T.int i64 n),AV.t (T.bool b),
                  AV.t (T.int i64 C)],
                AV.t (T.int i64 B)]
               [])
              λl=>
              aa none l.head? λx=>
               aa none (T.aM 1 x) λp=>
                aa none l.tail.head? λx=>
                 aa none (T.int? i64 x) λn=>
                  aa none l.tail.tail.head? λx=>
                   aa none (T.int? i64 x) λA=>
                    aa none (List.drop 3 l).head? λx=>
                     aa none x.bool? λb=>
                      bif !b then
                       some [T.aL true,T.int i64 (10:Int),T.int i64 (0:Int)]
                      else
                       aa none
                        (bw 40
                         (z.length+
                          [[T.ae 1 p.fst p.snd,T.int i64 n,
                             T.int i64 A]].length))
                        λx=>
                        bif
                          decide
                           ((↑(z++
                                [[T.ae 1 p.fst p.snd,T.int i64 n,
                                  T.int i64 A]]).length:
                             Int) >
                            (40:Int)) then
                         some
                          [T.aL true,T.int i64 (2:Int),T.int i64 (0:Int)]
                        else
                         O
                          rH
                          [AV.t (T.int i64 B),AV.ref (Id.c 0) 0,
                           AV.own (Id.c 1),AV.t (T.ae 4 k s),
                           AV.ref (Id.c 2) 0,AV.t (T.ae 4 m u),
                           AV.t (T.int i64 v),AV.t (T.int i64 w),
                           AV.t (T.ae 4 q o),AV.t (T.int i64 y),
                           AV.t (T.int i64 (i64.wrap (e+ (1:Int))))]
                          [ab.box
                            [AV.t (T.int i64 f),AV.t (T.int i64 g)],
                           ab.sl false 3 (r && false)
                            (z++
                             [[T.ae 1 p.fst p.snd,T.int i64 n,
                               T.int i64 A]]),
                           ab.box
                            [AV.t (T.ae 1 a h),AV.t (T.int i64 i),
                             AV.t (T.bool j),AV.t (T.int i64 d)]]
 else
  O
   rG
   [AV.t (T.int i64 B),AV.ref (Id.c 0) 0,AV.own (Id.c 1),
    AV.t (T.ae 4 k s),AV.t (T.ae 4 m u),AV.t (T.int i64 v),
    AV.t (T.int i64 (i64.wrap (w+ (1:Int))))]
   [ab.box [AV.t (T.int i64 f),AV.t (T.int i64 g)],ab.sl false 3 r z]):=by kernel_rfl
theorem vI(O:az)(a:Bool)(c:List (List T))(b:Bool)(d:List (List T)):aD aq ann O (Key.call 67) [(AV.t (T.ae 1 a c)),(AV.t (T.ae 1 b d))] []=
 (bif !(↑c.length:Int)== (↑d.length:Int) then some [T.bool false]
 else
  O
   uw
   [AV.t (T.ae 1 a c),AV.t (T.ae 1 b d),AV.t (T.int i64 (0:Int))] []):=by kernel_rfl
theorem zu(O:az)(b:Bool)(a:List (List T)):aD aq ann O um [(AV.t (T.ae 1 b a))] []=
 (aa (some (decide ((↑a.length:Int) > (0:Int))))
  (if
    (0:Int)<=i64.wrap ((↑a.length:Int) - (1:Int))/\
     i64.wrap ((↑a.length:Int) - (1:Int)) < (↑a.length:Int) then
   some ()
  else none)
  λx=>
  aa (some (decide ((↑a.length:Int) > (0:Int)))) a[(i64.wrap ((↑a.length:Int) - (1:Int))).toNat]?
   λl=>
   aa (some (decide ((↑a.length:Int) > (0:Int)))) l.head? λx=>
    aa (some (decide ((↑a.length:Int) > (0:Int)))) (T.int? i64 x) λn=>
     bif bif decide ((↑a.length:Int) > (0:Int)) then n== (0:Int) else false then
      aa none (cU (0:Int) (i64.wrap ((↑a.length:Int) - (1:Int))) (↑a.length:Int)) λx=>
       O um
        [AV.t (T.ae 1 b (sub (0:Int) (i64.wrap ((↑a.length:Int) - (1:Int))) a))] []
     else
      aa none (O (Key.call 68) [AV.t (T.ae 1 b a)] []) λl=>
       aa none l.head? λx=>aa none (T.aM 1 x) λp=>some [T.ae 1 p.fst p.snd]):=by kernel_rfl
theorem Ls(O:az)(b:Int)(a:Int):aD aq ann O uo [(AV.t (T.int i64 b)),(AV.t (T.int i64 a))] []=
 (bif !a== (0:Int) then
  aa none (if a= (0:Int) then none else some ()) λx=>
   O uo
    [AV.t (T.int i64 a),AV.t (T.int i64 (b.tmod a))] []
 else some [T.int i64 (mm true b (i64.wrap ((0:Int) - b)))]):=by kernel_rfl
theorem Em(O:az)(h:Int)(r:Int)(a:Int)(e:Bool)(i:List (List T))(b:Int)(d:Int)(f:Bool)(j:Int)(k:Int)(m:Int)(o:Int)(q:Bool)(g:List (List T)):aD aq ann O oJ [(AV.ref (Id.c 0) 0),(AV.ref (Id.c 1) 0),(AV.ref (Id.c 2) 0),(AV.own (Id.c 3)),(AV.t (T.int i64 h)),(AV.t (T.int i64 r)),(AV.t (T.int i64 a))] [(ab.box [(AV.t (T.ae 1 e i)),(AV.t (T.int i64 b)),(AV.t (T.int i64 d))]),(ab.box [(AV.t (T.aL f)),(AV.t (T.int i64 j)),(AV.t (T.int i64 k))]),(ab.box [(AV.t (T.int i64 m)),(AV.t (T.int i64 o))]),(ab.sl false 1 q g)]=
 (bif decide (a < r) then
  aa none (if(0:Int)<=a/\a < (↑g.length:Int) then some () else none) λx=>
   aa none g[a.toNat]? λl=>
    aa none l.head? λx=>
     aa none (T.int? i64 x) λn=>
      aa none (if h= (0:Int) then none else some ()) λx=>
       aa none (if(0:Int)<=a/\a < (↑g.length:Int) then some () else none) λx=>
        aa none (bt a.toNat 0 [T.int i64 (i64.wrap (n.tdiv h))] g) λl=>
         O
          oJ
          [AV.ref (Id.c 0) 0,AV.ref (Id.c 1) 0,
           AV.ref (Id.c 2) 0,AV.own (Id.c 3),AV.t (T.int i64 h),
           AV.t (T.int i64 r),AV.t (T.int i64 (i64.wrap (a+ (1:Int))))]
          [ab.box
            [AV.t (T.ae 1 e i),AV.t (T.int i64 b),AV.t (T.int i64 d)],
           ab.box [AV.t (T.aL f),AV.t (T.int i64 j),AV.t (T.int i64 k)],
           ab.box [AV.t (T.int i64 m),AV.t (T.int i64 o)],
           ab.sl false 1 q l]
 else
  aa none (if h= (0:Int) then none else some ()) λx=>
   aa none
    (O (Key.call 50)
     [AV.agg
       [AV.own (Id.c 0),AV.t (T.int i64 b),
        AV.t (T.int i64 (i64.wrap (d.tdiv h)))]]
     [ab.sl false 1 q g])
    λl=>
    aa none l.head? λx=>
     aa none (T.aM 1 x) λp=>
      aa none l.tail.head? λx=>
       aa none (T.int? i64 x) λn=>
        aa none l.tail.tail.head? λx=>
         aa none (T.int? i64 x) λs=>
          some
           [T.ae 1 p.fst p.snd,T.int i64 n,T.int i64 s,
            T.int i64 (0:Int),T.int i64 (0:Int)]):=by kernel_rfl
theorem Lu(O:az)(c:Bool)(a:List (List T))(b:Int):aD aq ann O (Key.call 52) [(AV.t (T.ae 1 c a)),(AV.t (T.int i64 b))] []=
 (aa none (O (Key.call 68) [AV.t (T.ae 1 c a)] []) λl=>
  aa none l.head? λx=>
   aa none (T.aM 1 x) λp=>
    aa none (bJ (i64.wrap (b - (↑a.length:Int))) (i64.wrap (b - (↑a.length:Int)))) λx=>
     aa none
      (bw 8
       (p.snd.length+
        (List.replicate (i64.wrap (b - (↑a.length:Int))).toNat [T.int i64 (0:Int)]).length))
      λx=>
      some
       [T.ae 1
         (p.fst &&
          (List.replicate (i64.wrap (b - (↑a.length:Int))).toNat
            [T.int i64 (0:Int)]).isEmpty)
         (p.snd++
          List.replicate (i64.wrap (b - (↑a.length:Int))).toNat [T.int i64 (0:Int)])]):=by kernel_rfl
theorem Eu(O:az)(b:Bool)(a:List (List T))(d:Int)(e:Bool)(f:Int)(g:Int)(h:Bool)(j:List (List T))(i:Bool)(k:List (List T)):aD aq ann O (Key.call 51) [(AV.agg [(AV.t (T.ae 1 b a)),(AV.t (T.int i64 d)),(AV.t (T.bool e)),(AV.t (T.int i64 f))]),(AV.ref (Id.c 0) 0),(AV.ref (Id.c 1) 0),(AV.ref (Id.c 2) 0)] [(ab.box [(AV.t (T.int i64 g))]),(ab.box [(AV.own (Id.c 3))]),(ab.box [(AV.own (Id.c 4))]),(ab.sl false 4 h j),(ab.sl false 4 i k)]=
 (aa none (if(0:Int)<=g/\g < (↑a.length:Int) then some () else none) λx=>
  aa none a[g.toNat]? λl=>
   aa none l.head? λx=>
    aa none (T.int? i64 x) λn=>
     bif decide (n > (0:Int)) then
      aa none
       (bw 48
        (j.length+
         [[T.ae 1 b a,T.int i64 d,T.bool e,T.int i64 f]].length))
       λx=>
       some
        [T.int i64 g,
         T.ae 4 (h && false)
          (j++ [[T.ae 1 b a,T.int i64 d,T.bool e,T.int i64 f]]),
         T.ae 4 i k]
     else
      aa none
       (bw 48
        (k.length+
         [[T.ae 1 b a,T.int i64 d,T.bool e,T.int i64 f]].length))
       λx=>
       some
        [T.int i64 g,T.ae 4 h j,
         T.ae 4 (i && false)
          (k++ [[T.ae 1 b a,T.int i64 d,T.bool e,T.int i64 f]])]):=by kernel_rfl
theorem Lv(O:az)(a:Bool)(b:List (List T)):aD aq ann O (Key.call 53) [(AV.t (T.ae 1 a b))] []=
 (O
  ur
  [AV.own (Id.c 0),AV.t (T.ae 1 a b),AV.t (T.int i64 (↑b.length:Int)),
   AV.t (T.int i64 (0:Int))]
  [ab.sl false 1 true []]):=by kernel_rfl
theorem Lf(O:az)(e:Bool)(a:List (List T))(h:Int)(i:Bool)(j:Int)(f:Bool)(b:List (List T))(k:Int)(m:Bool)(o:Int)(d:Int):aD aq ann O (Key.call 21) [(AV.agg [(AV.t (T.ae 1 e a)),(AV.t (T.int i64 h)),(AV.t (T.bool i)),(AV.t (T.int i64 j))]),(AV.agg [(AV.t (T.ae 1 f b)),(AV.t (T.int i64 k)),(AV.t (T.bool m)),(AV.t (T.int i64 o))]),(AV.t (T.int i64 d))] []=
 (aa none (if(0:Int)<=d/\d < (↑a.length:Int) then some () else none) λx=>
  aa none a[d.toNat]? λl=>
   aa none l.head? λx=>
    aa none (T.int? i64 x) λn=>
     aa none (if(0:Int)<=d/\d < (↑b.length:Int) then some () else none) λx=>
      aa none b[d.toNat]? λl=>
       aa none l.head? λx=>
        aa none (T.int? i64 x) λp=>
         aa none
          (O (Key.call 54)
           [AV.t (T.int i64 n),AV.t (T.int i64 (i64.wrap ((0:Int) - p)))] [])
          λl=>
          aa none l.head? λx=>
           aa none (T.int? i64 x) λg=>
            aa none (if g= (0:Int) then none else some ()) λx=>
             aa none (if g= (0:Int) then none else some ()) λx=>
              aa none (bJ (↑a.length:Int) (↑a.length:Int)) λx=>
               O
                uf
                [AV.ref (Id.c 0) 0,AV.ref (Id.c 1) 0,
                 AV.ref (Id.c 2) 0,
                 AV.t (T.int i64 (i64.wrap (n.tdiv g))),
                 AV.t
                  (T.int i64
                   (i64.wrap ((i64.wrap ((0:Int) - p)).tdiv g))),
                 AV.own (Id.c 3),
                 AV.t
                  (T.int i64
                   (↑(List.replicate (↑a.length:Int).toNat [T.int i64 (0:Int)]).length:
                    Int)),
                 AV.t (T.int i64 (0:Int))]
                [ab.box
                  [AV.t (T.ae 1 e a),AV.t (T.int i64 h),AV.t (T.bool i),
                   AV.t (T.int i64 j)],
                 ab.box
                  [AV.t (T.ae 1 f b),AV.t (T.int i64 k),AV.t (T.bool m),
                   AV.t (T.int i64 o)],
                 ab.box
                  [AV.t (T.aL true),AV.t (T.int i64 (0:Int)),
                   AV.t (T.int i64 (0:Int))],
                 ab.sl false 1 false
                  (List.replicate (↑a.length:Int).toNat [T.int i64 (0:Int)])]):=by kernel_rfl
theorem Ey(O:az)(d:Bool)(b:List (List T))(e:Bool)(c:List (List T))(a:Int):aD aq ann O uw [(AV.t (T.ae 1 d b)),(AV.t (T.ae 1 e c)),(AV.t (T.int i64 a))] []=
 (bif decide (a < (↑b.length:Int)) then
  aa none (if(0:Int)<=a/\a < (↑b.length:Int) then some () else none) λx=>
   aa none b[a.toNat]? λl=>
    aa none l.head? λx=>
     aa none (T.int? i64 x) λn=>
      aa none (if(0:Int)<=a/\a < (↑c.length:Int) then some () else none) λx=>
       aa none c[a.toNat]? λl=>
        aa none l.head? λx=>
         aa none (T.int? i64 x) λf=>
          bif !n==f then some [T.bool false]
          else
           O
            uw
            [AV.t (T.ae 1 d b),AV.t (T.ae 1 e c),
             AV.t (T.int i64 (i64.wrap (a+ (1:Int))))]
            []
 else some [T.bool true]):=by kernel_rfl
theorem Lt(O:az)(a:Int)(b:Int)(e:Bool)(d:List (List T)):aD aq ann O (Key.call 50) [(AV.agg [(AV.own (Id.c 0)),(AV.t (T.int i64 a)),(AV.t (T.int i64 b))])] [(ab.sl false 1 e d)]=
 (aa none (O (Key.call 75) [AV.t (T.ae 1 e d),AV.fn 76 [] []] []) λl=>
  aa none l.head? λx=>
   aa none (T.int? i64 x) λn=>
    aa (some (a== (3:Int))) (if(0:Int)<=n/\n < (↑d.length:Int) then some () else none) λx=>
     aa (some (a== (3:Int))) d[n.toNat]? λl=>
      aa (some (a== (3:Int))) l.head? λx=>
       aa (some (a== (3:Int))) (T.int? i64 x) λn=>
        bif bif a== (3:Int) then decide (n < (0:Int)) else false then
         O
          uq
          [AV.ref (Id.c 1) 0,AV.ref (Id.c 2) 0,
           AV.t (T.int i64 (↑d.length:Int)),AV.t (T.int i64 (0:Int))]
          [ab.sl false 1 e d,
           ab.box [AV.own (Id.c 0),AV.t (T.int i64 a),AV.t (T.int i64 b)],
           ab.box [AV.t (T.aL true),AV.t (T.int i64 (0:Int)),AV.t (T.int i64 (0:Int))]]
        else some [T.ae 1 e d,T.int i64 a,T.int i64 b]):=by kernel_rfl
theorem Ev(O:az)(f:Bool)(e:List (List T))(g:Int)(a:Int)(b:Bool)(d:List (List T)):aD aq ann O ur [(AV.own (Id.c 0)),(AV.t (T.ae 1 f e)),(AV.t (T.int i64 g)),(AV.t (T.int i64 a))] [(ab.sl false 1 b d)]=
 (bif decide (a < g) then
  aa none (if(0:Int)<=a/\a < (↑e.length:Int) then some () else none) λx=>
   aa none e[a.toNat]? λl=>
    aa none l.head? λx=>
     aa none (T.int? i64 x) λn=>
      aa none (bw 8 (d.length+ [[T.int i64 (i64.wrap ((0:Int) - n))]].length))
       λx=>
       O
        ur
        [AV.own (Id.c 0),AV.t (T.ae 1 f e),AV.t (T.int i64 g),
         AV.t (T.int i64 (i64.wrap (a+ (1:Int))))]
        [ab.sl false 1 (b && false) (d++ [[T.int i64 (i64.wrap ((0:Int) - n))]])]
 else some [T.ae 1 b d]):=by kernel_rfl
theorem Lw(O:az)(a:Int)(b:Int):aD aq ann O (Key.call 54) [(AV.t (T.int i64 a)),(AV.t (T.int i64 b))] []=
 (O uu
  [AV.t (T.int i64 a),AV.t (T.int i64 b)] []):=by kernel_rfl
theorem Eo(O:az)(z:Int)(A:Int)(w:Int)(a:Int)(j:Bool)(d:List (List T))(f:Int)(g:Bool)(o:Int)(k:Bool)(e:List (List T))(h:Int)(i:Bool)(q:Int)(m:Bool)(r:Int)(s:Int)(u:Bool)(y:List (List T)):aD aq ann O uf [(AV.ref (Id.c 0) 0),(AV.ref (Id.c 1) 0),(AV.ref (Id.c 2) 0),(AV.t (T.int i64 z)),(AV.t (T.int i64 A)),(AV.own (Id.c 3)),(AV.t (T.int i64 w)),(AV.t (T.int i64 a))] [(ab.box [(AV.t (T.ae 1 j d)),(AV.t (T.int i64 f)),(AV.t (T.bool g)),(AV.t (T.int i64 o))]),(ab.box [(AV.t (T.ae 1 k e)),(AV.t (T.int i64 h)),(AV.t (T.bool i)),(AV.t (T.int i64 q))]),(ab.box [(AV.t (T.aL m)),(AV.t (T.int i64 r)),(AV.t (T.int i64 s))]),(ab.sl false 1 u y)]=
 (bif decide (a < w) then
  aa none (if(0:Int)<=a/\a < (↑d.length:Int) then some () else none) λx=>
   aa none d[a.toNat]? λl=>
    aa none l.head? λx=>
     aa none (T.int? i64 x) λn=>
      aa none (if(0:Int)<=a/\a < (↑e.length:Int) then some () else none) λx=>
       aa none e[a.toNat]? λl=>
        aa none l.head? λx=>
         aa none (T.int? i64 x) λv=>
          aa none (if(0:Int)<=a/\a < (↑y.length:Int) then some () else none) λx=>
           aa none
            (bt a.toNat 0
             [T.int i64 (i64.wrap (i64.wrap (A * n)+i64.wrap (z * v)))]
             y)
            λl=>
            O
             uf
             [AV.ref (Id.c 0) 0,AV.ref (Id.c 1) 0,
              AV.ref (Id.c 2) 0,AV.t (T.int i64 z),AV.t (T.int i64 A),
              AV.own (Id.c 3),AV.t (T.int i64 w),
              AV.t (T.int i64 (i64.wrap (a+ (1:Int))))]
             [ab.box
               [AV.t (T.ae 1 j d),AV.t (T.int i64 f),AV.t (T.bool g),
                AV.t (T.int i64 o)],
              ab.box
               [AV.t (T.ae 1 k e),AV.t (T.int i64 h),AV.t (T.bool i),
                AV.t (T.int i64 q)],
              ab.box [AV.t (T.aL m),AV.t (T.int i64 r),AV.t (T.int i64 s)],
              ab.sl false 1 u l]
 else
  aa none
   (O (Key.call 55)
    [AV.t (T.ae 1 u y),
     AV.t (T.int i64 (i64.wrap (i64.wrap (A * f)+i64.wrap (z * h)))),
     AV.t (T.bool (bif g then true else i))]
    [])
   λl=>
   aa none l.head? λx=>
    aa none (T.aM 1 x) λp=>
     aa none l.tail.head? λx=>
      aa none (T.int? i64 x) λn=>
       aa none l.tail.tail.head? λx=>
        aa none (T.int? i64 x) λv=>
         aa none (List.drop 3 l).head? λx=>
          aa none x.bool? λb=>
           some [T.ae 1 p.fst p.snd,T.int i64 n,T.int i64 v,T.bool b]):=by kernel_rfl
theorem LK(O:az)(a:Bool)(b:List (List T)):aD aq ann O (Key.call 75) [(AV.t (T.ae 1 a b)),(AV.fn 76 [] [])] []=
 (O
  uz
  [AV.t (T.ae 1 a b),AV.fn 76 [] [],AV.t (T.int i64 (↑b.length:Int)),
   AV.t (T.int i64 (0:Int))]
  []):=by kernel_rfl
theorem Et(O:az)(j:Int)(a:Int)(i:Bool)(f:List (List T))(b:Int)(d:Int)(e:Bool)(g:Int)(h:Int):aD aq ann O uq [(AV.ref (Id.c 1) 0),(AV.ref (Id.c 2) 0),(AV.t (T.int i64 j)),(AV.t (T.int i64 a))] [(ab.sl false 1 i f),(ab.box [(AV.own (Id.c 0)),(AV.t (T.int i64 b)),(AV.t (T.int i64 d))]),(ab.box [(AV.t (T.aL e)),(AV.t (T.int i64 g)),(AV.t (T.int i64 h))])]=
 (bif decide (a < j) then
  aa none (if(0:Int)<=a/\a < (↑f.length:Int) then some () else none) λx=>
   aa none f[a.toNat]? λl=>
    aa none l.head? λx=>
     aa none (T.int? i64 x) λn=>
      aa none (if(0:Int)<=a/\a < (↑f.length:Int) then some () else none) λx=>
       aa none (bt a.toNat 0 [T.int i64 (i64.wrap ((0:Int) - n))] f) λl=>
        O
         uq
         [AV.ref (Id.c 1) 0,AV.ref (Id.c 2) 0,AV.t (T.int i64 j),
          AV.t (T.int i64 (i64.wrap (a+ (1:Int))))]
         [ab.sl false 1 i l,
          ab.box [AV.own (Id.c 0),AV.t (T.int i64 b),AV.t (T.int i64 d)],
          ab.box [AV.t (T.aL e),AV.t (T.int i64 g),AV.t (T.int i64 h)]]
 else some [T.ae 1 i f,T.int i64 b,T.int i64 (i64.wrap ((0:Int) - d))]):=by kernel_rfl
theorem Lx(O:az)(b:Int)(a:Int):aD aq ann O uu [(AV.t (T.int i64 b)),(AV.t (T.int i64 a))] []=
 (bif !a== (0:Int) then
  aa none (if a= (0:Int) then none else some ()) λx=>
   O uu
    [AV.t (T.int i64 a),AV.t (T.int i64 (b.tmod a))] []
 else some [T.int i64 (mm true b (i64.wrap ((0:Int) - b)))]):=by kernel_rfl
theorem Ew(O:az)(a:Bool)(b:List (List T))(d:Int)(e:Bool):aD aq ann O (Key.call 55) [(AV.t (T.ae 1 a b)),(AV.t (T.int i64 d)),(AV.t (T.bool e))] []=
 (bif e then
  O
   rF
   [AV.t (T.ae 1 a b),AV.t (T.int i64 d),AV.ref (Id.c 0) 0,
    AV.ref (Id.c 1) 0]
   [ab.box [AV.t (T.aL true),AV.t (T.int i64 (0:Int)),AV.t (T.int i64 (0:Int))],
    ab.box [AV.t (T.aL true),AV.t (T.int i64 (2:Int)),AV.t (T.int i64 (0:Int))]]
 else
  O
   rF
   [AV.t (T.ae 1 a b),AV.t (T.int i64 d),AV.ref (Id.c 0) 0,
    AV.ref (Id.c 1) 0]
   [ab.box [AV.t (T.aL true),AV.t (T.int i64 (0:Int)),AV.t (T.int i64 (0:Int))],
    ab.box [AV.t (T.aL true),AV.t (T.int i64 (1:Int)),AV.t (T.int i64 (0:Int))]]):=by kernel_rfl
theorem EF(O:az)(d:Bool)(c:List (List T))(e:Int)(a:Int):aD aq ann O uz [(AV.t (T.ae 1 d c)),(AV.fn 76 [] []),(AV.t (T.int i64 e)),(AV.t (T.int i64 a))] []=
 (bif decide (a < e) then
  aa none (if(0:Int)<=a/\a < (↑c.length:Int) then some () else none) λx=>
   aa none c[a.toNat]? λl=>
    aa none l.head? λx=>
     aa none (T.int? i64 x) λn=>
      aa none (O (Key.call 76) [AV.t (T.int i64 n)] []) λl=>
       aa none l.head? λx=>
        aa none x.bool? λb=>
         bif b then some [T.int i64 a]
         else
          O
           uz
           [AV.t (T.ae 1 d c),AV.fn 76 [] [],AV.t (T.int i64 e),
            AV.t (T.int i64 (i64.wrap (a+ (1:Int))))]
           []
 else some [T.int i64 (-1:Int)]):=by kernel_rfl
theorem zx(O:az)(i:Bool)(a:List (List T))(j:Int)(e:Bool)(f:Int)(g:Int)(b:Bool)(d:Int)(h:Int):aD aq ann O rF [(AV.t (T.ae 1 i a)),(AV.t (T.int i64 j)),(AV.ref (Id.c 0) 0),(AV.ref (Id.c 1) 0)] [(ab.box [(AV.t (T.aL e)),(AV.t (T.int i64 f)),(AV.t (T.int i64 g))]),(ab.box [(AV.t (T.aL b)),(AV.t (T.int i64 d)),(AV.t (T.int i64 h))])]=
 (aa (some (decide ((↑a.length:Int) > (0:Int))))
  (if
    (0:Int)<=i64.wrap ((↑a.length:Int) - (1:Int))/\
     i64.wrap ((↑a.length:Int) - (1:Int)) < (↑a.length:Int) then
   some ()
  else none)
  λx=>
  aa (some (decide ((↑a.length:Int) > (0:Int)))) a[(i64.wrap ((↑a.length:Int) - (1:Int))).toNat]?
   λl=>
   aa (some (decide ((↑a.length:Int) > (0:Int)))) l.head? λx=>
    aa (some (decide ((↑a.length:Int) > (0:Int)))) (T.int? i64 x) λn=>
     bif bif decide ((↑a.length:Int) > (0:Int)) then n== (0:Int) else false then
      aa none (cU (0:Int) (i64.wrap ((↑a.length:Int) - (1:Int))) (↑a.length:Int)) λx=>
       O
        rF
        [AV.t (T.ae 1 i (sub (0:Int) (i64.wrap ((↑a.length:Int) - (1:Int))) a)),
         AV.t (T.int i64 j),AV.ref (Id.c 0) 0,AV.ref (Id.c 1) 0]
        [ab.box [AV.t (T.aL e),AV.t (T.int i64 f),AV.t (T.int i64 g)],
         ab.box [AV.t (T.aL b),AV.t (T.int i64 d),AV.t (T.int i64 h)]]
     else
      bif (↑a.length:Int)== (0:Int) then
       aa none
        (O (Key.call 19)
         [AV.agg
           [AV.t (T.ae 1 b []),AV.t (T.int i64 d),
            AV.t (T.int i64 (mm true (mm false j (1:Int)) (-1:Int)))]]
         [])
        λl=>
        aa none l.head? λx=>
         aa none (T.aM 1 x) λp=>
          aa none l.tail.head? λx=>
           aa none (T.int? i64 x) λn=>
            aa none l.tail.tail.head? λx=>
             aa none (T.int? i64 x) λk=>
              aa none (List.drop 3 l).head? λx=>
               aa none (T.int? i64 x) λm=>
                aa none (List.drop 3 l).tail.head? λx=>
                 aa none (T.int? i64 x) λo=>
                  some
                   [T.ae 1 p.fst p.snd,T.int i64 n,T.int i64 k,
                    T.bool true]
      else
       aa none (O (Key.call 54) [AV.t (T.int i64 j),AV.t (T.int i64 (0:Int))] [])
        λl=>
        aa none l.head? λx=>
         aa none (T.int? i64 x) λn=>
          O
           pQ
           [AV.t (T.ae 1 i a),AV.t (T.int i64 j),AV.ref (Id.c 0) 0,
            AV.ref (Id.c 1) 0,AV.t (T.int i64 n),AV.t (T.ae 1 i a),
            AV.t (T.int i64 (↑a.length:Int)),AV.t (T.int i64 (0:Int))]
           [ab.box [AV.t (T.aL e),AV.t (T.int i64 f),AV.t (T.int i64 g)],
            ab.box [AV.t (T.aL b),AV.t (T.int i64 d),AV.t (T.int i64 h)]]):=by kernel_rfl
theorem LL(O:az)(a:Int):aD aq ann O (Key.call 76) [(AV.t (T.int i64 a))] []=
 (some [T.bool !a== (0:Int)]):=by kernel_rfl
theorem Ex(O:az)(m:Bool)(q:List (List T))(r:Int)(f:Int)(o:Bool)(k:List (List T))(p:Int)(a:Int)(d:Bool)(g:Int)(h:Int)(e:Bool)(i:Int)(j:Int):aD aq ann O pQ [(AV.t (T.ae 1 m q)),(AV.t (T.int i64 r)),(AV.ref (Id.c 0) 0),(AV.ref (Id.c 1) 0),(AV.t (T.int i64 f)),(AV.t (T.ae 1 o k)),(AV.t (T.int i64 p)),(AV.t (T.int i64 a))] [(ab.box [(AV.t (T.aL d)),(AV.t (T.int i64 g)),(AV.t (T.int i64 h))]),(ab.box [(AV.t (T.aL e)),(AV.t (T.int i64 i)),(AV.t (T.int i64 j))])]=
 (bif decide (a < p) then
  aa none (if(0:Int)<=a/\a < (↑k.length:Int) then some () else none) λx=>
   aa none k[a.toNat]? λl=>
    aa none l.head? λx=>
     aa none (T.int? i64 x) λn=>
      aa none (O (Key.call 54) [AV.t (T.int i64 f),AV.t (T.int i64 n)] []) λl=>
       aa none l.head? λx=>
        aa none (T.int? i64 x) λn=>
         O
          pQ
          [AV.t (T.ae 1 m q),AV.t (T.int i64 r),AV.ref (Id.c 0) 0,
           AV.ref (Id.c 1) 0,AV.t (T.int i64 n),AV.t (T.ae 1 o k),
           AV.t (T.int i64 p),AV.t (T.int i64 (i64.wrap (a+ (1:Int))))]
          [ab.box [AV.t (T.aL d),AV.t (T.int i64 g),AV.t (T.int i64 h)],
           ab.box [AV.t (T.aL e),AV.t (T.int i64 i),AV.t (T.int i64 j)]]
 else
  aa none (if f= (0:Int) then none else some ()) λx=>
   aa none (O (Key.call 77) [AV.t (T.int i64 (i64.wrap (r.tdiv f)))] []) λl=>
    aa none l.head? λx=>
     aa none x.bool? λb=>
      O
       rE
       [AV.t (T.int i64 r),AV.ref (Id.c 0) 0,AV.ref (Id.c 1) 0,
        AV.t (T.int i64 f),AV.fn 77 [] [],AV.t (T.bool b),AV.t (T.ae 1 m q),
        AV.t (T.int i64 (↑q.length:Int)),AV.t (T.int i64 (0:Int))]
       [ab.box [AV.t (T.aL d),AV.t (T.int i64 g),AV.t (T.int i64 h)],
        ab.box [AV.own (Id.c 2),AV.t (T.int i64 i),AV.t (T.int i64 j)],
        ab.sl false 1 e []]):=by kernel_rfl
theorem LM(O:az)(a:Int):aD aq ann O (Key.call 77) [(AV.t (T.int i64 a))] []=
 (some [T.bool (bif decide (a>=(-1000000:Int)) then decide (a<=(1000000:Int)) else false)]):=by kernel_rfl
theorem zw(O:az)(r:Int)(a:Int)(e:Bool)(m:Bool)(h:List (List T))(p:Int)(d:Int)(g:Bool)(i:Int)(j:Int)(f:Int)(k:Int)(o:Bool)(q:List (List T)):aD aq ann O rE [(AV.t (T.int i64 r)),(AV.ref (Id.c 0) 0),(AV.ref (Id.c 1) 0),(AV.t (T.int i64 a)),(AV.fn 77 [] []),(AV.t (T.bool e)),(AV.t (T.ae 1 m h)),(AV.t (T.int i64 p)),(AV.t (T.int i64 d))] [(ab.box [(AV.t (T.aL g)),(AV.t (T.int i64 i)),(AV.t (T.int i64 j))]),(ab.box [(AV.own (Id.c 2)),(AV.t (T.int i64 f)),(AV.t (T.int i64 k))]),(ab.sl false 1 o q)]=
 (bif decide (d < p) then
  aa none (if(0:Int)<=d/\d < (↑h.length:Int) then some () else none) λx=>
   aa none h[d.toNat]? λl=>
    aa none l.head? λx=>
     aa none (T.int? i64 x) λn=>
      aa none (if a= (0:Int) then none else some ()) λx=>
       aa none (bw 8 (q.length+ [[T.int i64 (i64.wrap (n.tdiv a))]].length))
        λx=>
        aa (some e) (if a= (0:Int) then none else some ()) λx=>
         bif e then
          aa none (O (Key.call 77) [AV.t (T.int i64 (i64.wrap (n.tdiv a)))] [])
           λl=>
           aa none l.head? λx=>
            aa none x.bool? λb=>
             O
              rE
              [AV.t (T.int i64 r),AV.ref (Id.c 0) 0,
               AV.ref (Id.c 1) 0,AV.t (T.int i64 a),AV.fn 77 [] [],
               AV.t (T.bool (bif e then b else false)),AV.t (T.ae 1 m h),
               AV.t (T.int i64 p),AV.t (T.int i64 (i64.wrap (d+ (1:Int))))]
              [ab.box [AV.t (T.aL g),AV.t (T.int i64 i),AV.t (T.int i64 j)],
               ab.box
                [AV.own (Id.c 2),AV.t (T.int i64 f),AV.t (T.int i64 k)],
               ab.sl false 1 (o && false)
                (q++ [[T.int i64 (i64.wrap (n.tdiv a))]])]
         else
          O
           rE
           [AV.t (T.int i64 r),AV.ref (Id.c 0) 0,AV.ref (Id.c 1) 0,
            AV.t (T.int i64 a),AV.fn 77 [] [],
            AV.t (T.bool (bif e then false else false)),AV.t (T.ae 1 m h),
            AV.t (T.int i64 p),AV.t (T.int i64 (i64.wrap (d+ (1:Int))))]
           [ab.box [AV.t (T.aL g),AV.t (T.int i64 i),AV.t (T.int i64 j)],
            ab.box [AV.own (Id.c 2),AV.t (T.int i64 f),AV.t (T.int i64 k)],
            ab.sl false 1 (o && false)
             (q++ [[T.int i64 (i64.wrap (n.tdiv a))]])]
 else
  aa none (if a= (0:Int) then none else some ()) λx=>
   some
    [T.ae 1 o q,T.int i64 f,T.int i64 (i64.wrap (r.tdiv a)),T.bool e]):=by kernel_rfl
open Go Go.Aev Go.IntKind
open Go Go.Aev Go.IntKind
open Go Go.Aev Go.IntKind
theorem GH(e:Bool)(l:List Int)(f:e=true->l= [])(hn:l.length<=1000):∀k,k<=l.length->∃a,(a=true->l.take (fm l k)= [])/\Or um [ae e (l.take k)] []=some [T.ae 1 a (enc (l.take (fm l k)))]
 | 0,hk=>by
  obtain⟨x,a,c,k2,m⟩:=Bx [] e (λ_=>rfl) (by simp);refine⟨a,λ_=>by simp [fm],an ?_⟩;rw [zu];have b:¬((0:Nat):Int) > 0:=by omega
  simp only [Uc,fm];simp only [aj,↓reduceIte,Int.reduceBEq,Int.reduceEq,GD,dG,bH,Sx,b,decide_false,c,k2]
 | k+1,hk=>by
  obtain⟨n,j,p⟩:=GH e l f hn k (by omega);have b:((k+1:Nat):Int) > 0:=by omega
  have i:i64.wrap (((k+1:Nat):Int) - 1)= (k:Int):=by rw [wr (by omega)];omega
  have d: 0<=(k:Int)/\(k:Int) < ((k+1:Nat):Int):=by omega
  have hi:cU 0 (k:Int) ((k+1:Nat):Int)=some ():=sw (by omega);have g:=dE (xJ (l:=l) (k:=k) (by omega));have o:(l.take (k+1)).take k=l.take k:=by rw [Wu];congr 1;omega
  rw [fm];by_cases hz:l.getD k 0=0
  .rw [if_pos hz];refine⟨n,j,an ?_⟩;rw [zu];simp only [aj,↓reduceIte,Int.reduceBEq,Int.reduceEq,GD,bH,m9 hk,b,decide_true,i,d,and_self,g,hz,hi,IX,o];exact p
  .rw [if_neg hz];obtain⟨x,a,c,k2,m⟩:=Bx (l.take (k+1)) e (λh=>by rw [f h];simp) (by rw [m9 hk];omega);refine⟨a,m,an ?_⟩;rw [zu];simp only [aj,↓reduceIte,Int.reduceBEq,Int.reduceEq,GD,bH,m9 hk,b,decide_true,i,d,and_self,g,hz,c,k2]
theorem PJ(e:Bool)(l:List Int)(b:e=true->l= [])(hn:l.length<=1000):∃a,(a=true->bz l= [])/\Or (.call 47) [ae e l] []=some [T.ae 1 a (enc (bz l))]:=by obtain⟨a,c,this⟩:=GH e l b hn l.length (R3 _);rw [Ti] at this;refine⟨a,c,an ?_⟩;rw [Lp];exact this
theorem GI:∀(m:Nat) (a b:Int),b.natAbs<=m-> -1000000000000000<=a/\a<=1000000000000000-> -1000000000000000<=b/\b<=1000000000000000->Or uo [I a,I b] []=some [ti (Nat.gcd a.natAbs b.natAbs:Nat)]
 | m,a,b,hm,g,hb=>by
  refine an ?_;rw [Ls];by_cases c:b=0
  .subst c;have e:i64.wrap (0 - a)= -a:=by rw [wr (by omega)];omega
   have:mm true a (-a)= ((Nat.gcd a.natAbs (0:Int).natAbs:Nat):Int):=by rw [Ay,Vh,Uo];omega
   simp only [aj,↓reduceIte,Int.reduceBEq,Int.reduceEq,GD,e,this]
  .have d:=natAbs_tmod a b;have f:(a.tmod b).natAbs < b.natAbs:=by rw [d];exact U5 _ (by omega)
   match m with
   | 0=>omega
   | m+1=>have:=GI m b (a.tmod b) (by omega) hb (by omega);rw [FN] at this;simp only [aj,↓reduceIte,Int.reduceBEq,Int.reduceEq,GD,c];exact this
theorem If(a b:Int)(c: -1000000000000000<=a/\a<=1000000000000000)(hb: -1000000000000000<=b/\b<=1000000000000000):Or (.call 49) [I a,I b] []=some [ti (Nat.gcd a.natAbs b.natAbs:Nat)]:=
 an (by rw [Lr];exact GI b.natAbs a b (R3 _) c hb)
theorem GJ:∀(m:Nat) (a b:Int),b.natAbs<=m-> -1000000000000000<=a/\a<=1000000000000000-> -1000000000000000<=b/\b<=1000000000000000->Or uu [I a,I b] []=some [ti (Nat.gcd a.natAbs b.natAbs:Nat)]
 | m,a,b,hm,g,hb=>by
  refine an ?_;rw [Lx];by_cases c:b=0
  .subst c;have e:i64.wrap (0 - a)= -a:=by rw [wr (by omega)];omega
   have:mm true a (-a)= ((Nat.gcd a.natAbs (0:Int).natAbs:Nat):Int):=by rw [Ay,Vh,Uo];omega
   simp only [aj,↓reduceIte,Int.reduceBEq,Int.reduceEq,GD,e,this]
  .have d:=natAbs_tmod a b;have f:(a.tmod b).natAbs < b.natAbs:=by rw [d];exact U5 _ (by omega)
   match m with
   | 0=>omega
   | m+1=>have:=GJ m b (a.tmod b) (by omega) hb (by omega);rw [FN] at this;simp only [aj,↓reduceIte,Int.reduceBEq,Int.reduceEq,GD,c];exact this
theorem Bw(a b:Int)(c: -1000000000000000<=a/\a<=1000000000000000)(hb: -1000000000000000<=b/\b<=1000000000000000):Or (.call 54) [I a,I b] []=some [ti (Nat.gcd a.natAbs b.natAbs:Nat)]:=
 an (by rw [Lw];exact GJ b.natAbs a b (R3 _) c hb)
open Go Go.Aev Go.IntKind
def du:List Int->Int
 | []=>0
 | x::r=>if x=0 then du r else x
def sg(kd:Int)(l:List Int):Int:=if kd=3/\du l < 0 then -1 else 1
def dQ(kd tv:Int):Int:=if kd=1/\tv < 0 then -1 else if kd=2/\tv > 0 then 1 else if kd=3/\tv≠0 then 1 else 0
def bY(of:List Int)(kd tv:Int):List Int×Int:=
 if bz of= [] then([],dQ kd tv) else
  ((bz of).map (λx=>sg kd (bz of) * (x / (gl tv.natAbs (bz of):Int))),sg kd (bz of) * (tv / (gl tv.natAbs (bz of):Int)))
def bh(g:Int)(l:List Int):List Int:=l.map (· / g)
theorem ot{a b:Int}(h:b ∣ a):a.tdiv b=a / b:=Tr h
theorem lO{x g b:Int}(a: 0 < g)(c: -b<=x/\x<=b)(hb: 0<=b): -b<=x / g/\x / g<=b:=by
 constructor
 .apply Int.le_ediv_of_mul_le a;have: -b * g<= -b * 1:=Int.mul_le_mul_of_nonpos_left (by omega) (by omega);omega
 .apply Int.ediv_le_of_le_mul a;have:b * 1<=b * g:=R1 (by omega) (by omega);omega
theorem PK(kd tv:Int):Or (.call 48) [I kd,I tv] []=some [T.aL true,ti kd,ti (dQ kd tv)]:=by
 refine an ?_;rw [Lq];unfold dQ;simp only [lJ,rU,<-decide_not,<-TK];by_cases h1:kd=1/\tv < 0
 .simp only [aj,↓reduceIte,Int.reduceBEq,Int.reduceEq,GD,h1,and_self]
 .rw [if_neg h1];by_cases a:kd=2/\tv > 0
  .have:¬(kd=1/\tv < 0):=h1;simp only [aj,↓reduceIte,Int.reduceBEq,Int.reduceEq,GD,this,a,and_self];simp only [Int.reduceEq,false_and,↓reduceIte]
  .rw [if_neg a];by_cases b:kd=3/\tv≠0
   .rw [if_pos b];simp only [aj,↓reduceIte,Int.reduceBEq,Int.reduceEq,GD,h1,a,b,and_self,ne_eq,not_false_eq_true];simp only [Int.reduceEq,false_and,↓reduceIte]
   .rw [if_neg b];have c:¬(kd=3/\¬tv=0):=b;simp only [aj,↓reduceIte,Int.reduceBEq,Int.reduceEq,GD,h1,a,c]
theorem NX(b d f:ab)(e:Bool)(l:List Int)(kd tv:Int)(e0:Bool)(of:List Int)(p:Bool)(hb:Bd 1000000 l)(hn:l.length<=1000)(res:List T)
  (j:b=ab.box [ae e0 of,I kd,I tv]) (h1:d=ab.box [AV.t (T.aL p),I 0,I 0]) (r:f=ab.box [I 0,I 0]):∀(a:List Int) (i:Nat) (g:Nat),l.drop i=a->g<=1000000->
  Or oJ [r0,AV.ref (Id.c 1) 0,AV.ref (Id.c 2) 0,AV.own (Id.c 3),I (gl g a:Nat),I (l.length:Int),I 0] [b,d,f,ab.sl false 1 e (enc l)]=some res->
  Or ue [r0,AV.ref (Id.c 1) 0,AV.ref (Id.c 2) 0,AV.own (Id.c 3),I (g:Int),AV.own (Id.c 3),I (l.length:Int),I (i:Int)] [b,d,f,ab.sl false 1 e (enc l)]=some res:=by
 subst j h1 r;intro a;induction a with
 | nil=>
  intro i g h m hk;refine an ?_;rw [En];have h1:¬(i:Int) < (l.length:Int):=by have:=bU h;omega
  simp only [aj,↓reduceIte,Int.reduceBEq,Int.reduceEq,GD,h1,bH];exact hk
 | cons x a s=>
  intro i g h m hk;obtain⟨k,u,q⟩:=bR h;have h1:(i:Int) < (l.length:Int):=by omega
  have j: 0<=(i:Int):=by omega
  have v:=hb x (RN k);have o:=If (g:Int) x (by omega) (by omega);rw [Sb] at o;have n:Nat.gcd g x.natAbs<=1000000:=by
   rcases Ul g with h | h
   .subst h;rw [Vr];omega
   .exact Sh (Wh _ h) m
  have:=s (i+1) (Nat.gcd g x.natAbs) q n hk;refine an ?_;rw [En];simp only [aj,↓reduceIte,Int.reduceBEq,Int.reduceEq,GD,h1,j,and_self,bH,dE k,o,next i (by omega)];exact this
theorem NW(b d f:ab)(e:Bool)(kd tv g:Int)(e0:Bool)(of:List Int)(o:Bool)(q: 0 < g)(res:List T)(len:Nat)(hn:len<=1000)
  (h:b=ab.box [ae e0 of,I kd,I tv]) (h1:d=ab.box [AV.t (T.aL o),I 0,I 0]) (p:f=ab.box [I 0,I 0]):∀(a done:List Int),done.length+a.length=len->Bd 1000000 a->(∀x∈a,g ∣ x)->
  Or oJ [r0,AV.ref (Id.c 1) 0,AV.ref (Id.c 2) 0,AV.own (Id.c 3),I g,I (len:Int),I (len:Int)] [b,d,f,ab.sl false 1 e (enc (done++bh g a))]=some res->
  Or oJ [r0,AV.ref (Id.c 1) 0,AV.ref (Id.c 2) 0,AV.own (Id.c 3),I g,I (len:Int),I (done.length:Int)] [b,d,f,ab.sl false 1 e (enc (done++a))]=some res:=by
 subst h h1 p;intro a;induction a with
 | nil=>
  intro done hl _ _ hk;have:done.length=len:=by simpa using hl
  simp only [bh,T0] at hk;rw [this];exact hk
 | cons x a s=>
  intro done hl hb k hk;have u:done.length+ (a.length+1)=len:=by simpa using hl
  have h1:(done.length:Int) < (len:Int):=by omega
  have h: 0<=(done.length:Int):=by omega
  have r:=hb x RL;have l:=k x RL;have w:=lO q r (by omega);have i:(done++x::a)[done.length]? =some x:=by simp
  have j:(done.length:Int) < ((done++x::a).length:Int):=by simp;omega
  have n:bt (done.length:Int).toNat 0 [ti (x / g)] (enc (done++x::a))=some (enc ((done++ [x / g])++a)):=by rw [zF (by simp),po _ _ _ _ _ rfl];simp
  have:=s (done++ [x / g]) (by simp;omega) (λy hy=>hb y (RM _ hy)) (λy hy=>k y (RM _ hy)) (by
   simpa [bh] using hk)
  rw [SI,Vx] at this;refine an ?_;rw [Em];have m:¬g=0:=by omega
  simp only [aj,↓reduceIte,Int.reduceBEq,Int.reduceEq,GD,h1,h,and_self,bH,j,dE i,m,ot l,wr (v:=x / g) (by omega),n,next done.length (by omega)];exact this
def fi:List Int->Nat->Int
 | [],_=> -1
 | x::r,i=>if x=0 then fi r (i+1) else(i:Int)
theorem Il(x:Int):Or (.call 76) [I x] []=some [tb (!x==0)]:=an (by rw [LL])
theorem Ob(e:Bool)(l:List Int)(hn:l.length<=1000):∀(a:List Int) (i:Nat),l.drop i=a->Or uz [ae e l,AV.fn 76 [] [],I (l.length:Int),I (i:Int)] []=some [ti (fi a i)]:=by
 intro a;induction a with
 | nil=>
  intro i h;refine an ?_;rw [EF];have h1:¬(i:Int) < (l.length:Int):=by have:=bU h;omega
  simp only [aj,↓reduceIte,Int.reduceBEq,Int.reduceEq,GD,h1,fi]
 | cons x a f=>
  intro i h;obtain⟨b,g,d⟩:=bR h;have h1:(i:Int) < (l.length:Int):=by omega
  have c: 0<=(i:Int):=by omega
  refine an ?_;rw [EF,fi];by_cases hz:x=0
  .subst hz;simp only [aj,↓reduceIte,Int.reduceBEq,Int.reduceEq,GD,h1,c,and_self,bH,dE b,Il,next i (by omega),f (i+1) d]
  .have hb:(x==0)=false:=by simpa using hz
   simp only [aj,↓reduceIte,Int.reduceBEq,Int.reduceEq,GD,h1,c,and_self,bH,dE b,Il,hb,hz]
theorem By(e:Bool)(l:List Int)(hn:l.length<=1000):Or (.call 75) [ae e l,AV.fn 76 [] []] []=some [ti (fi l 0)]:=by refine an ?_;rw [LK,bH];exact Ob e l hn l 0 rfl
theorem zR:∀{l:List Int} (i:Nat),du l≠0->∃n,fi l i= ((i+n:Nat):Int)/\l[n]? =some (du l)/\n < l.length
 | [],_,h=>absurd rfl h
 | x::r,i,h=>by
  rw [du] at h⊢;rw [fi];by_cases d:x=0
  .rw [if_pos d] at h;obtain⟨n,a,b,c⟩:=zR (i+1) h;rw [if_pos d,if_pos d];exact⟨n+1,by rw [a];congr 1;omega,by simpa using b,by simpa using c⟩
  .rw [if_neg d,if_neg d];exact⟨0,by simp,by simp,by simp⟩
def cZ(l:List Int):List Int:=l.map (λx=> -x)
theorem N3(g h:ab)(e:Bool)(kd tv:Int)(k:Bool)(len:Nat)(hn:len<=1000)(o: -1000000<=tv/\tv<=1000000)
  (h1:g=ab.box [AV.own (Id.c 0),I kd,I tv]) (m:h=ab.box [AV.t (T.aL k),I 0,I 0]):∀(a done:List Int),done.length+a.length=len->Bd 1000000 a->
  Or uq [AV.ref (Id.c 1) 0,AV.ref (Id.c 2) 0,I (len:Int),I (done.length:Int)] [ab.sl false 1 e (enc (done++a)),g,h]=some [T.ae 1 e (enc (done++cZ a)),ti kd,ti (-tv)]:=by
 subst h1 m;intro a;induction a with
 | nil=>
  intro done hl _;have i:done.length=len:=by simpa using hl
  refine an ?_;rw [Et];have h1:¬(done.length:Int) < (len:Int):=by omega
  have f:i64.wrap (0 - tv)= -tv:=by rw [wr (by omega)];omega
  simp only [aj,↓reduceIte,Int.reduceBEq,Int.reduceEq,GD,h1,f,cZ,T0]
 | cons x a n=>
  intro done hl hb;have i:done.length+ (a.length+1)=len:=by simpa using hl
  have h1:(done.length:Int) < (len:Int):=by omega
  have l: 0<=(done.length:Int):=by omega
  have p:=hb x RL;have f:i64.wrap (0 - x)= -x:=by rw [wr (by omega)];omega
  have b:(done++x::a)[done.length]? =some x:=by simp
  have d:(done.length:Int) < ((done++x::a).length:Int):=by simp;omega
  have j:bt (done.length:Int).toNat 0 [ti (-x)] (enc (done++x::a))=some (enc ((done++ [-x])++a)):=by rw [zF (by simp),po _ _ _ _ _ rfl];simp
  have:=n (done++ [-x]) (by simp;omega) (λy hy=>hb y (RM _ hy));rw [SI,Vx] at this;refine an ?_;rw [Et];simp only [aj,↓reduceIte,Int.reduceBEq,Int.reduceEq,GD,h1,l,and_self,bH,d,dE b,f,j,next done.length (by omega)];exact this.trans (by simp [cZ])
theorem PL(e:Bool)(l:List Int)(kd tv:Int)(hn:l.length<=1000)(hb:Bd 1000000 l)(j: -1000000<=tv/\tv<=1000000)(hz:du l≠0):
  Or (.call 50) [AV.agg [o0,I kd,I tv]] [ab.sl false 1 e (enc l)]=some [T.ae 1 e (enc (l.map (sg kd l * ·))),ti kd,ti (sg kd l * tv)]:=by
 obtain⟨n,a,b,c⟩:=zR 0 hz;rw [Sn] at a;have i: 0<=(n:Int)/\(n:Int) < (l.length:Int):=by omega
 refine an ?_;rw [Lt];unfold sg;by_cases hk:kd=3
 .subst hk;by_cases f:du l < 0
  .rw [if_pos ⟨rfl,f⟩];have:=N3 _ _ e 3 tv true l.length hn j rfl rfl l [] (by simp) hb;simp only [Sx,R0] at this;have d:((3:Int)==3)=true:=rfl;simp only [d];simp only [aj,↓reduceIte,Int.reduceBEq,Int.reduceEq,GD,By e l hn,a,i,and_self,bH,dE b,f,decide_true];exact this.trans (by simp [cZ])
  .have g:¬((3:Int)=3/\du l < 0):=λh=>f h.2;rw [if_neg g];have d:((3:Int)==3)=true:=rfl;simp only [d];simp only [aj,↓reduceIte,Int.reduceBEq,Int.reduceEq,GD,By e l hn,a,i,and_self,bH,dE b,f,decide_false];simp
 .have g:¬(kd=3/\du l < 0):=λh=>hk h.1;rw [if_neg g];have d:(kd==3)=false:=by simpa using hk
  simp only [d];simp only [aj,↓reduceIte,Int.reduceBEq,Int.reduceEq,GD,dG,By e l hn];simp
theorem FA:∀{l:List Int},du l=0->∀x∈l,x=0
 | [],_,x,a=>by cases a
 | y::r,h,x,a=>by
  rw [du] at h;split at h
  .rename_i hy;rcases RV.1 a with rfl | a
   .exact hy
   .exact FA h x a
  .rename_i hy;exact absurd h hy
theorem yU{l:List Int}:∀{k j:Nat},k<=l.length->fm l k=j+1->l.getD j 0≠0/\j < k
 | 0,j,_,h=>by simp [fm] at h
 | k+1,j,hk,h=>by
  rw [fm] at h;split at h
  .have:=yU (by omega) h;exact⟨this.1,by omega⟩
  .rename_i hz;obtain rfl:k=j:=by omega
   exact⟨hz,by omega⟩
theorem nA{l:List Int}(h:bz l≠[]):∃x∈bz l,x≠0:=by
 unfold bz at h⊢;cases hk:fm l l.length with
 | zero=>rw [hk] at h;exact absurd rfl h
 | succ j=>obtain⟨h1,a⟩:=yU (R3 _) hk;exact⟨_,RN (xJ a),h1⟩
theorem Dq{l:List Int}(h:bz l≠[]):du (bz l)≠0:=by obtain⟨x,c,a⟩:=nA h;exact λb=>a (FA b x c)
theorem vU{g:Int}(e: 0 < g):∀{l:List Int},(∀x∈l,g ∣ x)->du (bh g l)=du l / g
 | [],_=>by simp [bh,du]
 | x::r,h=>by
  have d:=h x RL;have b:=vU e (λy hy=>h y (RM _ hy));simp only [bh,Se,du] at b⊢;by_cases a:x=0
  .subst a;simpa using b
  .obtain⟨c,rfl⟩:=d;have:g * c / g≠0:=by
    rw [TC _ (by omega)];intro h;subst h;simp at a
   rw [if_neg this,if_neg a]
theorem Iy{g kd:Int}(a: 0 < g){l:List Int}(h:∀x∈l,g ∣ x):sg kd (bh g l)=sg kd l:=by
 unfold sg;rw [vU a h];have:du l / g < 0↔du l < 0:=by rw [TQ a];simp
 simp only [this]
theorem tg(r:R)(s:r.e=true->r.of= [])(j:(gp 12 r).1=0)(hb:Bd 1000000 r.of)(H: -1000000<=r.tv/\r.tv<=1000000)(hn:r.of.length<=12):
  ∃a,(a=true->(bY r.of r.kd r.tv).1= [])/\Or (.call 19) [AV.agg [ae r.e r.of,I r.kd,I r.tv]] []=some [T.ae 1 a (enc (bY r.of r.kd r.tv).1),ti r.kd,ti (bY r.of r.kd r.tv).2,ti 0,ti 0]:=by
 have k:=Bu r 12 (by omega) s;obtain⟨a,B,k2⟩:=PJ r.e r.of s (by omega);unfold bY;by_cases hz:bz r.of= []
 .refine⟨true,λ_=>by rw [if_pos hz],an ?_⟩;rw [vG,if_pos hz];simp only [show((12:Nat):Int)=12 from rfl] at k;have hl:((enc (bz r.of)).length:Int)=0:=by rw [hz];rfl
  simp only [aj,↓reduceIte,Int.reduceBEq,Int.reduceEq,GD,k,j,k2,hl,PK];rfl
 .rw [if_neg hz];have f:=yV hb;have O:=u4 r.of;obtain⟨x,m,E⟩:=nA hz;have N:=o5 (g:=r.tv.natAbs) m E;have M:gl r.tv.natAbs (bz r.of)<=1000000:=FR (by omega) (by simpa using f);have i:∀x∈bz r.of,(gl r.tv.natAbs (bz r.of):Int) ∣ x:=λx m=>mI m;have q:(gl r.tv.natAbs (bz r.of):Int) ∣ r.tv:=by
   have:=qD (bz r.of) r.tv.natAbs;exact SB.2 this
  have d:(0:Int) < (gl r.tv.natAbs (bz r.of):Int):=by omega
  have G:=lO d H (by omega);have C:=If r.tv 0 (by omega) (by omega);rw [Vh,Uo] at C;have u:du (bh (gl r.tv.natAbs (bz r.of)) (bz r.of))≠0:=by
   rw [vU d i];have l:=Dq hz;obtain⟨y,hy,A⟩:∃y∈bz r.of,y=du (bz r.of):=by obtain⟨n,_,b,_⟩:=zR 0 l;exact⟨_,RN b,rfl⟩
   have p:=i y hy;rw [A] at p;obtain⟨c,j⟩:=p;rw [j] at l⊢;rw [TC _ (by omega)];intro h;subst h;simp at l
  have o:Bd 1000000 (bh (gl r.tv.natAbs (bz r.of)) (bz r.of)):=by intro y hy;obtain⟨z,hz,rfl⟩:=Si.1 hy;exact lO d (f z hz) (by omega)
  have F:(bh (gl r.tv.natAbs (bz r.of)) (bz r.of)).length= (bz r.of).length:=by simp [bh]
  have D:=PL a (bh (gl r.tv.natAbs (bz r.of)) (bz r.of)) r.kd (r.tv / (gl r.tv.natAbs (bz r.of):Int)) (by omega) o G u;rw [Iy d i] at D;refine⟨a,λh=>absurd (B h) hz,an ?_⟩;have J:Or oJ [r0,AV.ref (Id.c 1) 0,AV.ref (Id.c 2) 0,AV.own (Id.c 3),I (gl r.tv.natAbs (bz r.of):Nat),I ((bz r.of).length:Int),I ((bz r.of).length:Int)] [ab.box [ae r.e r.of,I r.kd,I r.tv],ab.box [AV.t (T.aL true),I 0,I 0],ab.box [I 0,I 0],ab.sl false 1 a (enc (bh (gl r.tv.natAbs (bz r.of)) (bz r.of)))]=some [T.ae 1 a (enc ((bz r.of).map (λx=>sg r.kd (bz r.of) * (x / (gl r.tv.natAbs (bz r.of):Int))))),ti r.kd,ti (sg r.kd (bz r.of) * (r.tv / (gl r.tv.natAbs (bz r.of):Int))),ti 0,ti 0]:=by
   refine an ?_;rw [Em];have h1:¬((bz r.of).length:Int) < ((bz r.of).length:Int):=by omega
   have w:¬((gl r.tv.natAbs (bz r.of):Nat):Int)=0:=by omega
   simp only [aj,↓reduceIte,Int.reduceBEq,Int.reduceEq,GD,h1,w,ot q,wr (v:=r.tv / (gl r.tv.natAbs (bz r.of):Int)) (by omega),D];simp [bh,Function.comp_def]
  have K:=NW _ _ _ a r.kd r.tv (gl r.tv.natAbs (bz r.of):Nat) r.e r.of true d _ (bz r.of).length (by omega) rfl rfl rfl (bz r.of) [] (by simp) f i (by simpa using J);have L:=NX _ _ _ a (bz r.of) r.kd r.tv r.e r.of true f (by omega) _ rfl rfl rfl (bz r.of) 0 r.tv.natAbs rfl (by omega) (by simpa using K);rw [vG];simp only [show((12:Nat):Int)=12 from rfl] at k;have hl:¬((bz r.of).length:Int)=0:=by intro h;exact hz (R4.1 (by omega))
  simp only [aj,↓reduceIte,Int.reduceBEq,Int.reduceEq,GD,k,j,k2,bH,hl,C];exact L
open Go Go.Aev Go.IntKind
def s1(x:Int):Int:=if x < 0 then -1 else 1
open Go Go.Aev Go.IntKind
def jl(x:Int):Bool:=decide (x>= -1000000/\x<=1000000)
def gU(x:Int):Int:=max (min x 1) (-1)
def cV(of:List Int)(to:Int):Nat:=gl to.natAbs (bz of)
def gZ(of:List Int)(to:Int):List Int:=bh (cV of to) (bz of)
def dJ(of:List Int)(kd to:Int):Int:=if bz of= [] then dQ kd (gU to) else to / (cV of to:Int)
def lW(of:List Int)(to:Int):Bool:=if bz of= [] then true else jl (to / (cV of to:Int)) && (gZ of to).all jl
theorem DB(x:Int): -1000000<=gU x/\gU x<=1000000:=by unfold gU;omega
theorem Kl(l:List Int):∃k,l=bz l++List.replicate k 0:=by
 have c:∀k,k<=l.length->∃j,l.take k=l.take (fm l k)++List.replicate j 0:=by
  intro k;induction k with
  | zero=>intro _;exact⟨0,by simp [fm]⟩
  | succ k e=>
   intro hk;rw [fm];by_cases hz:l.getD k 0=0
   .obtain⟨j,a⟩:=e (by omega);refine⟨j+1, ?_⟩;have b:k < l.length:=by omega
    have d:l[k]? =some 0:=by simp only [RO,RR b,SJ] at hz;rw [RR b,hz]
    rw [if_pos hz,T8,a,d,Sj,U6,Option.toList_some]
   .exact⟨0,by rw [if_neg hz];simp⟩
 obtain⟨j,a⟩:=c l.length (R3 _);rw [Ti] at a;exact⟨j,a⟩
theorem FT(g:Nat):∀(l:List Int) (a:Nat),(∀x∈l,(g:Int) ∣ x)->0 < g->gl (g * a) l=g * gl a (bh g l)
 | [],a,_,_=>rfl
 | x::l,a,h,b=>by obtain⟨c,rfl⟩:=h x RL;have e:=FT g l (Nat.gcd a c.natAbs) (λy hy=>h y (RM _ hy)) b;have d:(g:Int) * c / (g:Int)=c:=TC _ (by omega);show gl (Nat.gcd (g * a) ((g:Int) * c).natAbs) l=g * gl (Nat.gcd a ((g:Int) * c / (g:Int)).natAbs) (bh g l);rw [d,Ss,Sb,Nat.gcd_mul_left];exact e
theorem N6(d f:ab)(e:Bool)(l:List Int)(to kd:Int)(e0 o:Bool)(hb:Bd 4000000000000 l)(hn:l.length<=1000)(res:List T)
  (j:d=ab.box [AV.t (T.aL e0),I 0,I 0]) (h1:f=ab.box [AV.t (T.aL o),I kd,I 0]):∀(a:List Int) (i:Nat) (g:Nat),l.drop i=a->i<=l.length->g<=4000000000000->
  Or pQ [ae e l,I to,r0,AV.ref (Id.c 1) 0,I (gl g a:Nat),ae e l,I (l.length:Int),I (l.length:Int)] [d,f]=some res->
  Or pQ [ae e l,I to,r0,AV.ref (Id.c 1) 0,I (g:Int),ae e l,I (l.length:Int),I (i:Int)] [d,f]=some res:=by
 subst j h1;intro a;induction a with
 | nil=>
  intro i g h hi m hk;have b:=bU h;obtain rfl:i=l.length:=by omega
  exact hk
 | cons x a q=>
  intro i g h hi m hk;obtain⟨k,r,p⟩:=bR h;have h1:(i:Int) < (l.length:Int):=by omega
  have j: 0<=(i:Int):=by omega
  have s:=hb x (RN k);have n:=Bw (g:Int) x (by omega) (by omega);rw [Sb] at n;have b:Nat.gcd g x.natAbs<=4000000000000:=by
   rcases Ul g with h | h
   .subst h;rw [Vr];omega
   .exact Sh (Wh _ h) m
  have:=q (i+1) (Nat.gcd g x.natAbs) p (by omega) b hk;refine an ?_;rw [Ex];simp only [aj,↓reduceIte,Int.reduceBEq,Int.reduceEq,GD,h1,j,and_self,bH,dE k,n,next i (by omega)];exact this
theorem Im(c:Int):Or (.call 77) [I c] []=some [tb (jl c)]:=by refine an ?_;rw [LM];simp only [lJ,<-TK];rfl
theorem N5(r:ab)(e:Bool)(l:List Int)(to kd g:Int)(e0:Bool)(hb:Bd 4000000000000 l)(hn:l.length<=1000)(y: 0 < g)(u:∀x∈l,g ∣ x)(z: -4000000000000<=to/\to<=4000000000000)(w:g ∣ to)
  (n:r=ab.box [AV.t (T.aL e0),I 0,I 0]):∀(a:List Int) (i:Nat) (done:List Int) (b v:Bool),l.drop i=a->done.length<=i->(b=true->done= [])->
  ∃f,(f=true->done++bh g a= [])/\Or rE [I to,r0,AV.ref (Id.c 1) 0,I g,AV.fn 77 [] [],B v,ae e l,I (l.length:Int),I (i:Int)] [r,ab.box [AV.own (Id.c 2),I kd,I 0],ab.sl false 1 b (enc done)]=
   some [T.ae 1 f (enc (done++bh g a)),ti kd,ti (to / g),tb (v && (bh g a).all jl)]:=by
 subst n;intro a;induction a with
 | nil=>
  intro i done b v h hl o;have h1:¬(i:Int) < (l.length:Int):=by have:=bU h;omega
  have d:¬g=0:=by omega
  have D:=lO y z (by omega);refine⟨b,λh=>by simpa [bh] using o h,an ?_⟩;rw [zw];simp only [aj,↓reduceIte,Int.reduceBEq,Int.reduceEq,GD,h1,d,ot w,wr (v:=to / g) (by omega)];simp [bh]
 | cons x a C=>
  intro i done b v h hl o;obtain⟨j,F,s⟩:=bR h;have h1:(i:Int) < (l.length:Int):=by omega
  have n: 0<=(i:Int):=by omega
  have d:¬g=0:=by omega
  have E:=hb x (RN j);have D:=lO y E (by omega);have p:∀v:Int,bw 8 (done.length+ [[ti v]].length)=some ():=λv=>iD (by simp;omega);have m:enc done++ [[ti (x / g)]]=enc (done++ [x / g]):=by simp [enc]
  have A:i64.wrap (x / g)=x / g:=wr (by omega);cases v with
  | true=>obtain⟨f,q,k⟩:=C (i+1) (done++ [x / g]) (b && false) (jl (x / g)) s (by simp;omega) (by simp);refine⟨f,λh=>by simpa [bh] using q h,an ?_⟩;rw [zw];rw [TS,Sj,Vz] at k;simp only [aj,↓reduceIte,Int.reduceBEq,Int.reduceEq,GD,h1,n,and_self,bH,dE j,d,ot (u x (RN j)),A,p,m,Im,next i (by omega)];refine k.trans ?_;simp [bh]
  | false=>obtain⟨f,q,k⟩:=C (i+1) (done++ [x / g]) (b && false) false s (by simp;omega) (by simp);refine⟨f,λh=>by simpa [bh] using q h,an ?_⟩;rw [zw];rw [TS,Sj,Vz] at k;simp only [aj,↓reduceIte,Int.reduceBEq,Int.reduceEq,GD,h1,n,and_self,bH,dE j,d,ot (u x (RN j)),A,p,m,next i (by omega)];refine k.trans ?_;simp [bh]
theorem KC(kd t:Int)(hk:kd=1\/kd=2)(b: -1000000<=t/\t<=1000000):(gp 12 ⟨true,[],kd,t⟩).1=0:=by
 unfold gp;have h1:¬((¬kd=1/\¬kd=2)/\¬kd=3):=by omega
 have a:t>= -1000000/\t<=1000000:=by omega
 simp [h1,jM,a]
theorem BS(kd t:Int):bY [] kd t= ([],dQ kd t):=by simp [bY,bz,fm]
theorem AG(j m:ab)(e:Bool)(l:List Int)(to kd:Int)(hb:Bd 4000000000000 l)(hn:l.length<=900)(hk:kd=1\/kd=2)(p: -4000000000000<=to/\to<=4000000000000)
  (b:j=ab.box [AV.t (T.aL true),I 0,I 0]) (h1:m=ab.box [AV.t (T.aL true),I kd,I 0]):∀(k:Nat),k<=l.length->bz l=l.take (fm l k)->
  ∃a,(a=true->gZ l to= [])/\Or rF [ae e (l.take k),I to,r0,AV.ref (Id.c 1) 0] [j,m]=some [T.ae 1 a (enc (gZ l to)),ti kd,ti (dJ l kd to),tb (lW l to)]
 | 0,J,hz=>by
  subst b h1;have q:bz l= []:=by rw [hz];rfl
  obtain⟨a,_,f⟩:=tg ⟨true,[],kd,gU to⟩ (λ_=>rfl) (KC kd _ hk (DB to)) (λx d=>by cases d) (DB to) (by simp);rw [BS] at f;have hm:mm true (mm false to 1) (-1)=gU to:=by rw [Ay,Gr];rfl
  have E:gZ l to= []:=by unfold gZ;rw [q];rfl
  have A:dJ l kd to=dQ kd (gU to):=by unfold dJ;rw [if_pos q]
  have z:lW l to=true:=by unfold lW;rw [if_pos q]
  refine⟨a,λ_=>E,an ?_⟩;rw [zx,E,A,z];have b:¬((0:Nat):Int) > 0:=by omega
  have n:((0:Nat):Int)=0:=rfl;have K:(ae true [])=AV.t (T.ae 1 true []):=rfl;simp only [K] at f;simp only [aj,↓reduceIte,Int.reduceBEq,Int.reduceEq,GD,dG,bH,m9 J,b,n,decide_false,hm,f];simp only [Int.lt_irrefl,gt_iff_lt,decide_false,dG,aj,↓reduceIte,Int.reduceBEq,Int.reduceEq,GD,f]
 | k+1,i,hz=>by
  have r:((k+1:Nat):Int) > 0:=by omega
  have n:¬((k+1:Nat):Int)=0:=by omega
  have L:i64.wrap (((k+1:Nat):Int) - 1)= (k:Int):=by rw [wr (by omega)];omega
  have C: 0<=(k:Int)/\(k:Int) < ((k+1:Nat):Int):=by omega
  have hi:cU 0 (k:Int) ((k+1:Nat):Int)=some ():=sw (by omega);have G:=dE (xJ (l:=l) (k:=k) (by omega));have S:(l.take (k+1)).take k=l.take k:=by rw [Wu];congr 1;omega
  by_cases d:l.getD k 0=0
  .obtain⟨a,B,f⟩:=AG j m e l to kd hb hn hk p b h1 k (by omega) (by rw [hz,fm,if_pos d]);subst b h1;refine⟨a,B,an ?_⟩;rw [zx];simp only [aj,↓reduceIte,Int.reduceBEq,Int.reduceEq,GD,bH,m9 i,r,decide_true,L,C,and_self,G,d,hi,IX,S];exact f
  .have u:bz l=l.take (k+1):=by rw [hz,fm,if_neg d]
   have o:bz l≠[]:=by intro h;rw [u] at h;have:=congrArg List.length h;rw [m9 i] at this;simp at this
   obtain⟨x,N,M⟩:=nA o;have U:=o5 (g:=to.natAbs) N M;have s:=yV hb;have R:=u4 l;have F:∀x∈bz l,(cV l to:Int) ∣ x:=λx d=>mI d;have w:(cV l to:Int) ∣ to:=SB.2 (qD (bz l) to.natAbs);have y:(0:Int) < (cV l to:Int):=by unfold cV;omega
   have H:¬(cV l to:Int)=0:=by omega
   have V:=lO y p (by omega);obtain⟨a,B,f⟩:=N5 j e (bz l) to kd (cV l to:Int) true s (by omega) y F p w b (bz l) 0 [] true (jl (to / (cV l to:Int))) rfl (by simp) (λ_=>rfl);have k2:Or pQ [ae e (bz l),I to,r0,AV.ref (Id.c 1) 0,I (gl to.natAbs (bz l):Nat),ae e (bz l),I ((bz l).length:Int),I ((bz l).length:Int)] [j,m]=some [T.ae 1 a (enc (gZ l to)),ti kd,ti (dJ l kd to),tb (lW l to)]:=by
    subst b h1;refine an ?_;rw [Ex];have Q:¬((bz l).length:Int) < ((bz l).length:Int):=by omega
    have A:dJ l kd to=to / (cV l to:Int):=by unfold dJ;rw [if_neg o]
    have z:lW l to= (jl (to / (cV l to:Int)) && (gZ l to).all jl):=by unfold lW;rw [if_neg o]
    rw [A,z];have D:gl to.natAbs (bz l)=cV l to:=rfl;simp only [D];simp only [aj,↓reduceIte,Int.reduceBEq,Int.reduceEq,GD,Q,H,ot w,wr (v:=to / (cV l to:Int)) (by omega),Im,bH];exact f
   have O:=N6 j m e (bz l) to kd true true s (by omega) _ b h1 (bz l) 0 to.natAbs rfl (by omega) (by omega) k2;have P:=Bw to 0 (by omega) (by omega);rw [Vh,Uo] at P;refine⟨a,λh=>by simpa [gZ] using B h,an ?_⟩;subst b h1;rw [zx];simp only [aj,↓reduceIte,Int.reduceBEq,Int.reduceEq,GD,bH,m9 i,r,decide_true,L,C,and_self,G,d,n,P];rw [u,m9 i] at O;exact O
theorem PO(e:Bool)(l:List Int)(to:Int)(less:Bool)(hb:Bd 4000000000000 l)(hn:l.length<=900)(b: -4000000000000<=to/\to<=4000000000000):
  ∃a,(a=true->gZ l to= [])/\Or (.call 55) [ae e l,I to,B less] []=some [T.ae 1 a (enc (gZ l to)),ti (if less then 2 else 1),ti (dJ l (if less then 2 else 1) to),tb (lW l to)]:=by
 cases less with
 | true=>obtain⟨a,c,k⟩:=AG _ _ e l to 2 hb hn (by omega) b rfl rfl l.length (R3 _) rfl;rw [Ti] at k;refine⟨a,c,an ?_⟩;rw [Ew];simp only [aj,↓reduceIte,Int.reduceBEq,Int.reduceEq,GD];exact k
 | false=>obtain⟨a,c,k⟩:=AG _ _ e l to 1 hb hn (by omega) b rfl rfl l.length (R3 _) rfl;rw [Ti] at k;refine⟨a,c,an ?_⟩;rw [Ew];simp only [aj,↓reduceIte,Int.reduceBEq,Int.reduceEq,GD];exact k
open Go Go.Aev Go.IntKind
theorem KU(g:Int)(l:List Int):(bh g l).length=l.length:=by simp [bh]
open Go Go.Aev Go.IntKind
structure Bn where
 e:Bool
 of:List Int
 to:Int
 less:Bool
 dv:Int
def eB(b:Bn):List T:= [T.ae 1 b.e (enc b.of),ti b.to,tb b.less,ti b.dv]
def fv(l:List Bn):List (List T):=l.map eB
theorem nC(l:List Bn):(fv l).length=l.length:=by simp [fv]
theorem se{l:List Bn}{i:Nat}{r:Bn}(h:l[i]? =some r):(fv l)[((i:Nat):Int).toNat]? =some [T.ae 1 r.e (enc r.of),ti r.to,tb r.less,ti r.dv]:=by simp [fv,h,eB]
def Bn.s(b:Bn):Bn:=⟨true,b.of,b.to,b.less,b.dv⟩
abbrev bo(r:R):List Int×Int×Int:=(r.of,r.kd,r.tv)
def Bn.c(b:Bn):List Int×Int×Int:=(b.of,if b.less then 2 else 1,b.to)
def cE(n:Nat)(l:List Int):List Int:=l++List.replicate (n - l.length) 0
theorem AU{n:Nat}{l:List Int}(h:l.length<=n):(cE n l).length=n:=by simp [cE];omega
theorem sT{n:Nat}{l:List Int}(h:Bd 1000000 l):Bd 1000000 (cE n l):=by
 intro x a;rcases RX.1 a with h1 | h1
 .exact h x h1
 .rw [(List.mem_replicate.1 h1).2];omega
theorem nZ(n:Nat)(l:List Int)(k:Nat):(cE n l).getD k 0=l.getD k 0:=by
 simp only [cE,RO];by_cases h:k < l.length
 .rw [SO h]
 .rw [SK (by omega),SZ (l:=l) (by omega)];by_cases a:k - l.length < n - l.length
  .rw [TF,if_pos a];rfl
  .rw [TF,if_neg a]
theorem lU{l:List Int}{k:Nat}(h:k < l.length):l[k]? =some (l.getD k 0):=by simp [RO,h]
theorem PM(e:Bool)(l:List Int)(n:Nat)(c:e=true->l= [])(hl:l.length<=n)(hn:n<=12):∃a,Or (.call 52) [ae e l,I (n:Int)] []=some [T.ae 1 a (enc (cE n l))]:=by
 obtain⟨x,a,f,k2⟩:=Ij l e c (by omega);have d:i64.wrap ((n:Int) - (l.length:Int))= ((n - l.length:Nat):Int):=by rw [wr (by omega)];omega
 have hm:bJ ((n - l.length:Nat):Int) ((n - l.length:Nat):Int)=some ():=by unfold bJ;rw [if_pos (by unfold eH;omega)]
 have hs:bw 8 (l.length+ (List.replicate ((n - l.length:Nat):Int).toNat [ti 0]).length)=some ():=iD (by simp;omega);have b:enc l++List.replicate ((n - l.length:Nat):Int).toNat [ti 0]=enc (cE n l):=by simp [enc,cE]
 refine⟨a && (List.replicate ((n - l.length:Nat):Int).toNat [ti 0]).isEmpty,an ?_⟩;rw [Lu];simp only [aj,↓reduceIte,Int.reduceBEq,Int.reduceEq,GD,f,k2,bH,d,hm,hs,b]
theorem N4(e:Bool)(l:List Int)(hb:Bd 1000000 l)(hn:l.length<=1000):∀(a:List Int) (i:Nat) (done:List Int) (b:Bool),l.drop i=a->done.length<=i->
  ∃c,Or ur [o0,ae e l,I (l.length:Int),I (i:Int)] [ab.sl false 1 b (enc done)]=some [T.ae 1 c (enc (done++cZ a))]:=by
 intro a;induction a with
 | nil=>
  intro i done b h hl;have h1:¬(i:Int) < (l.length:Int):=by have:=bU h;omega
  refine⟨b,an ?_⟩;rw [Ev];simp only [aj,↓reduceIte,Int.reduceBEq,Int.reduceEq,GD,h1];simp [cZ]
 | cons x a o=>
  intro i done b h hl;obtain⟨f,p,j⟩:=bR h;have h1:(i:Int) < (l.length:Int):=by omega
  have m: 0<=(i:Int):=by omega
  have q:=hb x (RN f);have n:i64.wrap (0 - x)= -x:=by rw [wr (by omega)];omega
  have g:bw 8 (done.length+ [[ti (-x)]].length)=some ():=iD (by simp;omega);have d:enc done++ [[ti (-x)]]=enc (done++ [-x]):=by simp [enc]
  obtain⟨c,k⟩:=o (i+1) (done++ [-x]) (b && false) j (by simp;omega);refine⟨c,an ?_⟩;rw [Ev];rw [TS,Sj,Vz] at k;simp only [aj,↓reduceIte,Int.reduceBEq,Int.reduceEq,GD,h1,m,and_self,bH,dE f,n,g,d,next i (by omega)];exact k
theorem PN(e:Bool)(l:List Int)(hb:Bd 1000000 l)(hn:l.length<=1000):∃a,Or (.call 53) [ae e l] []=some [T.ae 1 a (enc (cZ l))]:=by obtain⟨a,k⟩:=N4 e l hb hn l 0 [] true rfl (by simp);refine⟨a,an ?_⟩;rw [Lv,bH];exact k
def fM(n k i:Nat)(r:R):List Bn:=
 if r.of.getD k 0 > 0 then [⟨true,cE n r.of,r.tv,r.kd==2,(i:Int)⟩] else if r.of.getD k 0 < 0/\r.kd=3 then [⟨true,cZ (cE n r.of), -r.tv,false,(i:Int)⟩] else []
def ft(n k i:Nat)(r:R):List Bn:=
 if r.of.getD k 0 < 0 then [⟨true,cE n r.of,r.tv,r.kd==2,(i:Int)⟩] else if r.of.getD k 0 > 0/\r.kd=3 then [⟨true,cZ (cE n r.of), -r.tv,false,(i:Int)⟩] else []
def cA(n k:Nat):List R->Nat->List Bn
 | [],_=> []
 | r::a,i=>fM n k i r++cA n k a (i+1)
def cD(n k:Nat):List R->Nat->List Bn
 | [],_=> []
 | r::a,i=>ft n k i r++cD n k a (i+1)
abbrev bK(k:Nat):ab:=ab.box [I (k:Int)]
abbrev LB(e:Bool)(l:List Bn):ab:=ab.sl false 4 e (fv l)
theorem Bv(k:Nat)(b:Bn)(hs a:List Bn)(d el:Bool)(hk:k < b.of.length)(h1:hs.length<=1000)(n:a.length<=1000):
  Or (.call 51) [AV.agg [AV.t (T.ae 1 b.e (enc b.of)),I b.to,B b.less,I b.dv],r0,AV.ref (Id.c 1) 0,AV.ref (Id.c 2) 0] [bK k,ab.box [AV.own (Id.c 3)],ab.box [AV.own (Id.c 4)],LB d hs,LB el a]=
   if b.of.getD k 0 > 0 then some [ti k,T.ae 4 false (fv (hs++ [b])),T.ae 4 el (fv a)] else some [ti k,T.ae 4 d (fv hs),T.ae 4 false (fv (a++ [b]))]:=by
 have j: 0<=(k:Int)/\(k:Int) < (b.of.length:Int):=by omega
 have m:=dE (lU hk);have g:bw 48 (hs.length+ [eB b].length)=some ():=iD (by simp;omega);have i:bw 48 (a.length+ [eB b].length)=some ():=iD (by simp;omega);have l:fv hs++ [eB b]=fv (hs++ [b]):=by simp [fv]
 have hb:fv a++ [eB b]=fv (a++ [b]):=by simp [fv]
 have key:∀r,aD aq ann Or (.call 51) [AV.agg [AV.t (T.ae 1 b.e (enc b.of)),I b.to,B b.less,I b.dv],r0,AV.ref (Id.c 1) 0,AV.ref (Id.c 2) 0] [bK k,ab.box [AV.own (Id.c 3)],ab.box [AV.own (Id.c 4)],LB d hs,LB el a]=some r->
   Or (.call 51) [AV.agg [AV.t (T.ae 1 b.e (enc b.of)),I b.to,B b.less,I b.dv],r0,AV.ref (Id.c 1) 0,AV.ref (Id.c 2) 0] [bK k,ab.box [AV.own (Id.c 3)],ab.box [AV.own (Id.c 4)],LB d hs,LB el a]=some r:=λr h=>an h
 unfold eB at g i l hb;by_cases f:b.of.getD k 0 > 0
 .rw [if_pos f];refine key _ ?_;rw [Eu];simp only [aj,↓reduceIte,Int.reduceBEq,Int.reduceEq,GD,j,and_self,bH,m,f,nC,g,l]
 .rw [if_neg f];refine key _ ?_;rw [Eu];simp only [aj,↓reduceIte,Int.reduceBEq,Int.reduceEq,GD,j,and_self,bH,m,f,nC,i,hb]
theorem qM(l:List Int)(k:Nat):(cZ l).getD k 0= -(l.getD k 0):=by simp only [cZ,RO,Sp];cases l[k]? <;> simp
theorem NY(rows:List R)(e:Bool)(n k:Nat)(hn:n<=12)(hk:k < n)(hr:∀r∈rows,cS n r)(hl:rows.length<=40):∀(l:List R) (i:Nat) (hs g:List Bn) (w el:Bool),rows.drop i=l->hs.length<=i->g.length<=i->
  ∃a b d f,Or pP [I (n:Int),r0,AV.ref (Id.c 1) 0,AV.ref (Id.c 2) 0,AV.fn 51 [] [r0,AV.ref (Id.c 1) 0,AV.ref (Id.c 2) 0],LR e rows,I (rows.length:Int),I (i:Int)] [bK k,ab.box [AV.own (Id.c 3)],ab.box [AV.own (Id.c 4)],LB w hs,LB el g]=
   some [T.ae 4 d (fv a),T.ae 4 f (fv b)]/\a.map Bn.s=hs.map Bn.s++cA n k l i/\b.map Bn.s=g.map Bn.s++cD n k l i:=by
 intro l;induction l with
 | nil=>
  intro i hs g w el h h1 S;refine⟨hs,g,w,el,an ?_,by simp [cA],by simp [cD]⟩;rw [qf];have h1:¬(i:Int) < (rows.length:Int):=by have:=bU h;omega
  simp only [aj,↓reduceIte,Int.reduceBEq,Int.reduceEq,GD,h1]
 | cons r l E=>
  intro i hs g w el h O P;obtain⟨B,Q,C⟩:=bR h;have h1:(i:Int) < (rows.length:Int):=by omega
  have D: 0<=(i:Int):=by omega
  have ok:=hr r (RN B);obtain⟨v,F⟩:=PM r.e r.of n ok.e ok.len hn;have y:=AU ok.len;have H:k < (cE n r.of).length:=by omega
  have x: 0<=(k:Int)/\(k:Int) < (n:Int):=by omega
  have j:=dE (lU H);rw [nZ] at j;by_cases hz:r.of.getD k 0=0
  .obtain⟨a,b,d,f,q,t,u⟩:=E (i+1) hs g w el C (by omega) (by omega);have N:fM n k i r= []:=by unfold fM;rw [if_neg (by omega),if_neg (by omega)]
   have M:ft n k i r= []:=by unfold ft;rw [if_neg (by omega),if_neg (by omega)]
   refine⟨a,b,d,f,an ?_,by rw [t,cA,N,R0],by rw [u,cD,M,R0]⟩;rw [qf];simp only [aj,↓reduceIte,Int.reduceBEq,Int.reduceEq,GD,h1,D,and_self,cY,fT B,F,bH,y,x,j,hz,next i (by omega)];exact q
  .have k2:=Bv k ⟨v,cE n r.of,r.tv,r.kd==2,(i:Int)⟩ hs g w el H (by omega) (by omega);simp only [nZ] at k2;by_cases o:r.kd=3
   .have p:(r.kd==2)=false:=by rw [o];rfl
    rw [p] at k2;obtain⟨G,L⟩:=PN v (cE n r.of) (sT ok.of) (by omega);have K:i64.wrap (0 - r.tv)= -r.tv:=by have:=ok.tv;rw [wr (by omega)];omega
    have J:k < (cZ (cE n r.of)).length:=by simp [cZ];omega
    by_cases m:r.of.getD k 0 > 0
    .rw [if_pos m] at k2;have z:=Bv k ⟨G,cZ (cE n r.of), -r.tv,false,(i:Int)⟩ (hs++ [⟨v,cE n r.of,r.tv,false,(i:Int)⟩]) g false el J (by simp;omega) (by omega);simp only [qM,nZ] at z;rw [if_neg (by omega)] at z;obtain⟨a,b,d,f,q,t,u⟩:=E (i+1) (hs++ [⟨v,cE n r.of,r.tv,false,(i:Int)⟩]) (g++ [⟨G,cZ (cE n r.of), -r.tv,false,(i:Int)⟩]) false false C (by simp;omega) (by simp;omega);refine⟨a,b,d,f,an ?_, ?_, ?_⟩
     .rw [qf];simp only [aj,↓reduceIte,Int.reduceBEq,Int.reduceEq,GD,h1,D,and_self,cY,fT B,F,bH,y,x,j,hz,k2,o,L,K];simp only [aj,↓reduceIte,Int.reduceBEq,Int.reduceEq,GD,z,next i (by omega)];exact q
     .rw [t,cA];simp only [fM,if_pos m];simp [Bn.s,p]
     .rw [u,cD];have:¬r.of.getD k 0 < 0:=by omega
      simp only [ft,if_neg this,if_pos (And.intro m o)];simp [Bn.s]
    .rw [if_neg m] at k2;have A:r.of.getD k 0 < 0:=by omega
     have z:=Bv k ⟨G,cZ (cE n r.of), -r.tv,false,(i:Int)⟩ hs (g++ [⟨v,cE n r.of,r.tv,false,(i:Int)⟩]) w false J (by omega) (by simp;omega);simp only [qM,nZ] at z;rw [if_pos (by omega)] at z;obtain⟨a,b,d,f,q,t,u⟩:=E (i+1) (hs++ [⟨G,cZ (cE n r.of), -r.tv,false,(i:Int)⟩]) (g++ [⟨v,cE n r.of,r.tv,false,(i:Int)⟩]) false false C (by simp;omega) (by simp;omega);refine⟨a,b,d,f,an ?_, ?_, ?_⟩
     .rw [qf];simp only [aj,↓reduceIte,Int.reduceBEq,Int.reduceEq,GD,h1,D,and_self,cY,fT B,F,bH,y,x,j,hz,k2,o,L,K];simp only [aj,↓reduceIte,Int.reduceBEq,Int.reduceEq,GD,z,next i (by omega)];exact q
     .rw [t,cA];simp only [fM,if_neg m,if_pos (And.intro A o)];simp [Bn.s]
     .rw [u,cD];simp only [ft,if_pos A];simp [Bn.s,p]
   .by_cases m:r.of.getD k 0 > 0
    .rw [if_pos m] at k2;obtain⟨a,b,d,f,q,t,u⟩:=E (i+1) (hs++ [⟨v,cE n r.of,r.tv,r.kd==2,(i:Int)⟩]) g false el C (by simp;omega) (by omega);refine⟨a,b,d,f,an ?_, ?_, ?_⟩
     .rw [qf];simp only [aj,↓reduceIte,Int.reduceBEq,Int.reduceEq,GD,h1,D,and_self,cY,fT B,F,bH,y,x,j,hz,k2,o,next i (by omega)];exact q
     .rw [t,cA];simp only [fM,if_pos m];simp [Bn.s]
     .rw [u,cD];have:¬r.of.getD k 0 < 0:=by omega
      simp only [ft,if_neg this,if_neg (λh:r.of.getD k 0 > 0/\r.kd=3=>o h.2)];simp
    .rw [if_neg m] at k2;have A:r.of.getD k 0 < 0:=by omega
     obtain⟨a,b,d,f,q,t,u⟩:=E (i+1) hs (g++ [⟨v,cE n r.of,r.tv,r.kd==2,(i:Int)⟩]) w false C (by omega) (by simp;omega);refine⟨a,b,d,f,an ?_, ?_, ?_⟩
     .rw [qf];simp only [aj,↓reduceIte,Int.reduceBEq,Int.reduceEq,GD,h1,D,and_self,cY,fT B,F,bH,y,x,j,hz,k2,o,next i (by omega)];exact q
     .rw [t,cA];simp only [fM,if_neg m,if_neg (λh:r.of.getD k 0 < 0/\r.kd=3=>o h.2)];simp
     .rw [u,cD];simp only [ft,if_pos A];simp [Bn.s]
theorem PF(rows:List R)(e:Bool)(n k:Nat)(hn:n<=12)(hk:k < n)(hr:∀r∈rows,cS n r)(hl:rows.length<=40):
  ∃hs a b el,Or (.call 20) [LR e rows,I (n:Int),I (k:Int)] []=some [T.ae 4 b (fv hs),T.ae 4 el (fv a)]/\hs.map Bn.s=cA n k rows 0/\a.map Bn.s=cD n k rows 0:=by
 obtain⟨hs,a,b,el,c,k2,d⟩:=NY rows e n k hn hk hr hl rows 0 [] [] true true rfl (by simp) (by simp);refine⟨hs,a,b,el,an ?_,by simpa using k2,by simpa using d⟩;rw [Ld,cY];exact c
open Go Go.Aev Go.IntKind
abbrev C:=List Int×Int×Int
def cG(a b:Bn)(k:Nat):Nat:=Nat.gcd (a.of.getD k 0).natAbs (-(b.of.getD k 0)).natAbs
def cP(a b:Bn)(k:Nat):Int:=a.of.getD k 0 / (cG a b k:Int)
def cQ(a b:Bn)(k:Nat):Int:= -(b.of.getD k 0) / (cG a b k:Int)
def cL(a b:Bn)(k:Nat):List Int:=List.zipWith (λx y=>cQ a b k * x+cP a b k * y) a.of b.of
def cT(a b:Bn)(k:Nat):Int:=cQ a b k * a.to+cP a b k * b.to
def cB(a b:Bn):Int:=if a.less || b.less then 2 else 1
def cC(a b:Bn)(k:Nat):C:=(gZ (cL a b k) (cT a b k),cB a b,dJ (cL a b k) (cB a b) (cT a b k))
def lI(a b:Bn)(k:Nat):Bool:=lW (cL a b k) (cT a b k)
def eP(k:Nat)(a:Bn):List Bn->List C->Int×List C
 | [],c=>(0,c)
 | b::r,c=>if a.dv=b.dv then eP k a r c else if lI a b k=false then(10,[]) else if c.length+1 > 40 then(2,[]) else eP k a r (c++ [cC a b k])
def gv(k:Nat)(c:List Bn):List Bn->List C->Int×List C
 | [],b=>(0,b)
 | a::r,b=>if(eP k a c b).1=0 then gv k c r (eP k a c b).2 else eP k a c b
def lh(r:R):C:=((bY r.of r.kd r.tv).1,r.kd,(bY r.of r.kd r.tv).2)
def gr(k:Nat):List R->List C
 | []=> []
 | r::a=>if r.of.getD k 0=0 then lh r::gr k a else gr k a
structure uN (n k:Nat) (b:Bn):Prop where
 len:b.of.length=n
 of:Bd 1000000 b.of
 to: -1000000<=b.to/\b.to<=1000000
structure Up (n k:Nat) (b:Bn):Prop extends uN n k b where
 iL:b.of.getD k 0 > 0
structure Dn (n k:Nat) (b:Bn):Prop extends uN n k b where
 iL:b.of.getD k 0 < 0
theorem JA{f:Int->Int->Int}{A:Int}:∀{x y:List Int},(∀a∈x,∀b∈y, -A<=f a b/\f a b<=A)->Bd A (List.zipWith f x y)
 | [],_,_=>by intro z hz;simp at hz
 | _::_,[],_=>by intro z hz;simp at hz
 | a::x,b::y,h=>by
  intro z hz;rw [Vu] at hz;rcases RV.1 hz with rfl | hz
  .exact h a RL b RL
  .exact JA (λa c b hb=>h a (RM _ c) b (RM _ hb)) z hz
theorem uW{b:Int}{l:List Int}{k:Nat}(h:Bd b l)(hb: 0<=b): -b<=l.getD k 0/\l.getD k 0<=b:=by
 by_cases hk:k < l.length
 .exact h _ (RN (lU hk))
 .rw [RO,SZ (by omega)];simp;omega
theorem pq{n k:Nat}{a b:Bn}(d:Up n k a)(hb:Dn n k b): 0 < (cG a b k:Int)/\(-1000000<=cP a b k/\cP a b k<=1000000)/\(-1000000<=cQ a b k/\cQ a b k<=1000000):=by
 have h1:=d.iL;have g:=hb.iL;have e:=uW (k:=k) d.of (by omega);have f:=uW (k:=k) hb.of (by omega);have h: 0 < cG a b k:=Nat.gcd_pos_of_pos_left _ (by omega);have c: 0 < (cG a b k:Int):=by omega
 exact⟨c,lO c e (by omega),lO c (by omega) (by omega)⟩
theorem NZ(a b:Bn)(r:ab)(k:Nat)(P Q:Int)(K:Bool)(n:Nat)(hn:n<=12)(A: -1000000<=P/\P<=1000000)(C: -1000000<=Q/\Q<=1000000)(l:uN n k a)(hb:uN n k b)
  (i:r=ab.box [AV.t (T.aL K),I 0,I 0]) (s:Bool) (L:List Int) (kd tv:Int) (ok:Bool) (h:List Int)
  (z:Or (.call 55) [ae false h,I (Q * a.to+P * b.to),B (a.less || b.less)] []=some [T.ae 1 s (enc L),ti kd,ti tv,tb ok]):∀(d g done:List Int),a.of.drop done.length=d->b.of.drop done.length=g->h=done++List.zipWith (λx y=>Q * x+P * y) d g->
  Or uf [r0,AV.ref (Id.c 1) 0,AV.ref (Id.c 2) 0,I P,I Q,AV.own (Id.c 3),I (n:Int),I (done.length:Int)] [ab.box [ae a.e a.of,I a.to,B a.less,I a.dv],ab.box [ae b.e b.of,I b.to,B b.less,I b.dv],r,ab.sl false 1 false (enc (done++List.replicate d.length 0))]=
   some [T.ae 1 s (enc L),ti kd,ti tv,tb ok]:=by
 subst i;intro d;induction d with
 | nil=>
  intro g done h1 i m;have U:=bU h1;have E:=l.len;have q:¬(done.length:Int) < (n:Int):=by omega
  have H:=nQ C l.to;have J:=nQ A hb.to;simp only [List.zipWith_nil_left,SN] at m;subst m;refine an ?_;rw [Eo];simp only [im];simp only [aj,↓reduceIte,Int.reduceBEq,Int.reduceEq,GD,q,wr (v:=Q * a.to) (by omega),wr (v:=P * b.to) (by omega),wr (v:=Q * a.to+P * b.to) (by omega),Sx,Tw,SN,z]
 | cons x d R=>
  intro g done h1 i m;obtain⟨w,W,N⟩:=bR h1;have E:=l.len;have S:=hb.len;obtain⟨y,f,rfl⟩:∃y f,g=y::f:=by
   cases g with
   | nil=>have:=bU i;omega
   | cons y f=>exact⟨y,f,rfl⟩
  obtain⟨u,V,M⟩:=bR i;have F:(done.length:Int) < (n:Int):=by omega
  have o:(done.length:Int) < (a.of.length:Int):=by omega
  have p:(done.length:Int) < (b.of.length:Int):=by omega
  have O: 0<=(done.length:Int):=by omega
  have q:=l.of x (RN w);have hy:=hb.of y (RN u);have H:=nQ C q;have J:=nQ A hy;have G:bt (done.length:Int).toNat 0 [ti (Q * x+P * y)] (enc (done++List.replicate (x::d).length 0))=some (enc ((done++ [Q * x+P * y])++List.replicate d.length 0)):=by rw [Sc,Sv,zF (by simp),po _ _ _ _ _ rfl];simp
  have D:(done.length:Int) < ((done++List.replicate (x::d).length 0).length:Int):=by simp;omega
  have j:(done++ [Q * x+P * y]).length=done.length+1:=by simp
  have:=R f (done++ [Q * x+P * y]) (by rw [j];exact N) (by rw [j];exact M) (by rw [m];simp);rw [j] at this;refine an ?_;rw [Eo];simp only [aj,↓reduceIte,Int.reduceBEq,Int.reduceEq,GD,F,o,p,D,O,and_self,bH,dE w,dE u,wr (v:=Q * x) (by omega),wr (v:=P * y) (by omega),wr (v:=Q * x+P * y) (by omega),G,next done.length (by omega)];exact this
theorem PG(a b:Bn)(n k:Nat)(hn:n<=12)(hk:k < n)(c:Up n k a)(hb:Dn n k b):
  ∃d,(d=true->(cC a b k).1= [])/\Or (.call 21) [AV.agg [ae a.e a.of,I a.to,B a.less,I a.dv],AV.agg [ae b.e b.of,I b.to,B b.less,I b.dv],I (k:Int)] []=
   some [T.ae 1 d (enc (cC a b k).1),ti (cC a b k).2.1,ti (cC a b k).2.2,tb (lI a b k)]:=by
 obtain⟨J,g,h⟩:=pq c hb;have f:=c.len;have E:=hb.len;have h1:=c.iL;have H:=hb.iL;have F:=uW (k:=k) c.of (by omega);have G:=uW (k:=k) hb.of (by omega);have r:¬(cG a b k:Int)=0:=by omega
 have w:=Bw (a.of.getD k 0) (-(b.of.getD k 0)) (by omega) (by omega);have j:(cG a b k:Int) ∣ a.of.getD k 0:=SB.2 (Ug _ _);have m:(cG a b k:Int) ∣ -(b.of.getD k 0):=SB.2 (Uy _ _);have K:=nQ h c.to;have L:=nQ g hb.to
 obtain⟨d,z,k2⟩:=PO false (cL a b k) (cT a b k) (a.less || b.less) (JA λx D y hy=>by
   have:=nQ h (c.of x D);have:=nQ g (hb.of y hy);omega) (by simp [cL];omega) (by unfold cT;omega)
 have A:=NZ a b _ k (cP a b k) (cQ a b k) true n hn g h c.touN hb.touN rfl d _ _ _ _ (cL a b k) k2 a.of b.of [] rfl rfl rfl;refine⟨d,z,an ?_⟩;rw [Lf];have ka: 0<=(k:Int)/\(k:Int) < (a.of.length:Int):=by omega
 have kb: 0<=(k:Int)/\(k:Int) < (b.of.length:Int):=by omega
 have p:=dE (lU (l:=a.of) (k:=k) (by omega));have q:=dE (lU (l:=b.of) (k:=k) (by omega));have C:i64.wrap (0 - b.of.getD k 0)= -(b.of.getD k 0):=by rw [wr (by omega)];omega
 have s:bJ (a.of.length:Int) (a.of.length:Int)=some ():=by unfold bJ;rw [if_pos (by unfold eH;omega)]
 have o:((Nat.gcd (a.of.getD k 0).natAbs (-(b.of.getD k 0)).natAbs:Nat):Int)= (cG a b k:Int):=rfl;have t:a.of.getD k 0 / (cG a b k:Int)=cP a b k:=rfl;have u: -(b.of.getD k 0) / (cG a b k:Int)=cQ a b k:=rfl;have i:List.replicate (a.of.length:Int).toNat [ti 0]=enc (List.replicate a.of.length 0):=by simp [enc]
 have hrl:((enc (List.replicate a.of.length 0)).length:Int)= (n:Int):=by simp [enc];omega
 rw [o] at w;simp only [aj,↓reduceIte,Int.reduceBEq,Int.reduceEq,GD,bH,ka,kb,and_self,p,q,C,w,r,s,ot j,ot m,t,u,wr (v:=cP a b k) (by omega),wr (v:=cQ a b k) (by omega),i];simp only [bH,S0,f];simp only [R0,f,Sx] at A;exact A
open Go Go.Aev Go.IntKind
def lA(l:List R):Prop:= ∀r∈l,r.e=true->r.of= []
theorem EZ:lA []:=λr h=>by cases h
theorem EY{l:List R}{r:R}(h:lA l)(b:r.e=true->r.of= []):lA (l++ [r]):=by
 intro q a;rcases RX.1 a with a | a
 .exact h q a
 .rw [RP.1 a];exact b
def kB(o:Option (List T))(m:Int×List C):Prop:= ∃x e a,o=some [x,ti m.1,ti 0]/\x.aM 3=some (e,eF a)/\a.map bo=m.2/\lA a
theorem kD{k:Key}{vs:List AV}{bs:List ab}{m:Int×List C}(h:kB (aD aq ann Or k vs bs) m):kB (Or k vs bs) m:=by obtain⟨x,e,d,h1,a,b,c⟩:=h;exact⟨x,e,d,an h1,a,b,c⟩
theorem JH{e:Bool}{a:List R}{m:Int×List C}(h:(0,a.map bo)=m)(b:lA a):kB (some [T.ae 3 e (eF a),ti 0,ti 0]) m:=by subst h;exact⟨_,e,a,rfl,o8 _ _ _,rfl,b⟩
theorem CT{c:Int}{m:Int×List C}(h:(c,[])=m):kB (some [T.aL true,ti c,ti 0]) m:=by subst h;exact⟨_,true,[],rfl,cn _ _,rfl,EZ⟩
abbrev AB(e:Bool)(l:List Bn):AV:=AV.t (T.ae 4 e (fv l))
abbrev bF:ab:=ab.box [I 0,I 0]
abbrev SR(e:Bool)(l:List R):ab:=ab.sl false 3 e (eF l)
theorem N9(n k:Nat)(hn:n<=12)(hk:k < n)(hs o:List Bn)(G el:Bool)(a:Bn)(i:Nat)(O:Up n k a)(K:∀b∈o,Dn n k b)(P:o.length<=40)(M:Int×List C):
  ∀(l:List Bn) (j:Nat) (d:List R) (s:Bool),o.drop j=l->d.length<=40->i<=40->lA d->
  (∀m F,eP k a l (d.map bo)= (0,m.map bo)->m.length<=40->lA m->kB (Or rG [I (k:Int),r0,o1,AB el o,AB G hs,I (hs.length:Int),I ((i+1:Nat):Int)] [bF,SR F m]) M)->
  ((eP k a l (d.map bo)).1≠0->M=eP k a l (d.map bo))->
  kB (Or rH [I (k:Int),r0,o1,AB el o,AV.ref (Id.c 2) 0,AB G hs,I (hs.length:Int),I (i:Int),AB el o,I (o.length:Int),I (j:Int)] [bF,SR s d,ab.box [ae a.e a.of,I a.to,B a.less,I a.dv]]) M:=by
 intro l;induction l with
 | nil=>
  intro j d s h hl hi z g f;have h1:¬(j:Int) < (o.length:Int):=by have:=bU h;omega
  refine kD ?_;rw [sd];simp only [aj,↓reduceIte,Int.reduceBEq,Int.reduceEq,GD,h1,next i (by omega)];exact g d s rfl hl z
 | cons b l L=>
  intro j d s h hl hi z g f;obtain⟨t,Q,H⟩:=bR h;have h1:(j:Int) < (o.length:Int):=by omega
  have y: 0<=(j:Int):=by omega
  have hb:=K b (RN t);rw [eP] at g f;by_cases q:a.dv=b.dv
  .rw [if_pos q] at g f;have:=L (j+1) d s H hl hi z g f;refine kD ?_;rw [sd];simp only [aj,↓reduceIte,Int.reduceBEq,Int.reduceEq,GD,h1,y,and_self,nC,se t,q,next j (by omega)];rw [q] at this;exact this
  .rw [if_neg q] at g f;obtain⟨r,N,E⟩:=PG a b n k hn hk O hb;by_cases A:lI a b k=false
   .rw [if_pos A] at f;refine kD ?_;rw [sd];simp only [aj,↓reduceIte,Int.reduceBEq,Int.reduceEq,GD,h1,y,and_self,nC,se t,q,E,A];exact CT (f (by simp)).symm
   .rw [if_neg A] at g f;have D:lI a b k=true:=by simpa using A
    have x:bw 40 (d.length+ [eR ⟨r,(cC a b k).1,(cC a b k).2.1,(cC a b k).2.2⟩].length)=some ():=iD (by simp;omega);have p:eF d++ [eR ⟨r,(cC a b k).1,(cC a b k).2.1,(cC a b k).2.2⟩]=eF (d++ [⟨r,(cC a b k).1,(cC a b k).2.1,(cC a b k).2.2⟩]):=by simp [eF]
    have v:((d++ [⟨r,(cC a b k).1,(cC a b k).2.1,(cC a b k).2.2⟩]:List R).length:Int)= (d.length:Int)+1:=by simp
    unfold eR at x p;rw [Ty] at g f;by_cases J:d.length+1 > 40
    .rw [if_pos J] at f;have u:(d.length:Int)+1 > 40:=by omega
     refine kD ?_;rw [sd];simp only [aj,↓reduceIte,Int.reduceBEq,Int.reduceEq,GD,h1,y,and_self,nC,se t,q,E,D,x,p,cY,v,u];exact CT (f (by simp)).symm
    .rw [if_neg J] at g f;have u:¬(d.length:Int)+1 > 40:=by omega
     have w:(d++ [⟨r,(cC a b k).1,(cC a b k).2.1,(cC a b k).2.2⟩]:List R).map bo=d.map bo++ [cC a b k]:=by simp
     have:=L (j+1) (d++ [⟨r,(cC a b k).1,(cC a b k).2.1,(cC a b k).2.2⟩]) (s && false) H (by simp;omega) hi (EY z N) (by rw [w];exact g) (by rw [w];exact f);rw [TS] at this;refine kD ?_;rw [sd];simp only [aj,↓reduceIte,Int.reduceBEq,Int.reduceEq,GD,h1,y,and_self,nC,se t,q,E,D,x,p,cY,v,u,next j (by omega)];exact this
theorem Ab(k:Nat)(a:Bn):∀(c:List Bn) (d:List C),d.length<=40->(eP k a c d).2.length<=40
 | [],_,h=>h
 | b::c,d,h=>by
  rw [eP];split
  .exact Ab k a c d h
  .split
   .simp
   .split
    .simp
    .exact Ab k a c _ (by simp;omega)
theorem N8(n k:Nat)(hn:n<=12)(hk:k < n)(hs e:List Bn)(m el:Bool)(p:∀b∈hs,Up n k b)(s:∀b∈e,Dn n k b)(z:hs.length<=40)(r:e.length<=40):
  ∀(c:List Bn) (i:Nat) (d:List R) (g:Bool),hs.drop i=c->d.length<=40->lA d->
  kB (Or rG [I (k:Int),r0,o1,AB el e,AB m hs,I (hs.length:Int),I (i:Int)] [bF,SR g d]) (gv k e c (d.map bo)):=by
 intro c;induction c with
 | nil=>
  intro i d g h hl f;have h1:¬(i:Int) < (hs.length:Int):=by have:=bU h;omega
  refine kD ?_;rw [ED];simp only [aj,↓reduceIte,Int.reduceBEq,Int.reduceEq,GD,h1];exact JH rfl f
 | cons a c y=>
  intro i d g h hl f;obtain⟨o,A,u⟩:=bR h;have h1:(i:Int) < (hs.length:Int):=by omega
  have v: 0<=(i:Int):=by omega
  have x:=p a (RN o);have:=N9 n k hn hk hs e m el a i x s r (gv k e (a::c) (d.map bo)) e 0 d g rfl hl (by omega) f (by
   intro j l f q w;have:=y (i+1) j l u q w;rw [gv,f];exact this) (by
   intro t;rw [gv,if_neg t])
  refine kD ?_;rw [ED];simp only [aj,↓reduceIte,Int.reduceBEq,Int.reduceEq,GD,h1,v,and_self,nC,se o];exact this
theorem Oa(rows:List R)(e:Bool)(n k:Nat)(hn:n<=12)(hk:k < n)(hr:∀r∈rows,cS n r)(B:∀r∈rows,(gp 12 r).1=0)(hl:rows.length<=40)(M:Int×List C)
  (v:∀(a:List R) (c:Bool),a.map bo=gr k rows->a.length<=40->lA a->kB (Or oK [LR e rows,I (n:Int),I (k:Int),r0,o1,LR e rows,I (rows.length:Int),I (rows.length:Int)] [bF,SR c a]) M):
  ∀(b:List R) (i:Nat) (a:List R) (c:Bool),rows.drop i=b->i<=rows.length->a.length<=i->a.map bo++gr k b=gr k rows->lA a->
  kB (Or oK [LR e rows,I (n:Int),I (k:Int),r0,o1,LR e rows,I (rows.length:Int),I (i:Int)] [bF,SR c a]) M:=by
 intro b;induction b with
 | nil=>
  intro i a c h hi x f q;have D:=bU h;obtain rfl:i=rows.length:=by omega
  exact v a c (by simpa [gr] using f) (by omega) q
 | cons r b y=>
  intro i a c h hi x f q;obtain⟨p,E,w⟩:=bR h;have h1:(i:Int) < (rows.length:Int):=by omega
  have u: 0<=(i:Int):=by omega
  have l:=RN p;have ok:=hr r l;obtain⟨o,A,z⟩:=tg r ok.e (B r l) ok.of ok.tv (by have:=ok.len;omega);have m:bw 40 (a.length+ [eR ⟨o,(bY r.of r.kd r.tv).1,r.kd,(bY r.of r.kd r.tv).2⟩].length)=some ():=iD (by simp;omega);have d:eF a++ [eR ⟨o,(bY r.of r.kd r.tv).1,r.kd,(bY r.of r.kd r.tv).2⟩]=eF (a++ [⟨o,(bY r.of r.kd r.tv).1,r.kd,(bY r.of r.kd r.tv).2⟩]):=by simp [eF]
  unfold eR at m d;rw [gr] at f;by_cases hz:r.of.getD k 0=0
  .rw [if_pos hz] at f;have:=y (i+1) (a++ [⟨o,(bY r.of r.kd r.tv).1,r.kd,(bY r.of r.kd r.tv).2⟩]) (c && false) w (by omega) (by simp;omega) (by
    rw [<-f];simp [lh]) (EY q A)
   rw [TS] at this;refine kD ?_;rw [zA];by_cases j:k < r.of.length
   .have g:¬(k:Int)>=(r.of.length:Int):=by omega
    have t: 0<=(k:Int)/\(k:Int) < (r.of.length:Int):=by omega
    have s:=dE (lU j);rw [hz] at s;simp only [aj,↓reduceIte,Int.reduceBEq,Int.reduceEq,GD,h1,u,and_self,cY,fT p,bH,g,t,s,decide_false,z,m,d,next i (by omega)];exact this
   .have g:(k:Int)>=(r.of.length:Int):=by omega
    simp only [aj,↓reduceIte,Int.reduceBEq,Int.reduceEq,GD,dG,h1,u,and_self,cY,fT p,bH,g,decide_true,z,m,d,next i (by omega)];exact this
  .rw [if_neg hz] at f;have:=y (i+1) a c w (by omega) (by omega) f q;have j:k < r.of.length:=by
    rcases UG k r.of.length with h | h
    .exact h
    .exfalso;apply hz;rw [RO,SZ h];rfl
   have g:¬(k:Int)>=(r.of.length:Int):=by omega
   have t: 0<=(k:Int)/\(k:Int) < (r.of.length:Int):=by omega
   have s:=dE (lU j);refine kD ?_;rw [zA];simp only [aj,↓reduceIte,Int.reduceBEq,Int.reduceEq,GD,h1,u,and_self,cY,fT p,bH,g,t,s,decide_false,hz,next i (by omega)];exact this
theorem Ae(k:Nat)(a:Bn):∀(d:List Bn) (c:List C),eP k a.s (d.map Bn.s) c=eP k a d c
 | [],_=>rfl
 | b::d,c=>by rw [Se,eP,eP,Ae k a d,Ae k a d];rfl
theorem Hs(k:Nat)(c:List Bn):∀(hs:List Bn) (b:List C),gv k (c.map Bn.s) (hs.map Bn.s) b=gv k c hs b
 | [],_=>rfl
 | a::hs,b=>by rw [Se,gv,gv,Ae,Hs k c hs]
def gP(n k:Nat)(rows:List R):Int×List C:=gv k (cD n k rows 0) (cA n k rows 0) (gr k rows)
theorem Ri(n k i:Nat)(r:R):(fM n k i r).length<=1:=by unfold fM;split <;> (try split) <;> simp
theorem KW(n k i:Nat)(r:R):(ft n k i r).length<=1:=by unfold ft;split <;> (try split) <;> simp
theorem Jt(n k:Nat):∀(rows:List R) (i:Nat),(cA n k rows i).length<=rows.length
 | [],_=>by simp [cA]
 | r::a,i=>by have:=Ri n k i r;have:=Jt n k a (i+1);rw [cA,SI,Sc];omega
theorem DZ(n k:Nat):∀(rows:List R) (i:Nat),(cD n k rows i).length<=rows.length
 | [],_=>by simp [cD]
 | r::a,i=>by have:=KW n k i r;have:=DZ n k a (i+1);rw [cD,SI,Sc];omega
theorem GP{b:Int}{l:List Int}(h:Bd b l):Bd b (cZ l):=by intro x a;obtain⟨y,hy,rfl⟩:=Si.1 a;have:=h y hy;omega
theorem tH{n k:Nat}(hk:k < n):∀(rows:List R) (i:Nat),(∀r∈rows,cS n r)->∀b∈cA n k rows i,Up n k b
 | [],_,_,b,hb=>by simp [cA] at hb
 | r::d,i,h,b,hb=>by
  rw [cA] at hb;rcases RX.1 hb with hb | hb
  .have ok:=h r RL;have a:=AU ok.len;unfold fM at hb;split at hb
   .rename_i c;rw [RP] at hb;subst hb;exact⟨⟨a,sT ok.of,ok.tv⟩,by simpa only [nZ] using c⟩
   .split at hb
    .rename_i c;rw [RP] at hb;subst hb;have:=ok.tv;refine⟨⟨by simpa [cZ] using a,GP (sT ok.of),by dsimp only;omega⟩, ?_⟩;simp only [qM,nZ];omega
    .cases hb
  .exact tH hk d (i+1) (λr hr=>h r (RM _ hr)) b hb
theorem r9{n k:Nat}(hk:k < n):∀(rows:List R) (i:Nat),(∀r∈rows,cS n r)->∀b∈cD n k rows i,Dn n k b
 | [],_,_,b,hb=>by simp [cD] at hb
 | r::d,i,h,b,hb=>by
  rw [cD] at hb;rcases RX.1 hb with hb | hb
  .have ok:=h r RL;have a:=AU ok.len;unfold ft at hb;split at hb
   .rename_i c;rw [RP] at hb;subst hb;exact⟨⟨a,sT ok.of,ok.tv⟩,by simpa only [nZ] using c⟩
   .split at hb
    .rename_i c;rw [RP] at hb;subst hb;have:=ok.tv;refine⟨⟨by simpa [cZ] using a,GP (sT ok.of),by dsimp only;omega⟩, ?_⟩;simp only [qM,nZ];omega
    .cases hb
  .exact r9 hk d (i+1) (λr hr=>h r (RM _ hr)) b hb
theorem PY{n k:Nat}{b:Bn}(h:Up n k b.s):Up n k b:=⟨⟨h.len,h.of,h.to⟩,h.iL⟩
theorem PX{n k:Nat}{b:Bn}(h:Dn n k b.s):Dn n k b:=⟨⟨h.len,h.of,h.to⟩,h.iL⟩
theorem n6(rows:List R)(e:Bool)(n k:Nat)(hn:n<=12)(hk:k < n)(hr:∀r∈rows,cS n r)(q:∀r∈rows,(gp 12 r).1=0)(hl:rows.length<=40):
  kB (Or oK [LR e rows,I (n:Int),I (k:Int),r0,o1,LR e rows,I (rows.length:Int),I 0] [bF,SR true []]) (gP n k rows):=by
 refine Oa rows e n k hn hk hr q hl (gP n k rows) ?_ rows 0 [] true rfl (by omega) (by simp) (by simp) EZ;intro d l p h o;obtain⟨hs,c,m,el,s,k2,a⟩:=PF rows e n k hn hk hr hl;have g:∀b∈hs,Up n k b:=λb hb=>PY (tH hk rows 0 hr _ (by rw [<-k2];exact Ub hb));have j:∀b∈c,Dn n k b:=λb hb=>PX (r9 hk rows 0 hr _ (by rw [<-a];exact Ub hb));have f:hs.length<=40:=by have:=Jt n k rows 0;rw [<-k2,Ty] at this;omega
 have i:c.length<=40:=by have:=DZ n k rows 0;rw [<-a,Ty] at this;omega
 have:=N8 n k hn hk hs c m el g j f i hs 0 d l rfl h o;rw [p,<-Hs,k2,a] at this;refine kD ?_;rw [zA];have h1:¬(rows.length:Int) < (rows.length:Int):=by omega
 simp only [aj,↓reduceIte,Int.reduceBEq,Int.reduceEq,GD,h1,s,nC];exact this
end Go.Aev.Gen
