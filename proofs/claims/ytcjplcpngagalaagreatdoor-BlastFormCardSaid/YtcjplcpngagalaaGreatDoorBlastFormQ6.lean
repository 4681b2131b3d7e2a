import Derived.Test.YtcjplcpngagalaaGreatDoorBlastFormQ5
import Derived.Test.YtcjplcpngagalaaGreatDoorChecked
import Derived.KernelRfl
set_option linter.all false
namespace Go.Aev.Gen
open Go Go.Aev Go.IntKind
noncomputable abbrev ao:=Go.Proofs.Tryz.prog
def ann:cx:={
 live:=(λf r=>match f,r with
  | 5,17=>some [(4,none),(10,none),(12,none)]
  | 7,9=>some [(3,none),(4,none),(5,none),(9,none),(37,none),(38,none),(39,none)]
  | 7,15=>some [(3,none),(4,none),(5,none),(9,none),(12,none),(37,none),(38,none),(39,none),(62,none),(63,none)]
  | 7,20=>some [(3,none),(4,none),(5,none),(9,none),(12,none),(14,none),(15,none),(37,none),(38,none),(39,none),(62,none),(63,none),(73,none),(74,none),(75,none)]
  | 8,7=>some [(3,none),(4,none),(24,none),(25,none),(26,none)]
  | 9,10=>some [(1,none),(2,none),(3,none),(4,none),(7,none),(8,none),(9,none),(51,none),(52,none)]
  | 9,24=>some [(2,none),(3,none),(9,none),(13,some 3000001),(121,none),(122,none),(123,none)]
  | 10,4=>some [(2,none),(3,none),(5,none)]
  | 10,10=>some [(2,none),(3,none),(5,none),(6,none),(7,none),(8,none)]
  | 11,3=>some [(2,none),(3,none),(4,none),(5,none),(6,none)]
  | 11,10=>some [(2,none),(3,none),(4,none),(5,none),(6,none),(7,none),(8,none),(9,none)]
  | 11,14=>some [(2,none),(3,none),(4,none),(5,none),(6,none),(7,none),(8,none),(9,none),(10,none),(11,none)]
  | 12,10=>some [(3,none),(4,none),(5,none),(9,none),(10,none),(34,none),(35,none),(36,none)]
  | 13,4=>some [(2,none),(3,none),(4,none),(6,none),(7,none),(8,none)]
  | 13,12=>some [(2,none),(3,none),(4,none),(6,none),(7,none),(8,none),(9,none),(10,none),(11,none)]
  | 13,17=>some [(2,none),(3,none),(4,none),(6,none),(7,none),(8,none),(9,none),(10,none),(11,none),(12,none),(13,none)]
  | 13,21=>some [(2,none),(3,none),(4,none),(6,none),(7,none),(8,none),(9,none),(10,none),(11,none),(12,none),(13,none),(14,none),(15,none)]
  | 13,27=>some [(2,none),(3,none),(4,none),(6,none),(7,none),(8,none),(9,none),(10,none),(11,none),(12,none),(13,none),(16,none),(17,none)]
  | 15,8=>some [(1,none),(3,none),(5,none),(25,none),(26,none)]
  | 15,18=>some [(3,none),(5,none),(52,none),(53,none),(54,none)]
  | 17,2=>some [(1,none),(4,none)]
  | 17,6=>some [(1,none),(4,none),(5,none),(6,none)]
  | 17,13=>some [(1,none),(4,none),(5,none),(6,none),(7,none),(8,none),(9,none)]
  | 18,3=>some [(1,none),(2,none),(5,none),(6,none)]
  | 19,4=>some [(0,none),(1,none),(5,none)]
  | 19,9=>some [(0,none),(1,none),(5,none),(6,none)]
  | 22,4=>some [(2,none),(3,none),(16,none),(17,none),(18,none)]
  | 27,6=>some [(2,none),(3,none),(21,none),(22,none),(23,none)]
  | 29,3=>some [(1,none),(2,none),(3,none),(13,none),(14,none),(15,none)]
  | 29,9=>some [(2,none),(3,none),(31,none),(32,none),(33,none)]
  | 30,2=>some [(1,none),(3,none)]
  | 31,4=>some [(1,none),(6,none),(7,none),(13,none),(14,none),(15,none)]
  | 31,10=>some [(1,none),(6,none),(7,none),(8,none),(9,none),(13,none),(14,none),(15,none),(34,none),(35,none)]
  | 32,8=>some [(1,none),(2,none),(5,none),(7,none),(8,none),(30,none),(31,none),(32,none)]
  | 32,13=>some [(2,none),(5,none),(7,none),(8,none),(54,none),(55,none)]
  | 32,22=>some [(2,none),(5,none),(7,none),(106,none),(107,none)]
  | 32,28=>some [(2,none),(7,none),(128,none),(129,none),(130,none)]
  | 33,7=>some [(0,none),(6,none),(96,none),(97,none),(98,none)]
  | 33,14=>some [(0,none),(5,none),(9,none),(112,none),(113,none),(114,none)]
  | 34,3=>some [(1,none),(2,none),(3,none),(22,none),(23,none),(24,none)]
  | 34,8=>some [(1,none),(2,none),(3,none),(6,none)]
  | 34,12=>some [(1,none),(2,none),(3,none),(6,none),(48,none),(49,none),(50,none)]
  | 34,19=>some [(1,none),(2,none),(3,none),(9,none),(10,none),(65,none),(66,none),(67,none)]
  | 34,24=>some [(1,none),(2,none),(3,none),(9,none),(10,none),(12,none),(65,none),(66,none),(67,none),(84,none),(85,none),(86,none)]
  | 34,31=>some [(2,none),(9,none),(10,none),(108,none),(109,none),(110,none)]
  | 35,4=>some [(2,none),(3,none),(5,none)]
  | 36,2=>some [(0,none),(1,none),(5,none)]
  | 38,4=>some [(0,none),(2,none),(3,none),(4,none),(12,none),(13,none),(14,none)]
  | 38,8=>some [(0,none),(2,none),(3,none),(4,none),(12,none),(13,none),(14,none),(28,none),(29,none),(30,none)]
  | 38,13=>some [(0,none),(2,none),(3,none),(4,none),(8,none),(9,none),(12,none),(13,none),(14,none),(28,none),(29,none),(30,none),(38,none),(39,none),(40,none)]
  | 39,2=>some [(1,none),(2,none),(5,none)]
  | 40,4=>some [(0,none),(2,none),(10,none),(11,none),(12,none)]
  | 41,16=>some [(1,none),(2,none),(8,none),(9,none),(12,none),(65,none),(66,none),(67,none)]
  | 42,2=>some [(1,none),(2,none),(5,none)]
  | 52,4=>some [(0,none),(1,none),(12,none),(13,none)]
  | 61,3=>some [(0,none),(1,none),(2,none),(3,none),(4,none),(5,none),(13,none),(31,none),(32,none),(33,none)]
  | 63,3=>some [(0,none),(1,none),(2,none),(7,none),(10,none),(11,none)]
  | 70,4=>some [(0,none),(1,none),(2,none),(7,none),(8,none),(14,none),(15,none)]
  | 71,3=>some [(0,none),(1,none),(7,none),(18,none),(19,none),(20,none)]
  | 71,7=>some [(0,none),(1,none),(7,none),(9,none),(10,none),(18,none),(19,none),(20,none),(28,none),(29,none),(30,none)]
  | 72,3=>some [(0,none),(1,none),(2,none),(7,none),(10,none),(11,none)]
  | 73,3=>some [(0,none),(1,none),(2,none),(7,none),(12,none),(13,none)]
  | 76,2=>some [(1,none),(2,none),(8,none),(9,none),(10,none)]
  | 77,2=>some [(0,none),(7,none),(8,none)]
  | 85,2=>some [(0,none),(1,none),(7,none),(8,none)]
  | 86,2=>some [(0,none),(1,none),(7,none),(8,none)]
  | 87,4=>some [(1,none),(16,none),(17,none),(18,none)]
  | 89,2=>some [(0,none),(1,none),(7,none),(8,none)]
  | 94,1=>some [(0,none),(1,none)]
  | 101,1=>some [(0,none),(1,none)]
  | 108,1=>some [(0,none),(1,none),(4,none)]
  | 109,11=>some [(0,none),(1,none),(3,none),(4,none),(10,none),(11,none),(12,none),(13,none),(14,none),(15,none),(16,none)]
  | 109,18=>some [(0,none),(1,none),(3,none),(4,none),(10,none),(11,none),(12,none),(13,none),(17,none)]
  | _,_=>none),
 join:=(λf r=>match f,r with
  | 9,9=>some [(1,none),(2,none),(3,none),(4,none),(7,none),(8,none),(9,some 7000001),(9,some 8000001),(43,some 1105101)]
  | _,_=>none),
 sig:=(λf=>match f with
  | 25=>some ⟨[.own 1],[]⟩
  | _=>none),
 gf:=(λf=>match f with
  | 61=>some [true,false,false,false,false,false]
  | 65=>some [true,false]
  | 66=>some [true,false]
  | 67=>some [true,false,false]
  | 68=>some [true,false,false]
  | 69=>some [true,false,false]
  | 74=>some [true,false,false]
  | 73=>some [true,false,false]
  | 70=>some [true,false,false]
  | 71=>some [true,false,false]
  | 72=>some [true,false,false]
  | 93=>some [true,false,false]
  | 32=>some [true,false]
  | 33=>some [true,false]
  | 60=>some [false,true,true]
  | 63=>some [false,false,true]
  | 64=>some [false,false,true,true]
  | 34=>some [true]
  | _=>none),
 vg:=(λf m=>match f with
  | 61=>⟨[.f (.i .i64)],[.box [.rows 5 1 1, .same 2], .dead, .mp false [.s] (.i .i64)]⟩
  | 65=>⟨[.f (.i .i64)],[.box [.rows 5 1 1, .same 2], .dead, .mp false [.s] (.i .i64)]⟩
  | 66=>⟨[.f (.i .i64)],[.box [.rows 5 1 1, .same 2], .dead, .mp false [.s] (.i .i64)]⟩
  | 67=>⟨[.f (.i .i64)],[.box [.rows 5 1 1, .same 2], .dead, .mp false [.s] (.i .i64)]⟩
  | 68=>⟨[.f (.i .i64)],[.box [.rows 5 1 1, .same 2], .dead, .mp false [.s] (.i .i64)]⟩
  | 69=>⟨[.f (.i .i64)],[.box [.rows 5 1 1, .same 2], .dead, .mp false [.s] (.i .i64)]⟩
  | 74=>⟨[.f (.i .i64)],[.box [.rows 5 1 1, .same 2], .dead, .mp false [.s] (.i .i64)]⟩
  | 73=>⟨[.f (.i .i64)],[.box [.rows 5 1 1, .same 2], .dead, .mp false [.s] (.i .i64)]⟩
  | 70=>⟨[.t (.l 1)],[.box [.rows 5 1 1, .same 2], .dead, .mp false [.s] (.i .i64)]⟩
  | 71=>⟨[.t (.l 1)],[.box [.rows 5 1 1, .same 2], .dead, .mp false [.s] (.i .i64)]⟩
  | 72=>⟨[.t (.l 1)],[.box [.rows 5 1 1, .same 2], .dead, .mp false [.s] (.i .i64)]⟩
  | 93=>⟨[.f .b],[.box [.rows 5 1 1, .same 2], .dead, .mp false [.s] (.i .i64)]⟩
  | 32=>⟨[.t (.l 1)],[.box [.ref 1 0, .t (.l 3), .t (.l 5), .t (.l 1), .f .s, .t (.l 1), .same 2, .same 3], .box [.rows 5 1 1, .same 5], .sl 1, .sl 1, .dead, .mp false [.s] (.i .i64)]⟩
  | 33=>⟨[.f (.i .i64)],[.box [.ref 1 0, .t (.l 3), .t (.l 5), .t (.l 1), .f .s, .t (.l 1), .same 2, .same 3], .box [.rows 5 1 1, .same 5], .sl 1, .sl 1, .dead, .mp false [.s] (.i .i64)]⟩
  | 60=>⟨[.t (.l 1)],[.box [.ref 2 0], .box [.f (.i .i64), .t (.l 1), .f (.i .i64), .f (.i .i64), .f .s], .box [.ref 3 0, .t (.l 3), .t (.l 5), .t (.l 1), .f .s, .t (.l 1), .same 4, .same 5], .box [.rows 5 1 1, .same 7], .sl 1, .sl 1, .dead, .mp false [.s] (.i .i64)]⟩
  | 63=>if m=1 then⟨[.t (.l 1)],[.box [.ref 2 0], .box [.f (.i .i64)], .box [.ref 3 0, .t (.l 3), .t (.l 5), .t (.l 1), .f .s, .t (.l 1), .same 4, .same 5], .box [.rows 5 1 1, .same 7], .sl 1, .sl 1, .dead, .mp false [.s] (.i .i64)]⟩ else⟨[.t (.l 1)],[.box [.rows 5 1 1, .same 2], .dead, .mp false [.s] (.i .i64)]⟩
  | 64=>⟨[.f (.i .i64)],[.box [.ref 2 0], .box [.f (.i .i64)], .box [.ref 3 0, .t (.l 3), .t (.l 5), .t (.l 1), .f .s, .t (.l 1), .same 4, .same 5], .box [.rows 5 1 1, .same 7], .sl 1, .sl 1, .dead, .mp false [.s] (.i .i64)]⟩
  | 34=>⟨[.agg [.t (.l 3), .t (.l 5), .t (.l 1)]],[.dead, .dead]⟩
  | _=>⟨[],[]⟩),
 wr:=(λf=>false),
 jK:=(λd t=>match d,t with
  | some 66,23=>1
  | some 67,23=>3
  | some 62,61=>6
  | some 89,61=>6
  | some 103,23=>5
  | _,_=>0),
 oN:=(λd t=>match d,t with
  | some 147,24=>true
  | some 149,24=>true
  | some 159,24=>true
  | some 161,24=>true
  | some 171,24=>true
  | some 173,24=>true
  | some 187,24=>true
  | some 189,24=>true
  | some 198,24=>true
  | some 200,24=>true
  | some 209,24=>true
  | some 23,3=>true
  | some 28,3=>true
  | some 39,3=>true
  | _,_=>false),
 tD:=(λd t=>match d,t with
  | some 150,76=>true
  | some 153,77=>true
  | some 162,76=>true
  | some 165,77=>true
  | some 174,76=>true
  | some 177,77=>true
  | some 182,76=>true
  | some 185,77=>true
  | some 193,76=>true
  | some 196,77=>true
  | some 204,76=>true
  | some 207,77=>true
  | some 211,3=>true
  | some 26,0=>true
  | some 27,3=>true
  | some 33,0=>true
  | some 34,3=>true
  | some 37,0=>true
  | some 38,3=>true
  | _,_=>false),
 tC:=(λd t=>match d,t with
  | some 31,0=>true
  | some 32,63=>true
  | _,_=>false),
 vq:=(λd=>match d with
  | some 84=>true
  | some 87=>true
  | _=>false),
 st:=(λd=>match d with
  | some 24=>true
  | some 23=>true
  | some 31=>true
  | some 34=>true
  | _=>false),
 Ej:=(λd t=>match d,t with
  | some 34,0=>false
  | _,_=>true),
 ld:=(λd=>match d with
  | some 66=>true
  | some 79=>true
  | some 54=>true
  | some 23=>true
  | _=>false),
 ext:=(λf bh a=>match f,bh,a with
  | 59,[.t (.int .i64 n)],[]=>if -9223372036854775808<=n/\n<=9223372036854775807 then some [.str ⟨(Go.Lib.itoa n).toArray⟩] else none
  | _,_,_=>none)}
theorem hm:ao.follows .mixedOrders=true:=by kernel_rfl
noncomputable abbrev uS:Key:=bZ ao 9 false 9 [(1,none),(2,none),(3,none),(4,none),(7,none),(8,none),(9,some 7000001),(9,some 8000001),(43,some 1105101)] (0,0)
noncomputable abbrev l4:Key:=bZ ao 29 true 3 [(1,none),(2,none),(3,none),(13,none),(14,none),(15,none)] (0,0)
noncomputable abbrev sb:Key:=bZ ao 30 true 2 [(1,none),(3,none)] (0,0)
noncomputable abbrev kc:Key:=bZ ao 31 true 4 [(1,none),(6,none),(7,none),(13,none),(14,none),(15,none)] (0,0)
noncomputable abbrev qg:Key:=bZ ao 9 true 10 [(1,none),(2,none),(3,none),(4,none),(7,none),(8,none),(9,none),(51,none),(52,none)] (0,0)
noncomputable abbrev gB:Key:=bZ ao 29 true 9 [(2,none),(3,none),(31,none),(32,none),(33,none)] (0,0)
noncomputable abbrev l5:Key:=bZ ao 31 true 10 [(1,none),(6,none),(7,none),(8,none),(9,none),(13,none),(14,none),(15,none),(34,none),(35,none)] (0,0)
noncomputable abbrev oF:Key:=bZ ao 9 true 24 [(2,none),(3,none),(9,none),(13,some 3000001),(121,none),(122,none),(123,none)] (0,0)
noncomputable abbrev ff:Key:=bZ ao 86 true 2 [(0,none),(1,none),(7,none),(8,none)] (0,0)
noncomputable abbrev fX:Key:=bZ ao 89 true 2 [(0,none),(1,none),(7,none),(8,none)] (0,0)
noncomputable abbrev nq:Key:=bZ ao 32 true 8 [(1,none),(2,none),(5,none),(7,none),(8,none),(30,none),(31,none),(32,none)] (6,2008)
noncomputable abbrev np:Key:=bZ ao 32 true 22 [(2,none),(5,none),(7,none),(106,none),(107,none)] (6,2008)
noncomputable abbrev oC:Key:=bZ ao 32 true 28 [(2,none),(7,none),(128,none),(129,none),(130,none)] (6,2008)
noncomputable abbrev uQ:Key:=bZ ao 33 true 7 [(0,none),(6,none),(96,none),(97,none),(98,none)] (6,2008)
noncomputable abbrev nr:Key:=bZ ao 33 true 14 [(0,none),(5,none),(9,none),(112,none),(113,none),(114,none)] (6,2008)
noncomputable abbrev gE:Key:=bZ ao 32 true 13 [(2,none),(5,none),(7,none),(8,none),(54,none),(55,none)] (6,2008)
noncomputable abbrev nu:Key:=bZ ao 63 true 3 [(0,none),(1,none),(2,none),(7,none),(10,none),(11,none)] (8,1)
noncomputable abbrev dJ:Key:=bZ ao 63 true 3 [(0,none),(1,none),(2,none),(7,none),(10,none),(11,none)] (3,2002)
noncomputable abbrev nv:Key:=bZ ao 70 true 4 [(0,none),(1,none),(2,none),(7,none),(8,none),(14,none),(15,none)] (3,2002)
noncomputable abbrev oE:Key:=bZ ao 71 true 3 [(0,none),(1,none),(7,none),(18,none),(19,none),(20,none)] (3,2002)
noncomputable abbrev iD:Key:=bZ ao 72 true 3 [(0,none),(1,none),(2,none),(7,none),(10,none),(11,none)] (3,2002)
noncomputable abbrev sd:Key:=bZ ao 34 true 3 [(1,none),(2,none),(3,none),(22,none),(23,none),(24,none)] (2,0)
noncomputable abbrev uR:Key:=bZ ao 73 true 3 [(0,none),(1,none),(2,none),(7,none),(12,none),(13,none)] (3,2002)
noncomputable abbrev nw:Key:=bZ ao 71 true 7 [(0,none),(1,none),(7,none),(9,none),(10,none),(18,none),(19,none),(20,none),(28,none),(29,none),(30,none)] (3,2002)
noncomputable abbrev kO:Key:=bZ ao 34 true 8 [(1,none),(2,none),(3,none),(6,none)] (2,0)
noncomputable abbrev sq:Key:=bZ ao 61 true 3 [(0,none),(1,none),(2,none),(3,none),(4,none),(5,none),(13,none),(31,none),(32,none),(33,none)] (3,2002)
noncomputable abbrev sc:Key:=bZ ao 34 true 12 [(1,none),(2,none),(3,none),(6,none),(48,none),(49,none),(50,none)] (2,0)
noncomputable abbrev hY:Key:=bZ ao 34 true 19 [(1,none),(2,none),(3,none),(9,none),(10,none),(65,none),(66,none),(67,none)] (2,0)
noncomputable abbrev fW:Key:=bZ ao 34 true 24 [(1,none),(2,none),(3,none),(9,none),(10,none),(12,none),(65,none),(66,none),(67,none),(84,none),(85,none),(86,none)] (2,0)
noncomputable abbrev fC:Key:=bZ ao 34 true 31 [(2,none),(9,none),(10,none),(108,none),(109,none),(110,none)] (2,0)
theorem e9(O:ax)(ed:Bool)(d:List (List T))(en:Bool)(nd:List (List T))(eh:Bool)(a:List (List T)):aA ao ann O (Key.call 9) [AV.agg [AV.t (T.ad 3 ed d),AV.t (T.ad 5 en nd),AV.t (T.ad 1 eh a)]] []=
 (aa none (O (Key.call 15) [AV.agg [AV.t (T.ad 3 ed d),AV.t (T.ad 5 en nd),AV.t (T.ad 1 eh a)]] []) λl=>aa none l.head? λx=>aa none (T.au 1 x) λp=>aa none l.tail.head? λx=>aa none (T.int?
 i64 x) λn=>aa none l.tail.tail.head? λx=>aa none (T.int? i64 x) λg=>bif !n== (0:Int) then some [T.af true,T.af true,T.af true,T.int i64 n,T.int i64 g] else
 aa none (O (Key.call 28) [AV.agg [AV.t (T.ad 3 ed d),AV.t (T.ad 5 en nd),AV.t (T.ad 1 eh a)],AV.t (T.ad 1 p.fst p.snd)] []) λl=>aa none l.head? λx=>aa none x.bool? λb=>bif !b then aa none (O
 (Key.call 29) [AV.agg [AV.t (T.ad 3 ed d),AV.t (T.ad 5 en nd),AV.t (T.ad 1 eh a)]] []) λl=>aa none l.head? λx=>aa none (T.au 3 x) λp=>aa none l.tail.head? λx=>aa none (T.au 5 x) λe
 =>aa none l.tail.tail.head? λx=>aa none (T.au 1 x) λf=>some [T.ad 3 p.fst p.snd,T.ad 5 e.fst e.snd,T.ad 1 f.fst f.snd,T.int i64 (0:Int),T.int i64 (0:Int)] else aa none
 (O (Key.call 30) [AV.agg [AV.t (T.ad 3 ed d),AV.t (T.ad 5 en nd),AV.t (T.ad 1 eh a)]] []) λl=>aa none l.head? λx=>aa none x.a8 λs=>aa none (O (Key.call 31) [AV.agg [AV.t (T.ad 3 ed d),AV.t
 (T.ad 5 en nd),AV.t (T.ad 1 eh a)],AV.t (T.str s)] []) λl=>aa none l.head? λx=>aa none (T.au 3 x) λe=>aa none l.tail.head? λx=>aa none x.bool? λb=>O uS [AV.ref (Id.c 0) 0,AV.ref
 (Id.c 1) 0,AV.ref (Id.c 2) 0,AV.t (T.ad 1 p.fst p.snd),AV.t (T.ad 3 e.fst e.snd),B b,AV.ref (Id.c 3) 0,AV.ref (Id.c 3) 0,AV.ref (Id.c 4) 0] [ab.box [AV.t (T.ad 3 ed d),AV.t (T.ad 5 en nd),AV.t (T.ad 1
 eh a)],ab.box [AV.t (T.af true),AV.t (T.af true),AV.t (T.af true)],ab.box [I (0:Int),I (0:Int)],ab.box [AV.ref (Id.c 4) 0,AV.t (T.ad 3 ed d),AV.t (T.ad 5 en nd),AV.t (T.ad 1 eh a),AV.t (T.str s),
 AV.t (T.ad 1 p.fst p.snd),AV.own (Id.c 5),AV.own (Id.c 6)],ab.box [AV.own (Id.c 7),AV.own (Id.c 8)],ab.sl false 1 true [],ab.sl false 1 true [],ab.rows true 5 1 1 0 [],ab.mp false [Ck.s] (Ck.i i64)
 []]):=by kernel_rfl
theorem Gd(O:ax)(a:Bool)(c:List (List T))(d:Bool)(g:List (List T))(e:Bool)(h:List (List T))(f:Bool)(i:List (List T)):aA ao ann O (Key.call 28) [(AV.agg [(AV.t (T.ad 3 a c)),(AV.t (T.ad 5 d g)),(AV.t (T.ad 1 e h))]),(AV.t (T.ad 1 f i))] []=
 (aa none (O (Key.call 48) [AV.t (T.ad 1 f i),AV.fn 21 [] []] []) λl=>aa none l.head? λx=>aa none x.bool? λb=>aa none (dL (some !b) (O (Key.call 55) [AV.t (T.ad 3 a c),AV.fn 56 [] []] []))
 λl=>aa (some !b) l.head? λx=>aa (some !b) x.bool? λj=>some [T.bool (bif b then true else j)]):=by kernel_rfl
theorem zI(O:ax)(b:Bool)(a:List (List T))(f:Bool)(g:List (List T))(d:Bool)(e:List (List T)):aA ao ann O (Key.call 29) [(AV.agg [(AV.t (T.ad 3 b a)),(AV.t (T.ad 5 f g)),(AV.t (T.ad 1 d e))])] []=
 (aa none (O (Key.call 25) [AV.t (T.ad 1 d e)] []) λl=>aa none l.head? λx=>aa none (T.au 1 x) λp=>O l4 [AV.ref (Id.c 0) 0,AV.ref (Id.c 1) 0,AV.ref (Id.c 2) 0,AV.t (T.ad 3 b a),I
 (↑a.length:Int),I (0:Int)] [ab.box [AV.t (T.ad 3 b a),AV.t (T.ad 5 f g),AV.t (T.ad 1 d e)],ab.box [AV.t (T.af true),AV.t (T.af true),AV.t (T.af true)],ab.box [AV.t (T.af true),
 AV.t (T.af true),AV.own (Id.c 3)],ab.sl false 1 p.fst p.snd]):=by kernel_rfl
theorem Ge(O:ax)(a:Bool)(e:List (List T))(b:Bool)(f:List (List T))(d:Bool)(g:List (List T)):aA ao ann O (Key.call 30) [(AV.agg [(AV.t (T.ad 3 a e)),(AV.t (T.ad 5 b f)),(AV.t (T.ad 1 d g))])] []=
 (O sb [AV.ref (Id.c 0) 0,AV.ref (Id.c 1) 0] [ab.box [AV.t (T.ad 3 a e),AV.t (T.ad 5 b f),AV.t (T.ad 1 d g)],ab.box [AV.t (T.str (ByteArray.mk #[(95:UInt8)]))]]):=by kernel_rfl
theorem Gf(O:ax)(b:Bool)(a:List (List T))(c:Bool)(e:List (List T))(d:Bool)(f:List (List T))(g:ByteArray):aA ao ann O (Key.call 31) [(AV.agg [(AV.t (T.ad 3 b a)),(AV.t (T.ad 5 c e)),(AV.t (T.ad 1 d f))]),(AV.t (T.str g))] []=
 (O kc [AV.t (T.str g),AV.t (T.af true),B true,AV.t (T.ad 3 b a),I (↑a.length:Int),I (0:Int)] []):=by kernel_rfl
theorem HB(O:ax)(C:Bool)(H:List (List T))(D:Bool)(J:List (List T))(K:Bool)(b:Bool)(n:List (List T))(d:Bool)(a:List (List T))(e:Bool)(o:List (List T))(f:Bool)(g:Bool)(h:Bool)(p:Int)(q:Int)(j:Bool)(r:List (List T))(k:Bool)(u:List (List T))(l:Bool)(v:List (List T))(w:ByteArray)(m:Bool)(x:List (List T))(y:Bool)(F:List (List T))(z:Bool)(G:List (List T))(A:Bool)(E:Nat)(c7:List Row)(c8:List (List T×T)):aA ao ann O uS [(AV.ref (Id.c 0) 0),(AV.ref (Id.c 1) 0),(AV.ref (Id.c 2) 0),(AV.t (T.ad 1 C H)),(AV.t (T.ad 3 D J)),(B K),(AV.ref (Id.c 3) 0),(AV.ref (Id.c 3) 0),(AV.ref (Id.c 4) 0)] [(ab.box [(AV.t (T.ad 3 b n)),(AV.t (T.ad 5 d a)),(AV.t (T.ad 1 e o))]),(ab.box [(AV.t (T.af f)),(AV.t (T.af g)),(AV.t (T.af h))]),(ab.box [(I p),(I q)]),(ab.box [(AV.ref (Id.c 4) 0),(AV.t (T.ad 3 j r)),(AV.t (T.ad 5 k u)),(AV.t (T.ad 1 l v)),(AV.t (T.str w)),(AV.t (T.ad 1 m x)),(AV.own (Id.c 5)),(AV.own (Id.c 6))]),(ab.box [(AV.own (Id.c 7)),(AV.own (Id.c 8))]),(ab.sl false 1 y F),(ab.sl false 1 z G),(ab.rows A 5 1 1 E c7),(ab.mp false [Ck.s] (Ck.i i64) c8)]=
 (O qg [AV.ref (Id.c 0) 0,AV.ref (Id.c 1) 0,AV.ref (Id.c 2) 0,AV.t (T.ad 1 C H),AV.t (T.ad 3 D J),B K,AV.ref (Id.c 3) 0,I (↑a.length:Int),I (0:Int)] [ab.box [AV.t (T.ad 3 b n),AV.t
 (T.ad 5 d a),AV.t (T.ad 1 e o)],ab.box [AV.t (T.af f),AV.t (T.af g),AV.t (T.af h)],ab.box [I p,I q],ab.box [AV.ref (Id.c 4) 0,AV.t (T.ad 3 j r),AV.t (T.ad 5 k
 u),AV.t (T.ad 1 l v),AV.t (T.str w),AV.t (T.ad 1 m x),AV.own (Id.c 5),AV.own (Id.c 6)],ab.box [AV.own (Id.c 7),AV.own (Id.c 8)],ab.sl false 1 y F,ab.sl false 1 z G,ab.rows A 5 1
 1 E c7,ab.mp false [Ck.s] (Ck.i i64) c8]):=by kernel_rfl
theorem Gn(O:ax)(a:Bool)(b:List (List T)):aA ao ann O (Key.call 48) [(AV.t (T.ad 1 a b)),(AV.fn 21 [] [])] []=
 (aa none (O (Key.call 86) [AV.t (T.ad 1 a b),AV.fn 21 [] []] []) λl=>aa none l.head? λx=>aa none (T.int? i64 x) λn=>some [T.bool (decide (n>=(0:Int)))]):=by kernel_rfl
theorem Gu(O:ax)(a:Bool)(b:List (List T)):aA ao ann O (Key.call 55) [(AV.t (T.ad 3 a b)),(AV.fn 56 [] [])] []=
 (aa none (O (Key.call 89) [AV.t (T.ad 3 a b),AV.fn 56 [] []] []) λl=>aa none l.head? λx=>aa none (T.int? i64 x) λn=>some [T.bool (decide (n>=(0:Int)))]):=by kernel_rfl
theorem Gc(O:ax)(a:Bool)(b:List (List T)):aA ao ann O (Key.call 25) [(AV.t (T.ad 1 a b))] []=
 (bif a then some [T.af true] else aa none (bp 8 (0+b.length)) λx=>some [T.ad 1 false b]):=by kernel_rfl
theorem zJ(O:ax)(u:Bool)(m:List (List T))(v:Int)(a:Int)(j:Bool)(o:List (List T))(d:Bool)(b:List (List T))(k:Bool)(q:List (List T))(e:Bool)(f:Bool)(g:Bool)(h:Bool)(i:Bool)(r:Bool)(c3:List (List T)):aA ao ann O l4 [(AV.ref (Id.c 0) 0),(AV.ref (Id.c 1) 0),(AV.ref (Id.c 2) 0),(AV.t (T.ad 3 u m)),(I v),(I a)] [(ab.box [(AV.t (T.ad 3 j o)),(AV.t (T.ad 5 d b)),(AV.t (T.ad 1 k q))]),(ab.box [(AV.t (T.af e)),(AV.t (T.af f)),(AV.t (T.af g))]),(ab.box [(AV.t (T.af h)),(AV.t (T.af i)),(AV.own (Id.c 3))]),(ab.sl false 1 r c3)]=
 (bif decide (a < v) then aa none (if(0:Int)<=a/\a < (↑m.length:Int) then some () else none) λx=>aa none m[a.toNat]? λl=>aa none l.head? λx=>aa none l.tail.head? λw=>aa none
 l.tail.tail.head? λy=>aa none x.a8 λs=>aa none (T.au 1 w) λp=>aa none (T.int? i64 y) λn=>aa none (O (Key.call 25) [AV.t (T.ad 1 p.fst p.snd)] []) λl=>aa none l.head? λx
 =>aa none (T.au 1 x) λp=>O l4 [AV.ref (Id.c 0) 0,AV.ref (Id.c 1) 0,AV.ref (Id.c 2) 0,AV.t (T.ad 3 u m),I v,I (i64.wrap (a+ (1:Int)))] [ab.box [AV.t (T.ad 3 j o),AV.t (T.ad
 5 d b),AV.t (T.ad 1 k q)],ab.box [AV.t (T.af e),AV.t (T.af f),AV.t (T.af g)],ab.box [AV.own (Id.c 3),AV.t (T.af i),AV.own (Id.c 4)],ab.sl false 3 (h && false) [[T.str s,
 T.ad 1 p.fst p.snd,T.int i64 n]],ab.sl false 1 r c3] else O gB [AV.ref (Id.c 0) 0,AV.ref (Id.c 1) 0,AV.t (T.ad 5 d b),I (↑b.length:Int),I (0:Int)] [ab.box [AV.t (T.af e),AV.t
 (T.af f),AV.t (T.af g)],ab.box [AV.t (T.af h),AV.t (T.af i),AV.own (Id.c 2)],ab.sl false 1 r c3]):=by kernel_rfl
theorem vF(O:ax)(a:Bool)(d:List (List T))(e:Bool)(g:List (List T))(f:Bool)(h:List (List T))(i:ByteArray):aA ao ann O sb [(AV.ref (Id.c 0) 0),(AV.ref (Id.c 1) 0)] [(ab.box [(AV.t (T.ad 3 a d)),(AV.t (T.ad 5 e g)),(AV.t (T.ad 1 f h))]),(ab.box [(AV.t (T.str i))])]=
 (aa none (O (Key.call 55) [AV.t (T.ad 3 a d),AV.fn 57 [] [AV.t (T.ptr [T.str i])]] []) λl=>aa none l.head? λx=>aa none x.bool? λb=>bif b then aa none (if i.size+1<=4294967296 then some ()
 else none) λx=>O sb [AV.ref (Id.c 0) 0,AV.ref (Id.c 1) 0] [ab.box [AV.t (T.ad 3 a d),AV.t (T.ad 5 e g),AV.t (T.ad 1 f h)],ab.box [AV.t (T.str (i++ (ByteArray.mk #[(95:UInt8)])))]]
 else some [T.str i]):=by kernel_rfl
theorem vG(O:ax)(i:ByteArray)(f:Bool)(h:Bool)(e:Bool)(d:List (List T))(g:Int)(a:Int):aA ao ann O kc [(AV.t (T.str i)),(AV.t (T.af f)),(B h),(AV.t (T.ad 3 e d)),(I g),(I a)] []=
 (bif decide (a < g) then aa none (if(0:Int)<=a/\a < (↑d.length:Int) then some () else none) λx=>aa none d[a.toNat]? λl=>aa none l.head? λx=>aa none l.tail.head? λj=>aa none
 l.tail.tail.head? λk=>aa none x.a8 λs=>aa none (T.au 1 j) λp=>aa none (T.int? i64 k) λn=>aa none (O (Key.call 21) [I n] []) λl=>aa none l.head? λx=>aa none x.bool? fun
 b=>bif !b then aa none (O (Key.call 25) [AV.t (T.ad 1 p.fst p.snd)] []) λl=>aa none l.head? λx=>aa none (T.au 1 x) λp=>O kc [AV.t (T.str i),AV.own (Id.c 0),B h,AV.t (T.ad 3 e d),I
 g,I (i64.wrap (a+ (1:Int)))] [ab.sl false 3 (f && false) [[T.str s,T.ad 1 p.fst p.snd,T.int i64 n]]] else O l5 [AV.t (T.str i),AV.t (T.af f),B h,I a,AV.ref (Id.c 0) 0,AV.t
 (T.ad 3 e d),I g,I a,I (i64.wrap (n - (10:Int))),I (0:Int)] [ab.box [AV.t (T.str s),AV.t (T.ad 1 p.fst p.snd),I n]] else some [T.af f,T.bool (bif h then true else false)]):=by kernel_rfl
theorem o6(O:ax)(Y:Bool)(Z:List (List T))(D:Bool)(W:List (List T))(X:Bool)(U:Int)(r:Int)(K:Bool)(N:List (List T))(L:Bool)(P:List (List T))(g:Bool)(e:List (List T))(h:Bool)(j:Bool)(k:Bool)(u:Int)(v:Int)(w:Bool)(E:List (List T))(y:Bool)(F:List (List T))(A:Bool)(G:List (List T))(H:ByteArray)(C:Bool)(J:List (List T))(Q:Bool)(c5:List (List T))(R:Bool)(c6:List (List T))(S:Bool)(V:Nat)(c7:List Row)(c8:List (List T×T)):aA ao ann O qg [(AV.ref (Id.c 0) 0),(AV.ref (Id.c 1) 0),(AV.ref (Id.c 2) 0),(AV.t (T.ad 1 Y Z)),(AV.t (T.ad 3 D W)),(B X),(AV.ref (Id.c 3) 0),(I U),(I r)] [(ab.box [(AV.t (T.ad 3 K N)),(AV.t (T.ad 5 L P)),(AV.t (T.ad 1 g e))]),(ab.box [(AV.t (T.af h)),(AV.t (T.af j)),(AV.t (T.af k))]),(ab.box [(I u),(I v)]),(ab.box [(AV.ref (Id.c 4) 0),(AV.t (T.ad 3 w E)),(AV.t (T.ad 5 y F)),(AV.t (T.ad 1 A G)),(AV.t (T.str H)),(AV.t (T.ad 1 C J)),(AV.own (Id.c 5)),(AV.own (Id.c 6))]),(ab.box [(AV.own (Id.c 7)),(AV.own (Id.c 8))]),(ab.sl false 1 Q c5),(ab.sl false 1 R c6),(ab.rows S 5 1 1 V c7),(ab.mp false [Ck.s] (Ck.i i64) c8)]=
 (bif decide (r < U) then aa none (if(0:Int)<=r/\r < (↑Z.length:Int) then some () else none) λx=>aa none Z[r.toNat]? λl=>aa none l.head? λx=>aa none (T.int? i64 x) λn=>aa
 none (O (Key.call 21) [I n] []) λl=>aa none l.head? λx=>aa none x.bool? λb=>bif b then aa none (O (Key.call 32) [AV.ref (Id.c 0) 0,I r] [ab.box [AV.ref (Id.c 1) 0,AV.t (T.ad 3 w E),AV.t
 (T.ad 5 y F),AV.t (T.ad 1 A G),AV.t (T.str H),AV.t (T.ad 1 C J),AV.own (Id.c 2),AV.own (Id.c 3)],ab.box [AV.own (Id.c 4),AV.own (Id.c 5)],ab.sl false 1 Q c5,ab.sl false 1 R c6,
 ab.rows S 5 1 1 V c7,ab.mp false [Ck.s] (Ck.i i64) c8]) λl=>aa none l.head? λx=>aa none (T.au 1 x) λp=>aa none (List.drop 1 l).head? λx=>aa none (List.drop 1 l).tail.head? λx=>
 aa none (T.au 3 x) λm=>aa none (List.drop 1 l).tail.tail.head? λx=>aa none (T.au 5 x) λo=>aa none (List.drop 1 l).tail.tail.tail.head? λx=>aa none (T.au 1 x) λq=>aa none
 (List.drop 1 l).tail.tail.tail.tail.head? λx=>aa none x.a8 λs=>aa none (List.drop 1 l).tail.tail.tail.tail.tail.head? λx=>aa none (T.au 1 x) λd=>aa none (List.drop 1
 l).tail.tail.tail.tail.tail.tail.head? λx=>aa none (List.drop 1 l).tail.tail.tail.tail.tail.tail.tail.head? λx=>aa none (List.drop 8 (List.drop 1 l)).head? λx=>aa none (aN x) λa=>aa none
 (List.drop 8 (List.drop 1 l)).tail.head? λx=>aa none ((List.drop 2 (List.drop 8 (List.drop 1 l))).head?.bind λz=>T.au 1 z) λf=>aa none ((List.drop 2 (List.drop 8 (List.drop 1 l))).tail.head?.bind fun
 z=>T.au 1 z) λM=>aa none ((List.drop 2 (List.drop 8 (List.drop 1 l))).tail.tail.head?.bind λz=>aL z) λl=>aa none (bp 24 (f.snd.length+ [[T.ad 1 p.fst p.snd]].length)) λx=>aa none
 (bp 8 (M.snd.length+1)) λx=>bif decide ((↑a.snd.length:Int) > (800:Int)) then bif bif !X then true else decide ((↑a.snd.length:Int) > (800:Int)) then some [T.af true,T.af true,T.af true,
 T.int i64 (10:Int),T.int i64 (0:Int)] else O oF [AV.ref (Id.c 0) 0,AV.ref (Id.c 1) 0,AV.ref (Id.c 2) 0,AV.ref (Id.c 3) 0,AV.t (T.ad 1 g e),I (↑e.length:Int),I (0:Int)] [ab.box
 [AV.t (T.af h),AV.t (T.af j),AV.t (T.af k)],ab.box [I u,I v],ab.box [AV.ref (Id.c 4) 0,AV.t (T.ad 3 m.fst m.snd),AV.t (T.ad 5 o.fst o.snd),AV.t (T.ad 1 q.fst q.snd),AV.t
 (T.str s),AV.t (T.ad 1 d.fst d.snd),AV.own (Id.c 5),AV.own (Id.c 6)],ab.box [AV.t (T.ad 3 D W),AV.own (Id.c 7),AV.own (Id.c 8)],ab.box [AV.own (Id.c 7),AV.own (Id.c 9)],ab.sl false 1 (f.fst &&
 false) (f.snd++ [[T.ad 1 p.fst p.snd]]),ab.sl false 1 (M.fst && false) (M.snd++ [[T.int i64 (0:Int)]]),ab.rows a.fst 5 1 1 a.snd.length a.snd,ab.sl false 1 true [],ab.mp false [Ck.s] (Ck.i
 i64) l] else O qg [AV.ref (Id.c 0) 0,AV.ref (Id.c 1) 0,AV.ref (Id.c 2) 0,AV.t (T.ad 1 Y Z),AV.t (T.ad 3 D W),B X,AV.ref (Id.c 3) 0,I U,AV.t (T.int i64 (i64.wrap (r+ (1:
 Int))))] [ab.box [AV.t (T.ad 3 K N),AV.t (T.ad 5 L P),AV.t (T.ad 1 g e)],ab.box [AV.t (T.af h),AV.t (T.af j),AV.t (T.af k)],ab.box [I u,I v],ab.box [AV.ref (Id.c 4)
 0,AV.t (T.ad 3 m.fst m.snd),AV.t (T.ad 5 o.fst o.snd),AV.t (T.ad 1 q.fst q.snd),AV.t (T.str s),AV.t (T.ad 1 d.fst d.snd),AV.own (Id.c 5),AV.own (Id.c 6)],ab.box [AV.own (Id.c 7),AV.own (Id.c
 8)],ab.sl false 1 (f.fst && false) (f.snd++ [[T.ad 1 p.fst p.snd]]),ab.sl false 1 (M.fst && false) (M.snd++ [[T.int i64 (0:Int)]]),ab.rows a.fst 5 1 1 a.snd.length a.snd,ab.mp false
 [Ck.s] (Ck.i i64) l] else aa none (O (Key.call 33) [AV.ref (Id.c 0) 0,I r] [ab.box [AV.ref (Id.c 1) 0,AV.t (T.ad 3 w E),AV.t (T.ad 5 y F),AV.t (T.ad 1 A G),AV.t (T.str H),AV.t
 (T.ad 1 C J),AV.own (Id.c 2),AV.own (Id.c 3)],ab.box [AV.own (Id.c 4),AV.own (Id.c 5)],ab.sl false 1 Q c5,ab.sl false 1 R c6,ab.rows S 5 1 1 V c7,ab.mp false [Ck.s] (Ck.i i64) c8]) fun
 l=>aa none l.head? λx=>aa none (T.int? i64 x) λn=>aa none (List.drop 1 l).head? λx=>aa none (List.drop 1 l).tail.head? λx=>aa none (T.au 3 x) λp=>aa none (List.drop 1
 l).tail.tail.head? λx=>aa none (T.au 5 x) λm=>aa none (List.drop 1 l).tail.tail.tail.head? λx=>aa none (T.au 1 x) λo=>aa none (List.drop 1 l).tail.tail.tail.tail.head? λx=>aa none
 x.a8 λs=>aa none (List.drop 1 l).tail.tail.tail.tail.tail.head? λx=>aa none (T.au 1 x) λq=>aa none (List.drop 1 l).tail.tail.tail.tail.tail.tail.head? λx=>aa none (List.drop 1
 l).tail.tail.tail.tail.tail.tail.tail.head? λx=>aa none (List.drop 8 (List.drop 1 l)).head? λx=>aa none (aN x) λd=>aa none (List.drop 8 (List.drop 1 l)).tail.head? λx=>aa none ((List.drop 2
 (List.drop 8 (List.drop 1 l))).head?.bind λz=>T.au 1 z) λa=>aa none ((List.drop 2 (List.drop 8 (List.drop 1 l))).tail.head?.bind λz=>T.au 1 z) λf=>aa none ((List.drop 2 (List.drop 8
 (List.drop 1 l))).tail.tail.head?.bind λz=>aL z) λl=>aa none (bp 24 (a.snd.length+1)) λx=>aa none (bp 8 (f.snd.length+ [[T.int i64 n]].length)) λx=>bif decide ((↑d.snd.length
 :Int) > (800:Int)) then bif bif !X then true else decide ((↑d.snd.length:Int) > (800:Int)) then some [T.af true,T.af true,T.af true,T.int i64 (10:Int),T.int i64 (0:Int)] else O oF
 [AV.ref (Id.c 0) 0,AV.ref (Id.c 1) 0,AV.ref (Id.c 2) 0,AV.ref (Id.c 3) 0,AV.t (T.ad 1 g e),I (↑e.length:Int),I (0:Int)] [ab.box [AV.t (T.af h),AV.t (T.af j),AV.t (T.af k)],ab.box
 [I u,I v],ab.box [AV.ref (Id.c 4) 0,AV.t (T.ad 3 p.fst p.snd),AV.t (T.ad 5 m.fst m.snd),AV.t (T.ad 1 o.fst o.snd),AV.t (T.str s),AV.t (T.ad 1 q.fst q.snd),AV.own (Id.c 5),AV.own (Id.c 6)],
 ab.box [AV.t (T.ad 3 D W),AV.own (Id.c 7),AV.own (Id.c 8)],ab.box [AV.own (Id.c 7),AV.own (Id.c 9)],ab.sl false 1 (a.fst && false) (a.snd++ [[T.af true]]),ab.sl false 1 (f.fst && false) (f.snd++
 [[T.int i64 n]]),ab.rows d.fst 5 1 1 d.snd.length d.snd,ab.sl false 1 true [],ab.mp false [Ck.s] (Ck.i i64) l] else O qg [AV.ref (Id.c 0) 0,AV.ref (Id.c 1) 0,AV.ref (Id.c 2) 0,AV.t (T.ad
 1 Y Z),AV.t (T.ad 3 D W),B X,AV.ref (Id.c 3) 0,I U,AV.t (T.int i64 (i64.wrap (r+ (1:Int))))] [ab.box [AV.t (T.ad 3 K N),AV.t (T.ad 5 L P),AV.t (T.ad 1 g e)],
 ab.box [AV.t (T.af h),AV.t (T.af j),AV.t (T.af k)],ab.box [I u,I v],ab.box [AV.ref (Id.c 4) 0,AV.t (T.ad 3 p.fst p.snd),AV.t (T.ad 5 m.fst m.snd),AV.t (T.ad 1 o.fst o.snd),AV.t
 (T.str s),AV.t (T.ad 1 q.fst q.snd),AV.own (Id.c 5),AV.own (Id.c 6)],ab.box [AV.own (Id.c 7),AV.own (Id.c 8)],ab.sl false 1 (a.fst && false) (a.snd++ [[T.af true]]),ab.sl false 1 (f.fst && false)
 (f.snd++ [[T.int i64 n]]),ab.rows d.fst 5 1 1 d.snd.length d.snd,ab.mp false [Ck.s] (Ck.i i64) l] else bif bif !X then true else decide ((↑c7.length:Int) > (800:Int)) then some [T.af
 true,T.af true,T.af true,T.int i64 (10:Int),T.int i64 (0:Int)] else O oF [AV.ref (Id.c 0) 0,AV.ref (Id.c 1) 0,AV.ref (Id.c 2) 0,AV.ref (Id.c 3) 0,AV.t (T.ad 1 g e),I (↑e.length
 :Int),I (0:Int)] [ab.box [AV.t (T.af h),AV.t (T.af j),AV.t (T.af k)],ab.box [I u,I v],ab.box [AV.ref (Id.c 4) 0,AV.t (T.ad 3 w E),AV.t (T.ad 5 y F),AV.t (T.ad 1 A
 G),AV.t (T.str H),AV.t (T.ad 1 C J),AV.own (Id.c 5),AV.own (Id.c 6)],ab.box [AV.t (T.ad 3 D W),AV.own (Id.c 7),AV.own (Id.c 8)],ab.box [AV.own (Id.c 7),AV.own (Id.c 9)],ab.sl false 1 Q c5,
 ab.sl false 1 R c6,ab.rows S 5 1 1 V c7,ab.sl false 1 true [],ab.mp false [Ck.s] (Ck.i i64) c8]):=by kernel_rfl
theorem Hi(O:ax)(a:Bool)(b:List (List T)):aA ao ann O (Key.call 86) [(AV.t (T.ad 1 a b)),(AV.fn 21 [] [])] []=
 (O ff [AV.t (T.ad 1 a b),AV.fn 21 [] [],I (↑b.length:Int),I (0:Int)] []):=by kernel_rfl
theorem Hn(O:ax)(a:Bool)(b:List (List T)):aA ao ann O (Key.call 89) [(AV.t (T.ad 3 a b)),(AV.fn 56 [] [])] []=
 (O fX [AV.t (T.ad 3 a b),AV.fn 56 [] [],I (↑b.length:Int),I (0:Int)] []):=by kernel_rfl
theorem zK(O:ax)(u:Bool)(k:List (List T))(v:Int)(a:Int)(i:Bool)(m:List (List T))(d:Bool)(b:List (List T))(j:Bool)(o:List (List T))(e:Bool)(f:Bool)(g:Bool)(h:Bool)(q:Bool)(c3:List (List T))(r:Bool)(w:List (List T)):aA ao ann O l4 [(AV.ref (Id.c 0) 0),(AV.ref (Id.c 1) 0),(AV.ref (Id.c 2) 0),(AV.t (T.ad 3 u k)),(I v),(I a)] [(ab.box [(AV.t (T.ad 3 i m)),(AV.t (T.ad 5 d b)),(AV.t (T.ad 1 j o))]),(ab.box [(AV.t (T.af e)),(AV.t (T.af f)),(AV.t (T.af g))]),(ab.box [(AV.own (Id.c 3)),(AV.t (T.af h)),(AV.own (Id.c 4))]),(ab.sl false 3 q c3),(ab.sl false 1 r w)]=
 (bif decide (a < v) then aa none (if(0:Int)<=a/\a < (↑k.length:Int) then some () else none) λx=>aa none k[a.toNat]? λl=>aa none l.head? λx=>aa none l.tail.head? λy=>aa none
 l.tail.tail.head? λz=>aa none x.a8 λs=>aa none (T.au 1 y) λp=>aa none (T.int? i64 z) λn=>aa none (O (Key.call 25) [AV.t (T.ad 1 p.fst p.snd)] []) λl=>aa none l.head? λx
 =>aa none (T.au 1 x) λp=>aa none (bp 48 (c3.length+ [[T.str s,T.ad 1 p.fst p.snd,T.int i64 n]].length)) λx=>O l4 [AV.ref (Id.c 0) 0,AV.ref (Id.c 1) 0,AV.ref (Id.c 2) 0,AV.t (T.ad 3
 u k),I v,I (i64.wrap (a+ (1:Int)))] [ab.box [AV.t (T.ad 3 i m),AV.t (T.ad 5 d b),AV.t (T.ad 1 j o)],ab.box [AV.t (T.af e),AV.t (T.af f),AV.t (T.af g)],
 ab.box [AV.own (Id.c 3),AV.t (T.af h),AV.own (Id.c 4)],ab.sl false 3 (q && false) (c3++ [[T.str s,T.ad 1 p.fst p.snd,T.int i64 n]]),ab.sl false 1 r w] else O gB [AV.ref (Id.c 0) 0,AV.ref
 (Id.c 1) 0,AV.t (T.ad 5 d b),I (↑b.length:Int),I (0:Int)] [ab.box [AV.t (T.af e),AV.t (T.af f),AV.t (T.af g)],ab.box [AV.own (Id.c 2),AV.t (T.af h),AV.own (Id.c 3)],ab.sl
 false 3 q c3,ab.sl false 1 r w]):=by kernel_rfl
theorem zL(O:ax)(j:Bool)(h:List (List T))(k:Int)(a:Int)(e:Bool)(f:Bool)(g:Bool)(b:Bool)(d:Bool)(i:Bool)(m:List (List T)):aA ao ann O gB [(AV.ref (Id.c 0) 0),(AV.ref (Id.c 1) 0),(AV.t (T.ad 5 j h)),(I k),(I a)] [(ab.box [(AV.t (T.af e)),(AV.t (T.af f)),(AV.t (T.af g))]),(ab.box [(AV.t (T.af b)),(AV.t (T.af d)),(AV.own (Id.c 2))]),(ab.sl false 1 i m)]=
 (bif decide (a < k) then aa none (if(0:Int)<=a/\a < (↑h.length:Int) then some () else none) λx=>aa none h[a.toNat]? λl=>aa none l.head? λx=>aa none l.tail.head? λr=>aa none
 l.tail.tail.head? λu=>aa none l.tail.tail.tail.head? λv=>aa none l.tail.tail.tail.tail.head? λw=>aa none (T.int? i64 x) λn=>aa none (T.au 1 r) λp=>aa none (T.int?
 i64 u) λo=>aa none (T.int? i64 v) λq=>aa none w.a8 λs=>aa none (O (Key.call 25) [AV.t (T.ad 1 p.fst p.snd)] []) λl=>aa none l.head? λx=>aa none (T.au 1 x) λp
 =>O gB [AV.ref (Id.c 0) 0,AV.ref (Id.c 1) 0,AV.t (T.ad 5 j h),I k,I (i64.wrap (a+ (1:Int)))] [ab.box [AV.t (T.af e),AV.t (T.af f),AV.t (T.af g)],ab.box [AV.t (T.af b),
 AV.own (Id.c 2),AV.own (Id.c 3)],ab.sl false 5 (d && false) [[T.int i64 n,T.ad 1 p.fst p.snd,T.int i64 o,T.int i64 q,T.str s]],ab.sl false 1 i m] else some [T.af b,T.af
 d,T.ad 1 i m]):=by kernel_rfl
theorem Ai(O:ax)(b:Bool)(c:List (List T))(a:ByteArray):aA ao ann O (Key.call 55) [(AV.t (T.ad 3 b c)),(AV.fn 57 [] [(AV.t (T.ptr [(T.str a)]))])] []=
 (aa none (O (Key.call 89) [AV.t (T.ad 3 b c),AV.fn 57 [] [AV.t (T.ptr [T.str a])]] []) λl=>aa none l.head? λx=>aa none (T.int? i64 x) λn=>some [T.bool (decide (n>=(0:Int)))]):=by kernel_rfl
theorem Gb(O:ax)(a:Int):aA ao ann O (Key.call 21) [(I a)] []=
 (some [T.bool (bif decide (a > (10:Int)) then decide (a<=(18:Int)) else false)]):=by kernel_rfl
theorem vH(O:ax)(j:ByteArray)(i:Bool)(e:Bool)(d:List (List T))(g:Int)(a:Int)(f:Bool)(h:List (List T)):aA ao ann O kc [(AV.t (T.str j)),(AV.own (Id.c 0)),(B i),(AV.t (T.ad 3 e d)),(I g),(I a)] [(ab.sl false 3 f h)]=
 (bif decide (a < g) then aa none (if(0:Int)<=a/\a < (↑d.length:Int) then some () else none) λx=>aa none d[a.toNat]? λl=>aa none l.head? λx=>aa none l.tail.head? λk=>aa none
 l.tail.tail.head? λm=>aa none x.a8 λs=>aa none (T.au 1 k) λp=>aa none (T.int? i64 m) λn=>aa none (O (Key.call 21) [I n] []) λl=>aa none l.head? λx=>aa none x.bool? fun
 b=>bif !b then aa none (O (Key.call 25) [AV.t (T.ad 1 p.fst p.snd)] []) λl=>aa none l.head? λx=>aa none (T.au 1 x) λp=>aa none (bp 48 (h.length+ [[T.str s,T.ad 1 p.fst p.snd,T.int
 i64 n]].length)) λx=>O kc [AV.t (T.str j),AV.own (Id.c 0),B i,AV.t (T.ad 3 e d),I g,I (i64.wrap (a+ (1:Int)))] [ab.sl false 3 (f && false) (h++ [[T.str s,T.ad 1 p.fst
 p.snd,T.int i64 n]])] else O l5 [AV.t (T.str j),AV.own (Id.c 0),B i,I a,AV.ref (Id.c 1) 0,AV.t (T.ad 3 e d),I g,I a,I (i64.wrap (n - (10:Int))),I (0:Int)] [ab.sl false 3
 f h,ab.box [AV.t (T.str s),AV.t (T.ad 1 p.fst p.snd),I n]] else some [T.ad 3 f h,T.bool (bif i then decide ((↑h.length:Int)<=(30:Int)) else false)]):=by kernel_rfl
theorem Gg(O:ax)(b:ByteArray)(i:Bool)(q:Bool)(r:Int)(e:Bool)(k:List (List T))(m:Int)(n:Int)(o:Int)(f:Int)(g:ByteArray)(a:Bool)(d:List (List T))(h:Int):aA ao ann O l5 [(AV.t (T.str b)),(AV.t (T.af i)),(B q),(I r),(AV.ref (Id.c 0) 0),(AV.t (T.ad 3 e k)),(I m),(I n),(I o),(I f)] [(ab.box [(AV.t (T.str g)),(AV.t (T.ad 1 a d)),(I h)])]=
 (bif decide (f < o) then aa none (O (Key.call 59) [I r] []) λl=>aa none l.head? λx=>aa none x.a8 λs=>aa none (if b.size+s.size<=4294967296 then some () else none) λx=>aa none (if(b++
 s).size+1<=4294967296 then some () else none) λx=>aa none (O (Key.call 59) [I f] []) λl=>aa none l.head? λx=>aa none x.a8 λj=>aa none (if(b++s++ (ByteArray.mk #[(95:UInt8)])).size+
 j.size<=4294967296 then some () else none) λx=>aa none (O (Key.call 25) [AV.t (T.ad 1 a d)] []) λl=>aa none l.head? λx=>aa none (T.au 1 x) λp=>O l5 [AV.t (T.str b),AV.own (Id.c
 0),AV.t (T.bool (bif q then decide ((↑(b++s++ (ByteArray.mk #[(95:UInt8)])++j).size:Int)<=(12:Int)) else false)),I r,AV.ref (Id.c 1) 0,AV.t (T.ad 3 e k),I m,I n,I o,I (i64.wrap
 (f+ (1:Int)))] [ab.sl false 3 (i && false) [[T.str (b++s++ (ByteArray.mk #[(95:UInt8)])++j),T.ad 1 p.fst p.snd,T.int i64 (1:Int)]],ab.box [AV.t (T.str g),AV.t (T.ad 1 a d),I
 h]] else O kc [AV.t (T.str b),AV.t (T.af i),B q,AV.t (T.ad 3 e k),I m,I (i64.wrap (n+ (1:Int)))] []):=by kernel_rfl
theorem kq(O:ax)(a1:Int)(E:Bool)(L:List (List T))(F:Bool)(J:List (List T))(G:Bool)(M:List (List T))(N:ByteArray)(H:Bool)(P:List (List T))(S:Bool)(Z:List (List T))(U:Bool)(c3:List (List T))(V:Bool)(X:Nat)(Y:List Row)(c5:List (List T×T)):aA ao ann O (Key.call 32) [(AV.ref (Id.c 0) 0),(I a1)] [(ab.box [(AV.ref (Id.c 1) 0),(AV.t (T.ad 3 E L)),(AV.t (T.ad 5 F J)),(AV.t (T.ad 1 G M)),(AV.t (T.str N)),(AV.t (T.ad 1 H P)),(AV.own (Id.c 2)),(AV.own (Id.c 3))]),(ab.box [(AV.own (Id.c 4)),(AV.own (Id.c 5))]),(ab.sl false 1 S Z),(ab.sl false 1 U c3),(ab.rows V 5 1 1 X Y),(ab.mp false [Ck.s] (Ck.i i64) c5)]=
 (aa none (if(0:Int)<=a1/\a1 < (↑J.length:Int) then some () else none) λx=>aa none J[a1.toNat]? λl=>aa none l.head? λx=>aa none l.tail.head? λx_1=>aa none l.tail.tail.head? λx_2=>
 aa none l.tail.tail.tail.head? λx_3=>aa none l.tail.tail.tail.tail.head? λx_4=>aa none (T.int? i64 x) λn=>aa none (T.au 1 x_1) λp=>aa none (T.int? i64 x_2) λC=>aa none
 (T.int? i64 x_3) λh=>aa none x_4.a8 λs=>bif n== (9:Int) then O nq [I a1,AV.ref (Id.c 6) 0,AV.ref (Id.c 7) 0,AV.t (T.af true),AV.t (T.af true),AV.t (T.ad 1 p.fst p.snd),I
 (↑p.snd.length:Int),I (0:Int)] [ab.box [AV.ref (Id.c 1) 0,AV.t (T.ad 3 E L),AV.t (T.ad 5 F J),AV.t (T.ad 1 G M),AV.t (T.str N),AV.t (T.ad 1 H P),AV.own (Id.c 2),AV.own (Id.c
 3)],ab.box [AV.own (Id.c 4),AV.own (Id.c 5)],ab.sl false 1 S Z,ab.sl false 1 U c3,ab.rows V 5 1 1 X Y,ab.mp false [Ck.s] (Ck.i i64) c5,ab.box [AV.ref (Id.c 0) 0],ab.box [I n,AV.t (T.ad 1
 p.fst p.snd),I C,I h,AV.t (T.str s)]] else bif n== (7:Int) then aa none (if(0:Int)<=(0:Int)/\(0:Int) < (↑p.snd.length:Int) then some () else none) λx=>aa none p.snd[0]? λl=>aa none
 l.head? λx=>aa none (T.int? i64 x) λa=>aa none (if(0:Int)<=a/\a < (↑c3.length:Int) then some () else none) λx=>aa none c3[a.toNat]? λl=>aa none l.head? λx=>aa none
 (T.int? i64 x) λb=>aa none (O (Key.call 60) [I (1:Int),AV.ref (Id.c 0) 0,AV.ref (Id.c 1) 0] [ab.box [AV.ref (Id.c 2) 0],ab.box [I n,AV.t (T.ad 1 p.fst p.snd),I C,I h,AV.t (T.str s)],
 ab.box [AV.ref (Id.c 3) 0,AV.t (T.ad 3 E L),AV.t (T.ad 5 F J),AV.t (T.ad 1 G M),AV.t (T.str N),AV.t (T.ad 1 H P),AV.own (Id.c 4),AV.own (Id.c 5)],ab.box [AV.own (Id.c 6),
 AV.own (Id.c 7)],ab.sl false 1 S Z,ab.sl false 1 U c3,ab.rows V 5 1 1 X Y,ab.mp false [Ck.s] (Ck.i i64) c5]) λl=>aa none l.head? λx=>aa none (T.au 1 x) λp=>aa none (List.drop
 1 l).head? λx=>aa none (List.drop 1 (List.drop 1 l)).head? λx=>aa none (T.int? i64 x) λn=>aa none (List.drop 1 (List.drop 1 l)).tail.head? λx=>aa none (T.au 1 x) λK=>aa none
 (List.drop 1 (List.drop 1 l)).tail.tail.head? λx=>aa none (T.int? i64 x) λd=>aa none (List.drop 1 (List.drop 1 l)).tail.tail.tail.head? λx=>aa none (T.int? i64 x) λQ=>aa none
 (List.drop 1 (List.drop 1 l)).tail.tail.tail.tail.head? λx=>aa none x.a8 λs=>aa none (List.drop 5 (List.drop 1 (List.drop 1 l))).head? λx=>aa none (List.drop 5 (List.drop 1 (List.drop 1 l))).tail.head?
 λx=>aa none (T.au 3 x) λu=>aa none (List.drop 5 (List.drop 1 (List.drop 1 l))).tail.tail.head? λx=>aa none (T.au 5 x) λv=>aa none (List.drop 5 (List.drop 1 (List.drop 1
 l))).tail.tail.tail.head? λx=>aa none (T.au 1 x) λw=>aa none (List.drop 5 (List.drop 1 (List.drop 1 l))).tail.tail.tail.tail.head? λx=>aa none x.a8 λW=>aa none (List.drop 5 (List.drop 1
 (List.drop 1 l))).tail.tail.tail.tail.tail.head? λx=>aa none (T.au 1 x) λy=>aa none (List.drop 5 (List.drop (1:Nat) (List.drop (1:Nat) l))).tail.tail.tail.tail.tail.tail.head? λx=>aa none
 (List.drop 5 (List.drop (1:Nat) (List.drop (1:Nat) l))).tail.tail.tail.tail.tail.tail.tail.head? λx=>aa none (List.drop 8 (List.drop 5 (List.drop 1 (List.drop 1 l)))).head? λx=>aa none (aN x) λf=>
 aa none (List.drop 8 (List.drop (5:Nat) (List.drop (1:Nat) (List.drop (1:Nat) l)))).tail.head? λx=>aa none ((List.drop (2:Nat) (List.drop (8:Nat) (List.drop (5:Nat) (List.drop (1:Nat) (List.drop (1:
 Nat) l))))).head?.bind λz=>T.au 1 z) λA=>aa none ((List.drop (2:Nat) (List.drop (8:Nat) (List.drop (5:Nat) (List.drop (1:Nat) (List.drop (1:Nat) l))))).tail.head?.bind λz=>T.au (1:Nat) z)
 λB=>aa none ((List.drop (2:Nat) (List.drop (8:Nat) (List.drop (5:Nat) (List.drop (1:Nat) (List.drop (1:Nat) l))))).tail.tail.head?.bind λz=>aL z) λl=>aa none (O (Key.call (60:Nat)) [AV.t
 (T.int i64 (2:Int)),AV.ref (Id.c (0:Nat)) (0:Nat),AV.ref (Id.c (1:Nat)) (0:Nat)] [ab.box [AV.ref (Id.c (2:Nat)) (0:Nat)],ab.box [AV.t (T.int i64 n),AV.t (T.ad (1:Nat) K.fst
 K.snd),AV.t (T.int i64 d),AV.t (T.int i64 Q),AV.t (T.str s)],ab.box [AV.ref (Id.c (3:Nat)) (0:Nat),AV.t (T.ad (3:Nat) u.fst u.snd),AV.t (T.ad (5:Nat) v.fst v.snd),AV.t
 (T.ad (1:Nat) w.fst w.snd),AV.t (T.str W),AV.t (T.ad (1:Nat) y.fst y.snd),AV.own (Id.c (4:Nat)),AV.own (Id.c (5:Nat))],ab.box [AV.own (Id.c (6:Nat)),AV.own (Id.c (7:Nat))],ab.sl false (1:
 Nat) A.fst A.snd,ab.sl false (1:Nat) B.fst B.snd,ab.rows f.fst (5:Nat) (1:Nat) (1:Nat) f.snd.length f.snd,ab.mp false [Ck.s] (Ck.i i64) l]) λl=>aa none l.head? λx=>aa none
 (T.au (1:Nat) x) λD=>aa none (List.drop (1:Nat) l).head? λx=>aa none (List.drop (1:Nat) (List.drop (1:Nat) l)).head? λx=>aa none (T.int? i64 x) λn=>aa none (List.drop (1:Nat)
 (List.drop (1:Nat) l)).tail.head? λx=>aa none (T.au (1:Nat) x) λp_10=>aa none (List.drop (1:Nat) (List.drop (1:Nat) l)).tail.tail.head? λx=>aa none (T.int? i64 x) λn=>aa none
 (List.drop (1:Nat) (List.drop (1:Nat) l)).tail.tail.tail.head? λx=>aa none (T.int? i64 x) λn=>aa none (List.drop (1:Nat) (List.drop (1:Nat) l)).tail.tail.tail.tail.head? λx=>aa none
 x.a8 λs=>aa none (List.drop (5:Nat) (List.drop (1:Nat) (List.drop (1:Nat) l))).head? λx=>aa none (List.drop (5:Nat) (List.drop (1:Nat) (List.drop (1:Nat) l))).tail.head? λx=>aa none (T.au
 (3:Nat) x) λj=>aa none (List.drop (5:Nat) (List.drop (1:Nat) (List.drop (1:Nat) l))).tail.tail.head? λx=>aa none (T.au (5:Nat) x) λk=>aa none (List.drop (5:Nat) (List.drop (1:Nat)
 (List.drop (1:Nat) l))).tail.tail.tail.head? λx=>aa none (T.au (1:Nat) x) λm=>aa none (List.drop (5:Nat) (List.drop (1:Nat) (List.drop (1:Nat) l))).tail.tail.tail.tail.head? λx=>aa none
 x.a8 λs=>aa none (List.drop (5:Nat) (List.drop (1:Nat) (List.drop (1:Nat) l))).tail.tail.tail.tail.tail.head? λx=>aa none (T.au (1:Nat) x) λo=>aa none (List.drop (5:Nat) (List.drop (1:
 Nat) (List.drop (1:Nat) l))).tail.tail.tail.tail.tail.tail.head? λx=>aa none (List.drop (5:Nat) (List.drop (1:Nat) (List.drop (1:Nat) l))).tail.tail.tail.tail.tail.tail.tail.head? λx=>aa none
 (List.drop (8:Nat) (List.drop (5:Nat) (List.drop (1:Nat) (List.drop (1:Nat) l)))).head? λx=>aa none (aN x) λe=>aa none (List.drop (8:Nat) (List.drop (5:Nat) (List.drop (1:Nat) (List.drop (1
 :Nat) l)))).tail.head? λx=>aa none ((List.drop (2:Nat) (List.drop (8:Nat) (List.drop (5:Nat) (List.drop (1:Nat) (List.drop (1:Nat) l))))).head?.bind λz=>T.au (1:Nat) z) λq=>aa none
 ((List.drop (2:Nat) (List.drop (8:Nat) (List.drop (5:Nat) (List.drop (1:Nat) (List.drop (1:Nat) l))))).tail.head?.bind λz=>T.au (1:Nat) z) λr=>aa none ((List.drop (2:Nat) (List.drop (8:Nat)
 (List.drop (5:Nat) (List.drop (1:Nat) (List.drop (1:Nat) l))))).tail.tail.head?.bind λz=>aL z) λl=>aa none (O (Key.call (63:Nat)) [AV.t (T.ad (1:Nat) p.fst p.snd),AV.t (T.ad (1:Nat) D.fst
 D.snd),AV.fn (64:Nat) [] [AV.ref (Id.c (0:Nat)) (0:Nat),AV.ref (Id.c (1:Nat)) (0:Nat)]] [ab.box [AV.ref (Id.c (2:Nat)) (0:Nat)],ab.box [AV.t (T.int i64 b)],ab.box [AV.ref (Id.c (3:Nat))
 (0:Nat),AV.t (T.ad (3:Nat) j.fst j.snd),AV.t (T.ad (5:Nat) k.fst k.snd),AV.t (T.ad (1:Nat) m.fst m.snd),AV.t (T.str s),AV.t (T.ad (1:Nat) o.fst o.snd),AV.own (Id.c (4:Nat)),
 AV.own (Id.c (5:Nat))],ab.box [AV.own (Id.c (6:Nat)),AV.own (Id.c (7:Nat))],ab.sl false (1:Nat) q.fst q.snd,ab.sl false (1:Nat) r.fst r.snd,ab.rows e.fst (5:Nat) (1:Nat) (1:Nat)
 e.snd.length e.snd,ab.mp false [Ck.s] (Ck.i i64) l]) λl=>aa none l.head? λx=>aa none (T.au (1:Nat) x) λp=>aa none (List.drop (1:Nat) l).head? λx=>aa none (List.drop (1:Nat)
 (List.drop (1:Nat) l)).head? λx=>aa none (T.int? i64 x) λn=>aa none (List.drop (1:Nat) (List.drop (1:Nat) (List.drop (1:Nat) l))).head? λx=>aa none (List.drop (1:Nat) (List.drop (1:
 Nat) (List.drop (1:Nat) l))).tail.head? λx=>aa none (T.au (3:Nat) x) λg=>aa none (List.drop (1:Nat) (List.drop (1:Nat) (List.drop (1:Nat) l))).tail.tail.head? λx=>aa none (T.au (5:Nat)
 x) λp_19=>aa none (List.drop (1:Nat) (List.drop (1:Nat) (List.drop (1:Nat) l))).tail.tail.tail.head? λx=>aa none (T.au (1:Nat) x) λp_20=>aa none (List.drop (1:Nat) (List.drop (1:Nat)
 (List.drop (1:Nat) l))).tail.tail.tail.tail.head? λx=>aa none x.a8 λs=>aa none (List.drop (1:Nat) (List.drop (1:Nat) (List.drop (1:Nat) l))).tail.tail.tail.tail.tail.head? λx=>aa none (T.au
 (1:Nat) x) λp_21=>aa none (List.drop (1:Nat) (List.drop (1:Nat) (List.drop (1:Nat) l))).tail.tail.tail.tail.tail.tail.head? λx=>aa none (List.drop (1:Nat) (List.drop (1:Nat) (List.drop (1:Nat)
 l))).tail.tail.tail.tail.tail.tail.tail.head? λx=>aa none (List.drop (8:Nat) (List.drop (1:Nat) (List.drop (1:Nat) (List.drop (1:Nat) l)))).head? λx=>aa none (aN x) λp_22=>aa none (List.drop
 (8:Nat) (List.drop (1:Nat) (List.drop (1:Nat) (List.drop (1:Nat) l)))).tail.head? λx=>aa none ((List.drop (2:Nat) (List.drop (8:Nat) (List.drop (1:Nat) (List.drop (1:Nat) (List.drop (1:Nat)
 l))))).head?.bind λz=>T.au (1:Nat) z) λp_23=>aa none ((List.drop (2:Nat) (List.drop (8:Nat) (List.drop (1:Nat) (List.drop (1:Nat) (List.drop (1:Nat) l))))).tail.head?.bind λz=>T.au (1:
 Nat) z) λp_24=>aa none ((List.drop (2:Nat) (List.drop (8:Nat) (List.drop (1:Nat) (List.drop (1:Nat) (List.drop (1:Nat) l))))).tail.tail.head?.bind λz=>aL z) λl=>aa none (if aX p_22.snd=
 true then some () else none) λx=>some [T.ad (1:Nat) p.fst p.snd,T.ak,T.ad (3:Nat) g.fst g.snd,T.ad (5:Nat) p_19.fst p_19.snd,T.ad (1:Nat) p_20.fst p_20.snd,T.str s,T.ad (1:Nat) p_21.fst
 p_21.snd,T.ak,T.ak,be p_22.fst p_22.snd,T.ak,T.ad (1:Nat) p_23.fst p_23.snd,T.ad (1:Nat) p_24.fst p_24.snd,ba l] else bif n== (15:Int) then O np [AV.ref (Id.c 6) 0,AV.ref (Id.c 7) 0,AV.t
 (T.af true),I h,I (0:Int)] [ab.box [AV.ref (Id.c 1) 0,AV.t (T.ad 3 E L),AV.t (T.ad 5 F J),AV.t (T.ad 1 G M),AV.t (T.str N),AV.t (T.ad 1 H P),AV.own (Id.c 2),AV.own (Id.c
 3)],ab.box [AV.own (Id.c 4),AV.own (Id.c 5)],ab.sl false 1 S Z,ab.sl false 1 U c3,ab.rows V 5 1 1 X Y,ab.mp false [Ck.s] (Ck.i i64) c5,ab.box [AV.ref (Id.c 0) 0],ab.box [I n,AV.t (T.ad 1
 p.fst p.snd),I C,I h,AV.t (T.str s)]] else bif n== (16:Int) then aa none (O (Key.call 60) [I (0:Int),AV.ref (Id.c 0) 0,AV.ref (Id.c 1) 0] [ab.box [AV.ref (Id.c 2) 0],ab.box [I n,AV.t (T.ad 1 p.fst
 p.snd),I C,I h,AV.t (T.str s)],ab.box [AV.ref (Id.c 3) 0,AV.t (T.ad 3 E L),AV.t (T.ad 5 F J),AV.t (T.ad 1 G M),AV.t (T.str N),AV.t (T.ad 1 H P),AV.own (Id.c 4),AV.own
 (Id.c 5)],ab.box [AV.own (Id.c 6),AV.own (Id.c 7)],ab.sl false 1 S Z,ab.sl false 1 U c3,ab.rows V 5 1 1 X Y,ab.mp false [Ck.s] (Ck.i i64) c5]) λl=>aa none l.head? λx=>aa none
 (T.au 1 x) λp=>aa none (List.drop 1 l).head? λx=>aa none (List.drop 1 (List.drop 1 l)).head? λx=>aa none (T.int? i64 x) λn=>aa none (List.drop 1 (List.drop 1 l)).tail.head? λx=>aa
 none (T.au 1 x) λK=>aa none (List.drop 1 (List.drop 1 l)).tail.tail.head? λx=>aa none (T.int? i64 x) λn=>aa none (List.drop 1 (List.drop 1 l)).tail.tail.tail.head? λx=>aa none (T.int?
 i64 x) λn=>aa none (List.drop 1 (List.drop 1 l)).tail.tail.tail.tail.head? λx=>aa none x.a8 λs=>aa none (List.drop 5 (List.drop 1 (List.drop 1 l))).head? λx=>aa none (List.drop 5
 (List.drop 1 (List.drop 1 l))).tail.head? λx=>aa none (T.au 3 x) λu=>aa none (List.drop 5 (List.drop 1 (List.drop 1 l))).tail.tail.head? λx=>aa none (T.au 5 x) λv=>aa none (List.drop 5
 (List.drop 1 (List.drop 1 l))).tail.tail.tail.head? λx=>aa none (T.au 1 x) λw=>aa none (List.drop 5 (List.drop 1 (List.drop 1 l))).tail.tail.tail.tail.head? λx=>aa none x.a8 λs=>aa none
 (List.drop 5 (List.drop 1 (List.drop 1 l))).tail.tail.tail.tail.tail.head? λx=>aa none (T.au 1 x) λy=>aa none (List.drop 5 (List.drop 1 (List.drop 1 l))).tail.tail.tail.tail.tail.tail.head? λx=>aa
 none (List.drop 5 (List.drop 1 (List.drop 1 l))).tail.tail.tail.tail.tail.tail.tail.head? λx=>aa none (List.drop 8 (List.drop 5 (List.drop 1 (List.drop 1 l)))).head? λx=>aa none (aN x) λf=>aa none
 (List.drop 8 (List.drop 5 (List.drop 1 (List.drop 1 l)))).tail.head? λx=>aa none ((List.drop 2 (List.drop 8 (List.drop 5 (List.drop 1 (List.drop 1 l))))).head?.bind λz=>T.au 1 z) λA=>aa none
 ((List.drop 2 (List.drop 8 (List.drop 5 (List.drop (1:Nat) (List.drop (1:Nat) l))))).tail.head?.bind λz=>T.au 1 z) λB=>aa none ((List.drop 2 (List.drop (8:Nat) (List.drop (5:Nat) (List.drop (1:
 Nat) (List.drop (1:Nat) l))))).tail.tail.head?.bind λz=>aL z) λl=>O (bZ ao 32 true 28 [(2,none),(7,none),(128,none),(129,none),(130,none)] (6,2008)) [AV.ref (Id.c 6) 0,AV.t (T.af true),
 AV.t (T.ad 1 p.fst p.snd),AV.t (T.int i64 (↑p.snd.length:Int)),AV.t (T.int i64 (0:Int))] [ab.box [AV.ref (Id.c 1) 0,AV.t (T.ad 3 u.fst u.snd),AV.t (T.ad 5 v.fst v.snd),AV.t (T.ad 1
 w.fst w.snd),AV.t (T.str s),AV.t (T.ad 1 y.fst y.snd),AV.own (Id.c (2:Nat)),AV.own (Id.c (3:Nat))],ab.box [AV.own (Id.c (7:Nat)),AV.own (Id.c (5:Nat))],ab.sl false 1 A.fst A.snd,ab.sl false
 1 B.fst B.snd,ab.dead,ab.mp false [Ck.s] (Ck.i i64) l,ab.box [AV.ref (Id.c 0) 0],ab.rows f.fst 5 1 1 f.snd.length f.snd] else bif n== (17:Int) then aa none (O (Key.call 60) [I (0:Int),
 AV.ref (Id.c 0) 0,AV.ref (Id.c 1) 0] [ab.box [AV.ref (Id.c 2) 0],ab.box [I n,AV.t (T.ad 1 p.fst p.snd),I C,I h,AV.t (T.str s)],ab.box [AV.ref (Id.c 3) 0,AV.t (T.ad 3 E L),AV.t (T.ad 5 F
 J),AV.t (T.ad 1 G M),AV.t (T.str N),AV.t (T.ad 1 H P),AV.own (Id.c 4),AV.own (Id.c 5)],ab.box [AV.own (Id.c 6),AV.own (Id.c 7)],ab.sl false 1 S Z,ab.sl false 1 U c3,ab.rows V 5 1
 1 X Y,ab.mp false [Ck.s] (Ck.i i64) c5]) λl=>aa none l.head? λx=>aa none (T.au 1 x) λp=>aa none (List.drop 1 l).head? λx=>aa none (List.drop 1 (List.drop 1 l)).head? λx=>aa
 none (T.int? i64 x) λa=>aa none (List.drop 1 (List.drop 1 l)).tail.head? λx=>aa none (T.au 1 x) λK=>aa none (List.drop 1 (List.drop 1 l)).tail.tail.head? λx=>aa none (T.int?
 i64 x) λb=>aa none (List.drop 1 (List.drop 1 l)).tail.tail.tail.head? λx=>aa none (T.int? i64 x) λd=>aa none (List.drop 1 (List.drop 1 l)).tail.tail.tail.tail.head? λx=>aa none
 x.a8 λs=>aa none (List.drop 5 (List.drop 1 (List.drop 1 l))).head? λx=>aa none (List.drop 5 (List.drop 1 (List.drop 1 l))).tail.head? λx=>aa none (T.au 3 x) λu=>aa none (List.drop 5
 (List.drop 1 (List.drop 1 l))).tail.tail.head? λx=>aa none (T.au 5 x) λv=>aa none (List.drop 5 (List.drop 1 (List.drop 1 l))).tail.tail.tail.head? λx=>aa none (T.au 1 x) λw=>aa none
 (List.drop 5 (List.drop 1 (List.drop 1 l))).tail.tail.tail.tail.head? λx=>aa none x.a8 λW=>aa none (List.drop 5 (List.drop 1 (List.drop 1 l))).tail.tail.tail.tail.tail.head? λx=>aa none (T.au 1 x)
 λy=>aa none (List.drop 5 (List.drop 1 (List.drop 1 l))).tail.tail.tail.tail.tail.tail.head? λx=>aa none (List.drop 5 (List.drop 1 (List.drop 1 l))).tail.tail.tail.tail.tail.tail.tail.head? λx=>aa none
 (List.drop 8 (List.drop 5 (List.drop 1 (List.drop 1 l)))).head? λx=>aa none (aN x) λf=>aa none (List.drop 8 (List.drop 5 (List.drop 1 (List.drop 1 l)))).tail.head? λx=>aa none ((List.drop 2
 (List.drop 8 (List.drop 5 (List.drop 1 (List.drop (1:Nat) l))))).head?.bind λz=>T.au 1 z) λA=>aa none ((List.drop 2 (List.drop 8 (List.drop (5:Nat) (List.drop (1:Nat) (List.drop (1:Nat)
 l))))).tail.head?.bind λz=>T.au 1 z) λB=>aa none ((List.drop (2:Nat) (List.drop (8:Nat) (List.drop (5:Nat) (List.drop (1:Nat) (List.drop (1:Nat) l))))).tail.tail.head?.bind λz=>aL z) λl
 =>aa none (if n=a then some () else none) λx=>aa none (if C=b then some () else none) λx=>aa none (if h=d then some () else none) λx=>aa none (if n=a then some () else none) λx
 =>aa none (if C=b then some () else none) λx=>aa none (if h=d then some () else none) λx=>aa none (O (Key.call (60:Nat)) [AV.t (T.int i64 (1:Int)),AV.ref (Id.c (0:Nat)) (0:Nat),
 AV.ref (Id.c (1:Nat)) (0:Nat)] [ab.box [AV.ref (Id.c (2:Nat)) (0:Nat)],ab.box [AV.t (T.int i64 a),AV.t (T.ad (1:Nat) K.fst K.snd),AV.t (T.int i64 b),AV.t (T.int i64 d),
 AV.t (T.str s)],ab.box [AV.ref (Id.c (3:Nat)) (0:Nat),AV.t (T.ad (3:Nat) u.fst u.snd),AV.t (T.ad (5:Nat) v.fst v.snd),AV.t (T.ad (1:Nat) w.fst w.snd),AV.t (T.str W),AV.t (T.ad (1:Nat)
 y.fst y.snd),AV.own (Id.c (4:Nat)),AV.own (Id.c (5:Nat))],ab.box [AV.own (Id.c (6:Nat)),AV.own (Id.c (7:Nat))],ab.sl false (1:Nat) A.fst A.snd,ab.sl false (1:Nat) B.fst B.snd,ab.rows
 f.fst (5:Nat) (1:Nat) (1:Nat) f.snd.length f.snd,ab.mp false [Ck.s] (Ck.i i64) l]) λl=>aa none l.head? λx=>aa none (T.au (1:Nat) x) λD=>aa none (List.drop (1:Nat) l).head?
 λx=>aa none (List.drop (1:Nat) (List.drop (1:Nat) l)).head? λx=>aa none (T.int? i64 x) λn=>aa none (List.drop (1:Nat) (List.drop (1:Nat) l)).tail.head? λx=>aa none (T.au (1:Nat)
 x) λp_10=>aa none (List.drop (1:Nat) (List.drop (1:Nat) l)).tail.tail.head? λx=>aa none (T.int? i64 x) λQ=>aa none (List.drop (1:Nat) (List.drop (1:Nat) l)).tail.tail.tail.head? λx
 =>aa none (T.int? i64 x) λR=>aa none (List.drop (1:Nat) (List.drop (1:Nat) l)).tail.tail.tail.tail.head? λx=>aa none x.a8 λs=>aa none (List.drop (5:Nat) (List.drop (1:Nat)
 (List.drop (1:Nat) l))).head? λx=>aa none (List.drop (5:Nat) (List.drop (1:Nat) (List.drop (1:Nat) l))).tail.head? λx=>aa none (T.au (3:Nat) x) λj=>aa none (List.drop (5:Nat) (List.drop
 (1:Nat) (List.drop (1:Nat) l))).tail.tail.head? λx=>aa none (T.au (5:Nat) x) λk=>aa none (List.drop (5:Nat) (List.drop (1:Nat) (List.drop (1:Nat) l))).tail.tail.tail.head? λx=>aa none
 (T.au (1:Nat) x) λm=>aa none (List.drop (5:Nat) (List.drop (1:Nat) (List.drop (1:Nat) l))).tail.tail.tail.tail.head? λx=>aa none x.a8 λs=>aa none (List.drop (5:Nat) (List.drop (1:Nat)
 (List.drop (1:Nat) l))).tail.tail.tail.tail.tail.head? λx=>aa none (T.au (1:Nat) x) λo=>aa none (List.drop (5:Nat) (List.drop (1:Nat) (List.drop (1:Nat) l))).tail.tail.tail.tail.tail.tail.head?
 λx=>aa none (List.drop (5:Nat) (List.drop (1:Nat) (List.drop (1:Nat) l))).tail.tail.tail.tail.tail.tail.tail.head? λx=>aa none (List.drop (8:Nat) (List.drop (5:Nat) (List.drop (1:Nat) (List.drop (1
 :Nat) l)))).head? λx=>aa none (aN x) λe=>aa none (List.drop (8:Nat) (List.drop (5:Nat) (List.drop (1:Nat) (List.drop (1:Nat) l)))).tail.head? λx=>aa none ((List.drop (2:Nat) (List.drop
 (8:Nat) (List.drop (5:Nat) (List.drop (1:Nat) (List.drop (1:Nat) l))))).head?.bind λz=>T.au (1:Nat) z) λq=>aa none ((List.drop (2:Nat) (List.drop (8:Nat) (List.drop (5:Nat) (List.drop (1:
 Nat) (List.drop (1:Nat) l))))).tail.head?.bind λz=>T.au (1:Nat) z) λr=>aa none ((List.drop (2:Nat) (List.drop (8:Nat) (List.drop (5:Nat) (List.drop (1:Nat) (List.drop (1:Nat)
 l))))).tail.tail.head?.bind λz=>aL z) λl=>aa none (if a=n then some () else none) λx=>aa none (if b=Q then some () else none) λx=>aa none (if d=R then some () else none) λx=>
 aa none (if a=n then some () else none) λx=>aa none (if b=Q then some () else none) λx=>aa none (if d=R then some () else none) λx=>aa none (O (Key.call (63:Nat)) [AV.t (T.ad (1:
 Nat) p.fst p.snd),AV.t (T.ad (1:Nat) D.fst D.snd),AV.fn (67:Nat) [AV.ref (Id.c (0:Nat)) (0:Nat)] []] [ab.box [AV.own (Id.c (1:Nat)),AV.own (Id.c (2:Nat))],ab.rows e.fst (5:Nat) (1:Nat) (1:
 Nat) e.snd.length e.snd,ab.mp false [Ck.s] (Ck.i i64) l]) λl=>aa none l.head? λx=>aa none (T.au (1:Nat) x) λp=>aa none (List.drop (1:Nat) l).head? λx=>aa none (aN x) fun
 g=>aa none (List.drop (1:Nat) l).tail.head? λx=>aa none ((List.drop (2:Nat) (List.drop (1:Nat) l)).head?.bind λz=>aL z) λl=>aa none (if aX g.snd=true then some () else none) λx
 =>some [T.ad (1:Nat) p.fst p.snd,T.ak,T.ad (3:Nat) j.fst j.snd,T.ad (5:Nat) k.fst k.snd,T.ad (1:Nat) m.fst m.snd,T.str s,T.ad (1:Nat) o.fst o.snd,T.ak,T.ak,be
 g.fst g.snd,T.ak,T.ad (1:Nat) q.fst q.snd,T.ad (1:Nat) r.fst r.snd,ba l] else bif n== (18:Int) then aa none (O (Key.call 60) [I (0:Int),AV.ref (Id.c 0) 0,AV.ref (Id.c 1) 0] [ab.box
 [AV.ref (Id.c 2) 0],ab.box [I n,AV.t (T.ad 1 p.fst p.snd),I C,I h,AV.t (T.str s)],ab.box [AV.ref (Id.c 3) 0,AV.t (T.ad 3 E L),AV.t (T.ad 5 F J),AV.t (T.ad 1 G M),AV.t (T.str N),
 AV.t (T.ad 1 H P),AV.own (Id.c 4),AV.own (Id.c 5)],ab.box [AV.own (Id.c 6),AV.own (Id.c 7)],ab.sl false 1 S Z,ab.sl false 1 U c3,ab.rows V 5 1 1 X Y,ab.mp false [Ck.s] (Ck.i i64)
 c5]) λl=>aa none l.head? λx=>aa none (T.au 1 x) λp=>aa none (List.drop 1 l).head? λx=>aa none (List.drop 1 (List.drop 1 l)).head? λx=>aa none (T.int? i64 x) λa=>aa none
 (List.drop 1 (List.drop 1 l)).tail.head? λx=>aa none (T.au 1 x) λK=>aa none (List.drop 1 (List.drop 1 l)).tail.tail.head? λx=>aa none (T.int? i64 x) λb=>aa none (List.drop 1
 (List.drop 1 l)).tail.tail.tail.head? λx=>aa none (T.int? i64 x) λd=>aa none (List.drop 1 (List.drop 1 l)).tail.tail.tail.tail.head? λx=>aa none x.a8 λs=>aa none (List.drop 5 (List.drop
 1 (List.drop 1 l))).head? λx=>aa none (List.drop 5 (List.drop 1 (List.drop 1 l))).tail.head? λx=>aa none (T.au 3 x) λu=>aa none (List.drop 5 (List.drop 1 (List.drop 1 l))).tail.tail.head? λx=>
 aa none (T.au 5 x) λv=>aa none (List.drop 5 (List.drop 1 (List.drop 1 l))).tail.tail.tail.head? λx=>aa none (T.au 1 x) λw=>aa none (List.drop 5 (List.drop 1 (List.drop 1
 l))).tail.tail.tail.tail.head? λx=>aa none x.a8 λW=>aa none (List.drop 5 (List.drop 1 (List.drop 1 l))).tail.tail.tail.tail.tail.head? λx=>aa none (T.au 1 x) λy=>aa none (List.drop 5
 (List.drop 1 (List.drop 1 l))).tail.tail.tail.tail.tail.tail.head? λx=>aa none (List.drop 5 (List.drop 1 (List.drop (1:Nat) l))).tail.tail.tail.tail.tail.tail.tail.head? λx=>aa none (List.drop 8 (List.drop 5
 (List.drop 1 (List.drop 1 l)))).head? λx=>aa none (aN x) λf=>aa none (List.drop 8 (List.drop 5 (List.drop 1 (List.drop 1 l)))).tail.head? λx=>aa none ((List.drop 2 (List.drop 8 (List.drop 5
 (List.drop (1:Nat) (List.drop (1:Nat) l))))).head?.bind λz=>T.au 1 z) λA=>aa none ((List.drop 2 (List.drop (8:Nat) (List.drop (5:Nat) (List.drop (1:Nat) (List.drop (1:Nat) l))))).tail.head?.bind
 λz=>T.au 1 z) λB=>aa none ((List.drop (2:Nat) (List.drop (8:Nat) (List.drop (5:Nat) (List.drop (1:Nat) (List.drop (1:Nat) l))))).tail.tail.head?.bind λz=>aL z) λl=>aa none (if n=a
 then some () else none) λx=>aa none (if C=b then some () else none) λx=>aa none (if h=d then some () else none) λx=>aa none (if n=a then some () else none) λx=>aa none (if C=b
 then some () else none) λx=>aa none (if h=d then some () else none) λx=>aa none (O (Key.call (60:Nat)) [AV.t (T.int i64 (1:Int)),AV.ref (Id.c (0:Nat)) (0:Nat),AV.ref (Id.c (1:Nat)) (0
 :Nat)] [ab.box [AV.ref (Id.c (2:Nat)) (0:Nat)],ab.box [AV.t (T.int i64 a),AV.t (T.ad (1:Nat) K.fst K.snd),AV.t (T.int i64 b),AV.t (T.int i64 d),AV.t (T.str s)],ab.box
 [AV.ref (Id.c (3:Nat)) (0:Nat),AV.t (T.ad (3:Nat) u.fst u.snd),AV.t (T.ad (5:Nat) v.fst v.snd),AV.t (T.ad (1:Nat) w.fst w.snd),AV.t (T.str W),AV.t (T.ad (1:Nat) y.fst y.snd),AV.own
 (Id.c (4:Nat)),AV.own (Id.c (5:Nat))],ab.box [AV.own (Id.c (6:Nat)),AV.own (Id.c (7:Nat))],ab.sl false (1:Nat) A.fst A.snd,ab.sl false (1:Nat) B.fst B.snd,ab.rows f.fst (5:Nat) (1:Nat)
 (1:Nat) f.snd.length f.snd,ab.mp false [Ck.s] (Ck.i i64) l]) λl=>aa none l.head? λx=>aa none (T.au (1:Nat) x) λD=>aa none (List.drop (1:Nat) l).head? λx=>aa none (List.drop
 (1:Nat) (List.drop (1:Nat) l)).head? λx=>aa none (T.int? i64 x) λn=>aa none (List.drop (1:Nat) (List.drop (1:Nat) l)).tail.head? λx=>aa none (T.au (1:Nat) x) λp_10=>aa none
 (List.drop (1:Nat) (List.drop (1:Nat) l)).tail.tail.head? λx=>aa none (T.int? i64 x) λQ=>aa none (List.drop (1:Nat) (List.drop (1:Nat) l)).tail.tail.tail.head? λx=>aa none (T.int?
 i64 x) λR=>aa none (List.drop (1:Nat) (List.drop (1:Nat) l)).tail.tail.tail.tail.head? λx=>aa none x.a8 λs=>aa none (List.drop (5:Nat) (List.drop (1:Nat) (List.drop (1:Nat)
 l))).head? λx=>aa none (List.drop (5:Nat) (List.drop (1:Nat) (List.drop (1:Nat) l))).tail.head? λx=>aa none (T.au (3:Nat) x) λj=>aa none (List.drop (5:Nat) (List.drop (1:Nat) (List.drop
 (1:Nat) l))).tail.tail.head? λx=>aa none (T.au (5:Nat) x) λk=>aa none (List.drop (5:Nat) (List.drop (1:Nat) (List.drop (1:Nat) l))).tail.tail.tail.head? λx=>aa none (T.au (1:Nat) x)
 λm=>aa none (List.drop (5:Nat) (List.drop (1:Nat) (List.drop (1:Nat) l))).tail.tail.tail.tail.head? λx=>aa none x.a8 λs=>aa none (List.drop (5:Nat) (List.drop (1:Nat) (List.drop (1:Nat)
 l))).tail.tail.tail.tail.tail.head? λx=>aa none (T.au (1:Nat) x) λo=>aa none (List.drop (5:Nat) (List.drop (1:Nat) (List.drop (1:Nat) l))).tail.tail.tail.tail.tail.tail.head? λx=>aa none
 (List.drop (5:Nat) (List.drop (1:Nat) (List.drop (1:Nat) l))).tail.tail.tail.tail.tail.tail.tail.head? λx=>aa none (List.drop (8:Nat) (List.drop (5:Nat) (List.drop (1:Nat) (List.drop (1:Nat)
 l)))).head? λx=>aa none (aN x) λe=>aa none (List.drop (8:Nat) (List.drop (5:Nat) (List.drop (1:Nat) (List.drop (1:Nat) l)))).tail.head? λx=>aa none ((List.drop (2:Nat) (List.drop (8:
 Nat) (List.drop (5:Nat) (List.drop (1:Nat) (List.drop (1:Nat) l))))).head?.bind λz=>T.au (1:Nat) z) λq=>aa none ((List.drop (2:Nat) (List.drop (8:Nat) (List.drop (5:Nat) (List.drop (1:Nat)
 (List.drop (1:Nat) l))))).tail.head?.bind λz=>T.au (1:Nat) z) λr=>aa none ((List.drop (2:Nat) (List.drop (8:Nat) (List.drop (5:Nat) (List.drop (1:Nat) (List.drop (1:Nat)
 l))))).tail.tail.head?.bind λz=>aL z) λl=>aa none (if a=n then some () else none) λx=>aa none (if b=Q then some () else none) λx=>aa none (if d=R then some () else none) λx=>
 aa none (if a=n then some () else none) λx=>aa none (if b=Q then some () else none) λx=>aa none (if d=R then some () else none) λx=>aa none (O (Key.call (63:Nat)) [AV.t (T.ad (1:
 Nat) p.fst p.snd),AV.t (T.ad (1:Nat) D.fst D.snd),AV.fn (68:Nat) [AV.ref (Id.c (0:Nat)) (0:Nat)] []] [ab.box [AV.own (Id.c (1:Nat)),AV.own (Id.c (2:Nat))],ab.rows e.fst (5:Nat) (1:Nat) (1:
 Nat) e.snd.length e.snd,ab.mp false [Ck.s] (Ck.i i64) l]) λl=>aa none l.head? λx=>aa none (T.au (1:Nat) x) λp=>aa none (List.drop (1:Nat) l).head? λx=>aa none (aN x) fun
 g=>aa none (List.drop (1:Nat) l).tail.head? λx=>aa none ((List.drop (2:Nat) (List.drop (1:Nat) l)).head?.bind λz=>aL z) λl=>aa none (if aX g.snd=true then some () else none) λx
 =>some [T.ad (1:Nat) p.fst p.snd,T.ak,T.ad (3:Nat) j.fst j.snd,T.ad (5:Nat) k.fst k.snd,T.ad (1:Nat) m.fst m.snd,T.str s,T.ad (1:Nat) o.fst o.snd,T.ak,T.ak,be
 g.fst g.snd,T.ak,T.ad (1:Nat) q.fst q.snd,T.ad (1:Nat) r.fst r.snd,ba l] else bif n== (19:Int) then aa none (O (Key.call 60) [I (0:Int),AV.ref (Id.c 0) 0,AV.ref (Id.c 1) 0] [ab.box
 [AV.ref (Id.c 2) 0],ab.box [I n,AV.t (T.ad 1 p.fst p.snd),I C,I h,AV.t (T.str s)],ab.box [AV.ref (Id.c 3) 0,AV.t (T.ad 3 E L),AV.t (T.ad 5 F J),AV.t (T.ad 1 G M),AV.t (T.str N),
 AV.t (T.ad 1 H P),AV.own (Id.c 4),AV.own (Id.c 5)],ab.box [AV.own (Id.c 6),AV.own (Id.c 7)],ab.sl false 1 S Z,ab.sl false 1 U c3,ab.rows V 5 1 1 X Y,ab.mp false [Ck.s] (Ck.i i64)
 c5]) λl=>aa none l.head? λx=>aa none (T.au 1 x) λp=>aa none (List.drop 1 l).head? λx=>aa none (List.drop 1 (List.drop 1 l)).head? λx=>aa none (T.int? i64 x) λa=>aa none
 (List.drop 1 (List.drop 1 l)).tail.head? λx=>aa none (T.au 1 x) λK=>aa none (List.drop 1 (List.drop 1 l)).tail.tail.head? λx=>aa none (T.int? i64 x) λb=>aa none (List.drop 1
 (List.drop 1 l)).tail.tail.tail.head? λx=>aa none (T.int? i64 x) λd=>aa none (List.drop 1 (List.drop 1 l)).tail.tail.tail.tail.head? λx=>aa none x.a8 λs=>aa none (List.drop 5 (List.drop
 1 (List.drop 1 l))).head? λx=>aa none (List.drop 5 (List.drop 1 (List.drop 1 l))).tail.head? λx=>aa none (T.au 3 x) λu=>aa none (List.drop 5 (List.drop 1 (List.drop 1 l))).tail.tail.head? λx=>
 aa none (T.au 5 x) λv=>aa none (List.drop 5 (List.drop 1 (List.drop 1 l))).tail.tail.tail.head? λx=>aa none (T.au 1 x) λw=>aa none (List.drop 5 (List.drop 1 (List.drop 1
 l))).tail.tail.tail.tail.head? λx=>aa none x.a8 λW=>aa none (List.drop 5 (List.drop 1 (List.drop 1 l))).tail.tail.tail.tail.tail.head? λx=>aa none (T.au 1 x) λy=>aa none (List.drop 5
 (List.drop 1 (List.drop 1 l))).tail.tail.tail.tail.tail.tail.head? λx=>aa none (List.drop 5 (List.drop (1:Nat) (List.drop (1:Nat) l))).tail.tail.tail.tail.tail.tail.tail.head? λx=>aa none (List.drop 8
 (List.drop 5 (List.drop 1 (List.drop 1 l)))).head? λx=>aa none (aN x) λf=>aa none (List.drop 8 (List.drop 5 (List.drop 1 (List.drop 1 l)))).tail.head? λx=>aa none ((List.drop 2 (List.drop 8
 (List.drop (5:Nat) (List.drop (1:Nat) (List.drop (1:Nat) l))))).head?.bind λz=>T.au 1 z) λA=>aa none ((List.drop (2:Nat) (List.drop (8:Nat) (List.drop (5:Nat) (List.drop (1:Nat) (List.drop (1
 :Nat) l))))).tail.head?.bind λz=>T.au 1 z) λB=>aa none ((List.drop (2:Nat) (List.drop (8:Nat) (List.drop (5:Nat) (List.drop (1:Nat) (List.drop (1:Nat) l))))).tail.tail.head?.bind λz=>aL z)
 λl=>aa none (if n=a then some () else none) λx=>aa none (if C=b then some () else none) λx=>aa none (if h=d then some () else none) λx=>aa none (if n=a then some () else none)
 λx=>aa none (if C=b then some () else none) λx=>aa none (if h=d then some () else none) λx=>aa none (O (Key.call (60:Nat)) [AV.t (T.int i64 (1:Int)),AV.ref (Id.c (0:Nat)) (0:
 Nat),AV.ref (Id.c (1:Nat)) (0:Nat)] [ab.box [AV.ref (Id.c (2:Nat)) (0:Nat)],ab.box [AV.t (T.int i64 a),AV.t (T.ad (1:Nat) K.fst K.snd),AV.t (T.int i64 b),AV.t (T.int i64
 d),AV.t (T.str s)],ab.box [AV.ref (Id.c (3:Nat)) (0:Nat),AV.t (T.ad (3:Nat) u.fst u.snd),AV.t (T.ad (5:Nat) v.fst v.snd),AV.t (T.ad (1:Nat) w.fst w.snd),AV.t (T.str W),AV.t (T.ad (1:
 Nat) y.fst y.snd),AV.own (Id.c (4:Nat)),AV.own (Id.c (5:Nat))],ab.box [AV.own (Id.c (6:Nat)),AV.own (Id.c (7:Nat))],ab.sl false (1:Nat) A.fst A.snd,ab.sl false (1:Nat) B.fst B.snd,
 ab.rows f.fst (5:Nat) (1:Nat) (1:Nat) f.snd.length f.snd,ab.mp false [Ck.s] (Ck.i i64) l]) λl=>aa none l.head? λx=>aa none (T.au (1:Nat) x) λD=>aa none (List.drop (1:Nat)
 l).head? λx=>aa none (List.drop (1:Nat) (List.drop (1:Nat) l)).head? λx=>aa none (T.int? i64 x) λn=>aa none (List.drop (1:Nat) (List.drop (1:Nat) l)).tail.head? λx=>aa none (T.au
 (1:Nat) x) λp_10=>aa none (List.drop (1:Nat) (List.drop (1:Nat) l)).tail.tail.head? λx=>aa none (T.int? i64 x) λQ=>aa none (List.drop (1:Nat) (List.drop (1:Nat)
 l)).tail.tail.tail.head? λx=>aa none (T.int? i64 x) λR=>aa none (List.drop (1:Nat) (List.drop (1:Nat) l)).tail.tail.tail.tail.head? λx=>aa none x.a8 λs=>aa none (List.drop (5:Nat)
 (List.drop (1:Nat) (List.drop (1:Nat) l))).head? λx=>aa none (List.drop (5:Nat) (List.drop (1:Nat) (List.drop (1:Nat) l))).tail.head? λx=>aa none (T.au (3:Nat) x) λj=>aa none (List.drop
 (5:Nat) (List.drop (1:Nat) (List.drop (1:Nat) l))).tail.tail.head? λx=>aa none (T.au (5:Nat) x) λk=>aa none (List.drop (5:Nat) (List.drop (1:Nat) (List.drop (1:Nat) l))).tail.tail.tail.head?
 λx=>aa none (T.au (1:Nat) x) λm=>aa none (List.drop (5:Nat) (List.drop (1:Nat) (List.drop (1:Nat) l))).tail.tail.tail.tail.head? λx=>aa none x.a8 λs=>aa none (List.drop (5:Nat)
 (List.drop (1:Nat) (List.drop (1:Nat) l))).tail.tail.tail.tail.tail.head? λx=>aa none (T.au (1:Nat) x) λo=>aa none (List.drop (5:Nat) (List.drop (1:Nat) (List.drop (1:Nat)
 l))).tail.tail.tail.tail.tail.tail.head? λx=>aa none (List.drop (5:Nat) (List.drop (1:Nat) (List.drop (1:Nat) l))).tail.tail.tail.tail.tail.tail.tail.head? λx=>aa none (List.drop (8:Nat) (List.drop (5
 :Nat) (List.drop (1:Nat) (List.drop (1:Nat) l)))).head? λx=>aa none (aN x) λe=>aa none (List.drop (8:Nat) (List.drop (5:Nat) (List.drop (1:Nat) (List.drop (1:Nat) l)))).tail.head? λx=>
 aa none ((List.drop (2:Nat) (List.drop (8:Nat) (List.drop (5:Nat) (List.drop (1:Nat) (List.drop (1:Nat) l))))).head?.bind λz=>T.au (1:Nat) z) λq=>aa none ((List.drop (2:Nat) (List.drop (8:
 Nat) (List.drop (5:Nat) (List.drop (1:Nat) (List.drop (1:Nat) l))))).tail.head?.bind λz=>T.au (1:Nat) z) λr=>aa none ((List.drop (2:Nat) (List.drop (8:Nat) (List.drop (5:Nat) (List.drop (1:
 Nat) (List.drop (1:Nat) l))))).tail.tail.head?.bind λz=>aL z) λl=>aa none (if a=n then some () else none) λx=>aa none (if b=Q then some () else none) λx=>aa none (if d=R then
 some () else none) λx=>aa none (if a=n then some () else none) λx=>aa none (if b=Q then some () else none) λx=>aa none (if d=R then some () else none) λx=>aa none (O (Key.call (63:
 Nat)) [AV.t (T.ad (1:Nat) p.fst p.snd),AV.t (T.ad (1:Nat) D.fst D.snd),AV.fn (69:Nat) [AV.ref (Id.c (0:Nat)) (0:Nat)] []] [ab.box [AV.own (Id.c (1:Nat)),AV.own (Id.c (2:Nat))],ab.rows e.fst (5
 :Nat) (1:Nat) (1:Nat) e.snd.length e.snd,ab.mp false [Ck.s] (Ck.i i64) l]) λl=>aa none l.head? λx=>aa none (T.au (1:Nat) x) λp=>aa none (List.drop (1:Nat) l).head? λx=>aa
 none (aN x) λg=>aa none (List.drop (1:Nat) l).tail.head? λx=>aa none ((List.drop (2:Nat) (List.drop (1:Nat) l)).head?.bind λz=>aL z) λl=>aa none (if aX g.snd=true then some ()
 else none) λx=>some [T.ad (1:Nat) p.fst p.snd,T.ak,T.ad (3:Nat) j.fst j.snd,T.ad (5:Nat) k.fst k.snd,T.ad (1:Nat) m.fst m.snd,T.str s,T.ad (1:Nat) o.fst o.snd,T.ak,
 T.ak,be g.fst g.snd,T.ak,T.ad (1:Nat) q.fst q.snd,T.ad (1:Nat) r.fst r.snd,ba l] else bif n== (20:Int) then aa none (O (Key.call 60) [I (0:Int),AV.ref (Id.c 0) 0,AV.ref (Id.c
 1) 0] [ab.box [AV.ref (Id.c 2) 0],ab.box [I n,AV.t (T.ad 1 p.fst p.snd),I C,I h,AV.t (T.str s)],ab.box [AV.ref (Id.c 3) 0,AV.t (T.ad 3 E L),AV.t (T.ad 5 F J),AV.t (T.ad 1 G M),
 AV.t (T.str N),AV.t (T.ad 1 H P),AV.own (Id.c 4),AV.own (Id.c 5)],ab.box [AV.own (Id.c 6),AV.own (Id.c 7)],ab.sl false 1 S Z,ab.sl false 1 U c3,ab.rows V 5 1 1 X Y,ab.mp false [Ck.s]
 (Ck.i i64) c5]) λl=>aa none l.head? λx=>aa none (T.au 1 x) λp=>aa none (List.drop 1 l).head? λx=>aa none (List.drop 1 (List.drop 1 l)).head? λx=>aa none (T.int? i64 x) fun
 a=>aa none (List.drop 1 (List.drop 1 l)).tail.head? λx=>aa none (T.au 1 x) λK=>aa none (List.drop 1 (List.drop 1 l)).tail.tail.head? λx=>aa none (T.int? i64 x) λb=>aa none
 (List.drop 1 (List.drop 1 l)).tail.tail.tail.head? λx=>aa none (T.int? i64 x) λd=>aa none (List.drop 1 (List.drop 1 l)).tail.tail.tail.tail.head? λx=>aa none x.a8 λs=>aa none (List.drop
 5 (List.drop 1 (List.drop 1 l))).head? λx=>aa none (List.drop 5 (List.drop 1 (List.drop 1 l))).tail.head? λx=>aa none (T.au 3 x) λu=>aa none (List.drop 5 (List.drop 1 (List.drop 1
 l))).tail.tail.head? λx=>aa none (T.au 5 x) λv=>aa none (List.drop 5 (List.drop 1 (List.drop 1 l))).tail.tail.tail.head? λx=>aa none (T.au 1 x) λw=>aa none (List.drop 5 (List.drop 1
 (List.drop 1 l))).tail.tail.tail.tail.head? λx=>aa none x.a8 λW=>aa none (List.drop 5 (List.drop 1 (List.drop 1 l))).tail.tail.tail.tail.tail.head? λx=>aa none (T.au 1 x) λy=>aa none
 (List.drop 5 (List.drop 1 (List.drop (1:Nat) l))).tail.tail.tail.tail.tail.tail.head? λx=>aa none (List.drop 5 (List.drop (1:Nat) (List.drop (1:Nat) l))).tail.tail.tail.tail.tail.tail.tail.head? λx=>aa
 none (List.drop 8 (List.drop 5 (List.drop 1 (List.drop 1 l)))).head? λx=>aa none (aN x) λf=>aa none (List.drop 8 (List.drop 5 (List.drop 1 (List.drop (1:Nat) l)))).tail.head? λx=>aa none
 ((List.drop 2 (List.drop (8:Nat) (List.drop (5:Nat) (List.drop (1:Nat) (List.drop (1:Nat) l))))).head?.bind λz=>T.au 1 z) λA=>aa none ((List.drop (2:Nat) (List.drop (8:Nat) (List.drop (5:Nat)
 (List.drop (1:Nat) (List.drop (1:Nat) l))))).tail.head?.bind λz=>T.au 1 z) λB=>aa none ((List.drop (2:Nat) (List.drop (8:Nat) (List.drop (5:Nat) (List.drop (1:Nat) (List.drop (1:Nat)
 l))))).tail.tail.head?.bind λz=>aL z) λl=>aa none (if n=a then some () else none) λx=>aa none (if C=b then some () else none) λx=>aa none (if h=d then some () else none) λx=>
 aa none (if n=a then some () else none) λx=>aa none (if C=b then some () else none) λx=>aa none (if h=d then some () else none) λx=>aa none (O (Key.call (60:Nat)) [AV.t (T.int
 i64 (1:Int)),AV.ref (Id.c (0:Nat)) (0:Nat),AV.ref (Id.c (1:Nat)) (0:Nat)] [ab.box [AV.ref (Id.c (2:Nat)) (0:Nat)],ab.box [AV.t (T.int i64 a),AV.t (T.ad (1:Nat) K.fst K.snd),
 AV.t (T.int i64 b),AV.t (T.int i64 d),AV.t (T.str s)],ab.box [AV.ref (Id.c (3:Nat)) (0:Nat),AV.t (T.ad (3:Nat) u.fst u.snd),AV.t (T.ad (5:Nat) v.fst v.snd),AV.t (T.ad (1:
 Nat) w.fst w.snd),AV.t (T.str W),AV.t (T.ad (1:Nat) y.fst y.snd),AV.own (Id.c (4:Nat)),AV.own (Id.c (5:Nat))],ab.box [AV.own (Id.c (6:Nat)),AV.own (Id.c (7:Nat))],ab.sl false (1:Nat)
 A.fst A.snd,ab.sl false (1:Nat) B.fst B.snd,ab.rows f.fst (5:Nat) (1:Nat) (1:Nat) f.snd.length f.snd,ab.mp false [Ck.s] (Ck.i i64) l]) λl=>aa none l.head? λx=>aa none
 (T.au (1:Nat) x) λD=>aa none (List.drop (1:Nat) l).head? λx=>aa none (List.drop (1:Nat) (List.drop (1:Nat) l)).head? λx=>aa none (T.int? i64 x) λn=>aa none (List.drop (1:Nat)
 (List.drop (1:Nat) l)).tail.head? λx=>aa none (T.au (1:Nat) x) λp_10=>aa none (List.drop (1:Nat) (List.drop (1:Nat) l)).tail.tail.head? λx=>aa none (T.int? i64 x) λQ=>aa none
 (List.drop (1:Nat) (List.drop (1:Nat) l)).tail.tail.tail.head? λx=>aa none (T.int? i64 x) λR=>aa none (List.drop (1:Nat) (List.drop (1:Nat) l)).tail.tail.tail.tail.head? λx=>aa none
 x.a8 λs=>aa none (List.drop (5:Nat) (List.drop (1:Nat) (List.drop (1:Nat) l))).head? λx=>aa none (List.drop (5:Nat) (List.drop (1:Nat) (List.drop (1:Nat) l))).tail.head? λx=>aa none (T.au
 (3:Nat) x) λj=>aa none (List.drop (5:Nat) (List.drop (1:Nat) (List.drop (1:Nat) l))).tail.tail.head? λx=>aa none (T.au (5:Nat) x) λk=>aa none (List.drop (5:Nat) (List.drop (1:Nat)
 (List.drop (1:Nat) l))).tail.tail.tail.head? λx=>aa none (T.au (1:Nat) x) λm=>aa none (List.drop (5:Nat) (List.drop (1:Nat) (List.drop (1:Nat) l))).tail.tail.tail.tail.head? λx=>aa none
 x.a8 λs=>aa none (List.drop (5:Nat) (List.drop (1:Nat) (List.drop (1:Nat) l))).tail.tail.tail.tail.tail.head? λx=>aa none (T.au (1:Nat) x) λo=>aa none (List.drop (5:Nat) (List.drop (1:
 Nat) (List.drop (1:Nat) l))).tail.tail.tail.tail.tail.tail.head? λx=>aa none (List.drop (5:Nat) (List.drop (1:Nat) (List.drop (1:Nat) l))).tail.tail.tail.tail.tail.tail.tail.head? λx=>aa none
 (List.drop (8:Nat) (List.drop (5:Nat) (List.drop (1:Nat) (List.drop (1:Nat) l)))).head? λx=>aa none (aN x) λe=>aa none (List.drop (8:Nat) (List.drop (5:Nat) (List.drop (1:Nat) (List.drop (1
 :Nat) l)))).tail.head? λx=>aa none ((List.drop (2:Nat) (List.drop (8:Nat) (List.drop (5:Nat) (List.drop (1:Nat) (List.drop (1:Nat) l))))).head?.bind λz=>T.au (1:Nat) z) λq=>aa none
 ((List.drop (2:Nat) (List.drop (8:Nat) (List.drop (5:Nat) (List.drop (1:Nat) (List.drop (1:Nat) l))))).tail.head?.bind λz=>T.au (1:Nat) z) λr=>aa none ((List.drop (2:Nat) (List.drop (8:Nat)
 (List.drop (5:Nat) (List.drop (1:Nat) (List.drop (1:Nat) l))))).tail.tail.head?.bind λz=>aL z) λl=>aa none (if a=n then some () else none) λx=>aa none (if b=Q then some () else none) fun
 x=>aa none (if d=R then some () else none) λx=>aa none (if a=n then some () else none) λx=>aa none (if b=Q then some () else none) λx=>aa none (if d=R then some () else none) fun
 x=>aa none (O (Key.call (70:Nat)) [AV.ref (Id.c (0:Nat)) (0:Nat),AV.t (T.ad (1:Nat) p.fst p.snd),AV.t (T.ad (1:Nat) D.fst D.snd)] [ab.box [AV.own (Id.c (1:Nat)),AV.own (Id.c (2:Nat))],ab.rows
 e.fst (5:Nat) (1:Nat) (1:Nat) e.snd.length e.snd,ab.mp false [Ck.s] (Ck.i i64) l]) λl=>aa none l.head? λx=>aa none (T.au (1:Nat) x) λp=>aa none (List.drop (1:Nat) l).head?
 λx=>aa none (aN x) λg=>aa none (List.drop (1:Nat) l).tail.head? λx=>aa none ((List.drop (2:Nat) (List.drop (1:Nat) l)).head?.bind λz=>aL z) λl=>aa none (if aX g.snd=true
 then some () else none) λx=>some [T.ad (1:Nat) p.fst p.snd,T.ak,T.ad (3:Nat) j.fst j.snd,T.ad (5:Nat) k.fst k.snd,T.ad (1:Nat) m.fst m.snd,T.str s,T.ad (1:Nat) o.fst
 o.snd,T.ak,T.ak,be g.fst g.snd,T.ak,T.ad (1:Nat) q.fst q.snd,T.ad (1:Nat) r.fst r.snd,ba l] else bif n== (21:Int) then aa none (O (Key.call 60) [I (0:Int),AV.ref (Id.c
 0) 0,AV.ref (Id.c 1) 0] [ab.box [AV.ref (Id.c 2) 0],ab.box [I n,AV.t (T.ad 1 p.fst p.snd),I C,I h,AV.t (T.str s)],ab.box [AV.ref (Id.c 3) 0,AV.t (T.ad 3 E L),AV.t (T.ad 5 F J),AV.t (T.ad
 1 G M),AV.t (T.str N),AV.t (T.ad 1 H P),AV.own (Id.c 4),AV.own (Id.c 5)],ab.box [AV.own (Id.c 6),AV.own (Id.c 7)],ab.sl false 1 S Z,ab.sl false 1 U c3,ab.rows V 5 1 1 X Y,ab.mp
 false [Ck.s] (Ck.i i64) c5]) λl=>aa none l.head? λx=>aa none (T.au 1 x) λp=>aa none (List.drop 1 l).head? λx=>aa none (List.drop 1 (List.drop 1 l)).head? λx=>aa none (T.int?
 i64 x) λa=>aa none (List.drop 1 (List.drop 1 l)).tail.head? λx=>aa none (T.au 1 x) λK=>aa none (List.drop 1 (List.drop 1 l)).tail.tail.head? λx=>aa none (T.int? i64 x) λb
 =>aa none (List.drop 1 (List.drop 1 l)).tail.tail.tail.head? λx=>aa none (T.int? i64 x) λd=>aa none (List.drop 1 (List.drop 1 l)).tail.tail.tail.tail.head? λx=>aa none x.a8 λs=>aa
 none (List.drop 5 (List.drop 1 (List.drop 1 l))).head? λx=>aa none (List.drop 5 (List.drop 1 (List.drop 1 l))).tail.head? λx=>aa none (T.au 3 x) λu=>aa none (List.drop 5 (List.drop 1 (List.drop 1
 l))).tail.tail.head? λx=>aa none (T.au 5 x) λv=>aa none (List.drop 5 (List.drop 1 (List.drop 1 l))).tail.tail.tail.head? λx=>aa none (T.au 1 x) λw=>aa none (List.drop 5 (List.drop 1
 (List.drop 1 l))).tail.tail.tail.tail.head? λx=>aa none x.a8 λW=>aa none (List.drop 5 (List.drop 1 (List.drop 1 l))).tail.tail.tail.tail.tail.head? λx=>aa none (T.au 1 x) λy=>aa none
 (List.drop 5 (List.drop (1:Nat) (List.drop (1:Nat) l))).tail.tail.tail.tail.tail.tail.head? λx=>aa none (List.drop 5 (List.drop (1:Nat) (List.drop (1:Nat) l))).tail.tail.tail.tail.tail.tail.tail.head? λx
 =>aa none (List.drop 8 (List.drop 5 (List.drop 1 (List.drop 1 l)))).head? λx=>aa none (aN x) λf=>aa none (List.drop 8 (List.drop 5 (List.drop (1:Nat) (List.drop (1:Nat) l)))).tail.head? λx=>aa
 none ((List.drop (2:Nat) (List.drop (8:Nat) (List.drop (5:Nat) (List.drop (1:Nat) (List.drop (1:Nat) l))))).head?.bind λz=>T.au 1 z) λA=>aa none ((List.drop (2:Nat) (List.drop (8:Nat)
 (List.drop (5:Nat) (List.drop (1:Nat) (List.drop (1:Nat) l))))).tail.head?.bind λz=>T.au 1 z) λB=>aa none ((List.drop (2:Nat) (List.drop (8:Nat) (List.drop (5:Nat) (List.drop (1:Nat)
 (List.drop (1:Nat) l))))).tail.tail.head?.bind λz=>aL z) λl=>aa none (if n=a then some () else none) λx=>aa none (if C=b then some () else none) λx=>aa none (if h=d then some ()
 else none) λx=>aa none (if n=a then some () else none) λx=>aa none (if C=b then some () else none) λx=>aa none (if h=d then some () else none) λx=>aa none (O (Key.call (60:Nat))
 [AV.t (T.int i64 (1:Int)),AV.ref (Id.c (0:Nat)) (0:Nat),AV.ref (Id.c (1:Nat)) (0:Nat)] [ab.box [AV.ref (Id.c (2:Nat)) (0:Nat)],ab.box [AV.t (T.int i64 a),AV.t (T.ad (1:Nat) K.fst
 K.snd),AV.t (T.int i64 b),AV.t (T.int i64 d),AV.t (T.str s)],ab.box [AV.ref (Id.c (3:Nat)) (0:Nat),AV.t (T.ad (3:Nat) u.fst u.snd),AV.t (T.ad (5:Nat) v.fst v.snd),AV.t
 (T.ad (1:Nat) w.fst w.snd),AV.t (T.str W),AV.t (T.ad (1:Nat) y.fst y.snd),AV.own (Id.c (4:Nat)),AV.own (Id.c (5:Nat))],ab.box [AV.own (Id.c (6:Nat)),AV.own (Id.c (7:Nat))],ab.sl false (1:
 Nat) A.fst A.snd,ab.sl false (1:Nat) B.fst B.snd,ab.rows f.fst (5:Nat) (1:Nat) (1:Nat) f.snd.length f.snd,ab.mp false [Ck.s] (Ck.i i64) l]) λl=>aa none l.head? λx=>aa none
 (T.au (1:Nat) x) λD=>aa none (List.drop (1:Nat) l).head? λx=>aa none (List.drop (1:Nat) (List.drop (1:Nat) l)).head? λx=>aa none (T.int? i64 x) λn=>aa none (List.drop (1:Nat)
 (List.drop (1:Nat) l)).tail.head? λx=>aa none (T.au (1:Nat) x) λp_10=>aa none (List.drop (1:Nat) (List.drop (1:Nat) l)).tail.tail.head? λx=>aa none (T.int? i64 x) λQ=>aa none
 (List.drop (1:Nat) (List.drop (1:Nat) l)).tail.tail.tail.head? λx=>aa none (T.int? i64 x) λR=>aa none (List.drop (1:Nat) (List.drop (1:Nat) l)).tail.tail.tail.tail.head? λx=>aa none
 x.a8 λs=>aa none (List.drop (5:Nat) (List.drop (1:Nat) (List.drop (1:Nat) l))).head? λx=>aa none (List.drop (5:Nat) (List.drop (1:Nat) (List.drop (1:Nat) l))).tail.head? λx=>aa none (T.au
 (3:Nat) x) λj=>aa none (List.drop (5:Nat) (List.drop (1:Nat) (List.drop (1:Nat) l))).tail.tail.head? λx=>aa none (T.au (5:Nat) x) λk=>aa none (List.drop (5:Nat) (List.drop (1:Nat)
 (List.drop (1:Nat) l))).tail.tail.tail.head? λx=>aa none (T.au (1:Nat) x) λm=>aa none (List.drop (5:Nat) (List.drop (1:Nat) (List.drop (1:Nat) l))).tail.tail.tail.tail.head? λx=>aa none
 x.a8 λs=>aa none (List.drop (5:Nat) (List.drop (1:Nat) (List.drop (1:Nat) l))).tail.tail.tail.tail.tail.head? λx=>aa none (T.au (1:Nat) x) λo=>aa none (List.drop (5:Nat) (List.drop (1:
 Nat) (List.drop (1:Nat) l))).tail.tail.tail.tail.tail.tail.head? λx=>aa none (List.drop (5:Nat) (List.drop (1:Nat) (List.drop (1:Nat) l))).tail.tail.tail.tail.tail.tail.tail.head? λx=>aa none
 (List.drop (8:Nat) (List.drop (5:Nat) (List.drop (1:Nat) (List.drop (1:Nat) l)))).head? λx=>aa none (aN x) λe=>aa none (List.drop (8:Nat) (List.drop (5:Nat) (List.drop (1:Nat) (List.drop (1
 :Nat) l)))).tail.head? λx=>aa none ((List.drop (2:Nat) (List.drop (8:Nat) (List.drop (5:Nat) (List.drop (1:Nat) (List.drop (1:Nat) l))))).head?.bind λz=>T.au (1:Nat) z) λq=>aa none
 ((List.drop (2:Nat) (List.drop (8:Nat) (List.drop (5:Nat) (List.drop (1:Nat) (List.drop (1:Nat) l))))).tail.head?.bind λz=>T.au (1:Nat) z) λr=>aa none ((List.drop (2:Nat) (List.drop (8:Nat)
 (List.drop (5:Nat) (List.drop (1:Nat) (List.drop (1:Nat) l))))).tail.tail.head?.bind λz=>aL z) λl=>aa none (if a=n then some () else none) λx=>aa none (if b=Q then some () else none) fun
 x=>aa none (if d=R then some () else none) λx=>aa none (if a=n then some () else none) λx=>aa none (if b=Q then some () else none) λx=>aa none (if d=R then some () else none) fun
 x=>aa none (O (Key.call (71:Nat)) [AV.ref (Id.c (0:Nat)) (0:Nat),AV.t (T.ad (1:Nat) p.fst p.snd),AV.t (T.ad (1:Nat) D.fst D.snd)] [ab.box [AV.own (Id.c (1:Nat)),AV.own (Id.c (2:Nat))],ab.rows
 e.fst (5:Nat) (1:Nat) (1:Nat) e.snd.length e.snd,ab.mp false [Ck.s] (Ck.i i64) l]) λl=>aa none l.head? λx=>aa none (T.au (1:Nat) x) λp=>aa none (List.drop (1:Nat) l).head?
 λx=>aa none (aN x) λg=>aa none (List.drop (1:Nat) l).tail.head? λx=>aa none ((List.drop (2:Nat) (List.drop (1:Nat) l)).head?.bind λz=>aL z) λl=>aa none (if aX g.snd=true
 then some () else none) λx=>some [T.ad (1:Nat) p.fst p.snd,T.ak,T.ad (3:Nat) j.fst j.snd,T.ad (5:Nat) k.fst k.snd,T.ad (1:Nat) m.fst m.snd,T.str s,T.ad (1:Nat) o.fst
 o.snd,T.ak,T.ak,be g.fst g.snd,T.ak,T.ad (1:Nat) q.fst q.snd,T.ad (1:Nat) r.fst r.snd,ba l] else bif n== (23:Int) then aa none (O (Key.call 60) [I (0:Int),AV.ref (Id.c
 0) 0,AV.ref (Id.c 1) 0] [ab.box [AV.ref (Id.c 2) 0],ab.box [I n,AV.t (T.ad 1 p.fst p.snd),I C,I h,AV.t (T.str s)],ab.box [AV.ref (Id.c 3) 0,AV.t (T.ad 3 E L),AV.t (T.ad 5 F J),AV.t (T.ad
 1 G M),AV.t (T.str N),AV.t (T.ad 1 H P),AV.own (Id.c 4),AV.own (Id.c 5)],ab.box [AV.own (Id.c 6),AV.own (Id.c 7)],ab.sl false 1 S Z,ab.sl false 1 U c3,ab.rows V 5 1 1 X Y,ab.mp
 false [Ck.s] (Ck.i i64) c5]) λl=>aa none l.head? λx=>aa none (T.au 1 x) λp=>aa none (List.drop 1 l).head? λx=>aa none (List.drop 1 (List.drop 1 l)).head? λx=>aa none (T.int?
 i64 x) λa=>aa none (List.drop 1 (List.drop 1 l)).tail.head? λx=>aa none (T.au 1 x) λK=>aa none (List.drop 1 (List.drop 1 l)).tail.tail.head? λx=>aa none (T.int? i64 x) λb
 =>aa none (List.drop 1 (List.drop 1 l)).tail.tail.tail.head? λx=>aa none (T.int? i64 x) λd=>aa none (List.drop 1 (List.drop 1 l)).tail.tail.tail.tail.head? λx=>aa none x.a8 λs=>aa
 none (List.drop 5 (List.drop 1 (List.drop 1 l))).head? λx=>aa none (List.drop 5 (List.drop 1 (List.drop 1 l))).tail.head? λx=>aa none (T.au 3 x) λu=>aa none (List.drop 5 (List.drop 1 (List.drop 1
 l))).tail.tail.head? λx=>aa none (T.au 5 x) λv=>aa none (List.drop 5 (List.drop 1 (List.drop 1 l))).tail.tail.tail.head? λx=>aa none (T.au 1 x) λw=>aa none (List.drop 5 (List.drop 1
 (List.drop 1 l))).tail.tail.tail.tail.head? λx=>aa none x.a8 λs=>aa none (List.drop 5 (List.drop 1 (List.drop 1 l))).tail.tail.tail.tail.tail.head? λx=>aa none (T.au 1 x) λy=>aa none
 (List.drop 5 (List.drop (1:Nat) (List.drop (1:Nat) l))).tail.tail.tail.tail.tail.tail.head? λx=>aa none (List.drop 5 (List.drop (1:Nat) (List.drop (1:Nat) l))).tail.tail.tail.tail.tail.tail.tail.head? λx
 =>aa none (List.drop 8 (List.drop 5 (List.drop 1 (List.drop 1 l)))).head? λx=>aa none (aN x) λf=>aa none (List.drop 8 (List.drop (5:Nat) (List.drop (1:Nat) (List.drop (1:Nat) l)))).tail.head? fun
 x=>aa none ((List.drop (2:Nat) (List.drop (8:Nat) (List.drop (5:Nat) (List.drop (1:Nat) (List.drop (1:Nat) l))))).head?.bind λz=>T.au 1 z) λA=>aa none ((List.drop (2:Nat) (List.drop (8:Nat)
 (List.drop (5:Nat) (List.drop (1:Nat) (List.drop (1:Nat) l))))).tail.head?.bind λz=>T.au (1:Nat) z) λB=>aa none ((List.drop (2:Nat) (List.drop (8:Nat) (List.drop (5:Nat) (List.drop (1:Nat)
 (List.drop (1:Nat) l))))).tail.tail.head?.bind λz=>aL z) λl=>aa none (if n=a then some () else none) λx=>aa none (if C=b then some () else none) λx=>aa none (if h=d then some ()
 else none) λx=>aa none (if n=a then some () else none) λx=>aa none (if C=b then some () else none) λx=>aa none (if h=d then some () else none) λx=>aa none (O (Key.call (72:Nat))
 [AV.ref (Id.c (0:Nat)) (0:Nat),AV.t (T.ad (1:Nat) p.fst p.snd),AV.t (T.int i64 b)] [ab.box [AV.own (Id.c (1:Nat)),AV.own (Id.c (2:Nat))],ab.rows f.fst (5:Nat) (1:Nat) (1:Nat)
 f.snd.length f.snd,ab.mp false [Ck.s] (Ck.i i64) l]) λl=>aa none l.head? λx=>aa none (T.au (1:Nat) x) λp=>aa none (List.drop (1:Nat) l).head? λx=>aa none (aN x) λD=>
 aa none (List.drop (1:Nat) l).tail.head? λx=>aa none ((List.drop (2:Nat) (List.drop (1:Nat) l)).head?.bind λz=>aL z) λl=>aa none (if aX D.snd=true then some () else none) λx=>some
 [T.ad (1:Nat) p.fst p.snd,T.ak,T.ad (3:Nat) u.fst u.snd,T.ad (5:Nat) v.fst v.snd,T.ad (1:Nat) w.fst w.snd,T.str s,T.ad (1:Nat) y.fst y.snd,T.ak,T.ak,be D.fst D.snd,
 T.ak,T.ad (1:Nat) A.fst A.snd,T.ad (1:Nat) B.fst B.snd,ba l] else aa none (if aX Y=true then some () else none) λx=>some [T.af true,T.ak,T.ad 3 E L,T.ad 5 F J,T.ad
 1 G M,T.str N,T.ad 1 H P,T.ak,T.ak,be V Y,T.ak,T.ad 1 S Z,T.ad 1 U c3,ba c5]):=by kernel_rfl
theorem AO(O:ax)(r:Bool)(d:List (List T))(f:Int)(a:Int)(g:Bool)(h:Bool)(j:Bool)(u:Int)(v:Int)(k:Bool)(w:List (List T))(m:Bool)(y:List (List T))(o:Bool)(z:List (List T))(A:ByteArray)(q:Bool)(B:List (List T))(b:Bool)(e:List (List T))(H:Bool)(L:List (List T))(J:Bool)(G:List (List T))(C:Bool)(F:Nat)(c7:List Row)(D:Bool)(c8:List (List T))(M:List (List T×T)):aA ao ann O oF [(AV.ref (Id.c 0) 0),(AV.ref (Id.c 1) 0),(AV.ref (Id.c 2) 0),(AV.ref (Id.c 3) 0),(AV.t (T.ad 1 r d)),(I f),(I a)] [(ab.box [(AV.t (T.af g)),(AV.t (T.af h)),(AV.t (T.af j))]),(ab.box [(I u),(I v)]),(ab.box [(AV.ref (Id.c 4) 0),(AV.t (T.ad 3 k w)),(AV.t (T.ad 5 m y)),(AV.t (T.ad 1 o z)),(AV.t (T.str A)),(AV.t (T.ad 1 q B)),(AV.own (Id.c 5)),(AV.own (Id.c 6))]),(ab.box [(AV.t (T.ad 3 b e)),(AV.own (Id.c 7)),(AV.own (Id.c 8))]),(ab.box [(AV.own (Id.c 7)),(AV.own (Id.c 9))]),(ab.sl false 1 H L),(ab.sl false 1 J G),(ab.rows C 5 1 1 F c7),(ab.sl false 1 D c8),(ab.mp false [Ck.s] (Ck.i i64) M)]=
 (bif decide (a < f) then aa none (if(0:Int)<=a/\a < (↑d.length:Int) then some () else none) λx=>aa none d[a.toNat]? λl=>aa none l.head? λx=>aa none (T.int? i64 x) fun
 n=>aa none (if(0:Int)<=n/\n < (↑G.length:Int) then some () else none) λx=>aa none G[n.toNat]? λl=>aa none l.head? λx=>aa none (T.int? i64 x) λn=>aa none (bp 8 (c8.length+
 [[T.int i64 n]].length)) λx=>O oF [AV.ref (Id.c 0) 0,AV.ref (Id.c 1) 0,AV.ref (Id.c 2) 0,AV.ref (Id.c 3) 0,AV.t (T.ad 1 r d),I f,I (i64.wrap (a+ (1:Int)))] [ab.box [AV.t
 (T.af g),AV.t (T.af h),AV.t (T.af j)],ab.box [I u,I v],ab.box [AV.ref (Id.c 4) 0,AV.t (T.ad 3 k w),AV.t (T.ad 5 m y),AV.t (T.ad 1 o z),AV.t (T.str A),AV.t (T.ad
 1 q B),AV.own (Id.c 5),AV.own (Id.c 6)],ab.box [AV.t (T.ad 3 b e),AV.own (Id.c 7),AV.own (Id.c 8)],ab.box [AV.own (Id.c 7),AV.own (Id.c 9)],ab.sl false 1 H L,ab.sl false 1 J G,ab.rows
 C 5 1 1 F c7,ab.sl false 1 (D && false) (c8++ [[T.int i64 n]]),ab.mp false [Ck.s] (Ck.i i64) M] else aa none (O (Key.call 34) [AV.agg [AV.t (T.ad 3 b e),AV.own (Id.c 0),AV.own (Id.c
 1)]] [ab.rows C 5 1 1 F c7,ab.sl false 1 D c8]) λl=>aa none l.head? λx=>aa none (T.au 3 x) λp=>aa none l.tail.head? λx=>aa none (T.au 5 x) λE=>aa none l.tail.tail.head? λx
 =>aa none (T.au 1 x) λK=>bif decide ((↑E.snd.length:Int) > (200:Int)) then some [T.af true,T.af true,T.af true,T.int i64 (10:Int),T.int i64 (0:Int)] else some [T.ad 3 p.fst
 p.snd,T.ad 5 E.fst E.snd,T.ad 1 K.fst K.snd,T.int i64 (0:Int),T.int i64 (0:Int)]):=by kernel_rfl
theorem sT(O:ax)(E:Int)(d:Bool)(h:List (List T))(e:Bool)(b:List (List T))(f:Bool)(j:List (List T))(k:ByteArray)(g:Bool)(m:List (List T))(o:Bool)(a:List (List T))(q:Bool)(c3:List (List T))(r:Bool)(v:Nat)(F:List Row)(G:List (List T×T)):aA ao ann O (Key.call 33) [(AV.ref (Id.c 0) 0),(I E)] [(ab.box [(AV.ref (Id.c 1) 0),(AV.t (T.ad 3 d h)),(AV.t (T.ad 5 e b)),(AV.t (T.ad 1 f j)),(AV.t (T.str k)),(AV.t (T.ad 1 g m)),(AV.own (Id.c 2)),(AV.own (Id.c 3))]),(ab.box [(AV.own (Id.c 4)),(AV.own (Id.c 5))]),(ab.sl false 1 o a),(ab.sl false 1 q c3),(ab.rows r 5 1 1 v F),(ab.mp false [Ck.s] (Ck.i i64) G)]=
 (aa none (if(0:Int)<=E/\E < (↑b.length:Int) then some () else none) λx=>aa none b[E.toNat]? λl=>aa none l.head? λx=>aa none l.tail.head? λQ=>aa none l.tail.tail.head? λR=>
 aa none l.tail.tail.tail.head? λS=>aa none l.tail.tail.tail.tail.head? λU=>aa none (T.int? i64 x) λn=>aa none (T.au 1 Q) λp=>aa none (T.int? i64 R) λN=>aa none
 (T.int? i64 S) λP=>aa none U.a8 λs=>bif n== (22:Int) then aa none (if(0:Int)<=(0:Int)/\(0:Int) < (↑p.snd.length:Int) then some () else none) λx=>aa none p.snd[0]? λl=>
 aa none l.head? λx=>aa none (T.int? i64 x) λn=>aa none (if(0:Int)<=n/\n < (↑a.length:Int) then some () else none) λx=>aa none a[n.toNat]? λl=>aa none l.head? λx=>aa none
 (T.au 1 x) λu=>aa none (if(0:Int)<=(1:Int)/\(1:Int) < (↑p.snd.length:Int) then some () else none) λx=>aa none p.snd[1]? λl=>aa none l.head? λx=>aa none (T.int? i64 x) λn
 =>aa none (if(0:Int)<=n/\n < (↑a.length:Int) then some () else none) λx=>aa none a[n.toNat]? λl=>aa none l.head? λx=>aa none (T.au 1 x) λp=>aa none (O (Key.call 73) [AV.ref (Id.c 0) 0,
 AV.t (T.ad 1 u.fst u.snd),AV.t (T.ad 1 p.fst p.snd)] [ab.box [AV.own (Id.c 1),AV.own (Id.c 2)],ab.rows r 5 1 1 v F,ab.mp false [Ck.s] (Ck.i i64) G]) λl=>aa none l.head? λx=>aa none
 (T.int? i64 x) λn=>aa none (List.drop 1 l).head? λx=>aa none (aN x) λp=>aa none (List.drop 1 l).tail.head? λx=>aa none ((List.drop 2 (List.drop 1 l)).head?.bind λz=>aL z) λl=>
 aa none (if aX p.snd=true then some () else none) λx=>some [T.int i64 n,T.ak,T.ad 3 d h,T.ad 5 e b,T.ad 1 f j,T.str k,T.ad 1 g m,T.ak,T.ak,be p.fst
 p.snd,T.ak,T.ad 1 o a,T.ad 1 q c3,ba l] else aa (some (n== (8:Int))) (if(0:Int)<=(0:Int)/\(0:Int) < (↑p.snd.length:Int) then some () else none) λx=>aa (some (n== (8:Int))) p.snd[0]?
 λl=>aa (some (n== (8:Int))) l.head? λx=>aa (some (n== (8:Int))) (T.int? i64 x) λw=>aa (some (n== (8:Int))) (if(0:Int)<=w/\w < (↑a.length:Int) then some () else none) λx
 =>aa (some (n== (8:Int))) a[w.toNat]? λl=>aa (some (n== (8:Int))) l.head? λx=>aa (some (n== (8:Int))) (T.au 1 x) λu=>bif bif n== (8:Int) then !u.fst else false then aa none (O
 (Key.call 65) [AV.ref (Id.c 0) 0,B true] [ab.box [AV.own (Id.c 1),AV.own (Id.c 2)],ab.rows r 5 1 1 v F,ab.mp false [Ck.s] (Ck.i i64) G]) λl=>aa none l.head? λx=>aa none (T.int? i64
 x) λn=>aa none (List.drop 1 l).head? λx=>aa none (aN x) λC=>aa none (List.drop 1 l).tail.head? λx=>aa none ((List.drop 2 (List.drop 1 l)).head?.bind λz=>aL z) λl=>aa none (if(0:
 Int)<=(0:Int)/\(0:Int) < (↑p.snd.length:Int) then some () else none) λx=>aa none p.snd[0]? λJ=>aa none J.head? λx=>aa none (T.int? i64 x) λy=>aa none (if(0:Int)<=y/\y
 < (↑a.length:Int) then some () else none) λx=>aa none a[y.toNat]? λK=>aa none K.head? λx=>aa none (T.au 1 x) λH=>aa none (if(0:Int)<=(1:Int)/\(1:Int) < (↑p.snd.length:Int)
 then some () else none) λx=>aa none p.snd[1]? λL=>aa none L.head? λx=>aa none (T.int? i64 x) λA=>aa none (if(0:Int)<=A/\A < (↑a.length:Int) then some () else none) λx
 =>aa none a[A.toNat]? λM=>aa none M.head? λx=>aa none (T.au 1 x) λp=>aa none (O (Key.call 63) [AV.t (T.ad 1 H.fst H.snd),AV.t (T.ad 1 p.fst p.snd),AV.fn 74 [AV.ref (Id.c 0) 0] []]
 [ab.box [AV.own (Id.c 1),AV.own (Id.c 2)],ab.rows C.fst 5 1 1 C.snd.length C.snd,ab.mp false [Ck.s] (Ck.i i64) l]) λl=>aa none l.head? λx=>aa none (T.au 1 x) λp=>aa none (List.drop
 1 l).head? λx=>aa none (aN x) λD=>aa none (List.drop 1 l).tail.head? λx=>aa none ((List.drop (2:Nat) (List.drop (1:Nat) l)).head?.bind λz=>aL z) λl=>O (bZ ao 33 true 7 [(0,
 none),((6:Nat),none),((96:Nat),none),((97:Nat),none),((98:Nat),none)] (6,(2008:Nat))) [AV.ref (Id.c (0:Nat)) 0,AV.t (T.int i64 n),AV.t (T.ad (1:Nat) p.fst p.snd),AV.t (T.int i64
 (↑p.snd.length:Int)),AV.t (T.int i64 (0:Int))] [ab.box [AV.ref (Id.c (1:Nat)) (0:Nat),AV.t (T.ad (3:Nat) d h),AV.t (T.ad (5:Nat) e b),AV.t (T.ad (1:Nat) f j),AV.t (T.str
 k),AV.t (T.ad (1:Nat) g m),AV.own (Id.c (2:Nat)),AV.own (Id.c (3:Nat))],ab.box [AV.own (Id.c (6:Nat)),AV.own (Id.c (5:Nat))],ab.sl false 1 o a,ab.sl false 1 q c3,ab.dead,ab.mp false
 [Ck.s] (Ck.i i64) l,ab.rows D.fst 5 1 1 D.snd.length D.snd] else O nr [AV.ref (Id.c 0) 0,AV.ref (Id.c 6) 0,AV.t (T.af true),AV.t (T.ad 1 p.fst p.snd),I (↑p.snd.length:Int),I (0:Int)]
 [ab.box [AV.ref (Id.c 1) 0,AV.t (T.ad 3 d h),AV.t (T.ad 5 e b),AV.t (T.ad 1 f j),AV.t (T.str k),AV.t (T.ad 1 g m),AV.own (Id.c 2),AV.own (Id.c 3)],ab.box [AV.own (Id.c 4),
 AV.own (Id.c 5)],ab.sl false 1 o a,ab.sl false 1 q c3,ab.rows r 5 1 1 v F,ab.mp false [Ck.s] (Ck.i i64) G,ab.box [I n,AV.t (T.ad 1 p.fst p.snd),I N,I P,AV.t (T.str s)]]):=by kernel_rfl
theorem vR(O:ax)(d:Bool)(c:List (List T))(e:Int)(a:Int):aA ao ann O ff [(AV.t (T.ad 1 d c)),(AV.fn 21 [] []),(I e),(I a)] []=
 (bif decide (a < e) then aa none (if(0:Int)<=a/\a < (↑c.length:Int) then some () else none) λx=>aa none c[a.toNat]? λl=>aa none l.head? λx=>aa none (T.int? i64 x) λn=>aa none
 (O (Key.call 21) [I n] []) λl=>aa none l.head? λx=>aa none x.bool? λb=>bif b then some [T.int i64 a] else O ff [AV.t (T.ad 1 d c),AV.fn 21 [] [],I e,I (i64.wrap (a+ (1:
 Int)))] [] else some [T.int i64 (-1:Int)]):=by kernel_rfl
theorem vW(O:ax)(d:Bool)(c:List (List T))(e:Int)(a:Int):aA ao ann O fX [(AV.t (T.ad 3 d c)),(AV.fn 56 [] []),(I e),(I a)] []=
 (bif decide (a < e) then aa none (if(0:Int)<=a/\a < (↑c.length:Int) then some () else none) λx=>aa none c[a.toNat]? λl=>aa none l.head? λx=>aa none l.tail.head? λf=>aa none
 l.tail.tail.head? λg=>aa none x.a8 λs=>aa none (T.au 1 f) λp=>aa none (T.int? i64 g) λn=>aa none (O (Key.call 56) [AV.agg [AV.t (T.str s),AV.t (T.ad 1 p.fst p.snd),I n]] [])
 λl=>aa none l.head? λx=>aa none x.bool? λb=>bif b then some [T.int i64 a] else O fX [AV.t (T.ad 3 d c),AV.fn 56 [] [],I e,I (i64.wrap (a+ (1:Int)))] [] else some [T.int
 i64 (-1:Int)]):=by kernel_rfl
theorem zM(O:ax)(j:Bool)(g:List (List T))(k:Int)(a:Int)(d:Bool)(e:Bool)(f:Bool)(b:Bool)(h:Bool)(m:List (List T))(i:Bool)(c3:List (List T)):aA ao ann O gB [(AV.ref (Id.c 0) 0),(AV.ref (Id.c 1) 0),(AV.t (T.ad 5 j g)),(I k),(I a)] [(ab.box [(AV.t (T.af d)),(AV.t (T.af e)),(AV.t (T.af f))]),(ab.box [(AV.own (Id.c 2)),(AV.t (T.af b)),(AV.own (Id.c 3))]),(ab.sl false 3 h m),(ab.sl false 1 i c3)]=
 (bif decide (a < k) then aa none (if(0:Int)<=a/\a < (↑g.length:Int) then some () else none) λx=>aa none g[a.toNat]? λl=>aa none l.head? λx=>aa none l.tail.head? λr=>aa none
 l.tail.tail.head? λu=>aa none l.tail.tail.tail.head? λv=>aa none l.tail.tail.tail.tail.head? λw=>aa none (T.int? i64 x) λn=>aa none (T.au 1 r) λp=>aa none (T.int?
 i64 u) λo=>aa none (T.int? i64 v) λq=>aa none w.a8 λs=>aa none (O (Key.call 25) [AV.t (T.ad 1 p.fst p.snd)] []) λl=>aa none l.head? λx=>aa none (T.au 1 x) λp
 =>O gB [AV.ref (Id.c 0) 0,AV.ref (Id.c 1) 0,AV.t (T.ad 5 j g),I k,I (i64.wrap (a+ (1:Int)))] [ab.box [AV.t (T.af d),AV.t (T.af e),AV.t (T.af f)],ab.box [AV.own (Id.c 2),
 AV.own (Id.c 3),AV.own (Id.c 4)],ab.sl false 3 h m,ab.sl false 5 (b && false) [[T.int i64 n,T.ad 1 p.fst p.snd,T.int i64 o,T.int i64 q,T.str s]],ab.sl false 1 i c3] else
 some [T.ad 3 h m,T.af b,T.ad 1 i c3]):=by kernel_rfl
theorem zN(O:ax)(j:Bool)(g:List (List T))(k:Int)(a:Int)(d:Bool)(e:Bool)(f:Bool)(b:Bool)(h:Bool)(m:List (List T))(i:Bool)(c3:List (List T)):aA ao ann O gB [(AV.ref (Id.c 0) 0),(AV.ref (Id.c 1) 0),(AV.t (T.ad 5 j g)),(I k),(I a)] [(ab.box [(AV.t (T.af d)),(AV.t (T.af e)),(AV.t (T.af f))]),(ab.box [(AV.t (T.af b)),(AV.own (Id.c 2)),(AV.own (Id.c 3))]),(ab.sl false 5 h m),(ab.sl false 1 i c3)]=
 (bif decide (a < k) then aa none (if(0:Int)<=a/\a < (↑g.length:Int) then some () else none) λx=>aa none g[a.toNat]? λl=>aa none l.head? λx=>aa none l.tail.head? λr=>aa none
 l.tail.tail.head? λu=>aa none l.tail.tail.tail.head? λv=>aa none l.tail.tail.tail.tail.head? λw=>aa none (T.int? i64 x) λn=>aa none (T.au 1 r) λp=>aa none (T.int?
 i64 u) λo=>aa none (T.int? i64 v) λq=>aa none w.a8 λs=>aa none (O (Key.call 25) [AV.t (T.ad 1 p.fst p.snd)] []) λl=>aa none l.head? λx=>aa none (T.au 1 x) λp
 =>aa none (bp 64 (m.length+ [[T.int i64 n,T.ad 1 p.fst p.snd,T.int i64 o,T.int i64 q,T.str s]].length)) λx=>O gB [AV.ref (Id.c 0) 0,AV.ref (Id.c 1) 0,AV.t (T.ad 5 j
 g),I k,I (i64.wrap (a+ (1:Int)))] [ab.box [AV.t (T.af d),AV.t (T.af e),AV.t (T.af f)],ab.box [AV.t (T.af b),AV.own (Id.c 2),AV.own (Id.c 3)],ab.sl false 5 (h && false) (m
 ++ [[T.int i64 n,T.ad 1 p.fst p.snd,T.int i64 o,T.int i64 q,T.str s]]),ab.sl false 1 i c3] else some [T.af b,T.ad 5 h m,T.ad 1 i c3]):=by kernel_rfl
theorem AN(O:ax)(b:Bool)(c:List (List T))(a:ByteArray):aA ao ann O (Key.call 89) [(AV.t (T.ad 3 b c)),(AV.fn 57 [] [(AV.t (T.ptr [(T.str a)]))])] []=
 (O fX [AV.t (T.ad 3 b c),AV.fn 57 [] [AV.t (T.ptr [T.str a])],I (↑c.length:Int),I (0:Int)] []):=by kernel_rfl
theorem zP(O:ax)(b:ByteArray)(r:Bool)(u:Int)(e:Bool)(k:List (List T))(m:Int)(n:Int)(o:Int)(g:Int)(j:Bool)(q:List (List T))(h:ByteArray)(a:Bool)(d:List (List T))(i:Int):aA ao ann O l5 [(AV.t (T.str b)),(AV.own (Id.c 0)),(B r),(I u),(AV.ref (Id.c 1) 0),(AV.t (T.ad 3 e k)),(I m),(I n),(I o),(I g)] [(ab.sl false 3 j q),(ab.box [(AV.t (T.str h)),(AV.t (T.ad 1 a d)),(I i)])]=
 (bif decide (g < o) then aa none (O (Key.call 59) [I u] []) λl=>aa none l.head? λx=>aa none x.a8 λs=>aa none (if b.size+s.size<=4294967296 then some () else none) λx=>aa none (if(b++
 s).size+1<=4294967296 then some () else none) λx=>aa none (O (Key.call 59) [I g] []) λl=>aa none l.head? λx=>aa none x.a8 λf=>aa none (if(b++s++ (ByteArray.mk #[(95:UInt8)])).size+
 f.size<=4294967296 then some () else none) λx=>aa none (O (Key.call 25) [AV.t (T.ad 1 a d)] []) λl=>aa none l.head? λx=>aa none (T.au 1 x) λp=>aa none (bp 48 (q.length+ [[T.str
 (b++s++ (ByteArray.mk #[(95:UInt8)])++f),T.ad 1 p.fst p.snd,T.int i64 (1:Int)]].length)) λx=>O l5 [AV.t (T.str b),AV.own (Id.c 0),AV.t (T.bool (bif r then decide ((↑(b++s++
 (ByteArray.mk #[(95:UInt8)])++f).size:Int)<=(12:Int)) else false)),I u,AV.ref (Id.c 1) 0,AV.t (T.ad 3 e k),I m,I n,I o,I (i64.wrap (g+ (1:Int)))] [ab.sl false 3 (j && false)
 (q++ [[T.str (b++s++ (ByteArray.mk #[(95:UInt8)])++f),T.ad 1 p.fst p.snd,T.int i64 (1:Int)]]),ab.box [AV.t (T.str h),AV.t (T.ad 1 a d),I i]] else O kc [AV.t (T.str b),AV.own
 (Id.c 0),B r,AV.t (T.ad 3 e k),I m,I (i64.wrap (n+ (1:Int)))] [ab.sl false 3 j q]):=by kernel_rfl
theorem zU(O:ax)(E:Int)(C:Bool)(D:Bool)(B:Bool)(w:List (List T))(F:Int)(b:Int)(d:Bool)(j:List (List T))(e:Bool)(k:List (List T))(f:Bool)(m:List (List T))(o:ByteArray)(g:Bool)(a:List (List T))(y:Bool)(H:List (List T))(z:Bool)(c3:List (List T))(A:Bool)(G:Nat)(J:List Row)(K:List (List T×T))(p:Int)(h:Bool)(q:List (List T))(r:Int)(u:Int)(v:ByteArray):aA ao ann O nq [(I E),(AV.ref (Id.c 6) 0),(AV.ref (Id.c 7) 0),(AV.t (T.af C)),(AV.t (T.af D)),(AV.t (T.ad 1 B w)),(I F),(I b)] [(ab.box [(AV.ref (Id.c 1) 0),(AV.t (T.ad 3 d j)),(AV.t (T.ad 5 e k)),(AV.t (T.ad 1 f m)),(AV.t (T.str o)),(AV.t (T.ad 1 g a)),(AV.own (Id.c 2)),(AV.own (Id.c 3))]),(ab.box [(AV.own (Id.c 4)),(AV.own (Id.c 5))]),(ab.sl false 1 y H),(ab.sl false 1 z c3),(ab.rows A 5 1 1 G J),(ab.mp false [Ck.s] (Ck.i i64) K),(ab.box [(AV.ref (Id.c 0) 0)]),(ab.box [(I p),(AV.t (T.ad 1 h q)),(I r),(I u),(AV.t (T.str v))])]=
 (bif decide (b < F) then aa none (if(0:Int)<=b/\b < (↑w.length:Int) then some () else none) λx=>aa none w[b.toNat]? λl=>aa none l.head? λx=>aa none (T.int? i64 x) λn=>
 aa none (if(0:Int)<=n/\n < (↑c3.length:Int) then some () else none) λx=>aa none c3[n.toNat]? λl=>aa none l.head? λx=>aa none (T.int? i64 x) λn=>O nq [I E,AV.ref (Id.c 6) 0,
 AV.ref (Id.c 7) 0,AV.t (T.af C),AV.own (Id.c 8),AV.t (T.ad 1 B w),I F,I (i64.wrap (b+ (1:Int)))] [ab.box [AV.ref (Id.c 1) 0,AV.t (T.ad 3 d j),AV.t (T.ad 5 e k),AV.t (T.ad
 1 f m),AV.t (T.str o),AV.t (T.ad 1 g a),AV.own (Id.c 2),AV.own (Id.c 3)],ab.box [AV.own (Id.c 4),AV.own (Id.c 5)],ab.sl false 1 y H,ab.sl false 1 z c3,ab.rows A 5 1 1 G J,ab.mp
 false [Ck.s] (Ck.i i64) K,ab.box [AV.ref (Id.c 0) 0],ab.box [I p,AV.t (T.ad 1 h q),I r,I u,AV.t (T.str v)],ab.sl false 1 (D && false) [[T.int i64 n]]] else aa none (if(0
 :Int)<=E/\E < (↑a.length:Int) then some () else none) λx=>aa none a[E.toNat]? λl=>aa none l.head? λx=>aa none (T.int? i64 x) λn=>O gE [AV.ref (Id.c 6) 0,AV.ref (Id.c 7)
 0,AV.t (T.af C),AV.t (T.af D),I (i64.wrap (n - (10:Int))),I (0:Int)] [ab.box [AV.ref (Id.c 1) 0,AV.t (T.ad 3 d j),AV.t (T.ad 5 e k),AV.t (T.ad 1 f m),AV.t (T.str o),
 AV.t (T.ad 1 g a),AV.own (Id.c 2),AV.own (Id.c 3)],ab.box [AV.own (Id.c 4),AV.own (Id.c 5)],ab.sl false 1 y H,ab.sl false 1 z c3,ab.rows A 5 1 1 G J,ab.mp false [Ck.s] (Ck.i i64) K,
 ab.box [AV.ref (Id.c 0) 0],ab.box [I p,AV.t (T.ad 1 h q),I r,I u,AV.t (T.str v)]]):=by kernel_rfl
theorem Gz(O:ax)(w:Int)(h:Int)(b:Bool)(a:List (List T))(j:Int)(k:Int)(m:ByteArray)(d:Bool)(o:List (List T))(e:Bool)(q:List (List T))(f:Bool)(r:List (List T))(u:ByteArray)(g:Bool)(v:List (List T))(z:Bool)(y:List (List T))(A:Bool)(D:List (List T))(B:Bool)(E:Nat)(C:List Row)(c7:List (List T×T)):aA ao ann O (Key.call 60) [(I w),(AV.ref (Id.c 0) 0),(AV.ref (Id.c 1) 0)] [(ab.box [(AV.ref (Id.c 2) 0)]),(ab.box [(I h),(AV.t (T.ad 1 b a)),(I j),(I k),(AV.t (T.str m))]),(ab.box [(AV.ref (Id.c 3) 0),(AV.t (T.ad 3 d o)),(AV.t (T.ad 5 e q)),(AV.t (T.ad 1 f r)),(AV.t (T.str u)),(AV.t (T.ad 1 g v)),(AV.own (Id.c 4)),(AV.own (Id.c 5))]),(ab.box [(AV.own (Id.c 6)),(AV.own (Id.c 7))]),(ab.sl false 1 z y),(ab.sl false 1 A D),(ab.rows B 5 1 1 E C),(ab.mp false [Ck.s] (Ck.i i64) c7)]=
 (aa none (if(0:Int)<=w/\w < (↑a.length:Int) then some () else none) λx=>aa none a[w.toNat]? λl=>aa none l.head? λx=>aa none (T.int? i64 x) λn=>aa none (if(0:Int)<=n/\n
 < (↑y.length:Int) then some () else none) λx=>aa none y[n.toNat]? λl=>aa none l.head? λx=>aa none (T.au 1 x) λp=>aa none (if aX C=true then some () else none) λx=>some [T.ad 1
 p.fst p.snd,T.ak,T.int i64 h,T.ad 1 b a,T.int i64 j,T.int i64 k,T.str m,T.ak,T.ad 3 d o,T.ad 5 e q,T.ad 1 f r,T.str u,T.ad 1 g
 v,T.ak,T.ak,be B C,T.ak,T.ad 1 z y,T.ad 1 A D,ba c7]):=by kernel_rfl
theorem GC(O:ax)(l:Bool)(r:List (List T))(m:Bool)(u:List (List T))(v:Int)(a:Bool)(f:List (List T))(b:Bool)(g:List (List T))(d:Bool)(h:List (List T))(j:ByteArray)(e:Bool)(k:List (List T))(n:Bool)(w:List (List T))(o:Bool)(x:List (List T))(p:Bool)(q:Nat)(y:List Row)(c7:List (List T×T)):aA ao ann O (Key.call 63) [(AV.t (T.ad 1 l r)),(AV.t (T.ad 1 m u)),(AV.fn 64 [] [(AV.ref (Id.c 0) 0),(AV.ref (Id.c 1) 0)])] [(ab.box [(AV.ref (Id.c 2) 0)]),(ab.box [(I v)]),(ab.box [(AV.ref (Id.c 3) 0),(AV.t (T.ad 3 a f)),(AV.t (T.ad 5 b g)),(AV.t (T.ad 1 d h)),(AV.t (T.str j)),(AV.t (T.ad 1 e k)),(AV.own (Id.c 4)),(AV.own (Id.c 5))]),(ab.box [(AV.own (Id.c 6)),(AV.own (Id.c 7))]),(ab.sl false 1 n w),(ab.sl false 1 o x),(ab.rows p 5 1 1 q y),(ab.mp false [Ck.s] (Ck.i i64) c7)]=
 (O nu [AV.t (T.ad 1 l r),AV.t (T.ad 1 m u),AV.fn 64 [] [AV.ref (Id.c 0) 0,AV.ref (Id.c 1) 0],AV.t (T.af true),I (↑r.length:Int),I (0:Int)] [ab.box [AV.ref (Id.c 2) 0],ab.box [I v],ab.box
 [AV.ref (Id.c 3) 0,AV.t (T.ad 3 a f),AV.t (T.ad 5 b g),AV.t (T.ad 1 d h),AV.t (T.str j),AV.t (T.ad 1 e k),AV.own (Id.c 4),AV.own (Id.c 5)],ab.box [AV.own (Id.c 6),AV.own (Id.c
 7)],ab.sl false 1 n w,ab.sl false 1 o x,ab.rows p 5 1 1 q y,ab.mp false [Ck.s] (Ck.i i64) c7]):=by kernel_rfl
theorem Gj(O:ax)(D:Bool)(q:Int)(a:Int)(b:Bool)(g:List (List T))(d:Bool)(h:List (List T))(e:Bool)(j:List (List T))(k:ByteArray)(f:Bool)(m:List (List T))(A:Bool)(G:List (List T))(B:Bool)(c3:List (List T))(C:Bool)(F:Nat)(E:List Row)(H:List (List T×T))(u:Int)(r:Bool)(v:List (List T))(o:Int)(w:Int)(y:ByteArray):aA ao ann O np [(AV.ref (Id.c 6) 0),(AV.ref (Id.c 7) 0),(AV.t (T.af D)),(I q),(I a)] [(ab.box [(AV.ref (Id.c 1) 0),(AV.t (T.ad 3 b g)),(AV.t (T.ad 5 d h)),(AV.t (T.ad 1 e j)),(AV.t (T.str k)),(AV.t (T.ad 1 f m)),(AV.own (Id.c 2)),(AV.own (Id.c 3))]),(ab.box [(AV.own (Id.c 4)),(AV.own (Id.c 5))]),(ab.sl false 1 A G),(ab.sl false 1 B c3),(ab.rows C 5 1 1 F E),(ab.mp false [Ck.s] (Ck.i i64) H),(ab.box [(AV.ref (Id.c 0) 0)]),(ab.box [(I u),(AV.t (T.ad 1 r v)),(I o),(I w),(AV.t (T.str y))])]=
 (bif decide (a < q) then aa none (if a < (0:Int) then none else some ()) λx=>aa none (O (Key.call 65) [AV.ref (Id.c 0) 0,AV.t (T.bool (i64.wrap (↑(BitVec.ofInt 64 (o.fdiv ((2:Int) ^ min
 a.toNat 64)) &&& BitVec.ofInt 64 (1:Int)).toNat:Int)== (1:Int)))] [ab.box [AV.own (Id.c 1),AV.own (Id.c 2)],ab.rows C 5 1 1 F E,ab.mp false [Ck.s] (Ck.i i64) H]) λl=>aa none l.head? fun
 x=>aa none (T.int? i64 x) λn=>aa none (List.drop 1 l).head? λx=>aa none (aN x) λp=>aa none (List.drop 1 l).tail.head? λx=>aa none ((List.drop 2 (List.drop 1 l)).head?.bind λz=>
 aL z) λl=>O np [AV.ref (Id.c 6) 0,AV.ref (Id.c 7) 0,AV.own (Id.c 8),I q,I (i64.wrap (a+ (1:Int)))] [ab.box [AV.ref (Id.c 1) 0,AV.t (T.ad 3 b g),AV.t (T.ad 5 d h),AV.t
 (T.ad 1 e j),AV.t (T.str k),AV.t (T.ad 1 f m),AV.own (Id.c 2),AV.own (Id.c 3)],ab.box [AV.own (Id.c 9),AV.own (Id.c 5)],ab.sl false 1 A G,ab.sl false 1 B c3,ab.dead,ab.mp false
 [Ck.s] (Ck.i i64) l,ab.box [AV.ref (Id.c 0) 0],ab.box [I u,AV.t (T.ad 1 r v),I o,I w,AV.t (T.str y)],ab.sl false 1 (D && false) [[T.int i64 n]],ab.rows p.fst 5 1 1
 p.snd.length p.snd] else aa none (if aX E=true then some () else none) λx=>some [T.af D,T.ak,T.ad 3 b g,T.ad 5 d h,T.ad 1 e j,T.str k,T.ad 1 f m,T.ak,T.ak,
 be C E,T.ak,T.ad 1 A G,T.ad 1 B c3,ba H]):=by kernel_rfl
theorem Gk(O:ax)(y:Bool)(r:Bool)(g:List (List T))(q:Int)(a:Int)(b:Bool)(h:List (List T))(d:Bool)(j:List (List T))(e:Bool)(k:List (List T))(m:ByteArray)(f:Bool)(o:List (List T))(u:Bool)(B:List (List T))(v:Bool)(c3:List (List T))(C:List (List T×T))(w:Bool)(A:Nat)(c7:List Row):aA ao ann O oC [(AV.ref (Id.c 6) 0),(AV.t (T.af y)),(AV.t (T.ad 1 r g)),(I q),(I a)] [(ab.box [(AV.ref (Id.c 1) 0),(AV.t (T.ad 3 b h)),(AV.t (T.ad 5 d j)),(AV.t (T.ad 1 e k)),(AV.t (T.str m)),(AV.t (T.ad 1 f o)),(AV.own (Id.c 2)),(AV.own (Id.c 3))]),(ab.box [(AV.own (Id.c 7)),(AV.own (Id.c 5))]),(ab.sl false 1 u B),(ab.sl false 1 v c3),(Go.Aev.ab.dead),(ab.mp false [Ck.s] (Ck.i i64) C),(ab.box [(AV.ref (Id.c 0) 0)]),(ab.rows w 5 1 1 A c7)]=
 (bif decide (a < q) then aa none (if(0:Int)<=a/\a < (↑g.length:Int) then some () else none) λx=>aa none g[a.toNat]? λl=>aa none l.head? λx=>aa none (T.int? i64 x) fun
 n=>aa none (O (Key.call 66) [AV.ref (Id.c 0) 0,I n] [ab.box [AV.own (Id.c 1),AV.own (Id.c 2)],ab.rows w 5 1 1 A c7,ab.mp false [Ck.s] (Ck.i i64) C]) λl=>aa none l.head? λx=>aa none
 (T.int? i64 x) λn=>aa none (List.drop 1 l).head? λx=>aa none (aN x) λp=>aa none (List.drop 1 l).tail.head? λx=>aa none ((List.drop 2 (List.drop 1 l)).head?.bind λz=>aL z) λl=>
 O oC [AV.ref (Id.c 6) 0,AV.own (Id.c 7),AV.t (T.ad 1 r g),I q,I (i64.wrap (a+ (1:Int)))] [ab.box [AV.ref (Id.c 1) 0,AV.t (T.ad 3 b h),AV.t (T.ad 5 d j),AV.t (T.ad 1
 e k),AV.t (T.str m),AV.t (T.ad 1 f o),AV.own (Id.c 2),AV.own (Id.c 3)],ab.box [AV.own (Id.c 8),AV.own (Id.c 5)],ab.sl false 1 u B,ab.sl false 1 v c3,ab.dead,ab.mp false [Ck.s] (Ck.i
 i64) l,ab.box [AV.ref (Id.c 0) 0],ab.sl false 1 (y && false) [[T.int i64 n]],ab.rows p.fst 5 1 1 p.snd.length p.snd] else aa none (if aX c7=true then some () else none) λx=>some [T.af
 y,T.ak,T.ad 3 b h,T.ad 5 d j,T.ad 1 e k,T.str m,T.ad 1 f o,T.ak,T.ak,be w c7,T.ak,T.ad 1 u B,T.ad 1 v c3,ba C]):=by kernel_rfl
theorem GF(O:ax)(a:Bool)(f:List (List T))(b:Bool)(g:List (List T))(d:Bool)(e:Nat)(h:List Row)(j:List (List T×T)):aA ao ann O (Key.call 63) [(AV.t (T.ad 1 a f)),(AV.t (T.ad 1 b g)),(AV.fn 67 [(AV.ref (Id.c 0) 0)] [])] [(ab.box [(AV.own (Id.c 1)),(AV.own (Id.c 2))]),(ab.rows d 5 1 1 e h),(ab.mp false [Ck.s] (Ck.i i64) j)]=
 (O dJ [AV.t (T.ad 1 a f),AV.t (T.ad 1 b g),AV.fn 67 [AV.ref (Id.c 0) 0] [],AV.t (T.af true),I (↑f.length:Int),I (0:Int)] [ab.box [AV.own (Id.c 1),AV.own (Id.c 2)],ab.rows d 5 1 1 e h,
 ab.mp false [Ck.s] (Ck.i i64) j]):=by kernel_rfl
theorem GG(O:ax)(a:Bool)(f:List (List T))(b:Bool)(g:List (List T))(d:Bool)(e:Nat)(h:List Row)(j:List (List T×T)):aA ao ann O (Key.call 63) [(AV.t (T.ad 1 a f)),(AV.t (T.ad 1 b g)),(AV.fn 68 [(AV.ref (Id.c 0) 0)] [])] [(ab.box [(AV.own (Id.c 1)),(AV.own (Id.c 2))]),(ab.rows d 5 1 1 e h),(ab.mp false [Ck.s] (Ck.i i64) j)]=
 (O dJ [AV.t (T.ad 1 a f),AV.t (T.ad 1 b g),AV.fn 68 [AV.ref (Id.c 0) 0] [],AV.t (T.af true),I (↑f.length:Int),I (0:Int)] [ab.box [AV.own (Id.c 1),AV.own (Id.c 2)],ab.rows d 5 1 1 e h,
 ab.mp false [Ck.s] (Ck.i i64) j]):=by kernel_rfl
theorem GH(O:ax)(a:Bool)(f:List (List T))(b:Bool)(g:List (List T))(d:Bool)(e:Nat)(h:List Row)(j:List (List T×T)):aA ao ann O (Key.call 63) [(AV.t (T.ad 1 a f)),(AV.t (T.ad 1 b g)),(AV.fn 69 [(AV.ref (Id.c 0) 0)] [])] [(ab.box [(AV.own (Id.c 1)),(AV.own (Id.c 2))]),(ab.rows d 5 1 1 e h),(ab.mp false [Ck.s] (Ck.i i64) j)]=
 (O dJ [AV.t (T.ad 1 a f),AV.t (T.ad 1 b g),AV.fn 69 [AV.ref (Id.c 0) 0] [],AV.t (T.af true),I (↑f.length:Int),I (0:Int)] [ab.box [AV.own (Id.c 1),AV.own (Id.c 2)],ab.rows d 5 1 1 e h,
 ab.mp false [Ck.s] (Ck.i i64) j]):=by kernel_rfl
theorem GQ(O:ax)(a:Bool)(f:List (List T))(b:Bool)(g:List (List T))(d:Bool)(e:Nat)(h:List Row)(j:List (List T×T)):aA ao ann O (Key.call 70) [(AV.ref (Id.c 0) 0),(AV.t (T.ad 1 a f)),(AV.t (T.ad 1 b g))] [(ab.box [(AV.own (Id.c 1)),(AV.own (Id.c 2))]),(ab.rows d 5 1 1 e h),(ab.mp false [Ck.s] (Ck.i i64) j)]=
 (aa none (O (Key.call 65) [AV.ref (Id.c 0) 0,B false] [ab.box [AV.own (Id.c 1),AV.own (Id.c 2)],ab.rows d 5 1 1 e h,ab.mp false [Ck.s] (Ck.i i64) j]) λl=>aa none l.head? λx=>aa none
 (T.int? i64 x) λn=>aa none (List.drop 1 l).head? λx=>aa none (aN x) λp=>aa none (List.drop 1 l).tail.head? λx=>aa none ((List.drop 2 (List.drop 1 l)).head?.bind λz=>aL z) λl=>
 O nv [AV.ref (Id.c 0) 0,AV.t (T.ad 1 a f),AV.t (T.ad 1 b g),I n,AV.t (T.af true),I (↑f.length:Int),I (0:Int)] [ab.box [AV.own (Id.c 3),AV.own (Id.c 2)],ab.dead,ab.mp false [Ck.s] (Ck.i
 i64) l,ab.rows p.fst 5 1 1 p.snd.length p.snd]):=by kernel_rfl
theorem GS(O:ax)(a:Bool)(d:List (List T))(e:Bool)(h:List (List T))(f:Bool)(g:Nat)(j:List Row)(k:List (List T×T)):aA ao ann O (Key.call 71) [(AV.ref (Id.c 0) 0),(AV.t (T.ad 1 a d)),(AV.t (T.ad 1 e h))] [(ab.box [(AV.own (Id.c 1)),(AV.own (Id.c 2))]),(ab.rows f 5 1 1 g j),(ab.mp false [Ck.s] (Ck.i i64) k)]=
 (aa none (O (Key.call 72) [AV.ref (Id.c 0) 0,AV.t (T.ad 1 a d),I (↑d.length:Int)] [ab.box [AV.own (Id.c 1),AV.own (Id.c 2)],ab.rows f 5 1 1 g j,ab.mp false [Ck.s] (Ck.i i64) k]) λl=>aa
 none l.head? λx=>aa none (T.au 1 x) λp=>aa none (List.drop 1 l).head? λx=>aa none (aN x) λb=>aa none (List.drop 1 l).tail.head? λx=>aa none ((List.drop 2 (List.drop 1 l)).head?.bind
 λz=>aL z) λl=>O oE [AV.ref (Id.c 0) 0,AV.t (T.ad 1 a d),AV.t (T.ad 1 p.fst p.snd),AV.t (T.ad 1 e h),I (↑h.length:Int),I (0:Int)] [ab.box [AV.own (Id.c 3),AV.own (Id.c 2)],ab.dead,
 ab.mp false [Ck.s] (Ck.i i64) l,ab.rows b.fst 5 1 1 b.snd.length b.snd]):=by kernel_rfl
theorem GV(O:ax)(a:Bool)(e:List (List T))(f:Int)(b:Bool)(d:Nat)(g:List Row)(h:List (List T×T)):aA ao ann O (Key.call 72) [(AV.ref (Id.c 0) 0),(AV.t (T.ad 1 a e)),(I f)] [(ab.box [(AV.own (Id.c 1)),(AV.own (Id.c 2))]),(ab.rows b 5 1 1 d g),(ab.mp false [Ck.s] (Ck.i i64) h)]=
 (O iD [AV.ref (Id.c 0) 0,AV.t (T.ad 1 a e),I f,AV.t (T.af true),I (↑e.length:Int),I (0:Int)] [ab.box [AV.own (Id.c 1),AV.own (Id.c 2)],ab.rows b 5 1 1 d g,ab.mp false [Ck.s] (Ck.i
 i64) h]):=by kernel_rfl
theorem Gl(O:ax)(a:Bool)(b:List (List T))(e:Bool)(g:Nat)(d:List Row)(f:Bool)(h:List (List T)):aA ao ann O (Key.call 34) [(AV.agg [(AV.t (T.ad 3 a b)),(AV.own (Id.c 0)),(AV.own (Id.c 1))])] [(ab.rows e 5 1 1 g d),(ab.sl false 1 f h)]=
 (aa none (kC (↑d.length:Int) (↑d.length:Int)) λx=>O sd [AV.ref (Id.c 2) 0,AV.ref (Id.c 3) 0,AV.own (Id.c 4),AV.own (Id.c 1),I (↑h.length:Int),I (0:Int)] [ab.rows e 5 1 1 g d,ab.sl false
 1 f h,ab.box [AV.t (T.ad 3 a b),AV.own (Id.c 0),AV.own (Id.c 1)],ab.box [AV.t (T.af true),AV.t (T.af true),AV.t (T.af true)],ab.sl false 1 false (List.replicate (↑d.length:Int).toNat [T.bool
 false])]):=by kernel_rfl
theorem GW(O:ax)(a:Bool)(f:List (List T))(b:Bool)(g:List (List T))(d:Bool)(e:Nat)(h:List Row)(j:List (List T×T)):aA ao ann O (Key.call 73) [(AV.ref (Id.c 0) 0),(AV.t (T.ad 1 a f)),(AV.t (T.ad 1 b g))] [(ab.box [(AV.own (Id.c 1)),(AV.own (Id.c 2))]),(ab.rows d 5 1 1 e h),(ab.mp false [Ck.s] (Ck.i i64) j)]=
 (aa none (O (Key.call 65) [AV.ref (Id.c 0) 0,B false] [ab.box [AV.own (Id.c 1),AV.own (Id.c 2)],ab.rows d 5 1 1 e h,ab.mp false [Ck.s] (Ck.i i64) j]) λl=>aa none l.head? λx=>aa none
 (T.int? i64 x) λn=>aa none (List.drop 1 l).head? λx=>aa none (aN x) λp=>aa none (List.drop 1 l).tail.head? λx=>aa none ((List.drop 2 (List.drop 1 l)).head?.bind λz=>aL z) λl=>
 O uR [AV.ref (Id.c 0) 0,AV.t (T.ad 1 a f),AV.t (T.ad 1 b g),I n,I (↑f.length:Int),I (0:Int)] [ab.box [AV.own (Id.c 3),AV.own (Id.c 2)],ab.dead,ab.mp false [Ck.s] (Ck.i i64) l,ab.rows
 p.fst 5 1 1 p.snd.length p.snd]):=by kernel_rfl
theorem GL(O:ax)(f:Bool)(a:Bool)(b:Nat)(d:List Row)(e:List (List T×T)):aA ao ann O (Key.call 65) [(AV.ref (Id.c 0) 0),(B f)] [(ab.box [(AV.own (Id.c 1)),(AV.own (Id.c 2))]),(ab.rows a 5 1 1 b d),(ab.mp false [Ck.s] (Ck.i i64) e)]=
 (bif f then aa none (O (Key.call 61) [AV.ref (Id.c 0) 0,I (1:Int),AV.t (T.str (ByteArray.mk #[])),I (0:Int),I (0:Int),AV.t (T.ad 1 true [])] [ab.box [AV.own (Id.c 1),AV.own (Id.c 2)],ab.rows a 5 1 1 b
 d,ab.mp false [Ck.s] (Ck.i i64) e]) λl=>aa none l.head? λx=>aa none (T.int? i64 x) λn=>aa none (List.drop 1 l).head? λx=>aa none (aN x) λp=>aa none (List.drop 1
 l).tail.head? λx=>aa none ((List.drop 2 (List.drop 1 l)).head?.bind λz=>aL z) λl=>aa none (if aX p.snd=true then some () else none) λx=>some [T.int i64 n,be p.fst p.snd,T.ak,
 ba l] else aa none (O (Key.call 61) [AV.ref (Id.c 0) 0,I (2:Int),AV.t (T.str (ByteArray.mk #[])),I (0:Int),I (0:Int),AV.t (T.ad 1 true [])] [ab.box [AV.own (Id.c 1),AV.own (Id.c 2)],ab.rows a 5 1 1
 b d,ab.mp false [Ck.s] (Ck.i i64) e]) λl=>aa none l.head? λx=>aa none (T.int? i64 x) λn=>aa none (List.drop 1 l).head? λx=>aa none (aN x) λp=>aa none (List.drop 1
 l).tail.head? λx=>aa none ((List.drop 2 (List.drop 1 l)).head?.bind λz=>aL z) λl=>aa none (if aX p.snd=true then some () else none) λx=>some [T.int i64 n,be p.fst p.snd,T.ak,
 ba l]):=by kernel_rfl
theorem GI(O:ax)(a:Bool)(f:List (List T))(b:Bool)(g:List (List T))(d:Bool)(e:Nat)(h:List Row)(j:List (List T×T)):aA ao ann O (Key.call 63) [(AV.t (T.ad 1 a f)),(AV.t (T.ad 1 b g)),(AV.fn 74 [(AV.ref (Id.c 0) 0)] [])] [(ab.box [(AV.own (Id.c 1)),(AV.own (Id.c 2))]),(ab.rows d 5 1 1 e h),(ab.mp false [Ck.s] (Ck.i i64) j)]=
 (O dJ [AV.t (T.ad 1 a f),AV.t (T.ad 1 b g),AV.fn 74 [AV.ref (Id.c 0) 0] [],AV.t (T.af true),I (↑f.length:Int),I (0:Int)] [ab.box [AV.own (Id.c 1),AV.own (Id.c 2)],ab.rows d 5 1 1 e h,
 ab.mp false [Ck.s] (Ck.i i64) j]):=by kernel_rfl
theorem zY(O:ax)(D:Int)(v:Bool)(o:List (List T))(w:Int)(a:Int)(b:Bool)(g:List (List T))(d:Bool)(h:List (List T))(e:Bool)(j:List (List T))(k:ByteArray)(f:Bool)(m:List (List T))(q:Bool)(B:List (List T))(r:Bool)(c3:List (List T))(C:List (List T×T))(u:Bool)(A:Nat)(y:List Row):aA ao ann O uQ [(AV.ref (Id.c 0) 0),(I D),(AV.t (T.ad 1 v o)),(I w),(I a)] [(ab.box [(AV.ref (Id.c 1) 0),(AV.t (T.ad 3 b g)),(AV.t (T.ad 5 d h)),(AV.t (T.ad 1 e j)),(AV.t (T.str k)),(AV.t (T.ad 1 f m)),(AV.own (Id.c 2)),(AV.own (Id.c 3))]),(ab.box [(AV.own (Id.c 6)),(AV.own (Id.c 5))]),(ab.sl false 1 q B),(ab.sl false 1 r c3),(Go.Aev.ab.dead),(ab.mp false [Ck.s] (Ck.i i64) C),(ab.rows u 5 1 1 A y)]=
 (bif decide (a < w) then aa none (if(0:Int)<=a/\a < (↑o.length:Int) then some () else none) λx=>aa none o[a.toNat]? λl=>aa none l.head? λx=>aa none (T.int? i64 x) λn=>
 aa none (O (Key.call 67) [AV.ref (Id.c 0) 0,I D,I n] [ab.box [AV.own (Id.c 1),AV.own (Id.c 2)],ab.rows u 5 1 1 A y,ab.mp false [Ck.s] (Ck.i i64) C]) λl=>aa none l.head? λx=>aa none
 (T.int? i64 x) λn=>aa none (List.drop 1 l).head? λx=>aa none (aN x) λp=>aa none (List.drop 1 l).tail.head? λx=>aa none ((List.drop 2 (List.drop 1 l)).head?.bind λz=>aL z) λl=>
 O uQ [AV.ref (Id.c 0) 0,I n,AV.t (T.ad 1 v o),I w,I (i64.wrap (a+ (1:Int)))] [ab.box [AV.ref (Id.c 1) 0,AV.t (T.ad 3 b g),AV.t (T.ad 5 d h),AV.t (T.ad 1 e j),AV.t
 (T.str k),AV.t (T.ad 1 f m),AV.own (Id.c 2),AV.own (Id.c 3)],ab.box [AV.own (Id.c 6),AV.own (Id.c 5)],ab.sl false 1 q B,ab.sl false 1 r c3,ab.dead,ab.mp false [Ck.s] (Ck.i i64) l,
 ab.rows p.fst 5 1 1 p.snd.length p.snd] else aa none (if aX y=true then some () else none) λx=>some [T.int i64 D,T.ak,T.ad 3 b g,T.ad 5 d h,T.ad 1 e j,T.str k,
 T.ad 1 f m,T.ak,T.ak,be u y,T.ak,T.ad 1 q B,T.ad 1 r c3,ba C]):=by kernel_rfl
theorem zW(O:ax)(F:Bool)(A:Bool)(g:List (List T))(w:Int)(a:Int)(b:Bool)(h:List (List T))(d:Bool)(j:List (List T))(e:Bool)(k:List (List T))(m:ByteArray)(f:Bool)(o:List (List T))(C:Bool)(H:List (List T))(D:Bool)(c3:List (List T))(E:Bool)(G:Nat)(J:List Row)(K:List (List T×T))(q:Int)(y:Bool)(B:List (List T))(r:Int)(u:Int)(v:ByteArray):aA ao ann O nr [(AV.ref (Id.c 0) 0),(AV.ref (Id.c 6) 0),(AV.t (T.af F)),(AV.t (T.ad 1 A g)),(I w),(I a)] [(ab.box [(AV.ref (Id.c 1) 0),(AV.t (T.ad 3 b h)),(AV.t (T.ad 5 d j)),(AV.t (T.ad 1 e k)),(AV.t (T.str m)),(AV.t (T.ad 1 f o)),(AV.own (Id.c 2)),(AV.own (Id.c 3))]),(ab.box [(AV.own (Id.c 4)),(AV.own (Id.c 5))]),(ab.sl false 1 C H),(ab.sl false 1 D c3),(ab.rows E 5 1 1 G J),(ab.mp false [Ck.s] (Ck.i i64) K),(ab.box [(I q),(AV.t (T.ad 1 y B)),(I r),(I u),(AV.t (T.str v))])]=
 (bif decide (a < w) then aa none (if(0:Int)<=a/\a < (↑g.length:Int) then some () else none) λx=>aa none g[a.toNat]? λl=>aa none l.head? λx=>aa none (T.int? i64 x) fun
 n=>aa none (if(0:Int)<=n/\n < (↑c3.length:Int) then some () else none) λx=>aa none c3[n.toNat]? λl=>aa none l.head? λx=>aa none (T.int? i64 x) λn=>O nr [AV.ref (Id.c 0) 0,
 AV.ref (Id.c 6) 0,AV.own (Id.c 7),AV.t (T.ad 1 A g),I w,I (i64.wrap (a+ (1:Int)))] [ab.box [AV.ref (Id.c 1) 0,AV.t (T.ad 3 b h),AV.t (T.ad 5 d j),AV.t (T.ad 1 e k),
 AV.t (T.str m),AV.t (T.ad 1 f o),AV.own (Id.c 2),AV.own (Id.c 3)],ab.box [AV.own (Id.c 4),AV.own (Id.c 5)],ab.sl false 1 C H,ab.sl false 1 D c3,ab.rows E 5 1 1 G J,ab.mp false [Ck.s]
 (Ck.i i64) K,ab.box [I q,AV.t (T.ad 1 y B),I r,I u,AV.t (T.str v)],ab.sl false 1 (F && false) [[T.int i64 n]]] else aa none (O (Key.call 61) [AV.ref (Id.c 0) 0,I q,AV.t
 (T.str v),I r,I u,AV.t (T.ad 1 F [])] [ab.box [AV.own (Id.c 1),AV.own (Id.c 2)],ab.rows E 5 1 1 G J,ab.mp false [Ck.s] (Ck.i i64) K]) λl=>aa none l.head? λx=>aa none (T.int?
 i64 x) λn=>aa none (List.drop 1 l).head? λx=>aa none (aN x) λp=>aa none (List.drop 1 l).tail.head? λx=>aa none ((List.drop 2 (List.drop 1 l)).head?.bind λz=>aL z) λl=>aa
 none (if aX p.snd=true then some () else none) λx=>some [T.int i64 n,T.ak,T.ad 3 b h,T.ad 5 d j,T.ad 1 e k,T.str m,T.ad 1 f o,T.ak,T.ak,be p.fst
 p.snd,T.ak,T.ad 1 C H,T.ad 1 D c3,ba l]):=by kernel_rfl
theorem Gw(O:ax)(d:ByteArray)(c:Bool)(e:List (List T))(a:Int):aA ao ann O (Key.call 56) [(AV.agg [(AV.t (T.str d)),(AV.t (T.ad 1 c e)),(I a)])] []=
 (aa none (O (Key.call 21) [I a] []) λl=>aa none l.head? λx=>aa none x.bool? λb=>some [T.bool b]):=by kernel_rfl
theorem zO(O:ax)(j:Bool)(f:List (List T))(k:Int)(a:Int)(b:Bool)(d:Bool)(e:Bool)(g:Bool)(q:List (List T))(h:Bool)(c3:List (List T))(i:Bool)(r:List (List T)):aA ao ann O gB [(AV.ref (Id.c 0) 0),(AV.ref (Id.c 1) 0),(AV.t (T.ad 5 j f)),(I k),(I a)] [(ab.box [(AV.t (T.af b)),(AV.t (T.af d)),(AV.t (T.af e))]),(ab.box [(AV.own (Id.c 2)),(AV.own (Id.c 3)),(AV.own (Id.c 4))]),(ab.sl false 3 g q),(ab.sl false 5 h c3),(ab.sl false 1 i r)]=
 (bif decide (a < k) then aa none (if(0:Int)<=a/\a < (↑f.length:Int) then some () else none) λx=>aa none f[a.toNat]? λl=>aa none l.head? λx=>aa none l.tail.head? λu=>aa none
 l.tail.tail.head? λv=>aa none l.tail.tail.tail.head? λw=>aa none l.tail.tail.tail.tail.head? λy=>aa none (T.int? i64 x) λn=>aa none (T.au 1 u) λp=>aa none (T.int?
 i64 v) λm=>aa none (T.int? i64 w) λo=>aa none y.a8 λs=>aa none (O (Key.call 25) [AV.t (T.ad 1 p.fst p.snd)] []) λl=>aa none l.head? λx=>aa none (T.au 1 x) λp
 =>aa none (bp 64 (c3.length+ [[T.int i64 n,T.ad 1 p.fst p.snd,T.int i64 m,T.int i64 o,T.str s]].length)) λx=>O gB [AV.ref (Id.c 0) 0,AV.ref (Id.c 1) 0,AV.t (T.ad 5 j
 f),I k,I (i64.wrap (a+ (1:Int)))] [ab.box [AV.t (T.af b),AV.t (T.af d),AV.t (T.af e)],ab.box [AV.own (Id.c 2),AV.own (Id.c 3),AV.own (Id.c 4)],ab.sl false 3 g q,ab.sl false
 5 (h && false) (c3++ [[T.int i64 n,T.ad 1 p.fst p.snd,T.int i64 m,T.int i64 o,T.str s]]),ab.sl false 1 i r] else some [T.ad 3 g q,T.ad 5 h c3,T.ad 1 i r]):=by kernel_rfl
theorem vX(O:ax)(e:Bool)(d:List (List T))(c:ByteArray)(f:Int)(a:Int):aA ao ann O fX [(AV.t (T.ad 3 e d)),(AV.fn 57 [] [(AV.t (T.ptr [(T.str c)]))]),(I f),(I a)] []=
 (bif decide (a < f) then aa none (if(0:Int)<=a/\a < (↑d.length:Int) then some () else none) λx=>aa none d[a.toNat]? λl=>aa none l.head? λx=>aa none l.tail.head? λg=>aa none
 l.tail.tail.head? λh=>aa none x.a8 λs=>aa none (T.au 1 g) λp=>aa none (T.int? i64 h) λn=>aa none (O (Key.call 57) [AV.agg [AV.t (T.str s),AV.t (T.ad 1 p.fst p.snd),I n],AV.t
 (T.ptr [T.str c])] []) λl=>aa none l.head? λx=>aa none x.bool? λb=>bif b then some [T.int i64 a] else O fX [AV.t (T.ad 3 e d),AV.fn 57 [] [AV.t (T.ptr [T.str c])],I f,I
 (i64.wrap (a+ (1:Int)))] [] else some [T.int i64 (-1:Int)]):=by kernel_rfl
theorem zV(O:ax)(E:Int)(D:Bool)(C:Bool)(w:List (List T))(F:Int)(b:Int)(d:Bool)(j:List (List T))(e:Bool)(k:List (List T))(f:Bool)(m:List (List T))(o:ByteArray)(g:Bool)(a:List (List T))(y:Bool)(H:List (List T))(z:Bool)(c3:List (List T))(A:Bool)(G:Nat)(J:List Row)(K:List (List T×T))(p:Int)(h:Bool)(q:List (List T))(r:Int)(u:Int)(v:ByteArray)(B:Bool)(c8:List (List T)):aA ao ann O nq [(I E),(AV.ref (Id.c 6) 0),(AV.ref (Id.c 7) 0),(AV.t (T.af D)),(AV.own (Id.c 8)),(AV.t (T.ad 1 C w)),(I F),(I b)] [(ab.box [(AV.ref (Id.c 1) 0),(AV.t (T.ad 3 d j)),(AV.t (T.ad 5 e k)),(AV.t (T.ad 1 f m)),(AV.t (T.str o)),(AV.t (T.ad 1 g a)),(AV.own (Id.c 2)),(AV.own (Id.c 3))]),(ab.box [(AV.own (Id.c 4)),(AV.own (Id.c 5))]),(ab.sl false 1 y H),(ab.sl false 1 z c3),(ab.rows A 5 1 1 G J),(ab.mp false [Ck.s] (Ck.i i64) K),(ab.box [(AV.ref (Id.c 0) 0)]),(ab.box [(I p),(AV.t (T.ad 1 h q)),(I r),(I u),(AV.t (T.str v))]),(ab.sl false 1 B c8)]=
 (bif decide (b < F) then aa none (if(0:Int)<=b/\b < (↑w.length:Int) then some () else none) λx=>aa none w[b.toNat]? λl=>aa none l.head? λx=>aa none (T.int? i64 x) λn=>
 aa none (if(0:Int)<=n/\n < (↑c3.length:Int) then some () else none) λx=>aa none c3[n.toNat]? λl=>aa none l.head? λx=>aa none (T.int? i64 x) λn=>aa none (bp 8 (c8.length+ [[T.int
 i64 n]].length)) λx=>O nq [I E,AV.ref (Id.c 6) 0,AV.ref (Id.c 7) 0,AV.t (T.af D),AV.own (Id.c 8),AV.t (T.ad 1 C w),I F,I (i64.wrap (b+ (1:Int)))] [ab.box [AV.ref (Id.c 1)
 0,AV.t (T.ad 3 d j),AV.t (T.ad 5 e k),AV.t (T.ad 1 f m),AV.t (T.str o),AV.t (T.ad 1 g a),AV.own (Id.c 2),AV.own (Id.c 3)],ab.box [AV.own (Id.c 4),AV.own (Id.c 5)],ab.sl false
 1 y H,ab.sl false 1 z c3,ab.rows A 5 1 1 G J,ab.mp false [Ck.s] (Ck.i i64) K,ab.box [AV.ref (Id.c 0) 0],ab.box [I p,AV.t (T.ad 1 h q),I r,I u,AV.t (T.str v)],ab.sl
 false 1 (B && false) (c8++ [[T.int i64 n]])] else aa none (if(0:Int)<=E/\E < (↑a.length:Int) then some () else none) λx=>aa none a[E.toNat]? λl=>aa none l.head? λx=>aa none
 (T.int? i64 x) λn=>O gE [AV.ref (Id.c 6) 0,AV.ref (Id.c 7) 0,AV.t (T.af D),AV.own (Id.c 8),I (i64.wrap (n - (10:Int))),I (0:Int)] [ab.box [AV.ref (Id.c 1) 0,AV.t (T.ad 3 d
 j),AV.t (T.ad 5 e k),AV.t (T.ad 1 f m),AV.t (T.str o),AV.t (T.ad 1 g a),AV.own (Id.c 2),AV.own (Id.c 3)],ab.box [AV.own (Id.c 4),AV.own (Id.c 5)],ab.sl false 1 y H,ab.sl false
 1 z c3,ab.rows A 5 1 1 G J,ab.mp false [Ck.s] (Ck.i i64) K,ab.box [AV.ref (Id.c 0) 0],ab.box [I p,AV.t (T.ad 1 h q),I r,I u,AV.t (T.str v)],ab.sl false 1 B c8]):=by kernel_rfl
theorem Gh(O:ax)(C:Bool)(D:Bool)(E:Int)(q:Int)(b:Bool)(f:List (List T))(d:Bool)(g:List (List T))(e:Bool)(h:List (List T))(a:ByteArray)(j:Bool)(k:List (List T))(y:Bool)(J:List (List T))(A:Bool)(c3:List (List T))(B:Bool)(H:Nat)(F:List Row)(K:List (List T×T))(r:Int)(o:Bool)(u:List (List T))(v:Int)(w:Int)(m:ByteArray):aA ao ann O gE [(AV.ref (Id.c 6) 0),(AV.ref (Id.c 7) 0),(AV.t (T.af C)),(AV.t (T.af D)),(I E),(I q)] [(ab.box [(AV.ref (Id.c 1) 0),(AV.t (T.ad 3 b f)),(AV.t (T.ad 5 d g)),(AV.t (T.ad 1 e h)),(AV.t (T.str a)),(AV.t (T.ad 1 j k)),(AV.own (Id.c 2)),(AV.own (Id.c 3))]),(ab.box [(AV.own (Id.c 4)),(AV.own (Id.c 5))]),(ab.sl false 1 y J),(ab.sl false 1 A c3),(ab.rows B 5 1 1 H F),(ab.mp false [Ck.s] (Ck.i i64) K),(ab.box [(AV.ref (Id.c 0) 0)]),(ab.box [(I r),(AV.t (T.ad 1 o u)),(I v),(I w),(AV.t (T.str m))])]=
 (bif decide (q < E) then aa none (O (Key.call 62) [AV.agg [AV.t (T.ad 3 b f),AV.t (T.ad 5 d g),AV.t (T.ad 1 e h)],AV.t (T.str m)] []) λl=>aa none l.head? λx=>aa none (T.int?
 i64 x) λn=>aa none (O (Key.call 59) [I n] []) λl=>aa none l.head? λx=>aa none x.a8 λs=>aa none (if a.size+s.size<=4294967296 then some () else none) λx=>aa none (if(a++
 s).size+1<=4294967296 then some () else none) λx=>aa none (O (Key.call 59) [I q] []) λl=>aa none l.head? λx=>aa none x.a8 λG=>aa none (if(a++s++ (ByteArray.mk #[(95:UInt8)])).size
 +G.size<=4294967296 then some () else none) λx=>aa none (O (Key.call 61) [AV.ref (Id.c 0) 0,I (9:Int),AV.t (T.str (a++s++ (ByteArray.mk #[(95:UInt8)])++G)),I (0:Int),I (0:Int),AV.t (T.ad
 1 D [])] [ab.box [AV.own (Id.c 1),AV.own (Id.c 2)],ab.rows B 5 1 1 H F,ab.mp false [Ck.s] (Ck.i i64) K]) λl=>aa none l.head? λx=>aa none (T.int? i64 x) λn=>aa none
 (List.drop 1 l).head? λx=>aa none (aN x) λp=>aa none (List.drop 1 l).tail.head? λx=>aa none ((List.drop 2 (List.drop 1 l)).head?.bind λz=>aL z) λl=>O gE [AV.ref (Id.c 6) 0,AV.ref
 (Id.c 7) 0,AV.own (Id.c 8),AV.t (T.af D),I E,I (i64.wrap (q+ (1:Int)))] [ab.box [AV.ref (Id.c 1) 0,AV.t (T.ad 3 b f),AV.t (T.ad 5 d g),AV.t (T.ad 1 e h),AV.t (T.str
 a),AV.t (T.ad 1 j k),AV.own (Id.c 2),AV.own (Id.c 3)],ab.box [AV.own (Id.c 9),AV.own (Id.c 5)],ab.sl false 1 y J,ab.sl false 1 A c3,ab.dead,ab.mp false [Ck.s] (Ck.i i64) l,ab.box
 [AV.ref (Id.c 0) 0],ab.box [I r,AV.t (T.ad 1 o u),I v,I w,AV.t (T.str m)],ab.sl false 1 (C && false) [[T.int i64 n]],ab.rows p.fst 5 1 1 p.snd.length p.snd] else aa none (if aX
 F=true then some () else none) λx=>some [T.af C,T.ak,T.ad 3 b f,T.ad 5 d g,T.ad 1 e h,T.str a,T.ad 1 j k,T.ak,T.ak,be B F,T.ak,T.ad 1 y J,T.ad 1
 A c3,ba K]):=by kernel_rfl
theorem GD(O:ax)(C:Bool)(A:List (List T))(D:Bool)(B:List (List T))(u:Bool)(w:Int)(a:Int)(L:Int)(b:Bool)(g:List (List T))(d:Bool)(h:List (List T))(e:Bool)(j:List (List T))(k:ByteArray)(f:Bool)(m:List (List T))(o:Bool)(M:List (List T))(q:Bool)(N:List (List T))(r:Bool)(K:Nat)(y:List Row)(c7:List (List T×T)):aA ao ann O nu [(AV.t (T.ad 1 C A)),(AV.t (T.ad 1 D B)),(AV.fn 64 [] [(AV.ref (Id.c 0) 0),(AV.ref (Id.c 1) 0)]),(AV.t (T.af u)),(I w),(I a)] [(ab.box [(AV.ref (Id.c 2) 0)]),(ab.box [(I L)]),(ab.box [(AV.ref (Id.c 3) 0),(AV.t (T.ad 3 b g)),(AV.t (T.ad 5 d h)),(AV.t (T.ad 1 e j)),(AV.t (T.str k)),(AV.t (T.ad 1 f m)),(AV.own (Id.c 4)),(AV.own (Id.c 5))]),(ab.box [(AV.own (Id.c 6)),(AV.own (Id.c 7))]),(ab.sl false 1 o M),(ab.sl false 1 q N),(ab.rows r 5 1 1 K y),(ab.mp false [Ck.s] (Ck.i i64) c7)]=
 (bif decide (a < w) then aa none (if(0:Int)<=a/\a < (↑A.length:Int) then some () else none) λx=>aa none A[a.toNat]? λl=>aa none l.head? λx=>aa none (T.int? i64 x) λn=>aa
 none (if(0:Int)<=a/\a < (↑B.length:Int) then some () else none) λx=>aa none B[a.toNat]? λl=>aa none l.head? λx=>aa none (T.int? i64 x) λP=>aa none (O (Key.call 64) [I n,I
 P,AV.ref (Id.c 0) 0,AV.ref (Id.c 1) 0] [ab.box [AV.ref (Id.c 2) 0],ab.box [I L],ab.box [AV.ref (Id.c 3) 0,AV.t (T.ad 3 b g),AV.t (T.ad 5 d h),AV.t (T.ad 1 e j),AV.t (T.str k),AV.t
 (T.ad 1 f m),AV.own (Id.c 4),AV.own (Id.c 5)],ab.box [AV.own (Id.c 6),AV.own (Id.c 7)],ab.sl false 1 o M,ab.sl false 1 q N,ab.rows r 5 1 1 K y,ab.mp false [Ck.s] (Ck.i i64) c7]) fun
 l=>aa none l.head? λx=>aa none (T.int? i64 x) λn=>aa none (List.drop 1 l).head? λx=>aa none (List.drop 1 (List.drop 1 l)).head? λx=>aa none (T.int? i64 x) λQ=>aa none
 (List.drop 1 (List.drop 1 (List.drop 1 l))).head? λx=>aa none (List.drop 1 (List.drop 1 (List.drop 1 l))).tail.head? λx=>aa none (T.au 3 x) λp=>aa none (List.drop 1 (List.drop 1 (List.drop 1
 l))).tail.tail.head? λx=>aa none (T.au 5 x) λE=>aa none (List.drop 1 (List.drop 1 (List.drop 1 l))).tail.tail.tail.head? λx=>aa none (T.au 1 x) λF=>aa none (List.drop 1 (List.drop 1
 (List.drop 1 l))).tail.tail.tail.tail.head? λx=>aa none x.a8 λs=>aa none (List.drop 1 (List.drop 1 (List.drop 1 l))).tail.tail.tail.tail.tail.head? λx=>aa none (T.au 1 x) λG=>aa none
 (List.drop 1 (List.drop 1 (List.drop 1 l))).tail.tail.tail.tail.tail.tail.head? λx=>aa none (List.drop 1 (List.drop 1 (List.drop 1 l))).tail.tail.tail.tail.tail.tail.tail.head? λx=>aa none (List.drop 8
 (List.drop 1 (List.drop 1 (List.drop 1 l)))).head? λx=>aa none (aN x) λv=>aa none (List.drop 8 (List.drop 1 (List.drop 1 (List.drop 1 l)))).tail.head? λx=>aa none ((List.drop 2 (List.drop 8
 (List.drop 1 (List.drop 1 (List.drop 1 l))))).head?.bind λz=>T.au 1 z) λH=>aa none ((List.drop 2 (List.drop 8 (List.drop 1 (List.drop 1 (List.drop 1 l))))).tail.head?.bind λz=>T.au 1 z) λJ=>
 aa none ((List.drop 2 (List.drop 8 (List.drop 1 (List.drop 1 (List.drop 1 l))))).tail.tail.head?.bind λz=>aL z) λl=>O nu [AV.t (T.ad 1 C A),AV.t (T.ad 1 D B),AV.fn 64 [] [AV.ref (Id.c 0) 0,
 AV.ref (Id.c 1) 0],AV.own (Id.c 8),I w,AV.t (T.int i64 (i64.wrap (a+ (1:Int))))] [ab.box [AV.ref (Id.c 2) 0],ab.box [I Q],ab.box [AV.ref (Id.c 3) 0,AV.t (T.ad 3 p.fst p.snd),AV.t (T.ad
 5 E.fst E.snd),AV.t (T.ad 1 F.fst F.snd),AV.t (T.str s),AV.t (T.ad 1 G.fst G.snd),AV.own (Id.c 4),AV.own (Id.c 5)],ab.box [AV.own (Id.c 9),AV.own (Id.c 7)],ab.sl false 1 H.fst H.snd,ab.sl
 false 1 J.fst J.snd,ab.dead,ab.mp false [Ck.s] (Ck.i i64) l,ab.sl false 1 (u && false) [[T.int i64 n]],ab.rows v.fst 5 1 1 v.snd.length v.snd] else aa none (if aX y=true then
 some () else none) λx=>some [T.af u,T.ak,T.int i64 L,T.ak,T.ad 3 b g,T.ad 5 d h,T.ad 1 e j,T.str k,T.ad 1 f m,T.ak,T.ak,be r y,T.ak,T.ad 1
 o M,T.ad 1 q N,ba c7]):=by kernel_rfl
theorem zS(O:ax)(q:Int)(a:Int)(b:Bool)(g:List (List T))(d:Bool)(h:List (List T))(e:Bool)(j:List (List T))(k:ByteArray)(f:Bool)(m:List (List T))(A:Bool)(G:List (List T))(B:Bool)(c3:List (List T))(H:List (List T×T))(u:Int)(r:Bool)(v:List (List T))(o:Int)(w:Int)(y:ByteArray)(C:Bool)(c8:List (List T))(D:Bool)(F:Nat)(E:List Row):aA ao ann O np [(AV.ref (Id.c 6) 0),(AV.ref (Id.c 7) 0),(AV.own (Id.c 8)),(I q),(I a)] [(ab.box [(AV.ref (Id.c 1) 0),(AV.t (T.ad 3 b g)),(AV.t (T.ad 5 d h)),(AV.t (T.ad 1 e j)),(AV.t (T.str k)),(AV.t (T.ad 1 f m)),(AV.own (Id.c 2)),(AV.own (Id.c 3))]),(ab.box [(AV.own (Id.c 9)),(AV.own (Id.c 5))]),(ab.sl false 1 A G),(ab.sl false 1 B c3),(Go.Aev.ab.dead),(ab.mp false [Ck.s] (Ck.i i64) H),(ab.box [(AV.ref (Id.c 0) 0)]),(ab.box [(I u),(AV.t (T.ad 1 r v)),(I o),(I w),(AV.t (T.str y))]),(ab.sl false 1 C c8),(ab.rows D 5 1 1 F E)]=
 (bif decide (a < q) then aa none (if a < (0:Int) then none else some ()) λx=>aa none (O (Key.call 65) [AV.ref (Id.c 0) 0,AV.t (T.bool (i64.wrap (↑(BitVec.ofInt 64 (o.fdiv ((2:Int) ^ min
 a.toNat 64)) &&& BitVec.ofInt 64 (1:Int)).toNat:Int)== (1:Int)))] [ab.box [AV.own (Id.c 1),AV.own (Id.c 2)],ab.rows D 5 1 1 F E,ab.mp false [Ck.s] (Ck.i i64) H]) λl=>aa none l.head? fun
 x=>aa none (T.int? i64 x) λn=>aa none (List.drop 1 l).head? λx=>aa none (aN x) λp=>aa none (List.drop 1 l).tail.head? λx=>aa none ((List.drop 2 (List.drop 1 l)).head?.bind λz=>
 aL z) λl=>aa none (bp 8 (c8.length+ [[T.int i64 n]].length)) λx=>O np [AV.ref (Id.c 6) 0,AV.ref (Id.c 7) 0,AV.own (Id.c 8),I q,I (i64.wrap (a+ (1:Int)))] [ab.box
 [AV.ref (Id.c 1) 0,AV.t (T.ad 3 b g),AV.t (T.ad 5 d h),AV.t (T.ad 1 e j),AV.t (T.str k),AV.t (T.ad 1 f m),AV.own (Id.c 2),AV.own (Id.c 3)],ab.box [AV.own (Id.c 9),AV.own (Id.c
 5)],ab.sl false 1 A G,ab.sl false 1 B c3,ab.dead,ab.mp false [Ck.s] (Ck.i i64) l,ab.box [AV.ref (Id.c 0) 0],ab.box [I u,AV.t (T.ad 1 r v),I o,I w,AV.t (T.str y)],ab.sl
 false 1 (C && false) (c8++ [[T.int i64 n]]),ab.rows p.fst 5 1 1 p.snd.length p.snd] else aa none (if aX E=true then some () else none) λx=>some [T.ad 1 C c8,T.ak,T.ad 3 b g,T.ad
 5 d h,T.ad 1 e j,T.str k,T.ad 1 f m,T.ak,T.ak,be D E,T.ak,T.ad 1 A G,T.ad 1 B c3,ba H]):=by kernel_rfl
theorem GM(O:ax)(b:Int)(d:Bool)(e:Nat)(a:List Row)(f:List (List T×T)):aA ao ann O (Key.call 66) [(AV.ref (Id.c 0) 0),(I b)] [(ab.box [(AV.own (Id.c 1)),(AV.own (Id.c 2))]),(ab.rows d 5 1 1 e a),(ab.mp false [Ck.s] (Ck.i i64) f)]=
 (aa none (if(0:Int)<=b/\b < (↑a.length:Int) then some () else none) λx=>aa none a[b.toNat]? λx=>aa none (List.drop 0 x.cs).head? λx=>aa none (T.int? i64 x) λn=>bif n== (1:Int)
 then aa none (O (Key.call 65) [AV.ref (Id.c 0) 0,B false] [ab.box [AV.own (Id.c 1),AV.own (Id.c 2)],ab.rows d 5 1 1 e a,ab.mp false [Ck.s] (Ck.i i64) f]) λl=>aa none l.head? λx=>aa none
 (T.int? i64 x) λn=>aa none (List.drop 1 l).head? λx=>aa none (aN x) λp=>aa none (List.drop 1 l).tail.head? λx=>aa none ((List.drop 2 (List.drop 1 l)).head?.bind λz=>aL z) λl=>
 aa none (if aX p.snd=true then some () else none) λx=>some [T.int i64 n,be p.fst p.snd,T.ak,ba l] else bif n== (2:Int) then aa none (O (Key.call 65) [AV.ref (Id.c 0) 0,B true] [ab.box
 [AV.own (Id.c 1),AV.own (Id.c 2)],ab.rows d 5 1 1 e a,ab.mp false [Ck.s] (Ck.i i64) f]) λl=>aa none l.head? λx=>aa none (T.int? i64 x) λn=>aa none (List.drop 1 l).head? λx
 =>aa none (aN x) λp=>aa none (List.drop 1 l).tail.head? λx=>aa none ((List.drop 2 (List.drop 1 l)).head?.bind λz=>aL z) λl=>aa none (if aX p.snd=true then some () else none) λx=>
 some [T.int i64 n,be p.fst p.snd,T.ak,ba l] else bif n== (3:Int) then aa none (if(0:Int)<=b/\b < (↑a.length:Int) then some () else none) λx=>aa none a[b.toNat]? λx=>aa none
 (cv x.n a) λp=>aa none (if(0:Int)<=(0:Int)/\(0:Int) < (↑p.snd.length:Int) then some () else none) λg=>aa none (cv x.n a) λp=>aa none p.snd[0]? λl=>aa none l.head? λx=>aa
 none (T.int? i64 x) λn=>aa none (if aX a=true then some () else none) λx=>some [T.int i64 n,be d a,T.ak,ba f] else aa none (O (Key.call 61) [AV.ref (Id.c 0) 0,I (3:Int),
 AV.t (T.str (ByteArray.mk #[])),I (0:Int),I (0:Int),AV.t (T.ad 1 false [[T.int i64 b]])] [ab.box [AV.own (Id.c 1),AV.own (Id.c 2)],ab.rows d 5 1 1 e a,ab.mp false [Ck.s] (Ck.i i64) f])
 λl=>aa none l.head? λx=>aa none (T.int? i64 x) λn=>aa none (List.drop 1 l).head? λx=>aa none (aN x) λp=>aa none (List.drop 1 l).tail.head? λx=>aa none ((List.drop 2
 (List.drop 1 l)).head?.bind λz=>aL z) λl=>aa none (if aX p.snd=true then some () else none) λx=>some [T.int i64 n,be p.fst p.snd,T.ak,ba l]):=by kernel_rfl
theorem zT(O:ax)(r:Bool)(g:List (List T))(q:Int)(a:Int)(b:Bool)(h:List (List T))(d:Bool)(j:List (List T))(e:Bool)(k:List (List T))(m:ByteArray)(f:Bool)(o:List (List T))(u:Bool)(B:List (List T))(v:Bool)(c3:List (List T))(C:List (List T×T))(w:Bool)(c7:List (List T))(y:Bool)(A:Nat)(c8:List Row):aA ao ann O oC [(AV.ref (Id.c 6) 0),(AV.own (Id.c 7)),(AV.t (T.ad 1 r g)),(I q),(I a)] [(ab.box [(AV.ref (Id.c 1) 0),(AV.t (T.ad 3 b h)),(AV.t (T.ad 5 d j)),(AV.t (T.ad 1 e k)),(AV.t (T.str m)),(AV.t (T.ad 1 f o)),(AV.own (Id.c 2)),(AV.own (Id.c 3))]),(ab.box [(AV.own (Id.c 8)),(AV.own (Id.c 5))]),(ab.sl false 1 u B),(ab.sl false 1 v c3),(Go.Aev.ab.dead),(ab.mp false [Ck.s] (Ck.i i64) C),(ab.box [(AV.ref (Id.c 0) 0)]),(ab.sl false 1 w c7),(ab.rows y 5 1 1 A c8)]=
 (bif decide (a < q) then aa none (if(0:Int)<=a/\a < (↑g.length:Int) then some () else none) λx=>aa none g[a.toNat]? λl=>aa none l.head? λx=>aa none (T.int? i64 x) fun
 n=>aa none (O (Key.call 66) [AV.ref (Id.c 0) 0,I n] [ab.box [AV.own (Id.c 1),AV.own (Id.c 2)],ab.rows y 5 1 1 A c8,ab.mp false [Ck.s] (Ck.i i64) C]) λl=>aa none l.head? λx=>aa none
 (T.int? i64 x) λn=>aa none (List.drop 1 l).head? λx=>aa none (aN x) λp=>aa none (List.drop 1 l).tail.head? λx=>aa none ((List.drop 2 (List.drop 1 l)).head?.bind λz=>aL z) λl=>
 aa none (bp 8 (c7.length+ [[T.int i64 n]].length)) λx=>O oC [AV.ref (Id.c 6) 0,AV.own (Id.c 7),AV.t (T.ad 1 r g),I q,I (i64.wrap (a+ (1:Int)))] [ab.box [AV.ref (Id.c
 1) 0,AV.t (T.ad 3 b h),AV.t (T.ad 5 d j),AV.t (T.ad 1 e k),AV.t (T.str m),AV.t (T.ad 1 f o),AV.own (Id.c 2),AV.own (Id.c 3)],ab.box [AV.own (Id.c 8),AV.own (Id.c 5)],ab.sl
 false 1 u B,ab.sl false 1 v c3,ab.dead,ab.mp false [Ck.s] (Ck.i i64) l,ab.box [AV.ref (Id.c 0) 0],ab.sl false 1 (w && false) (c7++ [[T.int i64 n]]),ab.rows p.fst 5 1 1 p.snd.length
 p.snd] else aa none (if aX c8=true then some () else none) λx=>some [T.ad 1 w c7,T.ak,T.ad 3 b h,T.ad 5 d j,T.ad 1 e k,T.str m,T.ad 1 f o,T.ak,T.ak,be
 y c8,T.ak,T.ad 1 u B,T.ad 1 v c3,ba C]):=by kernel_rfl
theorem Al(O:ax)(j:Bool)(g:List (List T))(k:Bool)(h:List (List T))(d:Bool)(e:Int)(a:Int)(b:Bool)(m:Nat)(f:List Row)(o:List (List T×T)):aA ao ann O dJ [(AV.t (T.ad 1 j g)),(AV.t (T.ad 1 k h)),(AV.fn 67 [(AV.ref (Id.c 0) 0)] []),(AV.t (T.af d)),(I e),(I a)] [(ab.box [(AV.own (Id.c 1)),(AV.own (Id.c 2))]),(ab.rows b 5 1 1 m f),(ab.mp false [Ck.s] (Ck.i i64) o)]=
 (bif decide (a < e) then aa none (if(0:Int)<=a/\a < (↑g.length:Int) then some () else none) λx=>aa none g[a.toNat]? λl=>aa none l.head? λx=>aa none (T.int? i64 x) λn=>aa
 none (if(0:Int)<=a/\a < (↑h.length:Int) then some () else none) λx=>aa none h[a.toNat]? λl=>aa none l.head? λx=>aa none (T.int? i64 x) λq=>aa none (O (Key.call 67) [AV.ref
 (Id.c 0) 0,I n,I q] [ab.box [AV.own (Id.c 1),AV.own (Id.c 2)],ab.rows b 5 1 1 m f,ab.mp false [Ck.s] (Ck.i i64) o]) λl=>aa none l.head? λx=>aa none (T.int? i64 x) λn=>aa
 none (List.drop 1 l).head? λx=>aa none (aN x) λp=>aa none (List.drop 1 l).tail.head? λx=>aa none ((List.drop 2 (List.drop 1 l)).head?.bind λz=>aL z) λl=>O dJ [AV.t (T.ad 1 j g),
 AV.t (T.ad 1 k h),AV.fn 67 [AV.ref (Id.c 0) 0] [],AV.own (Id.c 3),I e,I (i64.wrap (a+ (1:Int)))] [ab.box [AV.own (Id.c 4),AV.own (Id.c 2)],ab.dead,ab.mp false [Ck.s] (Ck.i i64) l,
 ab.sl false 1 (d && false) [[T.int i64 n]],ab.rows p.fst 5 1 1 p.snd.length p.snd] else aa none (if aX f=true then some () else none) λx=>some [T.af d,be b f,T.ak,ba o]):=by kernel_rfl
theorem Am(O:ax)(j:Bool)(g:List (List T))(k:Bool)(h:List (List T))(d:Bool)(e:Int)(a:Int)(b:Bool)(m:Nat)(f:List Row)(o:List (List T×T)):aA ao ann O dJ [(AV.t (T.ad 1 j g)),(AV.t (T.ad 1 k h)),(AV.fn 68 [(AV.ref (Id.c 0) 0)] []),(AV.t (T.af d)),(I e),(I a)] [(ab.box [(AV.own (Id.c 1)),(AV.own (Id.c 2))]),(ab.rows b 5 1 1 m f),(ab.mp false [Ck.s] (Ck.i i64) o)]=
 (bif decide (a < e) then aa none (if(0:Int)<=a/\a < (↑g.length:Int) then some () else none) λx=>aa none g[a.toNat]? λl=>aa none l.head? λx=>aa none (T.int? i64 x) λn=>aa
 none (if(0:Int)<=a/\a < (↑h.length:Int) then some () else none) λx=>aa none h[a.toNat]? λl=>aa none l.head? λx=>aa none (T.int? i64 x) λq=>aa none (O (Key.call 68) [AV.ref
 (Id.c 0) 0,I n,I q] [ab.box [AV.own (Id.c 1),AV.own (Id.c 2)],ab.rows b 5 1 1 m f,ab.mp false [Ck.s] (Ck.i i64) o]) λl=>aa none l.head? λx=>aa none (T.int? i64 x) λn=>aa
 none (List.drop 1 l).head? λx=>aa none (aN x) λp=>aa none (List.drop 1 l).tail.head? λx=>aa none ((List.drop 2 (List.drop 1 l)).head?.bind λz=>aL z) λl=>O dJ [AV.t (T.ad 1 j g),
 AV.t (T.ad 1 k h),AV.fn 68 [AV.ref (Id.c 0) 0] [],AV.own (Id.c 3),I e,I (i64.wrap (a+ (1:Int)))] [ab.box [AV.own (Id.c 4),AV.own (Id.c 2)],ab.dead,ab.mp false [Ck.s] (Ck.i i64) l,
 ab.sl false 1 (d && false) [[T.int i64 n]],ab.rows p.fst 5 1 1 p.snd.length p.snd] else aa none (if aX f=true then some () else none) λx=>some [T.af d,be b f,T.ak,ba o]):=by kernel_rfl
theorem Ao(O:ax)(j:Bool)(g:List (List T))(k:Bool)(h:List (List T))(d:Bool)(e:Int)(a:Int)(b:Bool)(m:Nat)(f:List Row)(o:List (List T×T)):aA ao ann O dJ [(AV.t (T.ad 1 j g)),(AV.t (T.ad 1 k h)),(AV.fn 69 [(AV.ref (Id.c 0) 0)] []),(AV.t (T.af d)),(I e),(I a)] [(ab.box [(AV.own (Id.c 1)),(AV.own (Id.c 2))]),(ab.rows b 5 1 1 m f),(ab.mp false [Ck.s] (Ck.i i64) o)]=
 (bif decide (a < e) then aa none (if(0:Int)<=a/\a < (↑g.length:Int) then some () else none) λx=>aa none g[a.toNat]? λl=>aa none l.head? λx=>aa none (T.int? i64 x) λn=>aa
 none (if(0:Int)<=a/\a < (↑h.length:Int) then some () else none) λx=>aa none h[a.toNat]? λl=>aa none l.head? λx=>aa none (T.int? i64 x) λq=>aa none (O (Key.call 69) [AV.ref
 (Id.c 0) 0,I n,I q] [ab.box [AV.own (Id.c 1),AV.own (Id.c 2)],ab.rows b 5 1 1 m f,ab.mp false [Ck.s] (Ck.i i64) o]) λl=>aa none l.head? λx=>aa none (T.int? i64 x) λn=>aa
 none (List.drop 1 l).head? λx=>aa none (aN x) λp=>aa none (List.drop 1 l).tail.head? λx=>aa none ((List.drop 2 (List.drop 1 l)).head?.bind λz=>aL z) λl=>O dJ [AV.t (T.ad 1 j g),
 AV.t (T.ad 1 k h),AV.fn 69 [AV.ref (Id.c 0) 0] [],AV.own (Id.c 3),I e,I (i64.wrap (a+ (1:Int)))] [ab.box [AV.own (Id.c 4),AV.own (Id.c 2)],ab.dead,ab.mp false [Ck.s] (Ck.i i64) l,
 ab.sl false 1 (d && false) [[T.int i64 n]],ab.rows p.fst 5 1 1 p.snd.length p.snd] else aa none (if aX f=true then some () else none) λx=>some [T.af d,be b f,T.ak,ba o]):=by kernel_rfl
theorem vN(O:ax)(h:Bool)(b:List (List T))(j:Bool)(d:List (List T))(k:Int)(e:Bool)(f:Int)(a:Int)(q:List (List T×T))(g:Bool)(o:Nat)(c3:List Row):aA ao ann O nv [(AV.ref (Id.c 0) 0),(AV.t (T.ad 1 h b)),(AV.t (T.ad 1 j d)),(I k),(AV.t (T.af e)),(I f),(I a)] [(ab.box [(AV.own (Id.c 3)),(AV.own (Id.c 2))]),(Go.Aev.ab.dead),(ab.mp false [Ck.s] (Ck.i i64) q),(ab.rows g 5 1 1 o c3)]=
 (bif decide (a < f) then aa none (if(0:Int)<=a/\a < (↑b.length:Int) then some () else none) λx=>aa none b[a.toNat]? λl=>aa none l.head? λx=>aa none (T.int? i64 x) λn=>aa
 none (if(0:Int)<=a/\a < (↑d.length:Int) then some () else none) λx=>aa none d[a.toNat]? λl=>aa none l.head? λx=>aa none (T.int? i64 x) λv=>aa none (O (Key.call 69) [AV.ref
 (Id.c 0) 0,I n,I v] [ab.box [AV.own (Id.c 1),AV.own (Id.c 2)],ab.rows g 5 1 1 o c3,ab.mp false [Ck.s] (Ck.i i64) q]) λl=>aa none l.head? λx=>aa none (T.int? i64 x) λn=>aa
 none (List.drop 1 l).head? λx=>aa none (aN x) λp=>aa none (List.drop 1 l).tail.head? λx=>aa none ((List.drop 2 (List.drop 1 l)).head?.bind λz=>aL z) λl=>aa none (O (Key.call 69) [AV.ref
 (Id.c 0) 0,I n,I k] [ab.box [AV.own (Id.c 1),AV.own (Id.c 2)],ab.rows p.fst 5 1 1 p.snd.length p.snd,ab.mp false [Ck.s] (Ck.i i64) l]) λl=>aa none l.head? λx=>aa none (T.int? i64 x)
 λm=>aa none (List.drop 1 l).head? λx=>aa none (aN x) λp=>aa none (List.drop 1 l).tail.head? λx=>aa none ((List.drop 2 (List.drop 1 l)).head?.bind λz=>aL z) λl=>bif decide
 (i64.wrap (a+ (1:Int)) < (↑b.length:Int)) then aa none (if(0:Int)<=a/\a < (↑b.length:Int) then some () else none) λx=>aa none b[a.toNat]? λr=>aa none r.head? λx=>aa
 none (T.int? i64 x) λw=>aa none (if(0:Int)<=a/\a < (↑d.length:Int) then some () else none) λx=>aa none d[a.toNat]? λu=>aa none u.head? λx=>aa none (T.int? i64
 x) λy=>aa none (O (Key.call 67) [AV.ref (Id.c 0) 0,I w,I y] [ab.box [AV.own (Id.c 1),AV.own (Id.c 2)],ab.rows p.fst 5 1 1 p.snd.length p.snd,ab.mp false [Ck.s] (Ck.i i64) l]) λl=>aa none
 l.head? λx=>aa none (T.int? i64 x) λA=>aa none (List.drop 1 l).head? λx=>aa none (aN x) λp=>aa none (List.drop 1 l).tail.head? λx=>aa none ((List.drop 2 (List.drop 1
 l)).head?.bind λz=>aL z) λl=>aa none (O (Key.call 67) [AV.ref (Id.c 0) 0,I n,I k] [ab.box [AV.own (Id.c 1),AV.own (Id.c 2)],ab.rows p.fst 5 1 1 p.snd.length p.snd,ab.mp false [Ck.s] (Ck.i
 i64) l]) λl=>aa none l.head? λx=>aa none (T.int? i64 x) λn=>aa none (List.drop 1 l).head? λx=>aa none (aN x) λp=>aa none (List.drop 1 l).tail.head? λx=>aa none
 ((List.drop 2 (List.drop 1 l)).head?.bind λz=>aL z) λl=>aa none (O (Key.call 68) [AV.ref (Id.c 0) 0,AV.t (T.int i64 A),AV.t (T.int i64 n)] [ab.box [AV.own (Id.c 1),AV.own (Id.c 2)],
 ab.rows p.fst 5 1 1 p.snd.length p.snd,ab.mp false [Ck.s] (Ck.i i64) l]) λl=>aa none l.head? λx=>aa none (T.int? i64 x) λn=>aa none (List.drop 1 l).head? λx=>aa none (aN x)
 λp=>aa none (List.drop 1 l).tail.head? λx=>aa none ((List.drop (2:Nat) (List.drop (1:Nat) l)).head?.bind λz=>aL z) λl=>O (bZ ao 70 true 4 [((0:Nat),none),((1:Nat),none),((2:
 Nat),none),((7:Nat),none),((8:Nat),none),((14:Nat),none),((15:Nat),none)] ((3:Nat),(2002:Nat))) [AV.ref (Id.c (0:Nat)) (0:Nat),AV.t (T.ad (1:Nat) h b),AV.t (T.ad (1:Nat) j d),AV.t
 (T.int i64 n),AV.own (Id.c (3:Nat)),AV.t (T.int i64 f),AV.t (T.int i64 (i64.wrap (a+ (1:Int))))] [ab.box [AV.own (Id.c (4:Nat)),AV.own (Id.c (2:Nat))],ab.dead,ab.mp
 false [Ck.s] (Ck.i i64) l,ab.sl false (1:Nat) (e && false) [[T.int i64 m]],ab.rows p.fst (5:Nat) (1:Nat) (1:Nat) p.snd.length p.snd] else O nv [AV.ref (Id.c 0) 0,AV.t (T.ad 1 h
 b),AV.t (T.ad 1 j d),I k,AV.own (Id.c 3),I f,I (i64.wrap (a+ (1:Int)))] [ab.box [AV.own (Id.c 4),AV.own (Id.c 2)],ab.dead,ab.mp false [Ck.s] (Ck.i i64) l,ab.sl false 1 (e &&
 false) [[T.int i64 m]],ab.rows p.fst 5 1 1 p.snd.length p.snd] else aa none (if aX c3=true then some () else none) λx=>some [T.af e,be g c3,T.ak,ba q]):=by kernel_rfl
theorem Av(O:ax)(e:Bool)(o:List (List T))(g:Bool)(q:List (List T))(f:Bool)(b:List (List T))(j:Int)(a:Int)(m:List (List T×T))(d:Bool)(k:Nat)(c3:List Row):aA ao ann O oE [(AV.ref (Id.c 0) 0),(AV.t (T.ad 1 e o)),(AV.t (T.ad 1 g q)),(AV.t (T.ad 1 f b)),(I j),(I a)] [(ab.box [(AV.own (Id.c 3)),(AV.own (Id.c 2))]),(Go.Aev.ab.dead),(ab.mp false [Ck.s] (Ck.i i64) m),(ab.rows d 5 1 1 k c3)]=
 (bif decide (a < j) then aa none (if(0:Int)<=a/\a < (↑b.length:Int) then some () else none) λx=>aa none b[a.toNat]? λl=>aa none l.head? λx=>aa none (T.int? i64 x) λn=>
 aa none (O (Key.call 72) [AV.ref (Id.c 0) 0,AV.t (T.ad 1 e o),I a] [ab.box [AV.own (Id.c 1),AV.own (Id.c 2)],ab.rows d 5 1 1 k c3,ab.mp false [Ck.s] (Ck.i i64) m]) λl=>aa none l.head? fun
 x=>aa none (T.au 1 x) λp=>aa none (List.drop 1 l).head? λx=>aa none (aN x) λh=>aa none (List.drop 1 l).tail.head? λx=>aa none ((List.drop 2 (List.drop 1 l)).head?.bind λz=>aL z)
 λl=>O nw [AV.ref (Id.c 0) 0,AV.t (T.ad 1 e o),AV.t (T.ad 1 g q),I n,AV.t (T.af true),AV.t (T.ad 1 f b),I j,I a,AV.t (T.ad 1 p.fst p.snd),I (↑p.snd.length:Int),I (0:Int)]
 [ab.box [AV.own (Id.c 3),AV.own (Id.c 2)],ab.dead,ab.mp false [Ck.s] (Ck.i i64) l,ab.rows h.fst 5 1 1 h.snd.length h.snd] else aa none (if aX c3=true then some () else none) λx=>some
 [T.ad 1 g q,be d c3,T.ak,ba m]):=by kernel_rfl
theorem vP(O:ax)(h:Bool)(j:List (List T))(b:Int)(e:Bool)(f:Int)(a:Int)(d:Bool)(k:Nat)(g:List Row)(m:List (List T×T)):aA ao ann O iD [(AV.ref (Id.c 0) 0),(AV.t (T.ad 1 h j)),(I b),(AV.t (T.af e)),(I f),(I a)] [(ab.box [(AV.own (Id.c 1)),(AV.own (Id.c 2))]),(ab.rows d 5 1 1 k g),(ab.mp false [Ck.s] (Ck.i i64) m)]=
 (bif decide (a < f) then bif decide (a < b) then aa none (O (Key.call 65) [AV.ref (Id.c 0) 0,B false] [ab.box [AV.own (Id.c 1),AV.own (Id.c 2)],ab.rows d 5 1 1 k g,ab.mp false [Ck.s] (Ck.i i64)
 m]) λl=>aa none l.head? λx=>aa none (T.int? i64 x) λn=>aa none (List.drop 1 l).head? λx=>aa none (aN x) λp=>aa none (List.drop 1 l).tail.head? λx=>aa none ((List.drop 2
 (List.drop 1 l)).head?.bind λz=>aL z) λl=>O iD [AV.ref (Id.c 0) 0,AV.t (T.ad 1 h j),I b,AV.own (Id.c 3),I f,I (i64.wrap (a+ (1:Int)))] [ab.box [AV.own (Id.c 4),AV.own (Id.c 2)],
 ab.dead,ab.mp false [Ck.s] (Ck.i i64) l,ab.sl false 1 (e && false) [[T.int i64 n]],ab.rows p.fst 5 1 1 p.snd.length p.snd] else aa none (if(0:Int)<=i64.wrap (a - b)/\
 i64.wrap (a - b) < (↑j.length:Int) then some () else none) λx=>aa none j[(i64.wrap (a - b)).toNat]? λl=>aa none l.head? λx=>aa none (T.int? i64 x) λn=>O iD
 [AV.ref (Id.c 0) 0,AV.t (T.ad 1 h j),I b,AV.own (Id.c 3),I f,I (i64.wrap (a+ (1:Int)))] [ab.box [AV.own (Id.c 1),AV.own (Id.c 2)],ab.rows d 5 1 1 k g,ab.mp false [Ck.s] (Ck.i
 i64) m,ab.sl false 1 (e && false) [[T.int i64 n]]] else aa none (if aX g=true then some () else none) λx=>some [T.af e,be d g,T.ak,ba m]):=by kernel_rfl
theorem z8(O:ax)(o:Int)(a:Int)(j:Bool)(p:Nat)(q:List Row)(k:Bool)(h:List (List T))(b:Bool)(g:List (List T))(d:Bool)(e:Bool)(f:Bool)(m:Bool)(i:List (List T)):aA ao ann O sd [(AV.ref (Id.c 2) 0),(AV.ref (Id.c 3) 0),(AV.own (Id.c 4)),(AV.own (Id.c 1)),(I o),(I a)] [(ab.rows j 5 1 1 p q),(ab.sl false 1 k h),(ab.box [(AV.t (T.ad 3 b g)),(AV.own (Id.c 0)),(AV.own (Id.c 1))]),(ab.box [(AV.t (T.af d)),(AV.t (T.af e)),(AV.t (T.af f))]),(ab.sl false 1 m i)]=
 (bif decide (a < o) then aa none (if(0:Int)<=a/\a < (↑h.length:Int) then some () else none) λx=>aa none h[a.toNat]? λl=>aa none l.head? λx=>aa none (T.int? i64 x) λn=>aa
 none (if(0:Int)<=n/\n < (↑i.length:Int) then some () else none) λx=>aa none (fV n.toNat 0 [T.bool true] i) λl=>O sd [AV.ref (Id.c 2) 0,AV.ref (Id.c 3) 0,AV.own (Id.c 4),AV.own (Id.c 1),I
 o,I (i64.wrap (a+ (1:Int)))] [ab.rows j 5 1 1 p q,ab.sl false 1 k h,ab.box [AV.t (T.ad 3 b g),AV.own (Id.c 0),AV.own (Id.c 1)],ab.box [AV.t (T.af d),AV.t (T.af e),AV.t
 (T.af f)],ab.sl false 1 m l] else O kO [AV.ref (Id.c 2) 0,AV.ref (Id.c 3) 0,AV.own (Id.c 4),I (i64.wrap ((↑i.length:Int) - (1:Int)))] [ab.rows j 5 1 1 p q,ab.sl false 1 k h,
 ab.box [AV.t (T.ad 3 b g),AV.own (Id.c 0),AV.own (Id.c 1)],ab.box [AV.t (T.af d),AV.t (T.af e),AV.t (T.af f)],ab.sl false 1 m i]):=by kernel_rfl
theorem Ay(O:ax)(g:Bool)(b:List (List T))(h:Bool)(d:List (List T))(m:Int)(f:Int)(a:Int)(k:List (List T×T))(e:Bool)(j:Nat)(c3:List Row):aA ao ann O uR [(AV.ref (Id.c 0) 0),(AV.t (T.ad 1 g b)),(AV.t (T.ad 1 h d)),(I m),(I f),(I a)] [(ab.box [(AV.own (Id.c 3)),(AV.own (Id.c 2))]),(Go.Aev.ab.dead),(ab.mp false [Ck.s] (Ck.i i64) k),(ab.rows e 5 1 1 j c3)]=
 (bif decide (a < f) then aa none (if(0:Int)<=a/\a < (↑b.length:Int) then some () else none) λx=>aa none b[a.toNat]? λl=>aa none l.head? λx=>aa none (T.int? i64 x) λn=>aa
 none (O (Key.call 66) [AV.ref (Id.c 0) 0,I n] [ab.box [AV.own (Id.c 1),AV.own (Id.c 2)],ab.rows e 5 1 1 j c3,ab.mp false [Ck.s] (Ck.i i64) k]) λl=>aa none l.head? λx=>aa none (T.int?
 i64 x) λn=>aa none (List.drop 1 l).head? λx=>aa none (aN x) λp=>aa none (List.drop 1 l).tail.head? λx=>aa none ((List.drop 2 (List.drop 1 l)).head?.bind λz=>aL z) λl=>aa
 none (if(0:Int)<=a/\a < (↑d.length:Int) then some () else none) λx=>aa none d[a.toNat]? λo=>aa none o.head? λx=>aa none (T.int? i64 x) λu=>aa none (O (Key.call 67)
 [AV.ref (Id.c 0) 0,I n,I u] [ab.box [AV.own (Id.c 1),AV.own (Id.c 2)],ab.rows p.fst 5 1 1 p.snd.length p.snd,ab.mp false [Ck.s] (Ck.i i64) l]) λl=>aa none l.head? λx=>aa none (T.int?
 i64 x) λn=>aa none (List.drop 1 l).head? λx=>aa none (aN x) λp=>aa none (List.drop 1 l).tail.head? λx=>aa none ((List.drop 2 (List.drop 1 l)).head?.bind λz=>aL z) λl=>aa
 none (if(0:Int)<=a/\a < (↑b.length:Int) then some () else none) λx=>aa none b[a.toNat]? λq=>aa none q.head? λx=>aa none (T.int? i64 x) λv=>aa none (if(0:Int)<=a/\
 a < (↑d.length:Int) then some () else none) λx=>aa none d[a.toNat]? λr=>aa none r.head? λx=>aa none (T.int? i64 x) λw=>aa none (O (Key.call 74) [AV.ref (Id.c 0) 0,I v,I
 w] [ab.box [AV.own (Id.c 1),AV.own (Id.c 2)],ab.rows p.fst 5 1 1 p.snd.length p.snd,ab.mp false [Ck.s] (Ck.i i64) l]) λl=>aa none l.head? λx=>aa none (T.int? i64 x) λy=>aa none
 (List.drop 1 l).head? λx=>aa none (aN x) λp=>aa none (List.drop 1 l).tail.head? λx=>aa none ((List.drop 2 (List.drop 1 l)).head?.bind λz=>aL z) λl=>aa none (O (Key.call 67) [AV.ref (Id.c
 0) 0,I y,I m] [ab.box [AV.own (Id.c 1),AV.own (Id.c 2)],ab.rows p.fst 5 1 1 p.snd.length p.snd,ab.mp false [Ck.s] (Ck.i i64) l]) λl=>aa none l.head? λx=>aa none (T.int? i64 x) fun
 A=>aa none (List.drop 1 l).head? λx=>aa none (aN x) λp=>aa none (List.drop 1 l).tail.head? λx=>aa none ((List.drop 2 (List.drop 1 l)).head?.bind λz=>aL z) λl=>aa none (O (Key.call
 68) [AV.ref (Id.c 0) 0,AV.t (T.int i64 n),AV.t (T.int i64 A)] [ab.box [AV.own (Id.c 1),AV.own (Id.c 2)],ab.rows p.fst 5 1 1 p.snd.length p.snd,ab.mp false [Ck.s] (Ck.i i64) l]) λl=>
 aa none l.head? λx=>aa none (T.int? i64 x) λn=>aa none (List.drop 1 l).head? λx=>aa none (aN x) λp=>aa none (List.drop 1 l).tail.head? λx=>aa none ((List.drop (2:Nat) (List.drop
 (1:Nat) l)).head?.bind λz=>aL z) λl=>O (bZ ao 73 true 3 [(0,none),((1:Nat),none),((2:Nat),none),((7:Nat),none),((12:Nat),none),((13:Nat),none)] (3,(2002:Nat))) [AV.ref (Id.c (0
 :Nat)) 0,AV.t (T.ad (1:Nat) g b),AV.t (T.ad (1:Nat) h d),AV.t (T.int i64 n),AV.t (T.int i64 f),AV.t (T.int i64 (i64.wrap (a+ (1:Int))))] [ab.box [AV.own (Id.c (3:
 Nat)),AV.own (Id.c (2:Nat))],ab.dead,ab.mp false [Ck.s] (Ck.i i64) l,ab.rows p.fst 5 1 1 p.snd.length p.snd] else aa none (if aX c3=true then some () else none) λx=>some [T.int i64 m,
 be e c3,T.ak,ba k]):=by kernel_rfl
theorem GA(O:ax)(j:Int)(a:ByteArray)(k:Int)(a4:Int)(d:Bool)(e:List (List T))(f:Bool)(h:Nat)(m:List Row)(n:List (List T×T)):aA ao ann O (Key.call 61) [(AV.ref (Id.c 0) 0),(I j),(AV.t (T.str a)),(I k),(I a4),(AV.t (T.ad 1 d e))] [(ab.box [(AV.own (Id.c 1)),(AV.own (Id.c 2))]),(ab.rows f 5 1 1 h m),(ab.mp false [Ck.s] (Ck.i i64) n)]=
 (aa none (O (Key.call 59) [I j] []) λl=>aa none l.head? λx=>aa none x.a8 λs=>aa none (if s.size+1<=4294967296 then some () else none) λx=>aa none (if(s++ (ByteArray.mk #[(32:
 UInt8)])).size+a.size<=4294967296 then some () else none) λx=>aa none (if(s++ (ByteArray.mk #[(32:UInt8)])++a).size+1<=4294967296 then some () else none) λx=>aa none (O (Key.call 59) [I k] [])
 λl=>aa none l.head? λx=>aa none x.a8 λb=>aa none (if(s++ (ByteArray.mk #[(32:UInt8)])++a++ (ByteArray.mk #[(32:UInt8)])).size+b.size<=4294967296 then some () else none) λx=>aa
 none (if(s++ (ByteArray.mk #[(32:UInt8)])++a++ (ByteArray.mk #[(32:UInt8)])++b).size+1<=4294967296 then some () else none) λx=>aa none (O (Key.call 59) [I a4] []) λl=>aa none l.head? λx=>
 aa none x.a8 λg=>aa none (if(s++ (ByteArray.mk #[(32:UInt8)])++a++ (ByteArray.mk #[(32:UInt8)])++b++ (ByteArray.mk #[(32:UInt8)])).size+g.size<=4294967296 then some () else none) λx=>
 O sq [AV.ref (Id.c 0) 0,I j,AV.t (T.str a),I k,I a4,AV.t (T.ad 1 d e),AV.t (T.str (s++ (ByteArray.mk #[(32:UInt8)])++a++ (ByteArray.mk #[(32:UInt8)])++b++ (ByteArray.mk #[(32:UInt8)])++
 g)),AV.t (T.ad 1 d e),I (↑e.length:Int),I (0:Int)] [ab.box [AV.own (Id.c 1),AV.own (Id.c 2)],ab.rows f 5 1 1 h m,ab.mp false [Ck.s] (Ck.i i64) n]):=by kernel_rfl
theorem Ap(O:ax)(j:Bool)(g:List (List T))(k:Bool)(h:List (List T))(d:Bool)(e:Int)(a:Int)(b:Bool)(m:Nat)(f:List Row)(o:List (List T×T)):aA ao ann O dJ [(AV.t (T.ad 1 j g)),(AV.t (T.ad 1 k h)),(AV.fn 74 [(AV.ref (Id.c 0) 0)] []),(AV.t (T.af d)),(I e),(I a)] [(ab.box [(AV.own (Id.c 1)),(AV.own (Id.c 2))]),(ab.rows b 5 1 1 m f),(ab.mp false [Ck.s] (Ck.i i64) o)]=
 (bif decide (a < e) then aa none (if(0:Int)<=a/\a < (↑g.length:Int) then some () else none) λx=>aa none g[a.toNat]? λl=>aa none l.head? λx=>aa none (T.int? i64 x) λn=>aa
 none (if(0:Int)<=a/\a < (↑h.length:Int) then some () else none) λx=>aa none h[a.toNat]? λl=>aa none l.head? λx=>aa none (T.int? i64 x) λq=>aa none (O (Key.call 74) [AV.ref
 (Id.c 0) 0,I n,I q] [ab.box [AV.own (Id.c 1),AV.own (Id.c 2)],ab.rows b 5 1 1 m f,ab.mp false [Ck.s] (Ck.i i64) o]) λl=>aa none l.head? λx=>aa none (T.int? i64 x) λn=>aa
 none (List.drop 1 l).head? λx=>aa none (aN x) λp=>aa none (List.drop 1 l).tail.head? λx=>aa none ((List.drop 2 (List.drop 1 l)).head?.bind λz=>aL z) λl=>O dJ [AV.t (T.ad 1 j g),
 AV.t (T.ad 1 k h),AV.fn 74 [AV.ref (Id.c 0) 0] [],AV.own (Id.c 3),I e,I (i64.wrap (a+ (1:Int)))] [ab.box [AV.own (Id.c 4),AV.own (Id.c 2)],ab.dead,ab.mp false [Ck.s] (Ck.i i64) l,
 ab.sl false 1 (d && false) [[T.int i64 n]],ab.rows p.fst 5 1 1 p.snd.length p.snd] else aa none (if aX f=true then some () else none) λx=>some [T.af d,be b f,T.ak,ba o]):=by kernel_rfl
theorem GN(O:ax)(d:Int)(a:Int)(e:Bool)(f:Nat)(g:List Row)(h:List (List T×T)):aA ao ann O (Key.call 67) [(AV.ref (Id.c 0) 0),(I d),(I a)] [(ab.box [(AV.own (Id.c 1)),(AV.own (Id.c 2))]),(ab.rows e 5 1 1 f g),(ab.mp false [Ck.s] (Ck.i i64) h)]=
 (aa none (O (Key.call 93) [AV.ref (Id.c 0) 0,I d,I (2:Int)] [ab.box [AV.own (Id.c 1),AV.own (Id.c 2)],ab.rows e 5 1 1 f g,ab.mp false [Ck.s] (Ck.i i64) h]) λl=>aa none l.head? λx=>aa
 none x.bool? λb=>aa none (List.drop 1 l).head? λx=>aa none (aN x) λp=>aa none (List.drop 1 l).tail.head? λx=>aa none ((List.drop 2 (List.drop 1 l)).head?.bind λz=>aL z) λl=>bif b
 then bif b then aa none (if aX p.snd=true then some () else none) λx=>some [T.int i64 d,be p.fst p.snd,T.ak,ba l] else aa none (O (Key.call 93) [AV.ref (Id.c 0) 0,I d,I (1:Int)]
 [ab.box [AV.own (Id.c 1),AV.own (Id.c 2)],ab.rows p.fst 5 1 1 p.snd.length p.snd,ab.mp false [Ck.s] (Ck.i i64) l]) λl=>aa none l.head? λx=>aa none x.bool? λb=>aa none (List.drop 1 l).head?
 λx=>aa none (aN x) λp=>aa none (List.drop 1 l).tail.head? λx=>aa none ((List.drop 2 (List.drop 1 l)).head?.bind λz=>aL z) λl=>bif b then bif b then aa none (if aX p.snd=true then
 some () else none) λx=>some [T.int i64 a,be p.fst p.snd,T.ak,ba l] else aa none (O (Key.call 61) [AV.ref (Id.c 0) 0,I (4:Int),AV.t (T.str (ByteArray.mk #[])),I (0:Int),I (0:Int),AV.t
 (T.ad 1 false [[T.int i64 d],[T.int i64 a]])] [ab.box [AV.own (Id.c 1),AV.own (Id.c 2)],ab.rows p.fst 5 1 1 p.snd.length p.snd,ab.mp false [Ck.s] (Ck.i i64) l]) λl=>aa none l.head?
 λx=>aa none (T.int? i64 x) λn=>aa none (List.drop 1 l).head? λx=>aa none (aN x) λp=>aa none (List.drop 1 l).tail.head? λx=>aa none ((List.drop 2 (List.drop 1 l)).head?.bind λz
 =>aL z) λl=>aa none (if aX p.snd=true then some () else none) λx=>some [T.int i64 n,be p.fst p.snd,T.ak,ba l] else aa none (O (Key.call 93) [AV.ref (Id.c 0) 0,I a,I (2:Int)]
 [ab.box [AV.own (Id.c 1),AV.own (Id.c 2)],ab.rows p.fst 5 1 1 p.snd.length p.snd,ab.mp false [Ck.s] (Ck.i i64) l]) λl=>aa none l.head? λx=>aa none x.bool? λb=>aa none (List.drop 1 l).head?
 λx=>aa none (aN x) λp=>aa none (List.drop 1 l).tail.head? λx=>aa none ((List.drop 2 (List.drop 1 l)).head?.bind λz=>aL z) λl=>bif b then aa none (if aX p.snd=true then some () else
 none) λx=>some [T.int i64 a,be p.fst p.snd,T.ak,ba l] else aa none (O (Key.call 61) [AV.ref (Id.c 0) 0,I (4:Int),AV.t (T.str (ByteArray.mk #[])),I (0:Int),I (0:Int),AV.t (T.ad 1 false
 [[T.int i64 d],[T.int i64 a]])] [ab.box [AV.own (Id.c 1),AV.own (Id.c 2)],ab.rows p.fst 5 1 1 p.snd.length p.snd,ab.mp false [Ck.s] (Ck.i i64) l]) λl=>aa none l.head? λx=>aa
 none (T.int? i64 x) λn=>aa none (List.drop 1 l).head? λx=>aa none (aN x) λp=>aa none (List.drop 1 l).tail.head? λx=>aa none ((List.drop 2 (List.drop 1 l)).head?.bind λz=>aL z) fun
 l=>aa none (if aX p.snd=true then some () else none) λx=>some [T.int i64 n,be p.fst p.snd,T.ak,ba l] else aa none (O (Key.call 93) [AV.ref (Id.c 0) 0,I a,I (1:Int)] [ab.box [AV.own
 (Id.c 1),AV.own (Id.c 2)],ab.rows p.fst 5 1 1 p.snd.length p.snd,ab.mp false [Ck.s] (Ck.i i64) l]) λl=>aa none l.head? λx=>aa none x.bool? λb=>aa none (List.drop 1 l).head? λx=>aa none
 (aN x) λp=>aa none (List.drop 1 l).tail.head? λx=>aa none ((List.drop 2 (List.drop 1 l)).head?.bind λz=>aL z) λl=>bif b then bif b then aa none (if aX p.snd=true then some () else none)
 λx=>some [T.int i64 d,be p.fst p.snd,T.ak,ba l] else aa none (O (Key.call 93) [AV.ref (Id.c 0) 0,I d,I (1:Int)] [ab.box [AV.own (Id.c 1),AV.own (Id.c 2)],ab.rows p.fst 5 1 1 p.snd.length
 p.snd,ab.mp false [Ck.s] (Ck.i i64) l]) λl=>aa none l.head? λx=>aa none x.bool? λb=>aa none (List.drop 1 l).head? λx=>aa none (aN x) λp=>aa none (List.drop 1 l).tail.head? λx
 =>aa none ((List.drop 2 (List.drop 1 l)).head?.bind λz=>aL z) λl=>bif b then bif b then aa none (if aX p.snd=true then some () else none) λx=>some [T.int i64 a,be p.fst p.snd,
 T.ak,ba l] else aa none (O (Key.call 61) [AV.ref (Id.c 0) 0,I (4:Int),AV.t (T.str (ByteArray.mk #[])),I (0:Int),I (0:Int),AV.t (T.ad 1 false [[T.int i64 d],[T.int i64 a]])] [ab.box
 [AV.own (Id.c 1),AV.own (Id.c 2)],ab.rows p.fst 5 1 1 p.snd.length p.snd,ab.mp false [Ck.s] (Ck.i i64) l]) λl=>aa none l.head? λx=>aa none (T.int? i64 x) λn=>aa none (List.drop 1
 l).head? λx=>aa none (aN x) λp=>aa none (List.drop 1 l).tail.head? λx=>aa none ((List.drop 2 (List.drop 1 l)).head?.bind λz=>aL z) λl=>aa none (if aX p.snd=true then some () else
 none) λx=>some [T.int i64 n,be p.fst p.snd,T.ak,ba l] else aa none (O (Key.call 93) [AV.ref (Id.c 0) 0,I a,I (2:Int)] [ab.box [AV.own (Id.c 1),AV.own (Id.c 2)],ab.rows p.fst 5 1 1
 p.snd.length p.snd,ab.mp false [Ck.s] (Ck.i i64) l]) λl=>aa none l.head? λx=>aa none x.bool? λb=>aa none (List.drop 1 l).head? λx=>aa none (aN x) λp=>aa none (List.drop 1
 l).tail.head? λx=>aa none ((List.drop 2 (List.drop 1 l)).head?.bind λz=>aL z) λl=>bif b then aa none (if aX p.snd=true then some () else none) λx=>some [T.int i64 a,be p.fst
 p.snd,T.ak,ba l] else aa none (O (Key.call 61) [AV.ref (Id.c 0) 0,I (4:Int),AV.t (T.str (ByteArray.mk #[])),I (0:Int),I (0:Int),AV.t (T.ad 1 false [[T.int i64 d],[T.int i64 a]])]
 [ab.box [AV.own (Id.c 1),AV.own (Id.c 2)],ab.rows p.fst 5 1 1 p.snd.length p.snd,ab.mp false [Ck.s] (Ck.i i64) l]) λl=>aa none l.head? λx=>aa none (T.int? i64 x) λn=>aa none
 (List.drop 1 l).head? λx=>aa none (aN x) λp=>aa none (List.drop 1 l).tail.head? λx=>aa none ((List.drop 2 (List.drop 1 l)).head?.bind λz=>aL z) λl=>aa none (if aX p.snd=true then
 some () else none) λx=>some [T.int i64 n,be p.fst p.snd,T.ak,ba l] else bif d==a then aa none (if aX p.snd=true then some () else none) λx=>some [T.int i64 d,be p.fst
 p.snd,T.ak,ba l] else aa none (O (Key.call 93) [AV.ref (Id.c 0) 0,I d,I (1:Int)] [ab.box [AV.own (Id.c 1),AV.own (Id.c 2)],ab.rows p.fst 5 1 1 p.snd.length p.snd,ab.mp false [Ck.s] (Ck.i i64) l])
 λl=>aa none l.head? λx=>aa none x.bool? λb=>aa none (List.drop 1 l).head? λx=>aa none (aN x) λp=>aa none (List.drop 1 l).tail.head? λx=>aa none ((List.drop 2 (List.drop 1
 l)).head?.bind λz=>aL z) λl=>bif b then bif b then aa none (if aX p.snd=true then some () else none) λx=>some [T.int i64 a,be p.fst p.snd,T.ak,ba l] else aa none (O (Key.call
 61) [AV.ref (Id.c 0) 0,I (4:Int),AV.t (T.str (ByteArray.mk #[])),I (0:Int),I (0:Int),AV.t (T.ad 1 false [[T.int i64 d],[T.int i64 a]])] [ab.box [AV.own (Id.c 1),AV.own (Id.c 2)],ab.rows
 p.fst 5 1 1 p.snd.length p.snd,ab.mp false [Ck.s] (Ck.i i64) l]) λl=>aa none l.head? λx=>aa none (T.int? i64 x) λn=>aa none (List.drop 1 l).head? λx=>aa none (aN x) λp=>
 aa none (List.drop 1 l).tail.head? λx=>aa none ((List.drop 2 (List.drop 1 l)).head?.bind λz=>aL z) λl=>aa none (if aX p.snd=true then some () else none) λx=>some [T.int i64 n,be
 p.fst p.snd,T.ak,ba l] else aa none (O (Key.call 93) [AV.ref (Id.c 0) 0,I a,I (2:Int)] [ab.box [AV.own (Id.c 1),AV.own (Id.c 2)],ab.rows p.fst 5 1 1 p.snd.length p.snd,ab.mp false [Ck.s] (Ck.i
 i64) l]) λl=>aa none l.head? λx=>aa none x.bool? λb=>aa none (List.drop 1 l).head? λx=>aa none (aN x) λp=>aa none (List.drop 1 l).tail.head? λx=>aa none ((List.drop 2
 (List.drop 1 l)).head?.bind λz=>aL z) λl=>bif b then aa none (if aX p.snd=true then some () else none) λx=>some [T.int i64 a,be p.fst p.snd,T.ak,ba l] else aa none (O (Key.call
 61) [AV.ref (Id.c 0) 0,I (4:Int),AV.t (T.str (ByteArray.mk #[])),I (0:Int),I (0:Int),AV.t (T.ad 1 false [[T.int i64 d],[T.int i64 a]])] [ab.box [AV.own (Id.c 1),AV.own (Id.c 2)],ab.rows
 p.fst 5 1 1 p.snd.length p.snd,ab.mp false [Ck.s] (Ck.i i64) l]) λl=>aa none l.head? λx=>aa none (T.int? i64 x) λn=>aa none (List.drop 1 l).head? λx=>aa none (aN x) λp=>
 aa none (List.drop 1 l).tail.head? λx=>aa none ((List.drop 2 (List.drop 1 l)).head?.bind λz=>aL z) λl=>aa none (if aX p.snd=true then some () else none) λx=>some [T.int i64 n,be
 p.fst p.snd,T.ak,ba l]):=by kernel_rfl
theorem zX(O:ax)(A:Bool)(g:List (List T))(w:Int)(a:Int)(b:Bool)(h:List (List T))(d:Bool)(j:List (List T))(e:Bool)(k:List (List T))(m:ByteArray)(f:Bool)(o:List (List T))(C:Bool)(H:List (List T))(D:Bool)(c3:List (List T))(E:Bool)(G:Nat)(J:List Row)(K:List (List T×T))(q:Int)(y:Bool)(B:List (List T))(r:Int)(u:Int)(v:ByteArray)(F:Bool)(c7:List (List T)):aA ao ann O nr [(AV.ref (Id.c 0) 0),(AV.ref (Id.c 6) 0),(AV.own (Id.c 7)),(AV.t (T.ad 1 A g)),(I w),(I a)] [(ab.box [(AV.ref (Id.c 1) 0),(AV.t (T.ad 3 b h)),(AV.t (T.ad 5 d j)),(AV.t (T.ad 1 e k)),(AV.t (T.str m)),(AV.t (T.ad 1 f o)),(AV.own (Id.c 2)),(AV.own (Id.c 3))]),(ab.box [(AV.own (Id.c 4)),(AV.own (Id.c 5))]),(ab.sl false 1 C H),(ab.sl false 1 D c3),(ab.rows E 5 1 1 G J),(ab.mp false [Ck.s] (Ck.i i64) K),(ab.box [(I q),(AV.t (T.ad 1 y B)),(I r),(I u),(AV.t (T.str v))]),(ab.sl false 1 F c7)]=
 (bif decide (a < w) then aa none (if(0:Int)<=a/\a < (↑g.length:Int) then some () else none) λx=>aa none g[a.toNat]? λl=>aa none l.head? λx=>aa none (T.int? i64 x) fun
 n=>aa none (if(0:Int)<=n/\n < (↑c3.length:Int) then some () else none) λx=>aa none c3[n.toNat]? λl=>aa none l.head? λx=>aa none (T.int? i64 x) λn=>aa none (bp 8 (c7.length+
 [[T.int i64 n]].length)) λx=>O nr [AV.ref (Id.c 0) 0,AV.ref (Id.c 6) 0,AV.own (Id.c 7),AV.t (T.ad 1 A g),I w,I (i64.wrap (a+ (1:Int)))] [ab.box [AV.ref (Id.c 1) 0,AV.t
 (T.ad 3 b h),AV.t (T.ad 5 d j),AV.t (T.ad 1 e k),AV.t (T.str m),AV.t (T.ad 1 f o),AV.own (Id.c 2),AV.own (Id.c 3)],ab.box [AV.own (Id.c 4),AV.own (Id.c 5)],ab.sl false 1 C
 H,ab.sl false 1 D c3,ab.rows E 5 1 1 G J,ab.mp false [Ck.s] (Ck.i i64) K,ab.box [I q,AV.t (T.ad 1 y B),I r,I u,AV.t (T.str v)],ab.sl false 1 (F && false) (c7++ [[T.int
 i64 n]])] else aa none (O (Key.call 61) [AV.ref (Id.c 0) 0,I q,AV.t (T.str v),I r,I u,AV.t (T.ad 1 F c7)] [ab.box [AV.own (Id.c 1),AV.own (Id.c 2)],ab.rows E 5 1 1 G J,ab.mp false
 [Ck.s] (Ck.i i64) K]) λl=>aa none l.head? λx=>aa none (T.int? i64 x) λn=>aa none (List.drop 1 l).head? λx=>aa none (aN x) λp=>aa none (List.drop 1 l).tail.head? λx=>
 aa none ((List.drop 2 (List.drop 1 l)).head?.bind λz=>aL z) λl=>aa none (if aX p.snd=true then some () else none) λx=>some [T.int i64 n,T.ak,T.ad 3 b h,T.ad 5 d j,
 T.ad 1 e k,T.str m,T.ad 1 f o,T.ak,T.ak,be p.fst p.snd,T.ak,T.ad 1 C H,T.ad 1 D c3,ba l]):=by kernel_rfl
theorem Gx(O:ax)(a:ByteArray)(c:Bool)(d:List (List T))(e:Int)(f:ByteArray):aA ao ann O (Key.call 57) [(AV.agg [(AV.t (T.str a)),(AV.t (T.ad 1 c d)),(I e)]),(AV.t (T.ptr [(T.str f)]))] []=
 (aa none (O (Key.call 58) [AV.t (T.str a),AV.t (T.str f)] []) λl=>aa none l.head? λx=>aa none x.a8 λs=>aa none l.tail.head? λx=>aa none x.bool? λb=>aa (some (bif b then !s.toList==
 (ByteArray.mk #[]).toList else false)) (if(0:Int)<=(0:Int)/\(0:Int) < (↑s.size:Int) then some () else none) λx=>aa (some (bif b then !s.toList== (ByteArray.mk #[]).toList else false)) s.data.toList[0]?
 λx=>aa (some (bif bif b then !s.toList== (ByteArray.mk #[]).toList else false then decide ((↑x.toNat:Int)>=(48:Int)) else false)) (if(0:Int)<=(0:Int)/\(0:Int) < (↑s.size:Int) then some () else none)
 λh=>aa (some (bif bif b then !s.toList== (ByteArray.mk #[]).toList else false then decide ((↑x.toNat:Int)>=(48:Int)) else false)) s.data.toList[0]? λg=>some [T.bool (bif bif bif b then !s.toList==
 (ByteArray.mk #[]).toList else false then decide ((↑x.toNat:Int)>=(48:Int)) else false then decide ((↑g.toNat:Int)<=(57:Int)) else false)]):=by kernel_rfl
theorem Gi(O:ax)(D:Bool)(E:Int)(q:Int)(b:Bool)(f:List (List T))(d:Bool)(g:List (List T))(e:Bool)(h:List (List T))(a:ByteArray)(j:Bool)(k:List (List T))(y:Bool)(J:List (List T))(A:Bool)(c3:List (List T))(B:Bool)(H:Nat)(F:List Row)(K:List (List T×T))(r:Int)(o:Bool)(u:List (List T))(v:Int)(w:Int)(m:ByteArray)(C:Bool)(c8:List (List T)):aA ao ann O gE [(AV.ref (Id.c 6) 0),(AV.ref (Id.c 7) 0),(AV.t (T.af D)),(AV.own (Id.c 8)),(I E),(I q)] [(ab.box [(AV.ref (Id.c 1) 0),(AV.t (T.ad 3 b f)),(AV.t (T.ad 5 d g)),(AV.t (T.ad 1 e h)),(AV.t (T.str a)),(AV.t (T.ad 1 j k)),(AV.own (Id.c 2)),(AV.own (Id.c 3))]),(ab.box [(AV.own (Id.c 4)),(AV.own (Id.c 5))]),(ab.sl false 1 y J),(ab.sl false 1 A c3),(ab.rows B 5 1 1 H F),(ab.mp false [Ck.s] (Ck.i i64) K),(ab.box [(AV.ref (Id.c 0) 0)]),(ab.box [(I r),(AV.t (T.ad 1 o u)),(I v),(I w),(AV.t (T.str m))]),(ab.sl false 1 C c8)]=
 (bif decide (q < E) then aa none (O (Key.call 62) [AV.agg [AV.t (T.ad 3 b f),AV.t (T.ad 5 d g),AV.t (T.ad 1 e h)],AV.t (T.str m)] []) λl=>aa none l.head? λx=>aa none (T.int?
 i64 x) λn=>aa none (O (Key.call 59) [I n] []) λl=>aa none l.head? λx=>aa none x.a8 λs=>aa none (if a.size+s.size<=4294967296 then some () else none) λx=>aa none (if(a++
 s).size+1<=4294967296 then some () else none) λx=>aa none (O (Key.call 59) [I q] []) λl=>aa none l.head? λx=>aa none x.a8 λG=>aa none (if(a++s++ (ByteArray.mk #[(95:UInt8)])).size
 +G.size<=4294967296 then some () else none) λx=>aa none (O (Key.call 61) [AV.ref (Id.c 0) 0,I (9:Int),AV.t (T.str (a++s++ (ByteArray.mk #[(95:UInt8)])++G)),I (0:Int),I (0:Int),AV.t (T.ad
 1 C c8)] [ab.box [AV.own (Id.c 1),AV.own (Id.c 2)],ab.rows B 5 1 1 H F,ab.mp false [Ck.s] (Ck.i i64) K]) λl=>aa none l.head? λx=>aa none (T.int? i64 x) λn=>aa none
 (List.drop 1 l).head? λx=>aa none (aN x) λp=>aa none (List.drop 1 l).tail.head? λx=>aa none ((List.drop 2 (List.drop 1 l)).head?.bind λz=>aL z) λl=>O gE [AV.ref (Id.c 6) 0,AV.ref
 (Id.c 7) 0,AV.own (Id.c 8),AV.t (T.ad 1 C c8),I E,I (i64.wrap (q+ (1:Int)))] [ab.box [AV.ref (Id.c 1) 0,AV.t (T.ad 3 b f),AV.t (T.ad 5 d g),AV.t (T.ad 1 e h),AV.t (T.str
 a),AV.t (T.ad 1 j k),AV.own (Id.c 2),AV.own (Id.c 3)],ab.box [AV.own (Id.c 9),AV.own (Id.c 5)],ab.sl false 1 y J,ab.sl false 1 A c3,ab.dead,ab.mp false [Ck.s] (Ck.i i64) l,ab.box
 [AV.ref (Id.c 0) 0],ab.box [I r,AV.t (T.ad 1 o u),I v,I w,AV.t (T.str m)],ab.sl false 1 (D && false) [[T.int i64 n]],ab.rows p.fst 5 1 1 p.snd.length p.snd] else aa none (if aX
 F=true then some () else none) λx=>some [T.af D,T.ak,T.ad 3 b f,T.ad 5 d g,T.ad 1 e h,T.str a,T.ad 1 j k,T.ak,T.ak,be B F,T.ak,T.ad 1 y J,T.ad 1
 A c3,ba K]):=by kernel_rfl
theorem GB(O:ax)(a:Bool)(b:List (List T))(c:Bool)(e:List (List T))(d:Bool)(f:List (List T))(g:ByteArray):aA ao ann O (Key.call 62) [(AV.agg [(AV.t (T.ad 3 a b)),(AV.t (T.ad 5 c e)),(AV.t (T.ad 1 d f))]),(AV.t (T.str g))] []=
 (aa none (O (Key.call 89) [AV.t (T.ad 3 a b),AV.fn 92 [] [AV.t (T.ptr [T.str g])]] []) λl=>aa none l.head? λx=>aa none (T.int? i64 x) λn=>some [T.int i64 n]):=by kernel_rfl
theorem zQ(O:ax)(D:Bool)(E:Int)(q:Int)(b:Bool)(f:List (List T))(d:Bool)(g:List (List T))(e:Bool)(h:List (List T))(a:ByteArray)(j:Bool)(k:List (List T))(y:Bool)(J:List (List T))(A:Bool)(c3:List (List T))(K:List (List T×T))(r:Int)(o:Bool)(u:List (List T))(v:Int)(w:Int)(m:ByteArray)(B:Bool)(c8:List (List T))(C:Bool)(H:Nat)(F:List Row):aA ao ann O gE [(AV.ref (Id.c 6) 0),(AV.ref (Id.c 7) 0),(AV.own (Id.c 8)),(AV.t (T.af D)),(I E),(I q)] [(ab.box [(AV.ref (Id.c 1) 0),(AV.t (T.ad 3 b f)),(AV.t (T.ad 5 d g)),(AV.t (T.ad 1 e h)),(AV.t (T.str a)),(AV.t (T.ad 1 j k)),(AV.own (Id.c 2)),(AV.own (Id.c 3))]),(ab.box [(AV.own (Id.c 9)),(AV.own (Id.c 5))]),(ab.sl false 1 y J),(ab.sl false 1 A c3),(Go.Aev.ab.dead),(ab.mp false [Ck.s] (Ck.i i64) K),(ab.box [(AV.ref (Id.c 0) 0)]),(ab.box [(I r),(AV.t (T.ad 1 o u)),(I v),(I w),(AV.t (T.str m))]),(ab.sl false 1 B c8),(ab.rows C 5 1 1 H F)]=
 (bif decide (q < E) then aa none (O (Key.call 62) [AV.agg [AV.t (T.ad 3 b f),AV.t (T.ad 5 d g),AV.t (T.ad 1 e h)],AV.t (T.str m)] []) λl=>aa none l.head? λx=>aa none (T.int?
 i64 x) λn=>aa none (O (Key.call 59) [I n] []) λl=>aa none l.head? λx=>aa none x.a8 λs=>aa none (if a.size+s.size<=4294967296 then some () else none) λx=>aa none (if(a++
 s).size+1<=4294967296 then some () else none) λx=>aa none (O (Key.call 59) [I q] []) λl=>aa none l.head? λx=>aa none x.a8 λG=>aa none (if(a++s++ (ByteArray.mk #[(95:UInt8)])).size
 +G.size<=4294967296 then some () else none) λx=>aa none (O (Key.call 61) [AV.ref (Id.c 0) 0,I (9:Int),AV.t (T.str (a++s++ (ByteArray.mk #[(95:UInt8)])++G)),I (0:Int),I (0:Int),AV.t (T.ad
 1 D [])] [ab.box [AV.own (Id.c 1),AV.own (Id.c 2)],ab.rows C 5 1 1 H F,ab.mp false [Ck.s] (Ck.i i64) K]) λl=>aa none l.head? λx=>aa none (T.int? i64 x) λn=>aa none
 (List.drop 1 l).head? λx=>aa none (aN x) λp=>aa none (List.drop 1 l).tail.head? λx=>aa none ((List.drop 2 (List.drop 1 l)).head?.bind λz=>aL z) λl=>aa none (bp 8 (c8.length+ [[T.int
 i64 n]].length)) λx=>O gE [AV.ref (Id.c 6) 0,AV.ref (Id.c 7) 0,AV.own (Id.c 8),AV.t (T.af D),I E,I (i64.wrap (q+ (1:Int)))] [ab.box [AV.ref (Id.c 1) 0,AV.t (T.ad 3 b f),
 AV.t (T.ad 5 d g),AV.t (T.ad 1 e h),AV.t (T.str a),AV.t (T.ad 1 j k),AV.own (Id.c 2),AV.own (Id.c 3)],ab.box [AV.own (Id.c 9),AV.own (Id.c 5)],ab.sl false 1 y J,ab.sl false 1 A
 c3,ab.dead,ab.mp false [Ck.s] (Ck.i i64) l,ab.box [AV.ref (Id.c 0) 0],ab.box [I r,AV.t (T.ad 1 o u),I v,I w,AV.t (T.str m)],ab.sl false 1 (B && false) (c8++ [[T.int i64
 n]]),ab.rows p.fst 5 1 1 p.snd.length p.snd] else aa none (if aX F=true then some () else none) λx=>some [T.ad 1 B c8,T.ak,T.ad 3 b f,T.ad 5 d g,T.ad 1 e h,T.str a,
 T.ad 1 j k,T.ak,T.ak,be C F,T.ak,T.ad 1 y J,T.ad 1 A c3,ba K]):=by kernel_rfl
theorem GJ(O:ax)(r:Int)(y:Int)(u:Int)(a:Bool)(f:List (List T))(b:Bool)(g:List (List T))(d:Bool)(h:List (List T))(j:ByteArray)(e:Bool)(k:List (List T))(m:Bool)(A:List (List T))(o:Bool)(B:List (List T))(q:Bool)(w:Nat)(v:List Row)(c7:List (List T×T)):aA ao ann O (Key.call 64) [(I r),(I y),(AV.ref (Id.c 0) 0),(AV.ref (Id.c 1) 0)] [(ab.box [(AV.ref (Id.c 2) 0)]),(ab.box [(I u)]),(ab.box [(AV.ref (Id.c 3) 0),(AV.t (T.ad 3 a f)),(AV.t (T.ad 5 b g)),(AV.t (T.ad 1 d h)),(AV.t (T.str j)),(AV.t (T.ad 1 e k)),(AV.own (Id.c 4)),(AV.own (Id.c 5))]),(ab.box [(AV.own (Id.c 6)),(AV.own (Id.c 7))]),(ab.sl false 1 m A),(ab.sl false 1 o B),(ab.rows q 5 1 1 w v),(ab.mp false [Ck.s] (Ck.i i64) c7)]=
 (bif r==y then aa none (if aX v=true then some () else none) λx=>some [T.int i64 r,T.ak,T.int i64 u,T.ak,T.ad 3 a f,T.ad 5 b g,T.ad 1 d h,T.str j,
 T.ad 1 e k,T.ak,T.ak,be q v,T.ak,T.ad 1 m A,T.ad 1 o B,ba c7] else aa none (O (Key.call 61) [AV.ref (Id.c 0) 0,I (7:Int),AV.t (T.str (ByteArray.mk #[])),I (0:Int),I (0:Int),
 AV.t (T.ad 1 false [[T.int i64 u],[T.int i64 r],[T.int i64 y]])] [ab.box [AV.own (Id.c 1),AV.own (Id.c 2)],ab.rows q 5 1 1 w v,ab.mp false [Ck.s] (Ck.i i64) c7]) λl=>
 aa none l.head? λx=>aa none (T.int? i64 x) λn=>aa none (List.drop 1 l).head? λx=>aa none (aN x) λp=>aa none (List.drop 1 l).tail.head? λx=>aa none ((List.drop 2 (List.drop 1
 l)).head?.bind λz=>aL z) λl=>aa none (if aX p.snd=true then some () else none) λx=>some [T.int i64 n,T.ak,T.int i64 u,T.ak,T.ad 3 a f,T.ad 5 b g,T.ad 1
 d h,T.str j,T.ad 1 e k,T.ak,T.ak,be p.fst p.snd,T.ak,T.ad 1 m A,T.ad 1 o B,ba l]):=by kernel_rfl
theorem Aq(O:ax)(C:Bool)(A:List (List T))(D:Bool)(B:List (List T))(w:Int)(a:Int)(L:Int)(b:Bool)(g:List (List T))(d:Bool)(h:List (List T))(e:Bool)(j:List (List T))(k:ByteArray)(f:Bool)(m:List (List T))(o:Bool)(M:List (List T))(q:Bool)(N:List (List T))(c7:List (List T×T))(r:Bool)(c8:List (List T))(u:Bool)(K:Nat)(y:List Row):aA ao ann O nu [(AV.t (T.ad 1 C A)),(AV.t (T.ad 1 D B)),(AV.fn 64 [] [(AV.ref (Id.c 0) 0),(AV.ref (Id.c 1) 0)]),(AV.own (Id.c 8)),(I w),(I a)] [(ab.box [(AV.ref (Id.c 2) 0)]),(ab.box [(I L)]),(ab.box [(AV.ref (Id.c 3) 0),(AV.t (T.ad 3 b g)),(AV.t (T.ad 5 d h)),(AV.t (T.ad 1 e j)),(AV.t (T.str k)),(AV.t (T.ad 1 f m)),(AV.own (Id.c 4)),(AV.own (Id.c 5))]),(ab.box [(AV.own (Id.c 9)),(AV.own (Id.c 7))]),(ab.sl false 1 o M),(ab.sl false 1 q N),(Go.Aev.ab.dead),(ab.mp false [Ck.s] (Ck.i i64) c7),(ab.sl false 1 r c8),(ab.rows u 5 1 1 K y)]=
 (bif decide (a < w) then aa none (if(0:Int)<=a/\a < (↑A.length:Int) then some () else none) λx=>aa none A[a.toNat]? λl=>aa none l.head? λx=>aa none (T.int? i64 x) λn=>aa
 none (if(0:Int)<=a/\a < (↑B.length:Int) then some () else none) λx=>aa none B[a.toNat]? λl=>aa none l.head? λx=>aa none (T.int? i64 x) λP=>aa none (O (Key.call 64) [I n,I
 P,AV.ref (Id.c 0) 0,AV.ref (Id.c 1) 0] [ab.box [AV.ref (Id.c 2) 0],ab.box [I L],ab.box [AV.ref (Id.c 3) 0,AV.t (T.ad 3 b g),AV.t (T.ad 5 d h),AV.t (T.ad 1 e j),AV.t (T.str k),AV.t
 (T.ad 1 f m),AV.own (Id.c 4),AV.own (Id.c 5)],ab.box [AV.own (Id.c 6),AV.own (Id.c 7)],ab.sl false 1 o M,ab.sl false 1 q N,ab.rows u 5 1 1 K y,ab.mp false [Ck.s] (Ck.i i64) c7]) fun
 l=>aa none l.head? λx=>aa none (T.int? i64 x) λn=>aa none (List.drop 1 l).head? λx=>aa none (List.drop 1 (List.drop 1 l)).head? λx=>aa none (T.int? i64 x) λQ=>aa none
 (List.drop 1 (List.drop 1 (List.drop 1 l))).head? λx=>aa none (List.drop 1 (List.drop 1 (List.drop 1 l))).tail.head? λx=>aa none (T.au 3 x) λp=>aa none (List.drop 1 (List.drop 1 (List.drop 1
 l))).tail.tail.head? λx=>aa none (T.au 5 x) λE=>aa none (List.drop 1 (List.drop 1 (List.drop 1 l))).tail.tail.tail.head? λx=>aa none (T.au 1 x) λF=>aa none (List.drop 1 (List.drop 1
 (List.drop 1 l))).tail.tail.tail.tail.head? λx=>aa none x.a8 λs=>aa none (List.drop 1 (List.drop 1 (List.drop 1 l))).tail.tail.tail.tail.tail.head? λx=>aa none (T.au 1 x) λG=>aa none
 (List.drop 1 (List.drop 1 (List.drop 1 l))).tail.tail.tail.tail.tail.tail.head? λx=>aa none (List.drop 1 (List.drop 1 (List.drop 1 l))).tail.tail.tail.tail.tail.tail.tail.head? λx=>aa none (List.drop 8
 (List.drop 1 (List.drop 1 (List.drop 1 l)))).head? λx=>aa none (aN x) λv=>aa none (List.drop 8 (List.drop 1 (List.drop 1 (List.drop 1 l)))).tail.head? λx=>aa none ((List.drop 2 (List.drop 8
 (List.drop 1 (List.drop 1 (List.drop 1 l))))).head?.bind λz=>T.au 1 z) λH=>aa none ((List.drop 2 (List.drop 8 (List.drop 1 (List.drop 1 (List.drop 1 l))))).tail.head?.bind λz=>T.au 1 z) λJ=>
 aa none ((List.drop 2 (List.drop 8 (List.drop 1 (List.drop 1 (List.drop 1 l))))).tail.tail.head?.bind λz=>aL z) λl=>aa none (bp 8 (c8.length+ [[T.int i64 n]].length)) λx=>O nu [AV.t
 (T.ad 1 C A),AV.t (T.ad 1 D B),AV.fn 64 [] [AV.ref (Id.c 0) 0,AV.ref (Id.c 1) 0],AV.own (Id.c 8),I w,AV.t (T.int i64 (i64.wrap (a+ (1:Int))))] [ab.box [AV.ref (Id.c 2) 0],ab.box [I
 Q],ab.box [AV.ref (Id.c 3) 0,AV.t (T.ad 3 p.fst p.snd),AV.t (T.ad 5 E.fst E.snd),AV.t (T.ad 1 F.fst F.snd),AV.t (T.str s),AV.t (T.ad 1 G.fst G.snd),AV.own (Id.c 4),AV.own (Id.c 5)],ab.box
 [AV.own (Id.c 9),AV.own (Id.c 7)],ab.sl false 1 H.fst H.snd,ab.sl false 1 J.fst J.snd,ab.dead,ab.mp false [Ck.s] (Ck.i i64) l,ab.sl false 1 (r && false) (c8++ [[T.int i64 n]]),
 ab.rows v.fst 5 1 1 v.snd.length v.snd] else aa none (if aX y=true then some () else none) λx=>some [T.ad 1 r c8,T.ak,T.int i64 L,T.ak,T.ad 3 b g,T.ad 5 d h,T.ad
 1 e j,T.str k,T.ad 1 f m,T.ak,T.ak,be u y,T.ak,T.ad 1 o M,T.ad 1 q N,ba c7]):=by kernel_rfl
theorem Ar(O:ax)(j:Bool)(g:List (List T))(k:Bool)(h:List (List T))(e:Int)(a:Int)(o:List (List T×T))(b:Bool)(c3:List (List T))(d:Bool)(m:Nat)(f:List Row):aA ao ann O dJ [(AV.t (T.ad 1 j g)),(AV.t (T.ad 1 k h)),(AV.fn 67 [(AV.ref (Id.c 0) 0)] []),(AV.own (Id.c 3)),(I e),(I a)] [(ab.box [(AV.own (Id.c 4)),(AV.own (Id.c 2))]),(Go.Aev.ab.dead),(ab.mp false [Ck.s] (Ck.i i64) o),(ab.sl false 1 b c3),(ab.rows d 5 1 1 m f)]=
 (bif decide (a < e) then aa none (if(0:Int)<=a/\a < (↑g.length:Int) then some () else none) λx=>aa none g[a.toNat]? λl=>aa none l.head? λx=>aa none (T.int? i64 x) λn=>aa
 none (if(0:Int)<=a/\a < (↑h.length:Int) then some () else none) λx=>aa none h[a.toNat]? λl=>aa none l.head? λx=>aa none (T.int? i64 x) λq=>aa none (O (Key.call 67) [AV.ref
 (Id.c 0) 0,I n,I q] [ab.box [AV.own (Id.c 1),AV.own (Id.c 2)],ab.rows d 5 1 1 m f,ab.mp false [Ck.s] (Ck.i i64) o]) λl=>aa none l.head? λx=>aa none (T.int? i64 x) λn=>aa
 none (List.drop 1 l).head? λx=>aa none (aN x) λp=>aa none (List.drop 1 l).tail.head? λx=>aa none ((List.drop 2 (List.drop 1 l)).head?.bind λz=>aL z) λl=>aa none (bp 8 (c3.length+
 [[T.int i64 n]].length)) λx=>O dJ [AV.t (T.ad 1 j g),AV.t (T.ad 1 k h),AV.fn 67 [AV.ref (Id.c 0) 0] [],AV.own (Id.c 3),I e,I (i64.wrap (a+ (1:Int)))] [ab.box [AV.own (Id.c
 4),AV.own (Id.c 2)],ab.dead,ab.mp false [Ck.s] (Ck.i i64) l,ab.sl false 1 (b && false) (c3++ [[T.int i64 n]]),ab.rows p.fst 5 1 1 p.snd.length p.snd] else aa none (if aX f=true then
 some () else none) λx=>some [T.ad 1 b c3,be d f,T.ak,ba o]):=by kernel_rfl
theorem GO(O:ax)(d:Int)(a:Int)(e:Bool)(f:Nat)(g:List Row)(h:List (List T×T)):aA ao ann O (Key.call 68) [(AV.ref (Id.c 0) 0),(I d),(I a)] [(ab.box [(AV.own (Id.c 1)),(AV.own (Id.c 2))]),(ab.rows e 5 1 1 f g),(ab.mp false [Ck.s] (Ck.i i64) h)]=
 (aa none (O (Key.call 93) [AV.ref (Id.c 0) 0,I d,I (1:Int)] [ab.box [AV.own (Id.c 1),AV.own (Id.c 2)],ab.rows e 5 1 1 f g,ab.mp false [Ck.s] (Ck.i i64) h]) λl=>aa none l.head? λx=>aa
 none x.bool? λb=>aa none (List.drop 1 l).head? λx=>aa none (aN x) λp=>aa none (List.drop 1 l).tail.head? λx=>aa none ((List.drop 2 (List.drop 1 l)).head?.bind λz=>aL z) λl=>bif b
 then bif b then aa none (if aX p.snd=true then some () else none) λx=>some [T.int i64 d,be p.fst p.snd,T.ak,ba l] else aa none (O (Key.call 93) [AV.ref (Id.c 0) 0,I d,I (2:Int)]
 [ab.box [AV.own (Id.c 1),AV.own (Id.c 2)],ab.rows p.fst 5 1 1 p.snd.length p.snd,ab.mp false [Ck.s] (Ck.i i64) l]) λl=>aa none l.head? λx=>aa none x.bool? λb=>aa none (List.drop 1 l).head?
 λx=>aa none (aN x) λp=>aa none (List.drop 1 l).tail.head? λx=>aa none ((List.drop 2 (List.drop 1 l)).head?.bind λz=>aL z) λl=>bif b then bif b then aa none (if aX p.snd=true then
 some () else none) λx=>some [T.int i64 a,be p.fst p.snd,T.ak,ba l] else aa none (O (Key.call 61) [AV.ref (Id.c 0) 0,I (5:Int),AV.t (T.str (ByteArray.mk #[])),I (0:Int),I (0:Int),AV.t
 (T.ad 1 false [[T.int i64 d],[T.int i64 a]])] [ab.box [AV.own (Id.c 1),AV.own (Id.c 2)],ab.rows p.fst 5 1 1 p.snd.length p.snd,ab.mp false [Ck.s] (Ck.i i64) l]) λl=>aa none l.head?
 λx=>aa none (T.int? i64 x) λn=>aa none (List.drop 1 l).head? λx=>aa none (aN x) λp=>aa none (List.drop 1 l).tail.head? λx=>aa none ((List.drop 2 (List.drop 1 l)).head?.bind λz
 =>aL z) λl=>aa none (if aX p.snd=true then some () else none) λx=>some [T.int i64 n,be p.fst p.snd,T.ak,ba l] else aa none (O (Key.call 93) [AV.ref (Id.c 0) 0,I a,I (1:Int)]
 [ab.box [AV.own (Id.c 1),AV.own (Id.c 2)],ab.rows p.fst 5 1 1 p.snd.length p.snd,ab.mp false [Ck.s] (Ck.i i64) l]) λl=>aa none l.head? λx=>aa none x.bool? λb=>aa none (List.drop 1 l).head?
 λx=>aa none (aN x) λp=>aa none (List.drop 1 l).tail.head? λx=>aa none ((List.drop 2 (List.drop 1 l)).head?.bind λz=>aL z) λl=>bif b then aa none (if aX p.snd=true then some () else
 none) λx=>some [T.int i64 a,be p.fst p.snd,T.ak,ba l] else aa none (O (Key.call 61) [AV.ref (Id.c 0) 0,I (5:Int),AV.t (T.str (ByteArray.mk #[])),I (0:Int),I (0:Int),AV.t (T.ad 1 false
 [[T.int i64 d],[T.int i64 a]])] [ab.box [AV.own (Id.c 1),AV.own (Id.c 2)],ab.rows p.fst 5 1 1 p.snd.length p.snd,ab.mp false [Ck.s] (Ck.i i64) l]) λl=>aa none l.head? λx=>aa
 none (T.int? i64 x) λn=>aa none (List.drop 1 l).head? λx=>aa none (aN x) λp=>aa none (List.drop 1 l).tail.head? λx=>aa none ((List.drop 2 (List.drop 1 l)).head?.bind λz=>aL z) fun
 l=>aa none (if aX p.snd=true then some () else none) λx=>some [T.int i64 n,be p.fst p.snd,T.ak,ba l] else aa none (O (Key.call 93) [AV.ref (Id.c 0) 0,I a,I (2:Int)] [ab.box [AV.own
 (Id.c 1),AV.own (Id.c 2)],ab.rows p.fst 5 1 1 p.snd.length p.snd,ab.mp false [Ck.s] (Ck.i i64) l]) λl=>aa none l.head? λx=>aa none x.bool? λb=>aa none (List.drop 1 l).head? λx=>aa none
 (aN x) λp=>aa none (List.drop 1 l).tail.head? λx=>aa none ((List.drop 2 (List.drop 1 l)).head?.bind λz=>aL z) λl=>bif b then bif b then aa none (if aX p.snd=true then some () else none)
 λx=>some [T.int i64 d,be p.fst p.snd,T.ak,ba l] else aa none (O (Key.call 93) [AV.ref (Id.c 0) 0,I d,I (2:Int)] [ab.box [AV.own (Id.c 1),AV.own (Id.c 2)],ab.rows p.fst 5 1 1 p.snd.length
 p.snd,ab.mp false [Ck.s] (Ck.i i64) l]) λl=>aa none l.head? λx=>aa none x.bool? λb=>aa none (List.drop 1 l).head? λx=>aa none (aN x) λp=>aa none (List.drop 1 l).tail.head? λx
 =>aa none ((List.drop 2 (List.drop 1 l)).head?.bind λz=>aL z) λl=>bif b then bif b then aa none (if aX p.snd=true then some () else none) λx=>some [T.int i64 a,be p.fst p.snd,
 T.ak,ba l] else aa none (O (Key.call 61) [AV.ref (Id.c 0) 0,I (5:Int),AV.t (T.str (ByteArray.mk #[])),I (0:Int),I (0:Int),AV.t (T.ad 1 false [[T.int i64 d],[T.int i64 a]])] [ab.box
 [AV.own (Id.c 1),AV.own (Id.c 2)],ab.rows p.fst 5 1 1 p.snd.length p.snd,ab.mp false [Ck.s] (Ck.i i64) l]) λl=>aa none l.head? λx=>aa none (T.int? i64 x) λn=>aa none (List.drop 1
 l).head? λx=>aa none (aN x) λp=>aa none (List.drop 1 l).tail.head? λx=>aa none ((List.drop 2 (List.drop 1 l)).head?.bind λz=>aL z) λl=>aa none (if aX p.snd=true then some () else
 none) λx=>some [T.int i64 n,be p.fst p.snd,T.ak,ba l] else aa none (O (Key.call 93) [AV.ref (Id.c 0) 0,I a,I (1:Int)] [ab.box [AV.own (Id.c 1),AV.own (Id.c 2)],ab.rows p.fst 5 1 1
 p.snd.length p.snd,ab.mp false [Ck.s] (Ck.i i64) l]) λl=>aa none l.head? λx=>aa none x.bool? λb=>aa none (List.drop 1 l).head? λx=>aa none (aN x) λp=>aa none (List.drop 1
 l).tail.head? λx=>aa none ((List.drop 2 (List.drop 1 l)).head?.bind λz=>aL z) λl=>bif b then aa none (if aX p.snd=true then some () else none) λx=>some [T.int i64 a,be p.fst
 p.snd,T.ak,ba l] else aa none (O (Key.call 61) [AV.ref (Id.c 0) 0,I (5:Int),AV.t (T.str (ByteArray.mk #[])),I (0:Int),I (0:Int),AV.t (T.ad 1 false [[T.int i64 d],[T.int i64 a]])]
 [ab.box [AV.own (Id.c 1),AV.own (Id.c 2)],ab.rows p.fst 5 1 1 p.snd.length p.snd,ab.mp false [Ck.s] (Ck.i i64) l]) λl=>aa none l.head? λx=>aa none (T.int? i64 x) λn=>aa none
 (List.drop 1 l).head? λx=>aa none (aN x) λp=>aa none (List.drop 1 l).tail.head? λx=>aa none ((List.drop 2 (List.drop 1 l)).head?.bind λz=>aL z) λl=>aa none (if aX p.snd=true then
 some () else none) λx=>some [T.int i64 n,be p.fst p.snd,T.ak,ba l] else bif d==a then aa none (if aX p.snd=true then some () else none) λx=>some [T.int i64 d,be p.fst
 p.snd,T.ak,ba l] else aa none (O (Key.call 93) [AV.ref (Id.c 0) 0,I d,I (2:Int)] [ab.box [AV.own (Id.c 1),AV.own (Id.c 2)],ab.rows p.fst 5 1 1 p.snd.length p.snd,ab.mp false [Ck.s] (Ck.i i64) l])
 λl=>aa none l.head? λx=>aa none x.bool? λb=>aa none (List.drop 1 l).head? λx=>aa none (aN x) λp=>aa none (List.drop 1 l).tail.head? λx=>aa none ((List.drop 2 (List.drop 1
 l)).head?.bind λz=>aL z) λl=>bif b then bif b then aa none (if aX p.snd=true then some () else none) λx=>some [T.int i64 a,be p.fst p.snd,T.ak,ba l] else aa none (O (Key.call
 61) [AV.ref (Id.c 0) 0,I (5:Int),AV.t (T.str (ByteArray.mk #[])),I (0:Int),I (0:Int),AV.t (T.ad 1 false [[T.int i64 d],[T.int i64 a]])] [ab.box [AV.own (Id.c 1),AV.own (Id.c 2)],ab.rows
 p.fst 5 1 1 p.snd.length p.snd,ab.mp false [Ck.s] (Ck.i i64) l]) λl=>aa none l.head? λx=>aa none (T.int? i64 x) λn=>aa none (List.drop 1 l).head? λx=>aa none (aN x) λp=>
 aa none (List.drop 1 l).tail.head? λx=>aa none ((List.drop 2 (List.drop 1 l)).head?.bind λz=>aL z) λl=>aa none (if aX p.snd=true then some () else none) λx=>some [T.int i64 n,be
 p.fst p.snd,T.ak,ba l] else aa none (O (Key.call 93) [AV.ref (Id.c 0) 0,I a,I (1:Int)] [ab.box [AV.own (Id.c 1),AV.own (Id.c 2)],ab.rows p.fst 5 1 1 p.snd.length p.snd,ab.mp false [Ck.s] (Ck.i
 i64) l]) λl=>aa none l.head? λx=>aa none x.bool? λb=>aa none (List.drop 1 l).head? λx=>aa none (aN x) λp=>aa none (List.drop 1 l).tail.head? λx=>aa none ((List.drop 2
 (List.drop 1 l)).head?.bind λz=>aL z) λl=>bif b then aa none (if aX p.snd=true then some () else none) λx=>some [T.int i64 a,be p.fst p.snd,T.ak,ba l] else aa none (O (Key.call
 61) [AV.ref (Id.c 0) 0,I (5:Int),AV.t (T.str (ByteArray.mk #[])),I (0:Int),I (0:Int),AV.t (T.ad 1 false [[T.int i64 d],[T.int i64 a]])] [ab.box [AV.own (Id.c 1),AV.own (Id.c 2)],ab.rows
 p.fst 5 1 1 p.snd.length p.snd,ab.mp false [Ck.s] (Ck.i i64) l]) λl=>aa none l.head? λx=>aa none (T.int? i64 x) λn=>aa none (List.drop 1 l).head? λx=>aa none (aN x) λp=>
 aa none (List.drop 1 l).tail.head? λx=>aa none ((List.drop 2 (List.drop 1 l)).head?.bind λz=>aL z) λl=>aa none (if aX p.snd=true then some () else none) λx=>some [T.int i64 n,be
 p.fst p.snd,T.ak,ba l]):=by kernel_rfl
theorem At(O:ax)(j:Bool)(g:List (List T))(k:Bool)(h:List (List T))(e:Int)(a:Int)(o:List (List T×T))(b:Bool)(c3:List (List T))(d:Bool)(m:Nat)(f:List Row):aA ao ann O dJ [(AV.t (T.ad 1 j g)),(AV.t (T.ad 1 k h)),(AV.fn 68 [(AV.ref (Id.c 0) 0)] []),(AV.own (Id.c 3)),(I e),(I a)] [(ab.box [(AV.own (Id.c 4)),(AV.own (Id.c 2))]),(Go.Aev.ab.dead),(ab.mp false [Ck.s] (Ck.i i64) o),(ab.sl false 1 b c3),(ab.rows d 5 1 1 m f)]=
 (bif decide (a < e) then aa none (if(0:Int)<=a/\a < (↑g.length:Int) then some () else none) λx=>aa none g[a.toNat]? λl=>aa none l.head? λx=>aa none (T.int? i64 x) λn=>aa
 none (if(0:Int)<=a/\a < (↑h.length:Int) then some () else none) λx=>aa none h[a.toNat]? λl=>aa none l.head? λx=>aa none (T.int? i64 x) λq=>aa none (O (Key.call 68) [AV.ref
 (Id.c 0) 0,I n,I q] [ab.box [AV.own (Id.c 1),AV.own (Id.c 2)],ab.rows d 5 1 1 m f,ab.mp false [Ck.s] (Ck.i i64) o]) λl=>aa none l.head? λx=>aa none (T.int? i64 x) λn=>aa
 none (List.drop 1 l).head? λx=>aa none (aN x) λp=>aa none (List.drop 1 l).tail.head? λx=>aa none ((List.drop 2 (List.drop 1 l)).head?.bind λz=>aL z) λl=>aa none (bp 8 (c3.length+
 [[T.int i64 n]].length)) λx=>O dJ [AV.t (T.ad 1 j g),AV.t (T.ad 1 k h),AV.fn 68 [AV.ref (Id.c 0) 0] [],AV.own (Id.c 3),I e,I (i64.wrap (a+ (1:Int)))] [ab.box [AV.own (Id.c
 4),AV.own (Id.c 2)],ab.dead,ab.mp false [Ck.s] (Ck.i i64) l,ab.sl false 1 (b && false) (c3++ [[T.int i64 n]]),ab.rows p.fst 5 1 1 p.snd.length p.snd] else aa none (if aX f=true then
 some () else none) λx=>some [T.ad 1 b c3,be d f,T.ak,ba o]):=by kernel_rfl
theorem GP(O:ax)(d:Int)(e:Int)(a:Bool)(b:Nat)(f:List Row)(g:List (List T×T)):aA ao ann O (Key.call 69) [(AV.ref (Id.c 0) 0),(I d),(I e)] [(ab.box [(AV.own (Id.c 1)),(AV.own (Id.c 2))]),(ab.rows a 5 1 1 b f),(ab.mp false [Ck.s] (Ck.i i64) g)]=
 (aa none (O (Key.call 74) [AV.ref (Id.c 0) 0,I d,I e] [ab.box [AV.own (Id.c 1),AV.own (Id.c 2)],ab.rows a 5 1 1 b f,ab.mp false [Ck.s] (Ck.i i64) g]) λl=>aa none l.head? λx=>aa none
 (T.int? i64 x) λn=>aa none (List.drop 1 l).head? λx=>aa none (aN x) λp=>aa none (List.drop 1 l).tail.head? λx=>aa none ((List.drop 2 (List.drop 1 l)).head?.bind λz=>aL z) λl=>
 aa none (O (Key.call 66) [AV.ref (Id.c 0) 0,I n] [ab.box [AV.own (Id.c 1),AV.own (Id.c 2)],ab.rows p.fst 5 1 1 p.snd.length p.snd,ab.mp false [Ck.s] (Ck.i i64) l]) λl=>aa none l.head? λx=>aa
 none (T.int? i64 x) λn=>aa none (List.drop 1 l).head? λx=>aa none (aN x) λp=>aa none (List.drop 1 l).tail.head? λx=>aa none ((List.drop 2 (List.drop 1 l)).head?.bind λz=>aL z) fun
 l=>aa none (if aX p.snd=true then some () else none) λx=>some [T.int i64 n,be p.fst p.snd,T.ak,ba l]):=by kernel_rfl
theorem Au(O:ax)(j:Bool)(g:List (List T))(k:Bool)(h:List (List T))(e:Int)(a:Int)(o:List (List T×T))(b:Bool)(c3:List (List T))(d:Bool)(m:Nat)(f:List Row):aA ao ann O dJ [(AV.t (T.ad 1 j g)),(AV.t (T.ad 1 k h)),(AV.fn 69 [(AV.ref (Id.c 0) 0)] []),(AV.own (Id.c 3)),(I e),(I a)] [(ab.box [(AV.own (Id.c 4)),(AV.own (Id.c 2))]),(Go.Aev.ab.dead),(ab.mp false [Ck.s] (Ck.i i64) o),(ab.sl false 1 b c3),(ab.rows d 5 1 1 m f)]=
 (bif decide (a < e) then aa none (if(0:Int)<=a/\a < (↑g.length:Int) then some () else none) λx=>aa none g[a.toNat]? λl=>aa none l.head? λx=>aa none (T.int? i64 x) λn=>aa
 none (if(0:Int)<=a/\a < (↑h.length:Int) then some () else none) λx=>aa none h[a.toNat]? λl=>aa none l.head? λx=>aa none (T.int? i64 x) λq=>aa none (O (Key.call 69) [AV.ref
 (Id.c 0) 0,I n,I q] [ab.box [AV.own (Id.c 1),AV.own (Id.c 2)],ab.rows d 5 1 1 m f,ab.mp false [Ck.s] (Ck.i i64) o]) λl=>aa none l.head? λx=>aa none (T.int? i64 x) λn=>aa
 none (List.drop 1 l).head? λx=>aa none (aN x) λp=>aa none (List.drop 1 l).tail.head? λx=>aa none ((List.drop 2 (List.drop 1 l)).head?.bind λz=>aL z) λl=>aa none (bp 8 (c3.length+
 [[T.int i64 n]].length)) λx=>O dJ [AV.t (T.ad 1 j g),AV.t (T.ad 1 k h),AV.fn 69 [AV.ref (Id.c 0) 0] [],AV.own (Id.c 3),I e,I (i64.wrap (a+ (1:Int)))] [ab.box [AV.own (Id.c
 4),AV.own (Id.c 2)],ab.dead,ab.mp false [Ck.s] (Ck.i i64) l,ab.sl false 1 (b && false) (c3++ [[T.int i64 n]]),ab.rows p.fst 5 1 1 p.snd.length p.snd] else aa none (if aX f=true then
 some () else none) λx=>some [T.ad 1 b c3,be d f,T.ak,ba o]):=by kernel_rfl
theorem vO(O:ax)(h:Bool)(b:List (List T))(j:Bool)(d:List (List T))(o:Int)(f:Int)(a:Int)(r:List (List T×T))(e:Bool)(c3:List (List T))(g:Bool)(q:Nat)(m:List Row):aA ao ann O nv [(AV.ref (Id.c 0) 0),(AV.t (T.ad 1 h b)),(AV.t (T.ad 1 j d)),(I o),(AV.own (Id.c 3)),(I f),(I a)] [(ab.box [(AV.own (Id.c 4)),(AV.own (Id.c 2))]),(Go.Aev.ab.dead),(ab.mp false [Ck.s] (Ck.i i64) r),(ab.sl false 1 e c3),(ab.rows g 5 1 1 q m)]=
 (bif decide (a < f) then aa none (if(0:Int)<=a/\a < (↑b.length:Int) then some () else none) λx=>aa none b[a.toNat]? λl=>aa none l.head? λx=>aa none (T.int? i64 x) λn=>aa
 none (if(0:Int)<=a/\a < (↑d.length:Int) then some () else none) λx=>aa none d[a.toNat]? λl=>aa none l.head? λx=>aa none (T.int? i64 x) λw=>aa none (O (Key.call 69) [AV.ref
 (Id.c 0) 0,I n,I w] [ab.box [AV.own (Id.c 1),AV.own (Id.c 2)],ab.rows g 5 1 1 q m,ab.mp false [Ck.s] (Ck.i i64) r]) λl=>aa none l.head? λx=>aa none (T.int? i64 x) λn=>aa
 none (List.drop 1 l).head? λx=>aa none (aN x) λp=>aa none (List.drop 1 l).tail.head? λx=>aa none ((List.drop 2 (List.drop 1 l)).head?.bind λz=>aL z) λl=>aa none (O (Key.call 69) [AV.ref
 (Id.c 0) 0,I n,I o] [ab.box [AV.own (Id.c 1),AV.own (Id.c 2)],ab.rows p.fst 5 1 1 p.snd.length p.snd,ab.mp false [Ck.s] (Ck.i i64) l]) λl=>aa none l.head? λx=>aa none (T.int? i64 x)
 λk=>aa none (List.drop 1 l).head? λx=>aa none (aN x) λp=>aa none (List.drop 1 l).tail.head? λx=>aa none ((List.drop 2 (List.drop 1 l)).head?.bind λz=>aL z) λl=>aa none (bp 8
 (c3.length+ [[T.int i64 k]].length)) λx=>bif decide (i64.wrap (a+ (1:Int)) < (↑b.length:Int)) then aa none (if(0:Int)<=a/\a < (↑b.length:Int) then some () else none) λx=>
 aa none b[a.toNat]? λu=>aa none u.head? λx=>aa none (T.int? i64 x) λy=>aa none (if(0:Int)<=a/\a < (↑d.length:Int) then some () else none) λx=>aa none d[a.toNat]?
 λv=>aa none v.head? λx=>aa none (T.int? i64 x) λA=>aa none (O (Key.call 67) [AV.ref (Id.c 0) 0,I y,I A] [ab.box [AV.own (Id.c 1),AV.own (Id.c 2)],ab.rows p.fst 5 1 1 p.snd.length
 p.snd,ab.mp false [Ck.s] (Ck.i i64) l]) λl=>aa none l.head? λx=>aa none (T.int? i64 x) λB=>aa none (List.drop 1 l).head? λx=>aa none (aN x) λp=>aa none (List.drop 1
 l).tail.head? λx=>aa none ((List.drop 2 (List.drop 1 l)).head?.bind λz=>aL z) λl=>aa none (O (Key.call 67) [AV.ref (Id.c 0) 0,I n,I o] [ab.box [AV.own (Id.c 1),AV.own (Id.c 2)],ab.rows p.fst 5 1
 1 p.snd.length p.snd,ab.mp false [Ck.s] (Ck.i i64) l]) λl=>aa none l.head? λx=>aa none (T.int? i64 x) λn=>aa none (List.drop 1 l).head? λx=>aa none (aN x) λp=>aa none
 (List.drop 1 l).tail.head? λx=>aa none ((List.drop 2 (List.drop 1 l)).head?.bind λz=>aL z) λl=>aa none (O (Key.call 68) [AV.ref (Id.c 0) 0,AV.t (T.int i64 B),AV.t (T.int i64 n)]
 [ab.box [AV.own (Id.c 1),AV.own (Id.c 2)],ab.rows p.fst 5 1 1 p.snd.length p.snd,ab.mp false [Ck.s] (Ck.i i64) l]) λl=>aa none l.head? λx=>aa none (T.int? i64 x) λn=>aa none
 (List.drop 1 l).head? λx=>aa none (aN x) λp=>aa none (List.drop (1:Nat) l).tail.head? λx=>aa none ((List.drop (2:Nat) (List.drop (1:Nat) l)).head?.bind λz=>aL z) λl=>O (bZ ao
 (70:Nat) true (4:Nat) [((0:Nat),none),((1:Nat),none),((2:Nat),none),((7:Nat),none),((8:Nat),none),((14:Nat),none),((15:Nat),none)] ((3:Nat),(2002:Nat))) [AV.ref (Id.c (0:Nat)) (0:
 Nat),AV.t (T.ad (1:Nat) h b),AV.t (T.ad (1:Nat) j d),AV.t (T.int i64 n),AV.own (Id.c (3:Nat)),AV.t (T.int i64 f),AV.t (T.int i64 (i64.wrap (a+ (1:Int))))]
 [ab.box [AV.own (Id.c (4:Nat)),AV.own (Id.c (2:Nat))],ab.dead,ab.mp false [Ck.s] (Ck.i i64) l,ab.sl false (1:Nat) (e && false) (c3++ [[T.int i64 k]]),ab.rows p.fst (5:Nat) (1:Nat)
 (1:Nat) p.snd.length p.snd] else O nv [AV.ref (Id.c 0) 0,AV.t (T.ad 1 h b),AV.t (T.ad 1 j d),I o,AV.own (Id.c 3),I f,I (i64.wrap (a+ (1:Int)))] [ab.box [AV.own (Id.c 4),AV.own (Id.c
 2)],ab.dead,ab.mp false [Ck.s] (Ck.i i64) l,ab.sl false 1 (e && false) (c3++ [[T.int i64 k]]),ab.rows p.fst 5 1 1 p.snd.length p.snd] else aa none (if aX m=true then some () else none)
 λx=>some [T.ad 1 e c3,be g m,T.ak,ba r]):=by kernel_rfl
theorem GU(O:ax)(g:Bool)(w:List (List T))(j:Bool)(y:List (List T))(A:Int)(b:Bool)(d:Bool)(m:List (List T))(o:Int)(q:Int)(h:Bool)(e:List (List T))(r:Int)(a:Int)(v:List (List T×T))(f:Bool)(u:Nat)(c3:List Row):aA ao ann O nw [(AV.ref (Id.c 0) 0),(AV.t (T.ad 1 g w)),(AV.t (T.ad 1 j y)),(I A),(AV.t (T.af b)),(AV.t (T.ad 1 d m)),(I o),(I q),(AV.t (T.ad 1 h e)),(I r),(I a)] [(ab.box [(AV.own (Id.c 3)),(AV.own (Id.c 2))]),(Go.Aev.ab.dead),(ab.mp false [Ck.s] (Ck.i i64) v),(ab.rows f 5 1 1 u c3)]=
 (bif decide (a < r) then aa none (if(0:Int)<=a/\a < (↑e.length:Int) then some () else none) λx=>aa none e[a.toNat]? λl=>aa none l.head? λx=>aa none (T.int? i64 x) λn=>
 aa none (O (Key.call 67) [AV.ref (Id.c 0) 0,I A,I n] [ab.box [AV.own (Id.c 1),AV.own (Id.c 2)],ab.rows f 5 1 1 u c3,ab.mp false [Ck.s] (Ck.i i64) v]) λl=>aa none l.head? λx=>aa none
 (T.int? i64 x) λn=>aa none (List.drop 1 l).head? λx=>aa none (aN x) λp=>aa none (List.drop 1 l).tail.head? λx=>aa none ((List.drop 2 (List.drop 1 l)).head?.bind λz=>aL z) λl=>
 O nw [AV.ref (Id.c 0) 0,AV.t (T.ad 1 g w),AV.t (T.ad 1 j y),I A,AV.own (Id.c 3),AV.t (T.ad 1 d m),I o,I q,AV.t (T.ad 1 h e),I r,I (i64.wrap (a+ (1:Int)))] [ab.box
 [AV.own (Id.c 4),AV.own (Id.c 2)],ab.dead,ab.mp false [Ck.s] (Ck.i i64) l,ab.sl false 1 (b && false) [[T.int i64 n]],ab.rows p.fst 5 1 1 p.snd.length p.snd] else aa none (O (Key.call 70)
 [AV.ref (Id.c 0) 0,AV.t (T.ad 1 j y),AV.t (T.ad 1 b [])] [ab.box [AV.own (Id.c 1),AV.own (Id.c 2)],ab.rows f 5 1 1 u c3,ab.mp false [Ck.s] (Ck.i i64) v]) λl=>aa none l.head? λx=>aa
 none (T.au 1 x) λp=>aa none (List.drop 1 l).head? λx=>aa none (aN x) λk=>aa none (List.drop 1 l).tail.head? λx=>aa none ((List.drop 2 (List.drop 1 l)).head?.bind λz=>aL z) λl=>O
 oE [AV.ref (Id.c 0) 0,AV.t (T.ad 1 g w),AV.t (T.ad 1 p.fst p.snd),AV.t (T.ad 1 d m),I o,I (i64.wrap (q+ (1:Int)))] [ab.box [AV.own (Id.c 3),AV.own (Id.c 2)],ab.dead,ab.mp false
 [Ck.s] (Ck.i i64) l,ab.rows k.fst 5 1 1 k.snd.length k.snd]):=by kernel_rfl
theorem vQ(O:ax)(h:Bool)(j:List (List T))(b:Int)(f:Int)(a:Int)(m:List (List T×T))(d:Bool)(c3:List (List T))(e:Bool)(k:Nat)(g:List Row):aA ao ann O iD [(AV.ref (Id.c 0) 0),(AV.t (T.ad 1 h j)),(I b),(AV.own (Id.c 3)),(I f),(I a)] [(ab.box [(AV.own (Id.c 4)),(AV.own (Id.c 2))]),(Go.Aev.ab.dead),(ab.mp false [Ck.s] (Ck.i i64) m),(ab.sl false 1 d c3),(ab.rows e 5 1 1 k g)]=
 (bif decide (a < f) then bif decide (a < b) then aa none (O (Key.call 65) [AV.ref (Id.c 0) 0,B false] [ab.box [AV.own (Id.c 1),AV.own (Id.c 2)],ab.rows e 5 1 1 k g,ab.mp false [Ck.s] (Ck.i i64)
 m]) λl=>aa none l.head? λx=>aa none (T.int? i64 x) λn=>aa none (List.drop 1 l).head? λx=>aa none (aN x) λp=>aa none (List.drop 1 l).tail.head? λx=>aa none ((List.drop 2
 (List.drop 1 l)).head?.bind λz=>aL z) λl=>aa none (bp 8 (c3.length+ [[T.int i64 n]].length)) λx=>O iD [AV.ref (Id.c 0) 0,AV.t (T.ad 1 h j),I b,AV.own (Id.c 3),I f,I
 (i64.wrap (a+ (1:Int)))] [ab.box [AV.own (Id.c 4),AV.own (Id.c 2)],ab.dead,ab.mp false [Ck.s] (Ck.i i64) l,ab.sl false 1 (d && false) (c3++ [[T.int i64 n]]),ab.rows p.fst 5 1 1
 p.snd.length p.snd] else aa none (if(0:Int)<=i64.wrap (a - b)/\i64.wrap (a - b) < (↑j.length:Int) then some () else none) λx=>aa none j[(i64.wrap (a - b)).toNat]? λl=>
 aa none l.head? λx=>aa none (T.int? i64 x) λn=>aa none (bp 8 (c3.length+ [[T.int i64 n]].length)) λx=>O iD [AV.ref (Id.c 0) 0,AV.t (T.ad 1 h j),I b,AV.own (Id.c 3),I
 f,I (i64.wrap (a+ (1:Int)))] [ab.box [AV.own (Id.c 4),AV.own (Id.c 2)],ab.dead,ab.mp false [Ck.s] (Ck.i i64) m,ab.sl false 1 (d && false) (c3++ [[T.int i64 n]]),ab.rows e 5
 1 1 k g] else aa none (if aX g=true then some () else none) λx=>some [T.ad 1 d c3,be e g,T.ak,ba m]):=by kernel_rfl
theorem Ax(O:ax)(h:Bool)(j:List (List T))(b:Int)(f:Int)(a:Int)(d:Bool)(k:Nat)(g:List Row)(m:List (List T×T))(e:Bool)(c3:List (List T)):aA ao ann O iD [(AV.ref (Id.c 0) 0),(AV.t (T.ad 1 h j)),(I b),(AV.own (Id.c 3)),(I f),(I a)] [(ab.box [(AV.own (Id.c 1)),(AV.own (Id.c 2))]),(ab.rows d 5 1 1 k g),(ab.mp false [Ck.s] (Ck.i i64) m),(ab.sl false 1 e c3)]=
 (bif decide (a < f) then bif decide (a < b) then aa none (O (Key.call 65) [AV.ref (Id.c 0) 0,B false] [ab.box [AV.own (Id.c 1),AV.own (Id.c 2)],ab.rows d 5 1 1 k g,ab.mp false [Ck.s] (Ck.i i64)
 m]) λl=>aa none l.head? λx=>aa none (T.int? i64 x) λn=>aa none (List.drop 1 l).head? λx=>aa none (aN x) λp=>aa none (List.drop 1 l).tail.head? λx=>aa none ((List.drop 2
 (List.drop 1 l)).head?.bind λz=>aL z) λl=>aa none (bp 8 (c3.length+ [[T.int i64 n]].length)) λx=>O iD [AV.ref (Id.c 0) 0,AV.t (T.ad 1 h j),I b,AV.own (Id.c 3),I f,I
 (i64.wrap (a+ (1:Int)))] [ab.box [AV.own (Id.c 4),AV.own (Id.c 2)],ab.dead,ab.mp false [Ck.s] (Ck.i i64) l,ab.sl false 1 (e && false) (c3++ [[T.int i64 n]]),ab.rows p.fst 5 1 1
 p.snd.length p.snd] else aa none (if(0:Int)<=i64.wrap (a - b)/\i64.wrap (a - b) < (↑j.length:Int) then some () else none) λx=>aa none j[(i64.wrap (a - b)).toNat]? λl=>
 aa none l.head? λx=>aa none (T.int? i64 x) λn=>aa none (bp 8 (c3.length+ [[T.int i64 n]].length)) λx=>O iD [AV.ref (Id.c 0) 0,AV.t (T.ad 1 h j),I b,AV.own (Id.c 3),I
 f,I (i64.wrap (a+ (1:Int)))] [ab.box [AV.own (Id.c 1),AV.own (Id.c 2)],ab.rows d 5 1 1 k g,ab.mp false [Ck.s] (Ck.i i64) m,ab.sl false 1 (e && false) (c3++ [[T.int i64
 n]])] else aa none (if aX g=true then some () else none) λx=>some [T.ad 1 e c3,be d g,T.ak,ba m]):=by kernel_rfl
theorem vK(O:ax)(h:Int)(k:Bool)(q:Nat)(j:List Row)(m:Bool)(r:List (List T))(a:Bool)(g:List (List T))(d:Bool)(e:Bool)(f:Bool)(o:Bool)(i:List (List T)):aA ao ann O kO [(AV.ref (Id.c 2) 0),(AV.ref (Id.c 3) 0),(AV.own (Id.c 4)),(I h)] [(ab.rows k 5 1 1 q j),(ab.sl false 1 m r),(ab.box [(AV.t (T.ad 3 a g)),(AV.own (Id.c 0)),(AV.own (Id.c 1))]),(ab.box [(AV.t (T.af d)),(AV.t (T.af e)),(AV.t (T.af f))]),(ab.sl false 1 o i)]=
 (bif decide (h>=(0:Int)) then aa none (if(0:Int)<=h/\h < (↑i.length:Int) then some () else none) λx=>aa none i[h.toNat]? λl=>aa none l.head? λx=>aa none x.bool? λb=>bif b then aa
 none (if(0:Int)<=h/\h < (↑j.length:Int) then some () else none) λx=>aa none j[h.toNat]? λx=>aa none (cv x.n j) λp=>O sc [AV.ref (Id.c 2) 0,AV.ref (Id.c 3) 0,AV.own (Id.c 4),I h,
 AV.row (Id.c 0) x.n,I (↑p.snd.length:Int),I (0:Int)] [ab.rows k 5 1 1 q j,ab.sl false 1 m r,ab.box [AV.t (T.ad 3 a g),AV.own (Id.c 0),AV.own (Id.c 1)],ab.box [AV.t (T.af d),AV.t (T.af
 e),AV.t (T.af f)],ab.sl false 1 o i] else O kO [AV.ref (Id.c 2) 0,AV.ref (Id.c 3) 0,AV.own (Id.c 4),I (i64.wrap (h - (1:Int)))] [ab.rows k 5 1 1 q j,ab.sl false 1 m r,ab.box
 [AV.t (T.ad 3 a g),AV.own (Id.c 0),AV.own (Id.c 1)],ab.box [AV.t (T.af d),AV.t (T.af e),AV.t (T.af f)],ab.sl false 1 o i] else aa none (kC (↑i.length:Int) (↑i.length:Int)) λx
 =>O hY [AV.ref (Id.c 2) 0,AV.ref (Id.c 3) 0,AV.own (Id.c 4),AV.own (Id.c 5),AV.ref (Id.c 6) 0,AV.own (Id.c 0),I (↑j.length:Int),I (0:Int)] [ab.rows k 5 1 1 q j,ab.sl false 1 m r,ab.box
 [AV.t (T.ad 3 a g),AV.own (Id.c 0),AV.own (Id.c 1)],ab.box [AV.t (T.af d),AV.t (T.af e),AV.t (T.af f)],ab.sl false 1 o i,ab.sl false 1 false (List.replicate (↑i.length:Int).toNat
 [T.int i64 (0:Int)]),ab.box [AV.t (T.ad 3 a g),AV.t (T.af true),AV.t (T.af true)]]):=by kernel_rfl
theorem GX(O:ax)(a:Int)(d:Int)(e:Bool)(f:Nat)(g:List Row)(h:List (List T×T)):aA ao ann O (Key.call 74) [(AV.ref (Id.c 0) 0),(I a),(I d)] [(ab.box [(AV.own (Id.c 1)),(AV.own (Id.c 2))]),(ab.rows e 5 1 1 f g),(ab.mp false [Ck.s] (Ck.i i64) h)]=
 (bif a==d then aa none (O (Key.call 65) [AV.ref (Id.c 0) 0,B true] [ab.box [AV.own (Id.c 1),AV.own (Id.c 2)],ab.rows e 5 1 1 f g,ab.mp false [Ck.s] (Ck.i i64) h]) λl=>aa none l.head? λx
 =>aa none (T.int? i64 x) λn=>aa none (List.drop 1 l).head? λx=>aa none (aN x) λp=>aa none (List.drop 1 l).tail.head? λx=>aa none ((List.drop 2 (List.drop 1 l)).head?.bind λz=>aL
 z) λl=>aa none (if aX p.snd=true then some () else none) λx=>some [T.int i64 n,be p.fst p.snd,T.ak,ba l] else aa none (O (Key.call 93) [AV.ref (Id.c 0) 0,I a,I (1:Int)] [ab.box
 [AV.own (Id.c 1),AV.own (Id.c 2)],ab.rows e 5 1 1 f g,ab.mp false [Ck.s] (Ck.i i64) h]) λl=>aa none l.head? λx=>aa none x.bool? λb=>aa none (List.drop 1 l).head? λx=>aa none
 (aN x) λp=>aa none (List.drop 1 l).tail.head? λx=>aa none ((List.drop 2 (List.drop 1 l)).head?.bind λz=>aL z) λl=>bif b then aa none (if aX p.snd=true then some () else none) λx=>
 some [T.int i64 d,be p.fst p.snd,T.ak,ba l] else aa none (O (Key.call 93) [AV.ref (Id.c 0) 0,I d,I (1:Int)] [ab.box [AV.own (Id.c 1),AV.own (Id.c 2)],ab.rows p.fst 5 1 1 p.snd.length p.snd,
 ab.mp false [Ck.s] (Ck.i i64) l]) λl=>aa none l.head? λx=>aa none x.bool? λb=>aa none (List.drop 1 l).head? λx=>aa none (aN x) λp=>aa none (List.drop 1 l).tail.head? λx=>aa
 none ((List.drop 2 (List.drop 1 l)).head?.bind λz=>aL z) λl=>bif b then aa none (if aX p.snd=true then some () else none) λx=>some [T.int i64 a,be p.fst p.snd,T.ak,ba l] else aa
 none (O (Key.call 93) [AV.ref (Id.c 0) 0,I a,I (2:Int)] [ab.box [AV.own (Id.c 1),AV.own (Id.c 2)],ab.rows p.fst 5 1 1 p.snd.length p.snd,ab.mp false [Ck.s] (Ck.i i64) l]) λl=>aa none l.head? λx
 =>aa none x.bool? λb=>aa none (List.drop 1 l).head? λx=>aa none (aN x) λp=>aa none (List.drop 1 l).tail.head? λx=>aa none ((List.drop 2 (List.drop 1 l)).head?.bind λz=>aL z) λl=>
 bif b then aa none (O (Key.call 66) [AV.ref (Id.c 0) 0,I d] [ab.box [AV.own (Id.c 1),AV.own (Id.c 2)],ab.rows p.fst 5 1 1 p.snd.length p.snd,ab.mp false [Ck.s] (Ck.i i64) l]) λl=>aa none l.head? fun
 x=>aa none (T.int? i64 x) λn=>aa none (List.drop 1 l).head? λx=>aa none (aN x) λp=>aa none (List.drop 1 l).tail.head? λx=>aa none ((List.drop 2 (List.drop 1 l)).head?.bind λz=>
 aL z) λl=>aa none (if aX p.snd=true then some () else none) λx=>some [T.int i64 n,be p.fst p.snd,T.ak,ba l] else aa none (O (Key.call 93) [AV.ref (Id.c 0) 0,I d,I (2:Int)]
 [ab.box [AV.own (Id.c 1),AV.own (Id.c 2)],ab.rows p.fst 5 1 1 p.snd.length p.snd,ab.mp false [Ck.s] (Ck.i i64) l]) λl=>aa none l.head? λx=>aa none x.bool? λb=>aa none (List.drop 1 l).head?
 λx=>aa none (aN x) λp=>aa none (List.drop 1 l).tail.head? λx=>aa none ((List.drop 2 (List.drop 1 l)).head?.bind λz=>aL z) λl=>bif b then aa none (O (Key.call 66) [AV.ref (Id.c 0) 0,I a]
 [ab.box [AV.own (Id.c 1),AV.own (Id.c 2)],ab.rows p.fst 5 1 1 p.snd.length p.snd,ab.mp false [Ck.s] (Ck.i i64) l]) λl=>aa none l.head? λx=>aa none (T.int? i64 x) λn=>aa none
 (List.drop 1 l).head? λx=>aa none (aN x) λp=>aa none (List.drop 1 l).tail.head? λx=>aa none ((List.drop 2 (List.drop 1 l)).head?.bind λz=>aL z) λl=>aa none (if aX p.snd=true then
 some () else none) λx=>some [T.int i64 n,be p.fst p.snd,T.ak,ba l] else aa none (O (Key.call 61) [AV.ref (Id.c 0) 0,I (6:Int),AV.t (T.str (ByteArray.mk #[])),I (0:Int),I (0:Int),AV.t
 (T.ad 1 false [[T.int i64 a],[T.int i64 d]])] [ab.box [AV.own (Id.c 1),AV.own (Id.c 2)],ab.rows p.fst 5 1 1 p.snd.length p.snd,ab.mp false [Ck.s] (Ck.i i64) l]) λl=>aa none l.head?
 λx=>aa none (T.int? i64 x) λn=>aa none (List.drop 1 l).head? λx=>aa none (aN x) λp=>aa none (List.drop 1 l).tail.head? λx=>aa none ((List.drop 2 (List.drop 1 l)).head?.bind λz
 =>aL z) λl=>aa none (if aX p.snd=true then some () else none) λx=>some [T.int i64 n,be p.fst p.snd,T.ak,ba l]):=by kernel_rfl
theorem vM(O:ax)(h:Int)(j:ByteArray)(k:Int)(m:Int)(r:Bool)(v:List (List T))(a:ByteArray)(q:Bool)(f:List (List T))(u:Int)(b:Int)(o:Bool)(d:Nat)(e:List Row)(g:List (List T×T)):aA ao ann O sq [(AV.ref (Id.c 0) 0),(I h),(AV.t (T.str j)),(I k),(I m),(AV.t (T.ad 1 r v)),(AV.t (T.str a)),(AV.t (T.ad 1 q f)),(I u),(I b)] [(ab.box [(AV.own (Id.c 1)),(AV.own (Id.c 2))]),(ab.rows o 5 1 1 d e),(ab.mp false [Ck.s] (Ck.i i64) g)]=
 (bif decide (b < u) then aa none (if(0:Int)<=b/\b < (↑f.length:Int) then some () else none) λx=>aa none f[b.toNat]? λl=>aa none l.head? λx=>aa none (T.int? i64 x) λn=>
 aa none (O (Key.call 59) [I n] []) λl=>aa none l.head? λx=>aa none x.a8 λs=>aa none (if 1+s.size<=4294967296 then some () else none) λx=>aa none (if a.size+ ((ByteArray.mk #[(32:UInt8)])
 ++s).size<=4294967296 then some () else none) λx=>O sq [AV.ref (Id.c 0) 0,I h,AV.t (T.str j),I k,I m,AV.t (T.ad 1 r v),AV.t (T.str (a++ ((ByteArray.mk #[(32:UInt8)])++s))),AV.t (T.ad 1
 q f),I u,I (i64.wrap (b+ (1:Int)))] [ab.box [AV.own (Id.c 1),AV.own (Id.c 2)],ab.rows o 5 1 1 d e,ab.mp false [Ck.s] (Ck.i i64) g] else aa none (T.int? i64 ((fG [T.str
 a] g).getD (T.int i64 (0:Int)))) λn=>bif (fG [T.str a] g).isSome then aa none (if aX e=true then some () else none) λx=>some [T.int i64 n,be o e,T.ak,ba g] else
 aa none (O (Key.call 25) [AV.t (T.ad 1 r v)] []) λl=>aa none l.head? λx=>aa none (T.au 1 x) λp=>aa none (bp 64 (e.length+1)) λx=>aa none (if aX (e++ [(Row.mk d [T.int
 i64 h,T.ak,T.int i64 k,T.int i64 m,T.str j] (some (p.fst,p.snd)))])=true then some () else none) λx=>some [T.int i64 (i64.wrap ((↑(e++ [(Row.mk d [T.int
 i64 h,T.ak,T.int i64 k,T.int i64 m,T.str j] (some (p.fst,p.snd)))]).length:Int) - (1:Int))),be false (e++ [(Row.mk d [T.int i64 h,T.ak,T.int i64 k,
 T.int i64 m,T.str j] (some (p.fst,p.snd)))]),T.ak,ba (gv [T.str a] (T.int i64 (i64.wrap ((↑(e++ [(Row.mk d [T.int i64 h,T.ak,T.int i64 k,T.int i64
 m,T.str j] (some (p.fst,p.snd)))]).length:Int) - (1:Int)))) g)]):=by kernel_rfl
theorem Ak(O:ax)(j:Bool)(g:List (List T))(k:Bool)(h:List (List T))(e:Int)(a:Int)(o:List (List T×T))(b:Bool)(c3:List (List T))(d:Bool)(m:Nat)(f:List Row):aA ao ann O dJ [(AV.t (T.ad 1 j g)),(AV.t (T.ad 1 k h)),(AV.fn 74 [(AV.ref (Id.c 0) 0)] []),(AV.own (Id.c 3)),(I e),(I a)] [(ab.box [(AV.own (Id.c 4)),(AV.own (Id.c 2))]),(Go.Aev.ab.dead),(ab.mp false [Ck.s] (Ck.i i64) o),(ab.sl false 1 b c3),(ab.rows d 5 1 1 m f)]=
 (bif decide (a < e) then aa none (if(0:Int)<=a/\a < (↑g.length:Int) then some () else none) λx=>aa none g[a.toNat]? λl=>aa none l.head? λx=>aa none (T.int? i64 x) λn=>aa
 none (if(0:Int)<=a/\a < (↑h.length:Int) then some () else none) λx=>aa none h[a.toNat]? λl=>aa none l.head? λx=>aa none (T.int? i64 x) λq=>aa none (O (Key.call 74) [AV.ref
 (Id.c 0) 0,I n,I q] [ab.box [AV.own (Id.c 1),AV.own (Id.c 2)],ab.rows d 5 1 1 m f,ab.mp false [Ck.s] (Ck.i i64) o]) λl=>aa none l.head? λx=>aa none (T.int? i64 x) λn=>aa
 none (List.drop 1 l).head? λx=>aa none (aN x) λp=>aa none (List.drop 1 l).tail.head? λx=>aa none ((List.drop 2 (List.drop 1 l)).head?.bind λz=>aL z) λl=>aa none (bp 8 (c3.length+
 [[T.int i64 n]].length)) λx=>O dJ [AV.t (T.ad 1 j g),AV.t (T.ad 1 k h),AV.fn 74 [AV.ref (Id.c 0) 0] [],AV.own (Id.c 3),I e,I (i64.wrap (a+ (1:Int)))] [ab.box [AV.own (Id.c
 4),AV.own (Id.c 2)],ab.dead,ab.mp false [Ck.s] (Ck.i i64) l,ab.sl false 1 (b && false) (c3++ [[T.int i64 n]]),ab.rows p.fst 5 1 1 p.snd.length p.snd] else aa none (if aX f=true then
 some () else none) λx=>some [T.ad 1 b c3,be d f,T.ak,ba o]):=by kernel_rfl
theorem Hs(O:ax)(b:Int)(e:Int)(d:Bool)(g:Nat)(a:List Row)(f:List (List T×T)):aA ao ann O (Key.call 93) [(AV.ref (Id.c 0) 0),(I b),(I e)] [(ab.box [(AV.own (Id.c 1)),(AV.own (Id.c 2))]),(ab.rows d 5 1 1 g a),(ab.mp false [Ck.s] (Ck.i i64) f)]=
 (aa none (if(0:Int)<=b/\b < (↑a.length:Int) then some () else none) λx=>aa none a[b.toNat]? λx=>aa none (List.drop 0 x.cs).head? λx=>aa none (T.int? i64 x) λn=>aa none (if
 aX a=true then some () else none) λx=>some [T.bool (n==e),be d a,T.ak,ba f]):=by kernel_rfl
theorem Gy(O:ax)(a:ByteArray)(c:ByteArray):aA ao ann O (Key.call 58) [(AV.t (T.str a)),(AV.t (T.str c))] []=
 (aa none (O (Key.call 90) [AV.t (T.str a),AV.t (T.str c)] []) λl=>aa none l.head? λx=>aa none x.a8 λs=>aa none l.tail.head? λx=>aa none x.bool? λb=>some [T.str s,T.bool b]):=by kernel_rfl
theorem zR(O:ax)(D:Bool)(L:List (List T))(E:Int)(q:Int)(b:Bool)(f:List (List T))(d:Bool)(g:List (List T))(e:Bool)(h:List (List T))(a:ByteArray)(j:Bool)(k:List (List T))(y:Bool)(J:List (List T))(A:Bool)(c3:List (List T))(K:List (List T×T))(r:Int)(o:Bool)(u:List (List T))(v:Int)(w:Int)(m:ByteArray)(B:Bool)(c8:List (List T))(C:Bool)(H:Nat)(F:List Row):aA ao ann O gE [(AV.ref (Id.c 6) 0),(AV.ref (Id.c 7) 0),(AV.own (Id.c 8)),(AV.t (T.ad 1 D L)),(I E),(I q)] [(ab.box [(AV.ref (Id.c 1) 0),(AV.t (T.ad 3 b f)),(AV.t (T.ad 5 d g)),(AV.t (T.ad 1 e h)),(AV.t (T.str a)),(AV.t (T.ad 1 j k)),(AV.own (Id.c 2)),(AV.own (Id.c 3))]),(ab.box [(AV.own (Id.c 9)),(AV.own (Id.c 5))]),(ab.sl false 1 y J),(ab.sl false 1 A c3),(Go.Aev.ab.dead),(ab.mp false [Ck.s] (Ck.i i64) K),(ab.box [(AV.ref (Id.c 0) 0)]),(ab.box [(I r),(AV.t (T.ad 1 o u)),(I v),(I w),(AV.t (T.str m))]),(ab.sl false 1 B c8),(ab.rows C 5 1 1 H F)]=
 (bif decide (q < E) then aa none (O (Key.call 62) [AV.agg [AV.t (T.ad 3 b f),AV.t (T.ad 5 d g),AV.t (T.ad 1 e h)],AV.t (T.str m)] []) λl=>aa none l.head? λx=>aa none (T.int?
 i64 x) λn=>aa none (O (Key.call 59) [I n] []) λl=>aa none l.head? λx=>aa none x.a8 λs=>aa none (if a.size+s.size<=4294967296 then some () else none) λx=>aa none (if(a++
 s).size+1<=4294967296 then some () else none) λx=>aa none (O (Key.call 59) [I q] []) λl=>aa none l.head? λx=>aa none x.a8 λG=>aa none (if(a++s++ (ByteArray.mk #[(95:UInt8)])).size
 +G.size<=4294967296 then some () else none) λx=>aa none (O (Key.call 61) [AV.ref (Id.c 0) 0,I (9:Int),AV.t (T.str (a++s++ (ByteArray.mk #[(95:UInt8)])++G)),I (0:Int),I (0:Int),AV.t (T.ad
 1 D L)] [ab.box [AV.own (Id.c 1),AV.own (Id.c 2)],ab.rows C 5 1 1 H F,ab.mp false [Ck.s] (Ck.i i64) K]) λl=>aa none l.head? λx=>aa none (T.int? i64 x) λn=>aa none
 (List.drop 1 l).head? λx=>aa none (aN x) λp=>aa none (List.drop 1 l).tail.head? λx=>aa none ((List.drop 2 (List.drop 1 l)).head?.bind λz=>aL z) λl=>aa none (bp 8 (c8.length+ [[T.int
 i64 n]].length)) λx=>O gE [AV.ref (Id.c 6) 0,AV.ref (Id.c 7) 0,AV.own (Id.c 8),AV.t (T.ad 1 D L),I E,I (i64.wrap (q+ (1:Int)))] [ab.box [AV.ref (Id.c 1) 0,AV.t (T.ad 3 b
 f),AV.t (T.ad 5 d g),AV.t (T.ad 1 e h),AV.t (T.str a),AV.t (T.ad 1 j k),AV.own (Id.c 2),AV.own (Id.c 3)],ab.box [AV.own (Id.c 9),AV.own (Id.c 5)],ab.sl false 1 y J,ab.sl false
 1 A c3,ab.dead,ab.mp false [Ck.s] (Ck.i i64) l,ab.box [AV.ref (Id.c 0) 0],ab.box [I r,AV.t (T.ad 1 o u),I v,I w,AV.t (T.str m)],ab.sl false 1 (B && false) (c8++ [[T.int
 i64 n]]),ab.rows p.fst 5 1 1 p.snd.length p.snd] else aa none (if aX F=true then some () else none) λx=>some [T.ad 1 B c8,T.ak,T.ad 3 b f,T.ad 5 d g,T.ad 1 e h,
 T.str a,T.ad 1 j k,T.ak,T.ak,be C F,T.ak,T.ad 1 y J,T.ad 1 A c3,ba K]):=by kernel_rfl
theorem Ho(O:ax)(b:Bool)(c:List (List T))(a:ByteArray):aA ao ann O (Key.call 89) [(AV.t (T.ad 3 b c)),(AV.fn 92 [] [(AV.t (T.ptr [(T.str a)]))])] []=
 (O fX [AV.t (T.ad 3 b c),AV.fn 92 [] [AV.t (T.ptr [T.str a])],I (↑c.length:Int),I (0:Int)] []):=by kernel_rfl
theorem Aw(O:ax)(g:Bool)(y:List (List T))(j:Bool)(A:List (List T))(B:Int)(b:Bool)(m:List (List T))(o:Int)(q:Int)(h:Bool)(d:List (List T))(r:Int)(a:Int)(v:List (List T×T))(e:Bool)(c3:List (List T))(f:Bool)(u:Nat)(w:List Row):aA ao ann O nw [(AV.ref (Id.c 0) 0),(AV.t (T.ad 1 g y)),(AV.t (T.ad 1 j A)),(I B),(AV.own (Id.c 3)),(AV.t (T.ad 1 b m)),(I o),(I q),(AV.t (T.ad 1 h d)),(I r),(I a)] [(ab.box [(AV.own (Id.c 4)),(AV.own (Id.c 2))]),(Go.Aev.ab.dead),(ab.mp false [Ck.s] (Ck.i i64) v),(ab.sl false 1 e c3),(ab.rows f 5 1 1 u w)]=
 (bif decide (a < r) then aa none (if(0:Int)<=a/\a < (↑d.length:Int) then some () else none) λx=>aa none d[a.toNat]? λl=>aa none l.head? λx=>aa none (T.int? i64 x) λn=>
 aa none (O (Key.call 67) [AV.ref (Id.c 0) 0,I B,I n] [ab.box [AV.own (Id.c 1),AV.own (Id.c 2)],ab.rows f 5 1 1 u w,ab.mp false [Ck.s] (Ck.i i64) v]) λl=>aa none l.head? λx=>aa none
 (T.int? i64 x) λn=>aa none (List.drop 1 l).head? λx=>aa none (aN x) λp=>aa none (List.drop 1 l).tail.head? λx=>aa none ((List.drop 2 (List.drop 1 l)).head?.bind λz=>aL z) λl=>
 aa none (bp 8 (c3.length+ [[T.int i64 n]].length)) λx=>O nw [AV.ref (Id.c 0) 0,AV.t (T.ad 1 g y),AV.t (T.ad 1 j A),I B,AV.own (Id.c 3),AV.t (T.ad 1 b m),I o,I q,AV.t
 (T.ad 1 h d),I r,I (i64.wrap (a+ (1:Int)))] [ab.box [AV.own (Id.c 4),AV.own (Id.c 2)],ab.dead,ab.mp false [Ck.s] (Ck.i i64) l,ab.sl false 1 (e && false) (c3++ [[T.int i64
 n]]),ab.rows p.fst 5 1 1 p.snd.length p.snd] else aa none (O (Key.call 70) [AV.ref (Id.c 0) 0,AV.t (T.ad 1 j A),AV.t (T.ad 1 e c3)] [ab.box [AV.own (Id.c 1),AV.own (Id.c 2)],ab.rows f 5 1 1 u w,
 ab.mp false [Ck.s] (Ck.i i64) v]) λl=>aa none l.head? λx=>aa none (T.au 1 x) λp=>aa none (List.drop 1 l).head? λx=>aa none (aN x) λk=>aa none (List.drop 1 l).tail.head? λx
 =>aa none ((List.drop 2 (List.drop 1 l)).head?.bind λz=>aL z) λl=>O oE [AV.ref (Id.c 0) 0,AV.t (T.ad 1 g y),AV.t (T.ad 1 p.fst p.snd),AV.t (T.ad 1 b m),I o,I (i64.wrap (q+
 (1:Int)))] [ab.box [AV.own (Id.c 3),AV.own (Id.c 2)],ab.dead,ab.mp false [Ck.s] (Ck.i i64) l,ab.rows k.fst 5 1 1 k.snd.length k.snd]):=by kernel_rfl
theorem zZ(O:ax)(u:Int)(h:Nat)(o:Int)(a:Int)(j:Bool)(q:Nat)(i:List Row)(k:Bool)(s:List (List T))(b:Bool)(g:List (List T))(d:Bool)(e:Bool)(f:Bool)(m:Bool)(r:List (List T)):aA ao ann O sc [(AV.ref (Id.c 2) 0),(AV.ref (Id.c 3) 0),(AV.own (Id.c 4)),(I u),(AV.row (Id.c 0) h),(I o),(I a)] [(ab.rows j 5 1 1 q i),(ab.sl false 1 k s),(ab.box [(AV.t (T.ad 3 b g)),(AV.own (Id.c 0)),(AV.own (Id.c 1))]),(ab.box [(AV.t (T.af d)),(AV.t (T.af e)),(AV.t (T.af f))]),(ab.sl false 1 m r)]=
 (bif decide (a < o) then aa none (cv h i) λp=>aa none (if(0:Int)<=a/\a < (↑p.snd.length:Int) then some () else none) λx=>aa none (cv h i) λp=>aa none p.snd[a.toNat]? λl=>
 aa none l.head? λx=>aa none (T.int? i64 x) λn=>aa none (if(0:Int)<=n/\n < (↑r.length:Int) then some () else none) λx=>aa none (fV n.toNat 0 [T.bool true] r) λl=>O sc
 [AV.ref (Id.c 2) 0,AV.ref (Id.c 3) 0,AV.own (Id.c 4),I u,AV.row (Id.c 0) h,I o,I (i64.wrap (a+ (1:Int)))] [ab.rows j 5 1 1 q i,ab.sl false 1 k s,ab.box [AV.t (T.ad 3 b g),
 AV.own (Id.c 0),AV.own (Id.c 1)],ab.box [AV.t (T.af d),AV.t (T.af e),AV.t (T.af f)],ab.sl false 1 m l] else O kO [AV.ref (Id.c 2) 0,AV.ref (Id.c 3) 0,AV.own (Id.c 4),I (i64.wrap (u
 - (1:Int)))] [ab.rows j 5 1 1 q i,ab.sl false 1 k s,ab.box [AV.t (T.ad 3 b g),AV.own (Id.c 0),AV.own (Id.c 1)],ab.box [AV.t (T.af d),AV.t (T.af e),AV.t (T.af f)],ab.sl false 1
 m r]):=by kernel_rfl
theorem vI(O:ax)(v:Int)(a:Int)(q:Bool)(w:Nat)(m:List Row)(r:Bool)(y:List (List T))(k:Bool)(o:List (List T))(d:Bool)(e:Bool)(f:Bool)(B:Bool)(z:List (List T))(u:Bool)(A:List (List T))(g:Bool)(j:List (List T))(h:Bool)(i:Bool):aA ao ann O hY [(AV.ref (Id.c 2) 0),(AV.ref (Id.c 3) 0),(AV.own (Id.c 4)),(AV.own (Id.c 5)),(AV.ref (Id.c 6) 0),(AV.own (Id.c 0)),(I v),(I a)] [(ab.rows q 5 1 1 w m),(ab.sl false 1 r y),(ab.box [(AV.t (T.ad 3 k o)),(AV.own (Id.c 0)),(AV.own (Id.c 1))]),(ab.box [(AV.t (T.af d)),(AV.t (T.af e)),(AV.t (T.af f))]),(ab.sl false 1 B z),(ab.sl false 1 u A),(ab.box [(AV.t (T.ad 3 g j)),(AV.t (T.af h)),(AV.t (T.af i))])]=
 (bif decide (a < v) then aa none (if(0:Int)<=a/\a < (↑m.length:Int) then some () else none) λx=>aa none m[a.toNat]? λx=>aa none x.cs.head? λE=>aa none x.cs.tail.head? λK=>aa
 none x.cs.tail.tail.head? λF=>aa none x.cs.tail.tail.tail.head? λG=>aa none x.cs.tail.tail.tail.tail.head? λH=>aa none (T.int? i64 E) λn=>aa none (T.int? i64 F) λC=>
 aa none (T.int? i64 G) λD=>aa none H.a8 λs=>aa none (if(0:Int)<=a/\a < (↑z.length:Int) then some () else none) λL=>aa none z[a.toNat]? λl=>aa none l.head? λJ
 =>aa none J.bool? λb=>bif !b then O hY [AV.ref (Id.c 2) 0,AV.ref (Id.c 3) 0,AV.own (Id.c 4),AV.own (Id.c 5),AV.ref (Id.c 6) 0,AV.own (Id.c 0),I v,I (i64.wrap (a+ (1:Int)))] [ab.rows
 q 5 1 1 w m,ab.sl false 1 r y,ab.box [AV.t (T.ad 3 k o),AV.own (Id.c 0),AV.own (Id.c 1)],ab.box [AV.t (T.af d),AV.t (T.af e),AV.t (T.af f)],ab.sl false 1 B z,ab.sl false 1
 u A,ab.box [AV.t (T.ad 3 g j),AV.t (T.af h),AV.t (T.af i)]] else aa none (if(0:Int)<=a/\a < (↑A.length:Int) then some () else none) λM=>aa none (fV a.toNat 0 [T.int
 i64 (↑0:Int)] A) λl=>aa none (cv x.n m) λp=>O fW [AV.ref (Id.c 2) 0,AV.ref (Id.c 3) 0,AV.own (Id.c 4),AV.own (Id.c 5),AV.ref (Id.c 6) 0,AV.ref (Id.c 7) 0,AV.own (Id.c 0),I v,I
 a,AV.row (Id.c 0) x.n,I (↑p.snd.length:Int),I (0:Int)] [ab.rows q 5 1 1 w m,ab.sl false 1 r y,ab.box [AV.t (T.ad 3 k o),AV.own (Id.c 0),AV.own (Id.c 1)],ab.box [AV.t (T.af d),AV.t
 (T.af e),AV.t (T.af f)],ab.sl false 1 B z,ab.sl false 1 u l,ab.box [AV.t (T.ad 3 g j),AV.t (T.af h),AV.t (T.af i)],ab.box [I n,AV.row (Id.c 0) x.n,I C,I D,AV.t (T.str
 s)]] else O fC [AV.ref (Id.c 2) 0,AV.own (Id.c 3),AV.ref (Id.c 4) 0,AV.own (Id.c 1),I (↑y.length:Int),I (0:Int)] [ab.rows q 5 1 1 w m,ab.sl false 1 r y,ab.box [AV.t (T.af d),AV.t (T.af
 e),AV.t (T.af f)],ab.sl false 1 u A,ab.box [AV.t (T.ad 3 g j),AV.t (T.af h),AV.t (T.af i)]]):=by kernel_rfl
theorem Hq(O:ax)(a:ByteArray)(c:ByteArray):aA ao ann O (Key.call 90) [(AV.t (T.str a)),(AV.t (T.str c))] []=
 (aa none (O (Key.call 103) [AV.t (T.str a),AV.t (T.str c)] []) λl=>aa none l.head? λx=>aa none x.bool? λb=>bif !b then some [T.str a,T.bool false] else aa none (eZ (↑c.size:Int) (↑a.size:Int)
 (↑a.size:Int)) λx=>some [T.str (a.extract (↑c.size:Int).toNat (↑a.size:Int).toNat),T.bool true]):=by kernel_rfl
theorem AM(O:ax)(e:Bool)(d:List (List T))(c:ByteArray)(f:Int)(a:Int):aA ao ann O fX [(AV.t (T.ad 3 e d)),(AV.fn 92 [] [(AV.t (T.ptr [(T.str c)]))]),(I f),(I a)] []=
 (bif decide (a < f) then aa none (if(0:Int)<=a/\a < (↑d.length:Int) then some () else none) λx=>aa none d[a.toNat]? λl=>aa none l.head? λx=>aa none l.tail.head? λg=>aa none
 l.tail.tail.head? λh=>aa none x.a8 λs=>aa none (T.au 1 g) λp=>aa none (T.int? i64 h) λn=>aa none (O (Key.call 92) [AV.agg [AV.t (T.str s),AV.t (T.ad 1 p.fst p.snd),I n],AV.t
 (T.ptr [T.str c])] []) λl=>aa none l.head? λx=>aa none x.bool? λb=>bif b then some [T.int i64 a] else O fX [AV.t (T.ad 3 e d),AV.fn 92 [] [AV.t (T.ptr [T.str c])],I f,I
 (i64.wrap (a+ (1:Int)))] [] else some [T.int i64 (-1:Int)]):=by kernel_rfl
theorem z6(O:ax)(C:Int)(D:Int)(v:Nat)(E:Int)(b:Int)(y:Bool)(F:Nat)(k:List Row)(z:Bool)(G:List (List T))(d:Bool)(m:List (List T))(e:Bool)(f:Bool)(g:Bool)(A:Bool)(H:List (List T))(B:Bool)(w:List (List T))(h:Bool)(o:List (List T))(i:Bool)(j:Bool)(q:Int)(a:Nat)(r:Int)(s:Int)(u:ByteArray):aA ao ann O fW [(AV.ref (Id.c 2) 0),(AV.ref (Id.c 3) 0),(AV.own (Id.c 4)),(AV.own (Id.c 5)),(AV.ref (Id.c 6) 0),(AV.ref (Id.c 7) 0),(AV.own (Id.c 0)),(I C),(I D),(AV.row (Id.c 0) v),(I E),(I b)] [(ab.rows y 5 1 1 F k),(ab.sl false 1 z G),(ab.box [(AV.t (T.ad 3 d m)),(AV.own (Id.c 0)),(AV.own (Id.c 1))]),(ab.box [(AV.t (T.af e)),(AV.t (T.af f)),(AV.t (T.af g))]),(ab.sl false 1 A H),(ab.sl false 1 B w),(ab.box [(AV.t (T.ad 3 h o)),(AV.t (T.af i)),(AV.t (T.af j))]),(ab.box [(I q),(AV.row (Id.c 0) a),(I r),(I s),(AV.t (T.str u))])]=
 (bif decide (b < E) then aa none (cv v k) λp=>aa none (if(0:Int)<=b/\b < (↑p.snd.length:Int) then some () else none) λx=>aa none (cv v k) λp=>aa none p.snd[b.toNat]? λl=>
 aa none l.head? λx=>aa none (T.int? i64 x) λn=>aa none (if(0:Int)<=n/\n < (↑w.length:Int) then some () else none) λx=>aa none w[n.toNat]? λl=>aa none l.head? λx=>aa none
 (T.int? i64 x) λn=>aa none (cv a k) λp=>aa none (if(0:Int)<=b/\b < (↑p.snd.length:Int) then some () else none) λx=>aa none (cv a k) λp=>aa none (fV b.toNat 0
 [T.int i64 n] p.snd) λl=>O fW [AV.ref (Id.c 2) 0,AV.ref (Id.c 3) 0,AV.own (Id.c 4),AV.own (Id.c 5),AV.ref (Id.c 6) 0,AV.ref (Id.c 7) 0,AV.own (Id.c 0),I C,I D,AV.row (Id.c 0) v,I E,I
 (i64.wrap (b+ (1:Int)))] [ab.rows y 5 1 1 F (cR a (some (p.fst,l)) k),ab.sl false 1 z G,ab.box [AV.t (T.ad 3 d m),AV.own (Id.c 0),AV.own (Id.c 1)],ab.box [AV.t (T.af e),
 AV.t (T.af f),AV.t (T.af g)],ab.sl false 1 A H,ab.sl false 1 B w,ab.box [AV.t (T.ad 3 h o),AV.t (T.af i),AV.t (T.af j)],ab.box [I q,AV.row (Id.c 0) a,I r,I s,
 AV.t (T.str u)]] else aa none (cv a k) λp=>O hY [AV.ref (Id.c 2) 0,AV.ref (Id.c 3) 0,AV.own (Id.c 4),AV.own (Id.c 5),AV.ref (Id.c 6) 0,AV.own (Id.c 0),I C,I (i64.wrap (D+ (1:
 Int)))] [ab.rows y 5 1 1 F (cR a none k),ab.sl false 1 z G,ab.box [AV.t (T.ad 3 d m),AV.own (Id.c 0),AV.own (Id.c 1)],ab.box [AV.t (T.af e),AV.t (T.af f),AV.t (T.af g)],
 ab.sl false 1 A H,ab.sl false 1 B w,ab.box [AV.t (T.ad 3 h o),AV.own (Id.c 7),AV.t (T.af j)],ab.sl false 5 (i && false) [[T.int i64 q,T.ad 1 p.fst p.snd,T.int i64
 r,T.int i64 s,T.str u]]]):=by kernel_rfl
theorem Aa(O:ax)(g:Int)(a:Int)(m:Bool)(q:Nat)(r:List Row)(o:Bool)(k:List (List T))(h:Bool)(i:Bool)(j:Bool)(p:Bool)(c3:List (List T))(b:Bool)(f:List (List T))(d:Bool)(e:Bool):aA ao ann O fC [(AV.ref (Id.c 2) 0),(AV.own (Id.c 3)),(AV.ref (Id.c 4) 0),(AV.own (Id.c 1)),(I g),(I a)] [(ab.rows m 5 1 1 q r),(ab.sl false 1 o k),(ab.box [(AV.t (T.af h)),(AV.t (T.af i)),(AV.t (T.af j))]),(ab.sl false 1 p c3),(ab.box [(AV.t (T.ad 3 b f)),(AV.t (T.af d)),(AV.t (T.af e))])]=
 (bif decide (a < g) then aa none (if(0:Int)<=a/\a < (↑k.length:Int) then some () else none) λx=>aa none k[a.toNat]? λl=>aa none l.head? λx=>aa none (T.int? i64 x) λn=>
 aa none (if(0:Int)<=n/\n < (↑c3.length:Int) then some () else none) λx=>aa none c3[n.toNat]? λl=>aa none l.head? λx=>aa none (T.int? i64 x) λn=>O fC [AV.ref (Id.c 2) 0,AV.own
 (Id.c 3),AV.ref (Id.c 4) 0,AV.own (Id.c 1),I g,I (i64.wrap (a+ (1:Int)))] [ab.rows m 5 1 1 q r,ab.sl false 1 o k,ab.box [AV.t (T.af h),AV.t (T.af i),AV.t (T.af j)],
 ab.sl false 1 p c3,ab.box [AV.t (T.ad 3 b f),AV.t (T.af d),AV.own (Id.c 5)],ab.sl false 1 (e && false) [[T.int i64 n]]] else some [T.ad 3 b f,T.af d,T.af e]):=by kernel_rfl
theorem F1(O:ax)(b:ByteArray)(a:ByteArray):aA ao ann O (Key.call 103) [(AV.t (T.str b)),(AV.t (T.str a))] []=
 (aa (some (decide ((↑b.size:Int)>=(↑a.size:Int)))) (eZ (0:Int) (↑a.size:Int) (↑b.size:Int)) λx=>some [T.bool (bif decide ((↑b.size:Int)>=(↑a.size:Int)) then(b.extract 0 (↑a.size:
 Int).toNat).toList==a.toList else false)]):=by kernel_rfl
theorem Hr(O:ax)(a:ByteArray)(b:Bool)(c:List (List T))(d:Int)(e:ByteArray):aA ao ann O (Key.call 92) [(AV.agg [(AV.t (T.str a)),(AV.t (T.ad 1 b c)),(I d)]),(AV.t (T.ptr [(T.str e)]))] []=
 (some [T.bool (a.toList==e.toList)]):=by kernel_rfl
theorem vJ(O:ax)(v:Int)(a:Int)(o:Bool)(w:Nat)(k:List Row)(q:Bool)(y:List (List T))(j:Bool)(m:List (List T))(d:Bool)(e:Bool)(f:Bool)(B:Bool)(z:List (List T))(r:Bool)(A:List (List T))(g:Bool)(i:List (List T))(h:Bool)(u:Bool)(c7:List (List T)):aA ao ann O hY [(AV.ref (Id.c 2) 0),(AV.ref (Id.c 3) 0),(AV.own (Id.c 4)),(AV.own (Id.c 5)),(AV.ref (Id.c 6) 0),(AV.own (Id.c 0)),(I v),(I a)] [(ab.rows o 5 1 1 w k),(ab.sl false 1 q y),(ab.box [(AV.t (T.ad 3 j m)),(AV.own (Id.c 0)),(AV.own (Id.c 1))]),(ab.box [(AV.t (T.af d)),(AV.t (T.af e)),(AV.t (T.af f))]),(ab.sl false 1 B z),(ab.sl false 1 r A),(ab.box [(AV.t (T.ad 3 g i)),(AV.own (Id.c 7)),(AV.t (T.af h))]),(ab.sl false 5 u c7)]=
 (bif decide (a < v) then aa none (if(0:Int)<=a/\a < (↑k.length:Int) then some () else none) λx=>aa none k[a.toNat]? λx=>aa none x.cs.head? λE=>aa none x.cs.tail.head? λK=>aa
 none x.cs.tail.tail.head? λF=>aa none x.cs.tail.tail.tail.head? λG=>aa none x.cs.tail.tail.tail.tail.head? λH=>aa none (T.int? i64 E) λn=>aa none (T.int? i64 F) λC=>
 aa none (T.int? i64 G) λD=>aa none H.a8 λs=>aa none (if(0:Int)<=a/\a < (↑z.length:Int) then some () else none) λL=>aa none z[a.toNat]? λl=>aa none l.head? λJ
 =>aa none J.bool? λb=>bif !b then O hY [AV.ref (Id.c 2) 0,AV.ref (Id.c 3) 0,AV.own (Id.c 4),AV.own (Id.c 5),AV.ref (Id.c 6) 0,AV.own (Id.c 0),I v,I (i64.wrap (a+ (1:Int)))] [ab.rows
 o 5 1 1 w k,ab.sl false 1 q y,ab.box [AV.t (T.ad 3 j m),AV.own (Id.c 0),AV.own (Id.c 1)],ab.box [AV.t (T.af d),AV.t (T.af e),AV.t (T.af f)],ab.sl false 1 B z,ab.sl false 1
 r A,ab.box [AV.t (T.ad 3 g i),AV.own (Id.c 7),AV.t (T.af h)],ab.sl false 5 u c7] else aa none (if(0:Int)<=a/\a < (↑A.length:Int) then some () else none) λM=>aa none (fV
 a.toNat 0 [T.int i64 (↑c7.length:Int)] A) λl=>aa none (cv x.n k) λp=>O fW [AV.ref (Id.c 2) 0,AV.ref (Id.c 3) 0,AV.own (Id.c 4),AV.own (Id.c 5),AV.ref (Id.c 6) 0,AV.ref (Id.c 7) 0,
 AV.own (Id.c 0),I v,I a,AV.row (Id.c 0) x.n,I (↑p.snd.length:Int),I (0:Int)] [ab.rows o 5 1 1 w k,ab.sl false 1 q y,ab.box [AV.t (T.ad 3 j m),AV.own (Id.c 0),AV.own (Id.c 1)],ab.box
 [AV.t (T.af d),AV.t (T.af e),AV.t (T.af f)],ab.sl false 1 B z,ab.sl false 1 r l,ab.box [AV.t (T.ad 3 g i),AV.own (Id.c 8),AV.t (T.af h)],ab.box [I n,AV.row (Id.c 0) x.n,I
 C,I D,AV.t (T.str s)],ab.sl false 5 u c7] else O fC [AV.ref (Id.c 2) 0,AV.own (Id.c 3),AV.ref (Id.c 4) 0,AV.own (Id.c 1),I (↑y.length:Int),I (0:Int)] [ab.rows o 5 1 1 w k,ab.sl false 1
 q y,ab.box [AV.t (T.af d),AV.t (T.af e),AV.t (T.af f)],ab.sl false 1 r A,ab.box [AV.t (T.ad 3 g i),AV.own (Id.c 5),AV.t (T.af h)],ab.sl false 5 u c7]):=by kernel_rfl
theorem Ab(O:ax)(f:Int)(a:Int)(o:Bool)(r:Nat)(s:List Row)(p:Bool)(k:List (List T))(g:Bool)(h:Bool)(i:Bool)(q:Bool)(c3:List (List T))(b:Bool)(e:List (List T))(d:Bool)(j:Bool)(m:List (List T)):aA ao ann O fC [(AV.ref (Id.c 2) 0),(AV.own (Id.c 3)),(AV.ref (Id.c 4) 0),(AV.own (Id.c 1)),(I f),(I a)] [(ab.rows o 5 1 1 r s),(ab.sl false 1 p k),(ab.box [(AV.t (T.af g)),(AV.t (T.af h)),(AV.t (T.af i))]),(ab.sl false 1 q c3),(ab.box [(AV.t (T.ad 3 b e)),(AV.t (T.af d)),(AV.own (Id.c 5))]),(ab.sl false 1 j m)]=
 (bif decide (a < f) then aa none (if(0:Int)<=a/\a < (↑k.length:Int) then some () else none) λx=>aa none k[a.toNat]? λl=>aa none l.head? λx=>aa none (T.int? i64 x) λn=>
 aa none (if(0:Int)<=n/\n < (↑c3.length:Int) then some () else none) λx=>aa none c3[n.toNat]? λl=>aa none l.head? λx=>aa none (T.int? i64 x) λn=>aa none (bp 8 (m.length+ [[T.int
 i64 n]].length)) λx=>O fC [AV.ref (Id.c 2) 0,AV.own (Id.c 3),AV.ref (Id.c 4) 0,AV.own (Id.c 1),I f,I (i64.wrap (a+ (1:Int)))] [ab.rows o 5 1 1 r s,ab.sl false 1 p k,
 ab.box [AV.t (T.af g),AV.t (T.af h),AV.t (T.af i)],ab.sl false 1 q c3,ab.box [AV.t (T.ad 3 b e),AV.t (T.af d),AV.own (Id.c 5)],ab.sl false 1 (j && false) (m++ [[T.int
 i64 n]])] else some [T.ad 3 b e,T.af d,T.ad 1 j m]):=by kernel_rfl
theorem z7(O:ax)(C:Int)(D:Int)(u:Nat)(E:Int)(b:Int)(w:Bool)(F:Nat)(q:List Row)(y:Bool)(G:List (List T))(h:Bool)(r:List (List T))(i:Bool)(j:Bool)(k:Bool)(z:Bool)(H:List (List T))(A:Bool)(v:List (List T))(m:Bool)(s:List (List T))(o:Bool)(d:Int)(a:Nat)(e:Int)(f:Int)(g:ByteArray)(B:Bool)(c8:List (List T)):aA ao ann O fW [(AV.ref (Id.c 2) 0),(AV.ref (Id.c 3) 0),(AV.own (Id.c 4)),(AV.own (Id.c 5)),(AV.ref (Id.c 6) 0),(AV.ref (Id.c 7) 0),(AV.own (Id.c 0)),(I C),(I D),(AV.row (Id.c 0) u),(I E),(I b)] [(ab.rows w 5 1 1 F q),(ab.sl false 1 y G),(ab.box [(AV.t (T.ad 3 h r)),(AV.own (Id.c 0)),(AV.own (Id.c 1))]),(ab.box [(AV.t (T.af i)),(AV.t (T.af j)),(AV.t (T.af k))]),(ab.sl false 1 z H),(ab.sl false 1 A v),(ab.box [(AV.t (T.ad 3 m s)),(AV.own (Id.c 8)),(AV.t (T.af o))]),(ab.box [(I d),(AV.row (Id.c 0) a),(I e),(I f),(AV.t (T.str g))]),(ab.sl false 5 B c8)]=
 (bif decide (b < E) then aa none (cv u q) λp=>aa none (if(0:Int)<=b/\b < (↑p.snd.length:Int) then some () else none) λx=>aa none (cv u q) λp=>aa none p.snd[b.toNat]? λl=>
 aa none l.head? λx=>aa none (T.int? i64 x) λn=>aa none (if(0:Int)<=n/\n < (↑v.length:Int) then some () else none) λx=>aa none v[n.toNat]? λl=>aa none l.head? λx=>aa none
 (T.int? i64 x) λn=>aa none (cv a q) λp=>aa none (if(0:Int)<=b/\b < (↑p.snd.length:Int) then some () else none) λx=>aa none (cv a q) λp=>aa none (fV b.toNat 0
 [T.int i64 n] p.snd) λl=>O fW [AV.ref (Id.c 2) 0,AV.ref (Id.c 3) 0,AV.own (Id.c 4),AV.own (Id.c 5),AV.ref (Id.c 6) 0,AV.ref (Id.c 7) 0,AV.own (Id.c 0),I C,I D,AV.row (Id.c 0) u,I E,I
 (i64.wrap (b+ (1:Int)))] [ab.rows w 5 1 1 F (cR a (some (p.fst,l)) q),ab.sl false 1 y G,ab.box [AV.t (T.ad 3 h r),AV.own (Id.c 0),AV.own (Id.c 1)],ab.box [AV.t (T.af i),
 AV.t (T.af j),AV.t (T.af k)],ab.sl false 1 z H,ab.sl false 1 A v,ab.box [AV.t (T.ad 3 m s),AV.own (Id.c 8),AV.t (T.af o)],ab.box [I d,AV.row (Id.c 0) a,I e,I f,AV.t
 (T.str g)],ab.sl false 5 B c8] else aa none (cv a q) λp=>aa none (bp 64 (c8.length+ [[T.int i64 d,T.ad 1 p.fst p.snd,T.int i64 e,T.int i64 f,T.str
 g]].length)) λx=>O hY [AV.ref (Id.c 2) 0,AV.ref (Id.c 3) 0,AV.own (Id.c 4),AV.own (Id.c 5),AV.ref (Id.c 6) 0,AV.own (Id.c 0),I C,I (i64.wrap (D+ (1:Int)))] [ab.rows w 5 1 1 F (cR
 a none q),ab.sl false 1 y G,ab.box [AV.t (T.ad 3 h r),AV.own (Id.c 0),AV.own (Id.c 1)],ab.box [AV.t (T.af i),AV.t (T.af j),AV.t (T.af k)],ab.sl false 1 z H,ab.sl false 1 A
 v,ab.box [AV.t (T.ad 3 m s),AV.own (Id.c 7),AV.t (T.af o)],ab.sl false 5 (B && false) (c8++ [[T.int i64 d,T.ad 1 p.fst p.snd,T.int i64 e,T.int i64 f,T.str
 g]])]):=by kernel_rfl
theorem Ac(O:ax)(f:Int)(a:Int)(m:Bool)(q:Nat)(s:List Row)(o:Bool)(k:List (List T))(g:Bool)(h:Bool)(i:Bool)(p:Bool)(c3:List (List T))(b:Bool)(e:List (List T))(d:Bool)(j:Bool)(r:List (List T)):aA ao ann O fC [(AV.ref (Id.c 2) 0),(AV.own (Id.c 3)),(AV.ref (Id.c 4) 0),(AV.own (Id.c 1)),(I f),(I a)] [(ab.rows m 5 1 1 q s),(ab.sl false 1 o k),(ab.box [(AV.t (T.af g)),(AV.t (T.af h)),(AV.t (T.af i))]),(ab.sl false 1 p c3),(ab.box [(AV.t (T.ad 3 b e)),(AV.own (Id.c 5)),(AV.t (T.af d))]),(ab.sl false 5 j r)]=
 (bif decide (a < f) then aa none (if(0:Int)<=a/\a < (↑k.length:Int) then some () else none) λx=>aa none k[a.toNat]? λl=>aa none l.head? λx=>aa none (T.int? i64 x) λn=>
 aa none (if(0:Int)<=n/\n < (↑c3.length:Int) then some () else none) λx=>aa none c3[n.toNat]? λl=>aa none l.head? λx=>aa none (T.int? i64 x) λn=>O fC [AV.ref (Id.c 2) 0,AV.own
 (Id.c 3),AV.ref (Id.c 4) 0,AV.own (Id.c 1),I f,I (i64.wrap (a+ (1:Int)))] [ab.rows m 5 1 1 q s,ab.sl false 1 o k,ab.box [AV.t (T.af g),AV.t (T.af h),AV.t (T.af i)],
 ab.sl false 1 p c3,ab.box [AV.t (T.ad 3 b e),AV.own (Id.c 5),AV.own (Id.c 6)],ab.sl false 5 j r,ab.sl false 1 (d && false) [[T.int i64 n]]] else some [T.ad 3 b e,T.ad 5 j r,
 T.af d]):=by kernel_rfl
theorem Ae(O:ax)(e:Int)(a:Int)(o:Bool)(r:Nat)(u:List Row)(p:Bool)(k:List (List T))(f:Bool)(g:Bool)(h:Bool)(q:Bool)(c3:List (List T))(b:Bool)(d:List (List T))(i:Bool)(s:List (List T))(j:Bool)(m:List (List T)):aA ao ann O fC [(AV.ref (Id.c 2) 0),(AV.own (Id.c 3)),(AV.ref (Id.c 4) 0),(AV.own (Id.c 1)),(I e),(I a)] [(ab.rows o 5 1 1 r u),(ab.sl false 1 p k),(ab.box [(AV.t (T.af f)),(AV.t (T.af g)),(AV.t (T.af h))]),(ab.sl false 1 q c3),(ab.box [(AV.t (T.ad 3 b d)),(AV.own (Id.c 5)),(AV.own (Id.c 6))]),(ab.sl false 5 i s),(ab.sl false 1 j m)]=
 (bif decide (a < e) then aa none (if(0:Int)<=a/\a < (↑k.length:Int) then some () else none) λx=>aa none k[a.toNat]? λl=>aa none l.head? λx=>aa none (T.int? i64 x) λn=>
 aa none (if(0:Int)<=n/\n < (↑c3.length:Int) then some () else none) λx=>aa none c3[n.toNat]? λl=>aa none l.head? λx=>aa none (T.int? i64 x) λn=>aa none (bp 8 (m.length+ [[T.int
 i64 n]].length)) λx=>O fC [AV.ref (Id.c 2) 0,AV.own (Id.c 3),AV.ref (Id.c 4) 0,AV.own (Id.c 1),I e,I (i64.wrap (a+ (1:Int)))] [ab.rows o 5 1 1 r u,ab.sl false 1 p k,
 ab.box [AV.t (T.af f),AV.t (T.af g),AV.t (T.af h)],ab.sl false 1 q c3,ab.box [AV.t (T.ad 3 b d),AV.own (Id.c 5),AV.own (Id.c 6)],ab.sl false 5 i s,ab.sl false 1 (j && false) (m
 ++ [[T.int i64 n]])] else some [T.ad 3 b d,T.ad 5 i s,T.ad 1 j m]):=by kernel_rfl
end Go.Aev.Gen
