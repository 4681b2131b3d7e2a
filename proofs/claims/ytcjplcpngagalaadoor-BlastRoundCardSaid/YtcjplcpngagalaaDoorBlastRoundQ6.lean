import Derived.Test.YtcjplcpngagalaaDoorBlastRoundQ5
import Derived.Test.YtcjplcpngagalaaDoorChecked
import Derived.KernelRfl
set_option linter.all false
namespace Go.Aev.Gen
open Go Go.Aev Go.IntKind
noncomputable abbrev ak:=Go.Proofs.Tryd.prog
def ann:cA:={
 live:=(λf r=>match f,r with
  | 4,11=>some [(4,none),(6,none),(8,none)]
  | 12,4=>some [(0,none),(1,none),(5,none)]
  | 6,9=>some [(3,none),(4,none),(5,none),(9,none),(37,none),(38,none),(39,none)]
  | 6,15=>some [(3,none),(4,none),(5,none),(9,none),(12,none),(37,none),(38,none),(39,none),(62,none),(63,none)]
  | 6,20=>some [(3,none),(4,none),(5,none),(9,none),(12,none),(14,none),(15,none),(37,none),(38,none),(39,none),(62,none),(63,none),(73,none),(74,none),(75,none)]
  | 13,7=>some [(3,none),(4,none),(24,none),(25,none),(26,none)]
  | 9,10=>some [(1,none),(2,none),(3,none),(4,none),(7,none),(8,none),(9,none),(51,none),(52,none)]
  | 9,24=>some [(2,none),(3,none),(9,none),(13,some 3000001),(121,none),(122,none),(123,none)]
  | 8,4=>some [(2,none),(3,none),(5,none)]
  | 8,10=>some [(2,none),(3,none),(5,none),(6,none),(7,none),(8,none)]
  | 7,10=>some [(3,none),(4,none),(5,none),(9,none),(10,none),(34,none),(35,none),(36,none)]
  | 22,8=>some [(1,none),(3,none),(5,none),(25,none),(26,none)]
  | 22,18=>some [(3,none),(5,none),(52,none),(53,none),(54,none)]
  | 11,4=>some [(0,none),(1,none),(5,none)]
  | 11,9=>some [(0,none),(1,none),(5,none),(6,none)]
  | 15,4=>some [(2,none),(3,none),(16,none),(17,none),(18,none)]
  | 31,6=>some [(2,none),(3,none),(21,none),(22,none),(23,none)]
  | 24,3=>some [(1,none),(2,none),(3,none),(13,none),(14,none),(15,none)]
  | 24,9=>some [(2,none),(3,none),(31,none),(32,none),(33,none)]
  | 25,2=>some [(1,none),(3,none)]
  | 26,4=>some [(1,none),(6,none),(7,none),(13,none),(14,none),(15,none)]
  | 26,10=>some [(1,none),(6,none),(7,none),(8,none),(9,none),(13,none),(14,none),(15,none),(34,none),(35,none)]
  | 27,8=>some [(1,none),(2,none),(5,none),(7,none),(8,none),(30,none),(31,none),(32,none)]
  | 27,13=>some [(2,none),(5,none),(7,none),(8,none),(54,none),(55,none)]
  | 27,22=>some [(2,none),(5,none),(7,none),(106,none),(107,none)]
  | 27,28=>some [(2,none),(7,none),(128,none),(129,none),(130,none)]
  | 28,7=>some [(0,none),(6,none),(96,none),(97,none),(98,none)]
  | 28,14=>some [(0,none),(5,none),(9,none),(112,none),(113,none),(114,none)]
  | 29,3=>some [(1,none),(2,none),(3,none),(22,none),(23,none),(24,none)]
  | 29,8=>some [(1,none),(2,none),(3,none),(6,none)]
  | 29,12=>some [(1,none),(2,none),(3,none),(6,none),(48,none),(49,none),(50,none)]
  | 29,19=>some [(1,none),(2,none),(3,none),(9,none),(10,none),(65,none),(66,none),(67,none)]
  | 29,24=>some [(1,none),(2,none),(3,none),(9,none),(10,none),(12,none),(65,none),(66,none),(67,none),(84,none),(85,none),(86,none)]
  | 29,31=>some [(2,none),(9,none),(10,none),(108,none),(109,none),(110,none)]
  | 20,4=>some [(2,none),(3,none),(5,none)]
  | 21,2=>some [(0,none),(1,none),(5,none)]
  | 19,4=>some [(0,none),(2,none),(3,none),(4,none),(12,none),(13,none),(14,none)]
  | 19,8=>some [(0,none),(2,none),(3,none),(4,none),(12,none),(13,none),(14,none),(28,none),(29,none),(30,none)]
  | 19,13=>some [(0,none),(2,none),(3,none),(4,none),(8,none),(9,none),(12,none),(13,none),(14,none),(28,none),(29,none),(30,none),(38,none),(39,none),(40,none)]
  | 37,4=>some [(0,none),(2,none),(10,none),(11,none),(12,none)]
  | 38,16=>some [(1,none),(2,none),(8,none),(9,none),(12,none),(65,none),(66,none),(67,none)]
  | 35,4=>some [(0,none),(1,none),(12,none),(13,none)]
  | 46,3=>some [(0,none),(1,none),(2,none),(3,none),(4,none),(5,none),(13,none),(31,none),(32,none),(33,none)]
  | 48,3=>some [(0,none),(1,none),(2,none),(7,none),(10,none),(11,none)]
  | 55,4=>some [(0,none),(1,none),(2,none),(7,none),(8,none),(14,none),(15,none)]
  | 56,3=>some [(0,none),(1,none),(7,none),(18,none),(19,none),(20,none)]
  | 56,7=>some [(0,none),(1,none),(7,none),(9,none),(10,none),(18,none),(19,none),(20,none),(28,none),(29,none),(30,none)]
  | 57,3=>some [(0,none),(1,none),(2,none),(7,none),(10,none),(11,none)]
  | 58,3=>some [(0,none),(1,none),(2,none),(7,none),(12,none),(13,none)]
  | 36,2=>some [(1,none),(2,none),(8,none),(9,none),(10,none)]
  | 68,2=>some [(0,none),(7,none),(8,none)]
  | 67,2=>some [(0,none),(1,none),(7,none),(8,none)]
  | 76,2=>some [(0,none),(1,none),(7,none),(8,none)]
  | 82,4=>some [(1,none),(16,none),(17,none),(18,none)]
  | 77,2=>some [(0,none),(1,none),(7,none),(8,none)]
  | 84,1=>some [(0,none),(1,none)]
  | 93,1=>some [(0,none),(1,none)]
  | 98,1=>some [(0,none),(1,none),(4,none)]
  | 99,11=>some [(0,none),(1,none),(3,none),(4,none),(10,none),(11,none),(12,none),(13,none),(14,none),(15,none),(16,none)]
  | 99,18=>some [(0,none),(1,none),(3,none),(4,none),(10,none),(11,none),(12,none),(13,none),(17,none)]
  | _,_=>none),
 join:=(λf r=>match f,r with
  | 9,9=>some [(1,none),(2,none),(3,none),(4,none),(7,none),(8,none),(9,some 7000001),(9,some 8000001),(43,some 1105101)]
  | _,_=>none),
 sig:=(λf=>match f with
  | 18=>some ⟨[.own 1],[]⟩
  | _=>none),
 gS:=(λf=>match f with
  | 46=>some [true,false,false,false,false,false]
  | 50=>some [true,false]
  | 51=>some [true,false]
  | 52=>some [true,false,false]
  | 53=>some [true,false,false]
  | 54=>some [true,false,false]
  | 59=>some [true,false,false]
  | 58=>some [true,false,false]
  | 55=>some [true,false,false]
  | 56=>some [true,false,false]
  | 57=>some [true,false,false]
  | 81=>some [true,false,false]
  | 27=>some [true,false]
  | 28=>some [true,false]
  | 45=>some [false,true,true]
  | 48=>some [false,false,true]
  | 49=>some [false,false,true,true]
  | 29=>some [true]
  | _=>none),
 xe:=(λf m=>match f with
  | 46=>⟨[.f (.i .i64)],[.box [.rows 5 1 1, .same 2], .dead, .mp false [.s] (.i .i64)]⟩
  | 50=>⟨[.f (.i .i64)],[.box [.rows 5 1 1, .same 2], .dead, .mp false [.s] (.i .i64)]⟩
  | 51=>⟨[.f (.i .i64)],[.box [.rows 5 1 1, .same 2], .dead, .mp false [.s] (.i .i64)]⟩
  | 52=>⟨[.f (.i .i64)],[.box [.rows 5 1 1, .same 2], .dead, .mp false [.s] (.i .i64)]⟩
  | 53=>⟨[.f (.i .i64)],[.box [.rows 5 1 1, .same 2], .dead, .mp false [.s] (.i .i64)]⟩
  | 54=>⟨[.f (.i .i64)],[.box [.rows 5 1 1, .same 2], .dead, .mp false [.s] (.i .i64)]⟩
  | 59=>⟨[.f (.i .i64)],[.box [.rows 5 1 1, .same 2], .dead, .mp false [.s] (.i .i64)]⟩
  | 58=>⟨[.f (.i .i64)],[.box [.rows 5 1 1, .same 2], .dead, .mp false [.s] (.i .i64)]⟩
  | 55=>⟨[.t (.l 1)],[.box [.rows 5 1 1, .same 2], .dead, .mp false [.s] (.i .i64)]⟩
  | 56=>⟨[.t (.l 1)],[.box [.rows 5 1 1, .same 2], .dead, .mp false [.s] (.i .i64)]⟩
  | 57=>⟨[.t (.l 1)],[.box [.rows 5 1 1, .same 2], .dead, .mp false [.s] (.i .i64)]⟩
  | 81=>⟨[.f .b],[.box [.rows 5 1 1, .same 2], .dead, .mp false [.s] (.i .i64)]⟩
  | 27=>⟨[.t (.l 1)],[.box [.ref 1 0, .t (.l 3), .t (.l 5), .t (.l 1), .f .s, .t (.l 1), .same 2, .same 3], .box [.rows 5 1 1, .same 5], .sl 1, .sl 1, .dead, .mp false [.s] (.i .i64)]⟩
  | 28=>⟨[.f (.i .i64)],[.box [.ref 1 0, .t (.l 3), .t (.l 5), .t (.l 1), .f .s, .t (.l 1), .same 2, .same 3], .box [.rows 5 1 1, .same 5], .sl 1, .sl 1, .dead, .mp false [.s] (.i .i64)]⟩
  | 45=>⟨[.t (.l 1)],[.box [.ref 2 0], .box [.f (.i .i64), .t (.l 1), .f (.i .i64), .f (.i .i64), .f .s], .box [.ref 3 0, .t (.l 3), .t (.l 5), .t (.l 1), .f .s, .t (.l 1), .same 4, .same 5], .box [.rows 5 1 1, .same 7], .sl 1, .sl 1, .dead, .mp false [.s] (.i .i64)]⟩
  | 48=>if m=1 then⟨[.t (.l 1)],[.box [.ref 2 0], .box [.f (.i .i64)], .box [.ref 3 0, .t (.l 3), .t (.l 5), .t (.l 1), .f .s, .t (.l 1), .same 4, .same 5], .box [.rows 5 1 1, .same 7], .sl 1, .sl 1, .dead, .mp false [.s] (.i .i64)]⟩ else⟨[.t (.l 1)],[.box [.rows 5 1 1, .same 2], .dead, .mp false [.s] (.i .i64)]⟩
  | 49=>⟨[.f (.i .i64)],[.box [.ref 2 0], .box [.f (.i .i64)], .box [.ref 3 0, .t (.l 3), .t (.l 5), .t (.l 1), .f .s, .t (.l 1), .same 4, .same 5], .box [.rows 5 1 1, .same 7], .sl 1, .sl 1, .dead, .mp false [.s] (.i .i64)]⟩
  | 29=>⟨[.agg [.t (.l 3), .t (.l 5), .t (.l 1)]],[.dead, .dead]⟩
  | _=>⟨[],[]⟩),
 wr:=(λf=>false),
 kP:=(λd t=>match d,t with
  | some 66,23=>1
  | some 67,23=>3
  | some 62,51=>6
  | some 89,51=>6
  | some 103,23=>5
  | _,_=>0),
 pU:=(λd t=>match d,t with
  | some 147,24=>true
  | some 149,24=>true
  | some 159,24=>true
  | some 161,24=>true
  | some 171,24=>true
  | some 173,24=>true
  | some 187,24=>true
  | some 189,24=>true
  | some 198,24=>true
  | some 200,24=>true
  | some 209,24=>true
  | some 23,3=>true
  | some 28,3=>true
  | some 39,3=>true
  | _,_=>false),
 vp:=(λd t=>match d,t with
  | some 150,71=>true
  | some 153,72=>true
  | some 162,71=>true
  | some 165,72=>true
  | some 174,71=>true
  | some 177,72=>true
  | some 182,71=>true
  | some 185,72=>true
  | some 193,71=>true
  | some 196,72=>true
  | some 204,71=>true
  | some 207,72=>true
  | some 211,3=>true
  | some 26,0=>true
  | some 27,3=>true
  | some 33,0=>true
  | some 34,3=>true
  | some 37,0=>true
  | some 38,3=>true
  | _,_=>false),
 vo:=(λd t=>match d,t with
  | some 72,0=>true
  | some 73,43=>true
  | some 31,0=>true
  | some 32,53=>true
  | _,_=>false),
 xo:=(λd=>match d with
  | some 84=>true
  | some 87=>true
  | _=>false),
 st:=(λd=>match d with
  | some 64=>true
  | some 24=>true
  | some 23=>true
  | some 31=>true
  | some 34=>true
  | _=>false),
 GC:=(λd t=>match d,t with
  | some 34,0=>false
  | _,_=>true),
 ld:=(λd=>match d with
  | some 64=>true
  | some 66=>true
  | some 79=>true
  | some 54=>true
  | some 23=>true
  | _=>false),
 ext:=(λf bn a=>match f,bn,a with
  | 44,[.t (.int .i64 n)],[]=>if -9223372036854775808<=n/\n<=9223372036854775807 then some [.str ⟨(Go.Lib.itoa n).toArray⟩] else none
  | _,_,_=>none)}
abbrev Y'0:AV:=.ref (Id.c 0) 0
abbrev V'0:AV:=.own (Id.c 0)
abbrev Y'1:AV:=.ref (Id.c 1) 0
abbrev V'1:AV:=.own (Id.c 1)
abbrev Y'2:AV:=.ref (Id.c 2) 0
abbrev V'2:AV:=.own (Id.c 2)
abbrev Y'3:AV:=.ref (Id.c 3) 0
abbrev V'3:AV:=.own (Id.c 3)
abbrev Y'4:AV:=.ref (Id.c 4) 0
abbrev V'4:AV:=.own (Id.c 4)
abbrev Y'5:AV:=.ref (Id.c 5) 0
abbrev V'5:AV:=.own (Id.c 5)
abbrev Y'6:AV:=.ref (Id.c 6) 0
abbrev V'6:AV:=.own (Id.c 6)
abbrev Y'7:AV:=.ref (Id.c 7) 0
abbrev V'7:AV:=.own (Id.c 7)
abbrev Y'8:AV:=.ref (Id.c 8) 0
abbrev V'8:AV:=.own (Id.c 8)
abbrev Y'9:AV:=.ref (Id.c 9) 0
abbrev V'9:AV:=.own (Id.c 9)
abbrev U' {α R:Type} [Inhabited α](a:Option α)(k:α → Option R):Option R:=aa none a k
theorem hm:ak.follows .mixedOrders=true:=by kernel_rfl
noncomputable abbrev wP:Key:=bG ak 9 false 9 [(1,none),(2,none),(3,none),(4,none),(7,none),(8,none),(9,some 7000001),(9,some 8000001),(43,some 1105101)] (0,0)
noncomputable abbrev mR:Key:=bG ak 24 true 3 [(1,none),(2,none),(3,none),(13,none),(14,none),(15,none)] (0,0)
noncomputable abbrev tE:Key:=bG ak 25 true 2 [(1,none),(3,none)] (0,0)
noncomputable abbrev lu:Key:=bG ak 26 true 4 [(1,none),(6,none),(7,none),(13,none),(14,none),(15,none)] (0,0)
noncomputable abbrev rF:Key:=bG ak 9 true 10 [(1,none),(2,none),(3,none),(4,none),(7,none),(8,none),(9,none),(51,none),(52,none)] (0,0)
noncomputable abbrev ig:Key:=bG ak 24 true 9 [(2,none),(3,none),(31,none),(32,none),(33,none)] (0,0)
noncomputable abbrev mS:Key:=bG ak 26 true 10 [(1,none),(6,none),(7,none),(8,none),(9,none),(13,none),(14,none),(15,none),(34,none),(35,none)] (0,0)
noncomputable abbrev pK:Key:=bG ak 9 true 24 [(2,none),(3,none),(9,none),(13,some 3000001),(121,none),(122,none),(123,none)] (0,0)
noncomputable abbrev eN:Key:=bG ak 76 true 2 [(0,none),(1,none),(7,none),(8,none)] (0,0)
noncomputable abbrev gQ:Key:=bG ak 77 true 2 [(0,none),(1,none),(7,none),(8,none)] (0,0)
noncomputable abbrev oe:Key:=bG ak 27 true 8 [(1,none),(2,none),(5,none),(7,none),(8,none),(30,none),(31,none),(32,none)] (6,2008)
noncomputable abbrev od:Key:=bG ak 27 true 22 [(2,none),(5,none),(7,none),(106,none),(107,none)] (6,2008)
noncomputable abbrev pG:Key:=bG ak 27 true 28 [(2,none),(7,none),(128,none),(129,none),(130,none)] (6,2008)
noncomputable abbrev wN:Key:=bG ak 28 true 7 [(0,none),(6,none),(96,none),(97,none),(98,none)] (6,2008)
noncomputable abbrev og:Key:=bG ak 28 true 14 [(0,none),(5,none),(9,none),(112,none),(113,none),(114,none)] (6,2008)
noncomputable abbrev ij:Key:=bG ak 27 true 13 [(2,none),(5,none),(7,none),(8,none),(54,none),(55,none)] (6,2008)
noncomputable abbrev oq:Key:=bG ak 48 true 3 [(0,none),(1,none),(2,none),(7,none),(10,none),(11,none)] (8,1)
noncomputable abbrev dP:Key:=bG ak 48 true 3 [(0,none),(1,none),(2,none),(7,none),(10,none),(11,none)] (3,2002)
noncomputable abbrev ot:Key:=bG ak 55 true 4 [(0,none),(1,none),(2,none),(7,none),(8,none),(14,none),(15,none)] (3,2002)
noncomputable abbrev pJ:Key:=bG ak 56 true 3 [(0,none),(1,none),(7,none),(18,none),(19,none),(20,none)] (3,2002)
noncomputable abbrev jh:Key:=bG ak 57 true 3 [(0,none),(1,none),(2,none),(7,none),(10,none),(11,none)] (3,2002)
noncomputable abbrev tG:Key:=bG ak 29 true 3 [(1,none),(2,none),(3,none),(22,none),(23,none),(24,none)] (2,0)
noncomputable abbrev wO:Key:=bG ak 58 true 3 [(0,none),(1,none),(2,none),(7,none),(12,none),(13,none)] (3,2002)
noncomputable abbrev ou:Key:=bG ak 56 true 7 [(0,none),(1,none),(7,none),(9,none),(10,none),(18,none),(19,none),(20,none),(28,none),(29,none),(30,none)] (3,2002)
noncomputable abbrev l5:Key:=bG ak 29 true 8 [(1,none),(2,none),(3,none),(6,none)] (2,0)
noncomputable abbrev tK:Key:=bG ak 46 true 3 [(0,none),(1,none),(2,none),(3,none),(4,none),(5,none),(13,none),(31,none),(32,none),(33,none)] (3,2002)
noncomputable abbrev tF:Key:=bG ak 29 true 12 [(1,none),(2,none),(3,none),(6,none),(48,none),(49,none),(50,none)] (2,0)
noncomputable abbrev iM:Key:=bG ak 29 true 19 [(1,none),(2,none),(3,none),(9,none),(10,none),(65,none),(66,none),(67,none)] (2,0)
noncomputable abbrev gP:Key:=bG ak 29 true 24 [(1,none),(2,none),(3,none),(9,none),(10,none),(12,none),(65,none),(66,none),(67,none),(84,none),(85,none),(86,none)] (2,0)
noncomputable abbrev fQ:Key:=bG ak 29 true 31 [(2,none),(9,none),(10,none),(108,none),(109,none),(110,none)] (2,0)
theorem e9(O:aq)(ed:Bool)(d:List (List T))(en:Bool)(nd:List (List T))(eh:Bool)(a:List (List T)):ax ak ann O (Key.call 9) [AV.agg [AV.t (T.ab 3 ed d),AV.t (T.ab 5 en nd),AV.t (T.ab 1 eh a)]] []=
 (U' (O (Key.call 22) [AV.agg [AV.t (T.ab 3 ed d),AV.t (T.ab 5 en nd),AV.t (T.ab 1 eh a)]] []) λl=>U' l.head? λx=>U' (T.an 1 x) λp=>U' l.tail.head? λx=>U' (T.int?
 i64 x) λn=>U' l.tail.tail.head? λx=>U' (T.int? i64 x) λg=>bif !n== (0:Int) then some [T.ae true,T.ae true,T.ae true,T.int i64 n,T.int i64 g] else
 U' (O (Key.call 23) [AV.agg [AV.t (T.ab 3 ed d),AV.t (T.ab 5 en nd),AV.t (T.ab 1 eh a)],AV.t (T.ab 1 p.fst p.snd)] []) λl=>U' l.head? λx=>U' x.bool? λb=>bif !b then U' (O
 (Key.call 24) [AV.agg [AV.t (T.ab 3 ed d),AV.t (T.ab 5 en nd),AV.t (T.ab 1 eh a)]] []) λl=>U' l.head? λx=>U' (T.an 3 x) λp=>U' l.tail.head? λx=>U' (T.an 5 x) λe
 =>U' l.tail.tail.head? λx=>U' (T.an 1 x) λf=>some [T.ab 3 p.fst p.snd,T.ab 5 e.fst e.snd,T.ab 1 f.fst f.snd,T.int i64 (0:Int),T.int i64 (0:Int)] else U'
 (O (Key.call 25) [AV.agg [AV.t (T.ab 3 ed d),AV.t (T.ab 5 en nd),AV.t (T.ab 1 eh a)]] []) λl=>U' l.head? λx=>U' x.bc λs=>U' (O (Key.call 26) [AV.agg [AV.t (T.ab 3 ed d),AV.t
 (T.ab 5 en nd),AV.t (T.ab 1 eh a)],AV.t (T.str s)] []) λl=>U' l.head? λx=>U' (T.an 3 x) λe=>U' l.tail.head? λx=>U' x.bool? λb=>O wP [Y'0,AV.ref
 (Id.c 1) 0,Y'2,AV.t (T.ab 1 p.fst p.snd),AV.t (T.ab 3 e.fst e.snd),B b,Y'3,Y'3,Y'4] [ad.box [AV.t (T.ab 3 ed d),AV.t (T.ab 5 en nd),AV.t (T.ab 1
 eh a)],ad.box [AV.t (T.ae true),AV.t (T.ae true),AV.t (T.ae true)],ad.box [I (0:Int),I (0:Int)],ad.box [Y'4,AV.t (T.ab 3 ed d),AV.t (T.ab 5 en nd),AV.t (T.ab 1 eh a),AV.t (T.str s),
 AV.t (T.ab 1 p.fst p.snd),V'5,V'6],ad.box [V'7,V'8],ad.sl false 1 true [],ad.sl false 1 true [],ad.rows true 5 1 1 0 [],ad.mp false [Ck.s] (Ck.i i64)
 []]):=by kernel_rfl
theorem IF(O:aq)(a:Bool)(c:List (List T))(d:Bool)(g:List (List T))(e:Bool)(h:List (List T))(f:Bool)(i:List (List T)):ax ak ann O (Key.call 23) [(AV.agg [(AV.t (T.ab 3 a c)),(AV.t (T.ab 5 d g)),(AV.t (T.ab 1 e h))]),(AV.t (T.ab 1 f i))] []=
 (U' (O (Key.call 39) [AV.t (T.ab 1 f i),AV.fn 14 [] []] []) λl=>U' l.head? λx=>U' x.bool? λb=>U' (dE (some !b) (O (Key.call 40) [AV.t (T.ab 3 a c),AV.fn 41 [] []] []))
 λl=>aa (some !b) l.head? λx=>aa (some !b) x.bool? λj=>some [T.bool (bif b then true else j)]):=by kernel_rfl
theorem BG(O:aq)(b:Bool)(a:List (List T))(f:Bool)(g:List (List T))(d:Bool)(e:List (List T)):ax ak ann O (Key.call 24) [(AV.agg [(AV.t (T.ab 3 b a)),(AV.t (T.ab 5 f g)),(AV.t (T.ab 1 d e))])] []=
 (U' (O (Key.call 18) [AV.t (T.ab 1 d e)] []) λl=>U' l.head? λx=>U' (T.an 1 x) λp=>O mR [Y'0,Y'1,Y'2,AV.t (T.ab 3 b a),I
 (↑a.length:Int),I (0:Int)] [ad.box [AV.t (T.ab 3 b a),AV.t (T.ab 5 f g),AV.t (T.ab 1 d e)],ad.box [AV.t (T.ae true),AV.t (T.ae true),AV.t (T.ae true)],ad.box [AV.t (T.ae true),
 AV.t (T.ae true),V'3],ad.sl false 1 p.fst p.snd]):=by kernel_rfl
theorem IG(O:aq)(a:Bool)(e:List (List T))(b:Bool)(f:List (List T))(d:Bool)(g:List (List T)):ax ak ann O (Key.call 25) [(AV.agg [(AV.t (T.ab 3 a e)),(AV.t (T.ab 5 b f)),(AV.t (T.ab 1 d g))])] []=
 (O tE [Y'0,Y'1] [ad.box [AV.t (T.ab 3 a e),AV.t (T.ab 5 b f),AV.t (T.ab 1 d g)],ad.box [AV.t (T.str (ByteArray.mk #[(95:UInt8)]))]]):=by kernel_rfl
theorem IH(O:aq)(b:Bool)(a:List (List T))(c:Bool)(e:List (List T))(d:Bool)(f:List (List T))(g:ByteArray):ax ak ann O (Key.call 26) [(AV.agg [(AV.t (T.ab 3 b a)),(AV.t (T.ab 5 c e)),(AV.t (T.ab 1 d f))]),(AV.t (T.str g))] []=
 (O lu [AV.t (T.str g),AV.t (T.ae true),B true,AV.t (T.ab 3 b a),I (↑a.length:Int),I (0:Int)] []):=by kernel_rfl
theorem Kq(O:aq)(C:Bool)(H:List (List T))(D:Bool)(J:List (List T))(K:Bool)(b:Bool)(n:List (List T))(d:Bool)(a:List (List T))(e:Bool)(o:List (List T))(f:Bool)(g:Bool)(h:Bool)(p:Int)(q:Int)(j:Bool)(r:List (List T))(k:Bool)(u:List (List T))(l:Bool)(v:List (List T))(w:ByteArray)(m:Bool)(x:List (List T))(y:Bool)(F:List (List T))(z:Bool)(G:List (List T))(A:Bool)(E:Nat)(c7:List Row)(c8:List (List T×T)):ax ak ann O wP [Y'0,Y'1,Y'2,(AV.t (T.ab 1 C H)),(AV.t (T.ab 3 D J)),(B K),Y'3,Y'3,Y'4] [(ad.box [(AV.t (T.ab 3 b n)),(AV.t (T.ab 5 d a)),(AV.t (T.ab 1 e o))]),(ad.box [(AV.t (T.ae f)),(AV.t (T.ae g)),(AV.t (T.ae h))]),(ad.box [(I p),(I q)]),(ad.box [Y'4,(AV.t (T.ab 3 j r)),(AV.t (T.ab 5 k u)),(AV.t (T.ab 1 l v)),(AV.t (T.str w)),(AV.t (T.ab 1 m x)),V'5,V'6]),(ad.box [V'7,V'8]),(ad.sl false 1 y F),(ad.sl false 1 z G),(ad.rows A 5 1 1 E c7),(ad.mp false [Ck.s] (Ck.i i64) c8)]=
 (O rF [Y'0,Y'1,Y'2,AV.t (T.ab 1 C H),AV.t (T.ab 3 D J),B K,Y'3,I (↑a.length:Int),I (0:Int)] [ad.box [AV.t (T.ab 3 b n),AV.t
 (T.ab 5 d a),AV.t (T.ab 1 e o)],ad.box [AV.t (T.ae f),AV.t (T.ae g),AV.t (T.ae h)],ad.box [I p,I q],ad.box [Y'4,AV.t (T.ab 3 j r),AV.t (T.ab 5 k
 u),AV.t (T.ab 1 l v),AV.t (T.str w),AV.t (T.ab 1 m x),V'5,V'6],ad.box [V'7,V'8],ad.sl false 1 y F,ad.sl false 1 z G,ad.rows A 5 1
 1 E c7,ad.mp false [Ck.s] (Ck.i i64) c8]):=by kernel_rfl
theorem I0(O:aq)(a:Bool)(b:List (List T)):ax ak ann O (Key.call 39) [(AV.t (T.ab 1 a b)),(AV.fn 14 [] [])] []=
 (U' (O (Key.call 76) [AV.t (T.ab 1 a b),AV.fn 14 [] []] []) λl=>U' l.head? λx=>U' (T.int? i64 x) λn=>some [T.bool (decide (n>=(0:Int)))]):=by kernel_rfl
theorem Jb(O:aq)(a:Bool)(b:List (List T)):ax ak ann O (Key.call 40) [(AV.t (T.ab 3 a b)),(AV.fn 41 [] [])] []=
 (U' (O (Key.call 77) [AV.t (T.ab 3 a b),AV.fn 41 [] []] []) λl=>U' l.head? λx=>U' (T.int? i64 x) λn=>some [T.bool (decide (n>=(0:Int)))]):=by kernel_rfl
theorem IC(O:aq)(a:Bool)(b:List (List T)):ax ak ann O (Key.call 18) [(AV.t (T.ab 1 a b))] []=
 (bif a then some [T.ae true] else U' (bp 8 (0+b.length)) λx=>some [T.ab 1 false b]):=by kernel_rfl
theorem BH(O:aq)(u:Bool)(m:List (List T))(v:Int)(a:Int)(j:Bool)(o:List (List T))(d:Bool)(b:List (List T))(k:Bool)(q:List (List T))(e:Bool)(f:Bool)(g:Bool)(h:Bool)(i:Bool)(r:Bool)(c3:List (List T)):ax ak ann O mR [Y'0,Y'1,Y'2,(AV.t (T.ab 3 u m)),(I v),(I a)] [(ad.box [(AV.t (T.ab 3 j o)),(AV.t (T.ab 5 d b)),(AV.t (T.ab 1 k q))]),(ad.box [(AV.t (T.ae e)),(AV.t (T.ae f)),(AV.t (T.ae g))]),(ad.box [(AV.t (T.ae h)),(AV.t (T.ae i)),V'3]),(ad.sl false 1 r c3)]=
 (bif decide (a < v) then U' (if(0:Int)<=a/\a < (↑m.length:Int) then some () else none) λx=>U' m[a.toNat]? λl=>U' l.head? λx=>U' l.tail.head? λw=>U'
 l.tail.tail.head? λy=>U' x.bc λs=>U' (T.an 1 w) λp=>U' (T.int? i64 y) λn=>U' (O (Key.call 18) [AV.t (T.ab 1 p.fst p.snd)] []) λl=>U' l.head? λx
 =>U' (T.an 1 x) λp=>O mR [Y'0,Y'1,Y'2,AV.t (T.ab 3 u m),I v,I (i64.wrap (a+ (1:Int)))] [ad.box [AV.t (T.ab 3 j o),AV.t (T.ab
 5 d b),AV.t (T.ab 1 k q)],ad.box [AV.t (T.ae e),AV.t (T.ae f),AV.t (T.ae g)],ad.box [V'3,AV.t (T.ae i),V'4],ad.sl false 3 (h && false) [[T.str s,
 T.ab 1 p.fst p.snd,T.int i64 n]],ad.sl false 1 r c3] else O ig [Y'0,Y'1,AV.t (T.ab 5 d b),I (↑b.length:Int),I (0:Int)] [ad.box [AV.t (T.ae e),AV.t
 (T.ae f),AV.t (T.ae g)],ad.box [AV.t (T.ae h),AV.t (T.ae i),V'2],ad.sl false 1 r c3]):=by kernel_rfl
theorem xy(O:aq)(a:Bool)(d:List (List T))(e:Bool)(g:List (List T))(f:Bool)(h:List (List T))(i:ByteArray):ax ak ann O tE [Y'0,Y'1] [(ad.box [(AV.t (T.ab 3 a d)),(AV.t (T.ab 5 e g)),(AV.t (T.ab 1 f h))]),(ad.box [(AV.t (T.str i))])]=
 (U' (O (Key.call 40) [AV.t (T.ab 3 a d),AV.fn 42 [] [AV.t (T.ptr [T.str i])]] []) λl=>U' l.head? λx=>U' x.bool? λb=>bif b then U' (if i.size+1<=4294967296 then some ()
 else none) λx=>O tE [Y'0,Y'1] [ad.box [AV.t (T.ab 3 a d),AV.t (T.ab 5 e g),AV.t (T.ab 1 f h)],ad.box [AV.t (T.str (i++ (ByteArray.mk #[(95:UInt8)])))]]
 else some [T.str i]):=by kernel_rfl
theorem xz(O:aq)(i:ByteArray)(f:Bool)(h:Bool)(e:Bool)(d:List (List T))(g:Int)(a:Int):ax ak ann O lu [(AV.t (T.str i)),(AV.t (T.ae f)),(B h),(AV.t (T.ab 3 e d)),(I g),(I a)] []=
 (bif decide (a < g) then U' (if(0:Int)<=a/\a < (↑d.length:Int) then some () else none) λx=>U' d[a.toNat]? λl=>U' l.head? λx=>U' l.tail.head? λj=>U'
 l.tail.tail.head? λk=>U' x.bc λs=>U' (T.an 1 j) λp=>U' (T.int? i64 k) λn=>U' (O (Key.call 14) [I n] []) λl=>U' l.head? λx=>U' x.bool? fun
 b=>bif !b then U' (O (Key.call 18) [AV.t (T.ab 1 p.fst p.snd)] []) λl=>U' l.head? λx=>U' (T.an 1 x) λp=>O lu [AV.t (T.str i),V'0,B h,AV.t (T.ab 3 e d),I
 g,I (i64.wrap (a+ (1:Int)))] [ad.sl false 3 (f && false) [[T.str s,T.ab 1 p.fst p.snd,T.int i64 n]]] else O mS [AV.t (T.str i),AV.t (T.ae f),B h,I a,Y'0,AV.t
 (T.ab 3 e d),I g,I a,I (i64.wrap (n - (10:Int))),I (0:Int)] [ad.box [AV.t (T.str s),AV.t (T.ab 1 p.fst p.snd),I n]] else some [T.ae f,T.bool (bif h then true else false)]):=by kernel_rfl
theorem qk(O:aq)(Y:Bool)(Z:List (List T))(D:Bool)(W:List (List T))(X:Bool)(U:Int)(r:Int)(K:Bool)(N:List (List T))(L:Bool)(P:List (List T))(g:Bool)(e:List (List T))(h:Bool)(j:Bool)(k:Bool)(u:Int)(v:Int)(w:Bool)(E:List (List T))(y:Bool)(F:List (List T))(A:Bool)(G:List (List T))(H:ByteArray)(C:Bool)(J:List (List T))(Q:Bool)(c5:List (List T))(R:Bool)(c6:List (List T))(S:Bool)(V:Nat)(c7:List Row)(c8:List (List T×T)):ax ak ann O rF [Y'0,Y'1,Y'2,(AV.t (T.ab 1 Y Z)),(AV.t (T.ab 3 D W)),(B X),Y'3,(I U),(I r)] [(ad.box [(AV.t (T.ab 3 K N)),(AV.t (T.ab 5 L P)),(AV.t (T.ab 1 g e))]),(ad.box [(AV.t (T.ae h)),(AV.t (T.ae j)),(AV.t (T.ae k))]),(ad.box [(I u),(I v)]),(ad.box [Y'4,(AV.t (T.ab 3 w E)),(AV.t (T.ab 5 y F)),(AV.t (T.ab 1 A G)),(AV.t (T.str H)),(AV.t (T.ab 1 C J)),V'5,V'6]),(ad.box [V'7,V'8]),(ad.sl false 1 Q c5),(ad.sl false 1 R c6),(ad.rows S 5 1 1 V c7),(ad.mp false [Ck.s] (Ck.i i64) c8)]=
 (bif decide (r < U) then U' (if(0:Int)<=r/\r < (↑Z.length:Int) then some () else none) λx=>U' Z[r.toNat]? λl=>U' l.head? λx=>U' (T.int? i64 x) λn=>aa
 none (O (Key.call 14) [I n] []) λl=>U' l.head? λx=>U' x.bool? λb=>bif b then U' (O (Key.call 27) [Y'0,I r] [ad.box [Y'1,AV.t (T.ab 3 w E),AV.t
 (T.ab 5 y F),AV.t (T.ab 1 A G),AV.t (T.str H),AV.t (T.ab 1 C J),V'2,V'3],ad.box [V'4,V'5],ad.sl false 1 Q c5,ad.sl false 1 R c6,
 ad.rows S 5 1 1 V c7,ad.mp false [Ck.s] (Ck.i i64) c8]) λl=>U' l.head? λx=>U' (T.an 1 x) λp=>U' (List.drop 1 l).head? λx=>U' (List.drop 1 l).tail.head? λx=>
 U' (T.an 3 x) λm=>U' (List.drop 1 l).tail.tail.head? λx=>U' (T.an 5 x) λo=>U' (List.drop 1 l).tail.tail.tail.head? λx=>U' (T.an 1 x) λq=>U'
 (List.drop 1 l).tail.tail.tail.tail.head? λx=>U' x.bc λs=>U' (List.drop 1 l).tail.tail.tail.tail.tail.head? λx=>U' (T.an 1 x) λd=>U' (List.drop 1
 l).tail.tail.tail.tail.tail.tail.head? λx=>U' (List.drop 1 l).tail.tail.tail.tail.tail.tail.tail.head? λx=>U' (List.drop 8 (List.drop 1 l)).head? λx=>U' (aN x) λa=>U'
 (List.drop 8 (List.drop 1 l)).tail.head? λx=>U' ((List.drop 2 (List.drop 8 (List.drop 1 l))).head?.bind λz=>T.an 1 z) λf=>U' ((List.drop 2 (List.drop 8 (List.drop 1 l))).tail.head?.bind fun
 z=>T.an 1 z) λM=>U' ((List.drop 2 (List.drop 8 (List.drop 1 l))).tail.tail.head?.bind λz=>aL z) λl=>U' (bp 24 (f.snd.length+ [[T.ab 1 p.fst p.snd]].length)) λx=>U'
 (bp 8 (M.snd.length+1)) λx=>bif decide ((↑a.snd.length:Int) > (800:Int)) then bif bif !X then true else decide ((↑a.snd.length:Int) > (800:Int)) then some [T.ae true,T.ae true,T.ae true,
 T.int i64 (10:Int),T.int i64 (0:Int)] else O pK [Y'0,Y'1,Y'2,Y'3,AV.t (T.ab 1 g e),I (↑e.length:Int),I (0:Int)] [ad.box
 [AV.t (T.ae h),AV.t (T.ae j),AV.t (T.ae k)],ad.box [I u,I v],ad.box [Y'4,AV.t (T.ab 3 m.fst m.snd),AV.t (T.ab 5 o.fst o.snd),AV.t (T.ab 1 q.fst q.snd),AV.t
 (T.str s),AV.t (T.ab 1 d.fst d.snd),V'5,V'6],ad.box [AV.t (T.ab 3 D W),V'7,V'8],ad.box [V'7,V'9],ad.sl false 1 (f.fst &&
 false) (f.snd++ [[T.ab 1 p.fst p.snd]]),ad.sl false 1 (M.fst && false) (M.snd++ [[T.int i64 (0:Int)]]),ad.rows a.fst 5 1 1 a.snd.length a.snd,ad.sl false 1 true [],ad.mp false [Ck.s] (Ck.i
 i64) l] else O rF [Y'0,Y'1,Y'2,AV.t (T.ab 1 Y Z),AV.t (T.ab 3 D W),B X,Y'3,I U,AV.t (T.int i64 (i64.wrap (r+ (1:
 Int))))] [ad.box [AV.t (T.ab 3 K N),AV.t (T.ab 5 L P),AV.t (T.ab 1 g e)],ad.box [AV.t (T.ae h),AV.t (T.ae j),AV.t (T.ae k)],ad.box [I u,I v],ad.box [AV.ref (Id.c 4)
 0,AV.t (T.ab 3 m.fst m.snd),AV.t (T.ab 5 o.fst o.snd),AV.t (T.ab 1 q.fst q.snd),AV.t (T.str s),AV.t (T.ab 1 d.fst d.snd),V'5,V'6],ad.box [V'7,AV.own (Id.c
 8)],ad.sl false 1 (f.fst && false) (f.snd++ [[T.ab 1 p.fst p.snd]]),ad.sl false 1 (M.fst && false) (M.snd++ [[T.int i64 (0:Int)]]),ad.rows a.fst 5 1 1 a.snd.length a.snd,ad.mp false
 [Ck.s] (Ck.i i64) l] else U' (O (Key.call 28) [Y'0,I r] [ad.box [Y'1,AV.t (T.ab 3 w E),AV.t (T.ab 5 y F),AV.t (T.ab 1 A G),AV.t (T.str H),AV.t
 (T.ab 1 C J),V'2,V'3],ad.box [V'4,V'5],ad.sl false 1 Q c5,ad.sl false 1 R c6,ad.rows S 5 1 1 V c7,ad.mp false [Ck.s] (Ck.i i64) c8]) fun
 l=>U' l.head? λx=>U' (T.int? i64 x) λn=>U' (List.drop 1 l).head? λx=>U' (List.drop 1 l).tail.head? λx=>U' (T.an 3 x) λp=>U' (List.drop 1
 l).tail.tail.head? λx=>U' (T.an 5 x) λm=>U' (List.drop 1 l).tail.tail.tail.head? λx=>U' (T.an 1 x) λo=>U' (List.drop 1 l).tail.tail.tail.tail.head? λx=>U'
 x.bc λs=>U' (List.drop 1 l).tail.tail.tail.tail.tail.head? λx=>U' (T.an 1 x) λq=>U' (List.drop 1 l).tail.tail.tail.tail.tail.tail.head? λx=>U' (List.drop 1
 l).tail.tail.tail.tail.tail.tail.tail.head? λx=>U' (List.drop 8 (List.drop 1 l)).head? λx=>U' (aN x) λd=>U' (List.drop 8 (List.drop 1 l)).tail.head? λx=>U' ((List.drop 2
 (List.drop 8 (List.drop 1 l))).head?.bind λz=>T.an 1 z) λa=>U' ((List.drop 2 (List.drop 8 (List.drop 1 l))).tail.head?.bind λz=>T.an 1 z) λf=>U' ((List.drop 2 (List.drop 8
 (List.drop 1 l))).tail.tail.head?.bind λz=>aL z) λl=>U' (bp 24 (a.snd.length+1)) λx=>U' (bp 8 (f.snd.length+ [[T.int i64 n]].length)) λx=>bif decide ((↑d.snd.length
 :Int) > (800:Int)) then bif bif !X then true else decide ((↑d.snd.length:Int) > (800:Int)) then some [T.ae true,T.ae true,T.ae true,T.int i64 (10:Int),T.int i64 (0:Int)] else O pK
 [Y'0,Y'1,Y'2,Y'3,AV.t (T.ab 1 g e),I (↑e.length:Int),I (0:Int)] [ad.box [AV.t (T.ae h),AV.t (T.ae j),AV.t (T.ae k)],ad.box
 [I u,I v],ad.box [Y'4,AV.t (T.ab 3 p.fst p.snd),AV.t (T.ab 5 m.fst m.snd),AV.t (T.ab 1 o.fst o.snd),AV.t (T.str s),AV.t (T.ab 1 q.fst q.snd),V'5,V'6],
 ad.box [AV.t (T.ab 3 D W),V'7,V'8],ad.box [V'7,V'9],ad.sl false 1 (a.fst && false) (a.snd++ [[T.ae true]]),ad.sl false 1 (f.fst && false) (f.snd++
 [[T.int i64 n]]),ad.rows d.fst 5 1 1 d.snd.length d.snd,ad.sl false 1 true [],ad.mp false [Ck.s] (Ck.i i64) l] else O rF [Y'0,Y'1,Y'2,AV.t (T.ab
 1 Y Z),AV.t (T.ab 3 D W),B X,Y'3,I U,AV.t (T.int i64 (i64.wrap (r+ (1:Int))))] [ad.box [AV.t (T.ab 3 K N),AV.t (T.ab 5 L P),AV.t (T.ab 1 g e)],
 ad.box [AV.t (T.ae h),AV.t (T.ae j),AV.t (T.ae k)],ad.box [I u,I v],ad.box [Y'4,AV.t (T.ab 3 p.fst p.snd),AV.t (T.ab 5 m.fst m.snd),AV.t (T.ab 1 o.fst o.snd),AV.t
 (T.str s),AV.t (T.ab 1 q.fst q.snd),V'5,V'6],ad.box [V'7,V'8],ad.sl false 1 (a.fst && false) (a.snd++ [[T.ae true]]),ad.sl false 1 (f.fst && false)
 (f.snd++ [[T.int i64 n]]),ad.rows d.fst 5 1 1 d.snd.length d.snd,ad.mp false [Ck.s] (Ck.i i64) l] else bif bif !X then true else decide ((↑c7.length:Int) > (800:Int)) then some [T.ae
 true,T.ae true,T.ae true,T.int i64 (10:Int),T.int i64 (0:Int)] else O pK [Y'0,Y'1,Y'2,Y'3,AV.t (T.ab 1 g e),I (↑e.length
 :Int),I (0:Int)] [ad.box [AV.t (T.ae h),AV.t (T.ae j),AV.t (T.ae k)],ad.box [I u,I v],ad.box [Y'4,AV.t (T.ab 3 w E),AV.t (T.ab 5 y F),AV.t (T.ab 1 A
 G),AV.t (T.str H),AV.t (T.ab 1 C J),V'5,V'6],ad.box [AV.t (T.ab 3 D W),V'7,V'8],ad.box [V'7,V'9],ad.sl false 1 Q c5,
 ad.sl false 1 R c6,ad.rows S 5 1 1 V c7,ad.sl false 1 true [],ad.mp false [Ck.s] (Ck.i i64) c8]):=by kernel_rfl
theorem J3(O:aq)(a:Bool)(b:List (List T)):ax ak ann O (Key.call 76) [(AV.t (T.ab 1 a b)),(AV.fn 14 [] [])] []=
 (O eN [AV.t (T.ab 1 a b),AV.fn 14 [] [],I (↑b.length:Int),I (0:Int)] []):=by kernel_rfl
theorem Kb(O:aq)(a:Bool)(b:List (List T)):ax ak ann O (Key.call 77) [(AV.t (T.ab 3 a b)),(AV.fn 41 [] [])] []=
 (O gQ [AV.t (T.ab 3 a b),AV.fn 41 [] [],I (↑b.length:Int),I (0:Int)] []):=by kernel_rfl
theorem BI(O:aq)(u:Bool)(k:List (List T))(v:Int)(a:Int)(i:Bool)(m:List (List T))(d:Bool)(b:List (List T))(j:Bool)(o:List (List T))(e:Bool)(f:Bool)(g:Bool)(h:Bool)(q:Bool)(c3:List (List T))(r:Bool)(w:List (List T)):ax ak ann O mR [Y'0,Y'1,Y'2,(AV.t (T.ab 3 u k)),(I v),(I a)] [(ad.box [(AV.t (T.ab 3 i m)),(AV.t (T.ab 5 d b)),(AV.t (T.ab 1 j o))]),(ad.box [(AV.t (T.ae e)),(AV.t (T.ae f)),(AV.t (T.ae g))]),(ad.box [V'3,(AV.t (T.ae h)),V'4]),(ad.sl false 3 q c3),(ad.sl false 1 r w)]=
 (bif decide (a < v) then U' (if(0:Int)<=a/\a < (↑k.length:Int) then some () else none) λx=>U' k[a.toNat]? λl=>U' l.head? λx=>U' l.tail.head? λy=>U'
 l.tail.tail.head? λz=>U' x.bc λs=>U' (T.an 1 y) λp=>U' (T.int? i64 z) λn=>U' (O (Key.call 18) [AV.t (T.ab 1 p.fst p.snd)] []) λl=>U' l.head? λx
 =>U' (T.an 1 x) λp=>U' (bp 48 (c3.length+ [[T.str s,T.ab 1 p.fst p.snd,T.int i64 n]].length)) λx=>O mR [Y'0,Y'1,Y'2,AV.t (T.ab 3
 u k),I v,I (i64.wrap (a+ (1:Int)))] [ad.box [AV.t (T.ab 3 i m),AV.t (T.ab 5 d b),AV.t (T.ab 1 j o)],ad.box [AV.t (T.ae e),AV.t (T.ae f),AV.t (T.ae g)],
 ad.box [V'3,AV.t (T.ae h),V'4],ad.sl false 3 (q && false) (c3++ [[T.str s,T.ab 1 p.fst p.snd,T.int i64 n]]),ad.sl false 1 r w] else O ig [Y'0,AV.ref
 (Id.c 1) 0,AV.t (T.ab 5 d b),I (↑b.length:Int),I (0:Int)] [ad.box [AV.t (T.ae e),AV.t (T.ae f),AV.t (T.ae g)],ad.box [V'2,AV.t (T.ae h),V'3],ad.sl
 false 3 q c3,ad.sl false 1 r w]):=by kernel_rfl
theorem BJ(O:aq)(j:Bool)(h:List (List T))(k:Int)(a:Int)(e:Bool)(f:Bool)(g:Bool)(b:Bool)(d:Bool)(i:Bool)(m:List (List T)):ax ak ann O ig [Y'0,Y'1,(AV.t (T.ab 5 j h)),(I k),(I a)] [(ad.box [(AV.t (T.ae e)),(AV.t (T.ae f)),(AV.t (T.ae g))]),(ad.box [(AV.t (T.ae b)),(AV.t (T.ae d)),V'2]),(ad.sl false 1 i m)]=
 (bif decide (a < k) then U' (if(0:Int)<=a/\a < (↑h.length:Int) then some () else none) λx=>U' h[a.toNat]? λl=>U' l.head? λx=>U' l.tail.head? λr=>U'
 l.tail.tail.head? λu=>U' l.tail.tail.tail.head? λv=>U' l.tail.tail.tail.tail.head? λw=>U' (T.int? i64 x) λn=>U' (T.an 1 r) λp=>U' (T.int?
 i64 u) λo=>U' (T.int? i64 v) λq=>U' w.bc λs=>U' (O (Key.call 18) [AV.t (T.ab 1 p.fst p.snd)] []) λl=>U' l.head? λx=>U' (T.an 1 x) λp
 =>O ig [Y'0,Y'1,AV.t (T.ab 5 j h),I k,I (i64.wrap (a+ (1:Int)))] [ad.box [AV.t (T.ae e),AV.t (T.ae f),AV.t (T.ae g)],ad.box [AV.t (T.ae b),
 V'2,V'3],ad.sl false 5 (d && false) [[T.int i64 n,T.ab 1 p.fst p.snd,T.int i64 o,T.int i64 q,T.str s]],ad.sl false 1 i m] else some [T.ae b,T.ae
 d,T.ab 1 i m]):=by kernel_rfl
theorem Ce(O:aq)(b:Bool)(c:List (List T))(a:ByteArray):ax ak ann O (Key.call 40) [(AV.t (T.ab 3 b c)),(AV.fn 42 [] [(AV.t (T.ptr [(T.str a)]))])] []=
 (U' (O (Key.call 77) [AV.t (T.ab 3 b c),AV.fn 42 [] [AV.t (T.ptr [T.str a])]] []) λl=>U' l.head? λx=>U' (T.int? i64 x) λn=>some [T.bool (decide (n>=(0:Int)))]):=by kernel_rfl
theorem IA(O:aq)(a:Int):ax ak ann O (Key.call 14) [(I a)] []=
 (some [T.bool (bif decide (a > (10:Int)) then decide (a<=(18:Int)) else false)]):=by kernel_rfl
theorem xA(O:aq)(j:ByteArray)(i:Bool)(e:Bool)(d:List (List T))(g:Int)(a:Int)(f:Bool)(h:List (List T)):ax ak ann O lu [(AV.t (T.str j)),V'0,(B i),(AV.t (T.ab 3 e d)),(I g),(I a)] [(ad.sl false 3 f h)]=
 (bif decide (a < g) then U' (if(0:Int)<=a/\a < (↑d.length:Int) then some () else none) λx=>U' d[a.toNat]? λl=>U' l.head? λx=>U' l.tail.head? λk=>U'
 l.tail.tail.head? λm=>U' x.bc λs=>U' (T.an 1 k) λp=>U' (T.int? i64 m) λn=>U' (O (Key.call 14) [I n] []) λl=>U' l.head? λx=>U' x.bool? fun
 b=>bif !b then U' (O (Key.call 18) [AV.t (T.ab 1 p.fst p.snd)] []) λl=>U' l.head? λx=>U' (T.an 1 x) λp=>U' (bp 48 (h.length+ [[T.str s,T.ab 1 p.fst p.snd,T.int
 i64 n]].length)) λx=>O lu [AV.t (T.str j),V'0,B i,AV.t (T.ab 3 e d),I g,I (i64.wrap (a+ (1:Int)))] [ad.sl false 3 (f && false) (h++ [[T.str s,T.ab 1 p.fst
 p.snd,T.int i64 n]])] else O mS [AV.t (T.str j),V'0,B i,I a,Y'1,AV.t (T.ab 3 e d),I g,I a,I (i64.wrap (n - (10:Int))),I (0:Int)] [ad.sl false 3
 f h,ad.box [AV.t (T.str s),AV.t (T.ab 1 p.fst p.snd),I n]] else some [T.ab 3 f h,T.bool (bif i then decide ((↑h.length:Int)<=(30:Int)) else false)]):=by kernel_rfl
theorem II(O:aq)(b:ByteArray)(i:Bool)(q:Bool)(r:Int)(e:Bool)(k:List (List T))(m:Int)(n:Int)(o:Int)(f:Int)(g:ByteArray)(a:Bool)(d:List (List T))(h:Int):ax ak ann O mS [(AV.t (T.str b)),(AV.t (T.ae i)),(B q),(I r),Y'0,(AV.t (T.ab 3 e k)),(I m),(I n),(I o),(I f)] [(ad.box [(AV.t (T.str g)),(AV.t (T.ab 1 a d)),(I h)])]=
 (bif decide (f < o) then U' (O (Key.call 44) [I r] []) λl=>U' l.head? λx=>U' x.bc λs=>U' (if b.size+s.size<=4294967296 then some () else none) λx=>U' (if(b++
 s).size+1<=4294967296 then some () else none) λx=>U' (O (Key.call 44) [I f] []) λl=>U' l.head? λx=>U' x.bc λj=>U' (if(b++s++ (ByteArray.mk #[(95:UInt8)])).size+
 j.size<=4294967296 then some () else none) λx=>U' (O (Key.call 18) [AV.t (T.ab 1 a d)] []) λl=>U' l.head? λx=>U' (T.an 1 x) λp=>O mS [AV.t (T.str b),AV.own (Id.c
 0),AV.t (T.bool (bif q then decide ((↑(b++s++ (ByteArray.mk #[(95:UInt8)])++j).size:Int)<=(12:Int)) else false)),I r,Y'1,AV.t (T.ab 3 e k),I m,I n,I o,I (i64.wrap
 (f+ (1:Int)))] [ad.sl false 3 (i && false) [[T.str (b++s++ (ByteArray.mk #[(95:UInt8)])++j),T.ab 1 p.fst p.snd,T.int i64 (1:Int)]],ad.box [AV.t (T.str g),AV.t (T.ab 1 a d),I
 h]] else O lu [AV.t (T.str b),AV.t (T.ae i),B q,AV.t (T.ab 3 e k),I m,I (i64.wrap (n+ (1:Int)))] []):=by kernel_rfl
theorem lH(O:aq)(a1:Int)(E:Bool)(L:List (List T))(F:Bool)(J:List (List T))(G:Bool)(M:List (List T))(N:ByteArray)(H:Bool)(P:List (List T))(S:Bool)(Z:List (List T))(U:Bool)(c3:List (List T))(V:Bool)(X:Nat)(Y:List Row)(c5:List (List T×T)):ax ak ann O (Key.call 27) [Y'0,(I a1)] [(ad.box [Y'1,(AV.t (T.ab 3 E L)),(AV.t (T.ab 5 F J)),(AV.t (T.ab 1 G M)),(AV.t (T.str N)),(AV.t (T.ab 1 H P)),V'2,V'3]),(ad.box [V'4,V'5]),(ad.sl false 1 S Z),(ad.sl false 1 U c3),(ad.rows V 5 1 1 X Y),(ad.mp false [Ck.s] (Ck.i i64) c5)]=
 (U' (if(0:Int)<=a1/\a1 < (↑J.length:Int) then some () else none) λx=>U' J[a1.toNat]? λl=>U' l.head? λx=>U' l.tail.head? λx_1=>U' l.tail.tail.head? λx_2=>
 U' l.tail.tail.tail.head? λx_3=>U' l.tail.tail.tail.tail.head? λx_4=>U' (T.int? i64 x) λn=>U' (T.an 1 x_1) λp=>U' (T.int? i64 x_2) λC=>U'
 (T.int? i64 x_3) λh=>U' x_4.bc λs=>bif n== (9:Int) then O oe [I a1,Y'6,Y'7,AV.t (T.ae true),AV.t (T.ae true),AV.t (T.ab 1 p.fst p.snd),I
 (↑p.snd.length:Int),I (0:Int)] [ad.box [Y'1,AV.t (T.ab 3 E L),AV.t (T.ab 5 F J),AV.t (T.ab 1 G M),AV.t (T.str N),AV.t (T.ab 1 H P),V'2,AV.own (Id.c
 3)],ad.box [V'4,V'5],ad.sl false 1 S Z,ad.sl false 1 U c3,ad.rows V 5 1 1 X Y,ad.mp false [Ck.s] (Ck.i i64) c5,ad.box [Y'0],ad.box [I n,AV.t (T.ab 1
 p.fst p.snd),I C,I h,AV.t (T.str s)]] else bif n== (7:Int) then U' (if(0:Int)<=(0:Int)/\(0:Int) < (↑p.snd.length:Int) then some () else none) λx=>U' p.snd[0]? λl=>U'
 l.head? λx=>U' (T.int? i64 x) λa=>U' (if(0:Int)<=a/\a < (↑c3.length:Int) then some () else none) λx=>U' c3[a.toNat]? λl=>U' l.head? λx=>U'
 (T.int? i64 x) λb=>U' (O (Key.call 45) [I (1:Int),Y'0,Y'1] [ad.box [Y'2],ad.box [I n,AV.t (T.ab 1 p.fst p.snd),I C,I h,AV.t (T.str s)],
 ad.box [Y'3,AV.t (T.ab 3 E L),AV.t (T.ab 5 F J),AV.t (T.ab 1 G M),AV.t (T.str N),AV.t (T.ab 1 H P),V'4,V'5],ad.box [V'6,
 V'7],ad.sl false 1 S Z,ad.sl false 1 U c3,ad.rows V 5 1 1 X Y,ad.mp false [Ck.s] (Ck.i i64) c5]) λl=>U' l.head? λx=>U' (T.an 1 x) λp=>U' (List.drop
 1 l).head? λx=>U' (List.drop 1 (List.drop 1 l)).head? λx=>U' (T.int? i64 x) λn=>U' (List.drop 1 (List.drop 1 l)).tail.head? λx=>U' (T.an 1 x) λK=>U'
 (List.drop 1 (List.drop 1 l)).tail.tail.head? λx=>U' (T.int? i64 x) λd=>U' (List.drop 1 (List.drop 1 l)).tail.tail.tail.head? λx=>U' (T.int? i64 x) λQ=>U'
 (List.drop 1 (List.drop 1 l)).tail.tail.tail.tail.head? λx=>U' x.bc λs=>U' (List.drop 5 (List.drop 1 (List.drop 1 l))).head? λx=>U' (List.drop 5 (List.drop 1 (List.drop 1 l))).tail.head?
 λx=>U' (T.an 3 x) λu=>U' (List.drop 5 (List.drop 1 (List.drop 1 l))).tail.tail.head? λx=>U' (T.an 5 x) λv=>U' (List.drop 5 (List.drop 1 (List.drop 1
 l))).tail.tail.tail.head? λx=>U' (T.an 1 x) λw=>U' (List.drop 5 (List.drop 1 (List.drop 1 l))).tail.tail.tail.tail.head? λx=>U' x.bc λW=>U' (List.drop 5 (List.drop 1
 (List.drop 1 l))).tail.tail.tail.tail.tail.head? λx=>U' (T.an 1 x) λy=>U' (List.drop 5 (List.drop (1:Nat) (List.drop (1:Nat) l))).tail.tail.tail.tail.tail.tail.head? λx=>U'
 (List.drop 5 (List.drop (1:Nat) (List.drop (1:Nat) l))).tail.tail.tail.tail.tail.tail.tail.head? λx=>U' (List.drop 8 (List.drop 5 (List.drop 1 (List.drop 1 l)))).head? λx=>U' (aN x) λf=>
 U' (List.drop 8 (List.drop (5:Nat) (List.drop (1:Nat) (List.drop (1:Nat) l)))).tail.head? λx=>U' ((List.drop (2:Nat) (List.drop (8:Nat) (List.drop (5:Nat) (List.drop (1:Nat) (List.drop (1:
 Nat) l))))).head?.bind λz=>T.an 1 z) λA=>U' ((List.drop (2:Nat) (List.drop (8:Nat) (List.drop (5:Nat) (List.drop (1:Nat) (List.drop (1:Nat) l))))).tail.head?.bind λz=>T.an (1:Nat) z)
 λB=>U' ((List.drop (2:Nat) (List.drop (8:Nat) (List.drop (5:Nat) (List.drop (1:Nat) (List.drop (1:Nat) l))))).tail.tail.head?.bind λz=>aL z) λl=>U' (O (Key.call (45:Nat)) [AV.t
 (T.int i64 (2:Int)),AV.ref (Id.c (0:Nat)) (0:Nat),AV.ref (Id.c (1:Nat)) (0:Nat)] [ad.box [AV.ref (Id.c (2:Nat)) (0:Nat)],ad.box [AV.t (T.int i64 n),AV.t (T.ab (1:Nat) K.fst
 K.snd),AV.t (T.int i64 d),AV.t (T.int i64 Q),AV.t (T.str s)],ad.box [AV.ref (Id.c (3:Nat)) (0:Nat),AV.t (T.ab (3:Nat) u.fst u.snd),AV.t (T.ab (5:Nat) v.fst v.snd),AV.t
 (T.ab (1:Nat) w.fst w.snd),AV.t (T.str W),AV.t (T.ab (1:Nat) y.fst y.snd),AV.own (Id.c (4:Nat)),AV.own (Id.c (5:Nat))],ad.box [AV.own (Id.c (6:Nat)),AV.own (Id.c (7:Nat))],ad.sl false (1:
 Nat) A.fst A.snd,ad.sl false (1:Nat) B.fst B.snd,ad.rows f.fst (5:Nat) (1:Nat) (1:Nat) f.snd.length f.snd,ad.mp false [Ck.s] (Ck.i i64) l]) λl=>U' l.head? λx=>U'
 (T.an (1:Nat) x) λD=>U' (List.drop (1:Nat) l).head? λx=>U' (List.drop (1:Nat) (List.drop (1:Nat) l)).head? λx=>U' (T.int? i64 x) λn=>U' (List.drop (1:Nat)
 (List.drop (1:Nat) l)).tail.head? λx=>U' (T.an (1:Nat) x) λp_10=>U' (List.drop (1:Nat) (List.drop (1:Nat) l)).tail.tail.head? λx=>U' (T.int? i64 x) λn=>U'
 (List.drop (1:Nat) (List.drop (1:Nat) l)).tail.tail.tail.head? λx=>U' (T.int? i64 x) λn=>U' (List.drop (1:Nat) (List.drop (1:Nat) l)).tail.tail.tail.tail.head? λx=>U'
 x.bc λs=>U' (List.drop (5:Nat) (List.drop (1:Nat) (List.drop (1:Nat) l))).head? λx=>U' (List.drop (5:Nat) (List.drop (1:Nat) (List.drop (1:Nat) l))).tail.head? λx=>U' (T.an
 (3:Nat) x) λj=>U' (List.drop (5:Nat) (List.drop (1:Nat) (List.drop (1:Nat) l))).tail.tail.head? λx=>U' (T.an (5:Nat) x) λk=>U' (List.drop (5:Nat) (List.drop (1:Nat)
 (List.drop (1:Nat) l))).tail.tail.tail.head? λx=>U' (T.an (1:Nat) x) λm=>U' (List.drop (5:Nat) (List.drop (1:Nat) (List.drop (1:Nat) l))).tail.tail.tail.tail.head? λx=>U'
 x.bc λs=>U' (List.drop (5:Nat) (List.drop (1:Nat) (List.drop (1:Nat) l))).tail.tail.tail.tail.tail.head? λx=>U' (T.an (1:Nat) x) λo=>U' (List.drop (5:Nat) (List.drop (1:
 Nat) (List.drop (1:Nat) l))).tail.tail.tail.tail.tail.tail.head? λx=>U' (List.drop (5:Nat) (List.drop (1:Nat) (List.drop (1:Nat) l))).tail.tail.tail.tail.tail.tail.tail.head? λx=>U'
 (List.drop (8:Nat) (List.drop (5:Nat) (List.drop (1:Nat) (List.drop (1:Nat) l)))).head? λx=>U' (aN x) λe=>U' (List.drop (8:Nat) (List.drop (5:Nat) (List.drop (1:Nat) (List.drop (1
 :Nat) l)))).tail.head? λx=>U' ((List.drop (2:Nat) (List.drop (8:Nat) (List.drop (5:Nat) (List.drop (1:Nat) (List.drop (1:Nat) l))))).head?.bind λz=>T.an (1:Nat) z) λq=>U'
 ((List.drop (2:Nat) (List.drop (8:Nat) (List.drop (5:Nat) (List.drop (1:Nat) (List.drop (1:Nat) l))))).tail.head?.bind λz=>T.an (1:Nat) z) λr=>U' ((List.drop (2:Nat) (List.drop (8:Nat)
 (List.drop (5:Nat) (List.drop (1:Nat) (List.drop (1:Nat) l))))).tail.tail.head?.bind λz=>aL z) λl=>U' (O (Key.call (48:Nat)) [AV.t (T.ab (1:Nat) p.fst p.snd),AV.t (T.ab (1:Nat) D.fst
 D.snd),AV.fn (49:Nat) [] [AV.ref (Id.c (0:Nat)) (0:Nat),AV.ref (Id.c (1:Nat)) (0:Nat)]] [ad.box [AV.ref (Id.c (2:Nat)) (0:Nat)],ad.box [AV.t (T.int i64 b)],ad.box [AV.ref (Id.c (3:Nat))
 (0:Nat),AV.t (T.ab (3:Nat) j.fst j.snd),AV.t (T.ab (5:Nat) k.fst k.snd),AV.t (T.ab (1:Nat) m.fst m.snd),AV.t (T.str s),AV.t (T.ab (1:Nat) o.fst o.snd),AV.own (Id.c (4:Nat)),
 AV.own (Id.c (5:Nat))],ad.box [AV.own (Id.c (6:Nat)),AV.own (Id.c (7:Nat))],ad.sl false (1:Nat) q.fst q.snd,ad.sl false (1:Nat) r.fst r.snd,ad.rows e.fst (5:Nat) (1:Nat) (1:Nat)
 e.snd.length e.snd,ad.mp false [Ck.s] (Ck.i i64) l]) λl=>U' l.head? λx=>U' (T.an (1:Nat) x) λp=>U' (List.drop (1:Nat) l).head? λx=>U' (List.drop (1:Nat)
 (List.drop (1:Nat) l)).head? λx=>U' (T.int? i64 x) λn=>U' (List.drop (1:Nat) (List.drop (1:Nat) (List.drop (1:Nat) l))).head? λx=>U' (List.drop (1:Nat) (List.drop (1:
 Nat) (List.drop (1:Nat) l))).tail.head? λx=>U' (T.an (3:Nat) x) λg=>U' (List.drop (1:Nat) (List.drop (1:Nat) (List.drop (1:Nat) l))).tail.tail.head? λx=>U' (T.an (5:Nat)
 x) λp_19=>U' (List.drop (1:Nat) (List.drop (1:Nat) (List.drop (1:Nat) l))).tail.tail.tail.head? λx=>U' (T.an (1:Nat) x) λp_20=>U' (List.drop (1:Nat) (List.drop (1:Nat)
 (List.drop (1:Nat) l))).tail.tail.tail.tail.head? λx=>U' x.bc λs=>U' (List.drop (1:Nat) (List.drop (1:Nat) (List.drop (1:Nat) l))).tail.tail.tail.tail.tail.head? λx=>U' (T.an
 (1:Nat) x) λp_21=>U' (List.drop (1:Nat) (List.drop (1:Nat) (List.drop (1:Nat) l))).tail.tail.tail.tail.tail.tail.head? λx=>U' (List.drop (1:Nat) (List.drop (1:Nat) (List.drop (1:Nat)
 l))).tail.tail.tail.tail.tail.tail.tail.head? λx=>U' (List.drop (8:Nat) (List.drop (1:Nat) (List.drop (1:Nat) (List.drop (1:Nat) l)))).head? λx=>U' (aN x) λp_22=>U' (List.drop
 (8:Nat) (List.drop (1:Nat) (List.drop (1:Nat) (List.drop (1:Nat) l)))).tail.head? λx=>U' ((List.drop (2:Nat) (List.drop (8:Nat) (List.drop (1:Nat) (List.drop (1:Nat) (List.drop (1:Nat)
 l))))).head?.bind λz=>T.an (1:Nat) z) λp_23=>U' ((List.drop (2:Nat) (List.drop (8:Nat) (List.drop (1:Nat) (List.drop (1:Nat) (List.drop (1:Nat) l))))).tail.head?.bind λz=>T.an (1:
 Nat) z) λp_24=>U' ((List.drop (2:Nat) (List.drop (8:Nat) (List.drop (1:Nat) (List.drop (1:Nat) (List.drop (1:Nat) l))))).tail.tail.head?.bind λz=>aL z) λl=>U' (if aX p_22.snd=
 true then some () else none) λx=>some [T.ab (1:Nat) p.fst p.snd,T.ao,T.ab (3:Nat) g.fst g.snd,T.ab (5:Nat) p_19.fst p_19.snd,T.ab (1:Nat) p_20.fst p_20.snd,T.str s,T.ab (1:Nat) p_21.fst
 p_21.snd,T.ao,T.ao,be p_22.fst p_22.snd,T.ao,T.ab (1:Nat) p_23.fst p_23.snd,T.ab (1:Nat) p_24.fst p_24.snd,aH l] else bif n== (15:Int) then O od [Y'6,Y'7,AV.t
 (T.ae true),I h,I (0:Int)] [ad.box [Y'1,AV.t (T.ab 3 E L),AV.t (T.ab 5 F J),AV.t (T.ab 1 G M),AV.t (T.str N),AV.t (T.ab 1 H P),V'2,AV.own (Id.c
 3)],ad.box [V'4,V'5],ad.sl false 1 S Z,ad.sl false 1 U c3,ad.rows V 5 1 1 X Y,ad.mp false [Ck.s] (Ck.i i64) c5,ad.box [Y'0],ad.box [I n,AV.t (T.ab 1
 p.fst p.snd),I C,I h,AV.t (T.str s)]] else bif n== (16:Int) then U' (O (Key.call 45) [I (0:Int),Y'0,Y'1] [ad.box [Y'2],ad.box [I n,AV.t (T.ab 1 p.fst
 p.snd),I C,I h,AV.t (T.str s)],ad.box [Y'3,AV.t (T.ab 3 E L),AV.t (T.ab 5 F J),AV.t (T.ab 1 G M),AV.t (T.str N),AV.t (T.ab 1 H P),V'4,AV.own
 (Id.c 5)],ad.box [V'6,V'7],ad.sl false 1 S Z,ad.sl false 1 U c3,ad.rows V 5 1 1 X Y,ad.mp false [Ck.s] (Ck.i i64) c5]) λl=>U' l.head? λx=>U'
 (T.an 1 x) λp=>U' (List.drop 1 l).head? λx=>U' (List.drop 1 (List.drop 1 l)).head? λx=>U' (T.int? i64 x) λn=>U' (List.drop 1 (List.drop 1 l)).tail.head? λx=>aa
 none (T.an 1 x) λK=>U' (List.drop 1 (List.drop 1 l)).tail.tail.head? λx=>U' (T.int? i64 x) λn=>U' (List.drop 1 (List.drop 1 l)).tail.tail.tail.head? λx=>U' (T.int?
 i64 x) λn=>U' (List.drop 1 (List.drop 1 l)).tail.tail.tail.tail.head? λx=>U' x.bc λs=>U' (List.drop 5 (List.drop 1 (List.drop 1 l))).head? λx=>U' (List.drop 5
 (List.drop 1 (List.drop 1 l))).tail.head? λx=>U' (T.an 3 x) λu=>U' (List.drop 5 (List.drop 1 (List.drop 1 l))).tail.tail.head? λx=>U' (T.an 5 x) λv=>U' (List.drop 5
 (List.drop 1 (List.drop 1 l))).tail.tail.tail.head? λx=>U' (T.an 1 x) λw=>U' (List.drop 5 (List.drop 1 (List.drop 1 l))).tail.tail.tail.tail.head? λx=>U' x.bc λs=>U'
 (List.drop 5 (List.drop 1 (List.drop 1 l))).tail.tail.tail.tail.tail.head? λx=>U' (T.an 1 x) λy=>U' (List.drop 5 (List.drop 1 (List.drop 1 l))).tail.tail.tail.tail.tail.tail.head? λx=>aa
 none (List.drop 5 (List.drop 1 (List.drop 1 l))).tail.tail.tail.tail.tail.tail.tail.head? λx=>U' (List.drop 8 (List.drop 5 (List.drop 1 (List.drop 1 l)))).head? λx=>U' (aN x) λf=>U'
 (List.drop 8 (List.drop 5 (List.drop 1 (List.drop 1 l)))).tail.head? λx=>U' ((List.drop 2 (List.drop 8 (List.drop 5 (List.drop 1 (List.drop 1 l))))).head?.bind λz=>T.an 1 z) λA=>U'
 ((List.drop 2 (List.drop 8 (List.drop 5 (List.drop (1:Nat) (List.drop (1:Nat) l))))).tail.head?.bind λz=>T.an 1 z) λB=>U' ((List.drop 2 (List.drop (8:Nat) (List.drop (5:Nat) (List.drop (1:
 Nat) (List.drop (1:Nat) l))))).tail.tail.head?.bind λz=>aL z) λl=>O (bG ak 27 true 28 [(2,none),(7,none),(128,none),(129,none),(130,none)] (6,2008)) [Y'6,AV.t (T.ae true),
 AV.t (T.ab 1 p.fst p.snd),AV.t (T.int i64 (↑p.snd.length:Int)),AV.t (T.int i64 (0:Int))] [ad.box [Y'1,AV.t (T.ab 3 u.fst u.snd),AV.t (T.ab 5 v.fst v.snd),AV.t (T.ab 1
 w.fst w.snd),AV.t (T.str s),AV.t (T.ab 1 y.fst y.snd),AV.own (Id.c (2:Nat)),AV.own (Id.c (3:Nat))],ad.box [AV.own (Id.c (7:Nat)),AV.own (Id.c (5:Nat))],ad.sl false 1 A.fst A.snd,ad.sl false
 1 B.fst B.snd,ad.dead,ad.mp false [Ck.s] (Ck.i i64) l,ad.box [Y'0],ad.rows f.fst 5 1 1 f.snd.length f.snd] else bif n== (17:Int) then U' (O (Key.call 45) [I (0:Int),
 Y'0,Y'1] [ad.box [Y'2],ad.box [I n,AV.t (T.ab 1 p.fst p.snd),I C,I h,AV.t (T.str s)],ad.box [Y'3,AV.t (T.ab 3 E L),AV.t (T.ab 5 F
 J),AV.t (T.ab 1 G M),AV.t (T.str N),AV.t (T.ab 1 H P),V'4,V'5],ad.box [V'6,V'7],ad.sl false 1 S Z,ad.sl false 1 U c3,ad.rows V 5 1
 1 X Y,ad.mp false [Ck.s] (Ck.i i64) c5]) λl=>U' l.head? λx=>U' (T.an 1 x) λp=>U' (List.drop 1 l).head? λx=>U' (List.drop 1 (List.drop 1 l)).head? λx=>aa
 none (T.int? i64 x) λa=>U' (List.drop 1 (List.drop 1 l)).tail.head? λx=>U' (T.an 1 x) λK=>U' (List.drop 1 (List.drop 1 l)).tail.tail.head? λx=>U' (T.int?
 i64 x) λb=>U' (List.drop 1 (List.drop 1 l)).tail.tail.tail.head? λx=>U' (T.int? i64 x) λd=>U' (List.drop 1 (List.drop 1 l)).tail.tail.tail.tail.head? λx=>U'
 x.bc λs=>U' (List.drop 5 (List.drop 1 (List.drop 1 l))).head? λx=>U' (List.drop 5 (List.drop 1 (List.drop 1 l))).tail.head? λx=>U' (T.an 3 x) λu=>U' (List.drop 5
 (List.drop 1 (List.drop 1 l))).tail.tail.head? λx=>U' (T.an 5 x) λv=>U' (List.drop 5 (List.drop 1 (List.drop 1 l))).tail.tail.tail.head? λx=>U' (T.an 1 x) λw=>U'
 (List.drop 5 (List.drop 1 (List.drop 1 l))).tail.tail.tail.tail.head? λx=>U' x.bc λW=>U' (List.drop 5 (List.drop 1 (List.drop 1 l))).tail.tail.tail.tail.tail.head? λx=>U' (T.an 1 x)
 λy=>U' (List.drop 5 (List.drop 1 (List.drop 1 l))).tail.tail.tail.tail.tail.tail.head? λx=>U' (List.drop 5 (List.drop 1 (List.drop 1 l))).tail.tail.tail.tail.tail.tail.tail.head? λx=>U'
 (List.drop 8 (List.drop 5 (List.drop 1 (List.drop 1 l)))).head? λx=>U' (aN x) λf=>U' (List.drop 8 (List.drop 5 (List.drop 1 (List.drop 1 l)))).tail.head? λx=>U' ((List.drop 2
 (List.drop 8 (List.drop 5 (List.drop 1 (List.drop (1:Nat) l))))).head?.bind λz=>T.an 1 z) λA=>U' ((List.drop 2 (List.drop 8 (List.drop (5:Nat) (List.drop (1:Nat) (List.drop (1:Nat)
 l))))).tail.head?.bind λz=>T.an 1 z) λB=>U' ((List.drop (2:Nat) (List.drop (8:Nat) (List.drop (5:Nat) (List.drop (1:Nat) (List.drop (1:Nat) l))))).tail.tail.head?.bind λz=>aL z) λl
 =>U' (if n=a then some () else none) λx=>U' (if C=b then some () else none) λx=>U' (if h=d then some () else none) λx=>U' (if n=a then some () else none) λx
 =>U' (if C=b then some () else none) λx=>U' (if h=d then some () else none) λx=>U' (O (Key.call (45:Nat)) [AV.t (T.int i64 (1:Int)),AV.ref (Id.c (0:Nat)) (0:Nat),
 AV.ref (Id.c (1:Nat)) (0:Nat)] [ad.box [AV.ref (Id.c (2:Nat)) (0:Nat)],ad.box [AV.t (T.int i64 a),AV.t (T.ab (1:Nat) K.fst K.snd),AV.t (T.int i64 b),AV.t (T.int i64 d),
 AV.t (T.str s)],ad.box [AV.ref (Id.c (3:Nat)) (0:Nat),AV.t (T.ab (3:Nat) u.fst u.snd),AV.t (T.ab (5:Nat) v.fst v.snd),AV.t (T.ab (1:Nat) w.fst w.snd),AV.t (T.str W),AV.t (T.ab (1:Nat)
 y.fst y.snd),AV.own (Id.c (4:Nat)),AV.own (Id.c (5:Nat))],ad.box [AV.own (Id.c (6:Nat)),AV.own (Id.c (7:Nat))],ad.sl false (1:Nat) A.fst A.snd,ad.sl false (1:Nat) B.fst B.snd,ad.rows
 f.fst (5:Nat) (1:Nat) (1:Nat) f.snd.length f.snd,ad.mp false [Ck.s] (Ck.i i64) l]) λl=>U' l.head? λx=>U' (T.an (1:Nat) x) λD=>U' (List.drop (1:Nat) l).head?
 λx=>U' (List.drop (1:Nat) (List.drop (1:Nat) l)).head? λx=>U' (T.int? i64 x) λn=>U' (List.drop (1:Nat) (List.drop (1:Nat) l)).tail.head? λx=>U' (T.an (1:Nat)
 x) λp_10=>U' (List.drop (1:Nat) (List.drop (1:Nat) l)).tail.tail.head? λx=>U' (T.int? i64 x) λQ=>U' (List.drop (1:Nat) (List.drop (1:Nat) l)).tail.tail.tail.head? λx
 =>U' (T.int? i64 x) λR=>U' (List.drop (1:Nat) (List.drop (1:Nat) l)).tail.tail.tail.tail.head? λx=>U' x.bc λs=>U' (List.drop (5:Nat) (List.drop (1:Nat)
 (List.drop (1:Nat) l))).head? λx=>U' (List.drop (5:Nat) (List.drop (1:Nat) (List.drop (1:Nat) l))).tail.head? λx=>U' (T.an (3:Nat) x) λj=>U' (List.drop (5:Nat) (List.drop
 (1:Nat) (List.drop (1:Nat) l))).tail.tail.head? λx=>U' (T.an (5:Nat) x) λk=>U' (List.drop (5:Nat) (List.drop (1:Nat) (List.drop (1:Nat) l))).tail.tail.tail.head? λx=>U'
 (T.an (1:Nat) x) λm=>U' (List.drop (5:Nat) (List.drop (1:Nat) (List.drop (1:Nat) l))).tail.tail.tail.tail.head? λx=>U' x.bc λs=>U' (List.drop (5:Nat) (List.drop (1:Nat)
 (List.drop (1:Nat) l))).tail.tail.tail.tail.tail.head? λx=>U' (T.an (1:Nat) x) λo=>U' (List.drop (5:Nat) (List.drop (1:Nat) (List.drop (1:Nat) l))).tail.tail.tail.tail.tail.tail.head?
 λx=>U' (List.drop (5:Nat) (List.drop (1:Nat) (List.drop (1:Nat) l))).tail.tail.tail.tail.tail.tail.tail.head? λx=>U' (List.drop (8:Nat) (List.drop (5:Nat) (List.drop (1:Nat) (List.drop (1
 :Nat) l)))).head? λx=>U' (aN x) λe=>U' (List.drop (8:Nat) (List.drop (5:Nat) (List.drop (1:Nat) (List.drop (1:Nat) l)))).tail.head? λx=>U' ((List.drop (2:Nat) (List.drop
 (8:Nat) (List.drop (5:Nat) (List.drop (1:Nat) (List.drop (1:Nat) l))))).head?.bind λz=>T.an (1:Nat) z) λq=>U' ((List.drop (2:Nat) (List.drop (8:Nat) (List.drop (5:Nat) (List.drop (1:
 Nat) (List.drop (1:Nat) l))))).tail.head?.bind λz=>T.an (1:Nat) z) λr=>U' ((List.drop (2:Nat) (List.drop (8:Nat) (List.drop (5:Nat) (List.drop (1:Nat) (List.drop (1:Nat)
 l))))).tail.tail.head?.bind λz=>aL z) λl=>U' (if a=n then some () else none) λx=>U' (if b=Q then some () else none) λx=>U' (if d=R then some () else none) λx=>
 U' (if a=n then some () else none) λx=>U' (if b=Q then some () else none) λx=>U' (if d=R then some () else none) λx=>U' (O (Key.call (48:Nat)) [AV.t (T.ab (1:
 Nat) p.fst p.snd),AV.t (T.ab (1:Nat) D.fst D.snd),AV.fn (52:Nat) [AV.ref (Id.c (0:Nat)) (0:Nat)] []] [ad.box [AV.own (Id.c (1:Nat)),AV.own (Id.c (2:Nat))],ad.rows e.fst (5:Nat) (1:Nat) (1:
 Nat) e.snd.length e.snd,ad.mp false [Ck.s] (Ck.i i64) l]) λl=>U' l.head? λx=>U' (T.an (1:Nat) x) λp=>U' (List.drop (1:Nat) l).head? λx=>U' (aN x) fun
 g=>U' (List.drop (1:Nat) l).tail.head? λx=>U' ((List.drop (2:Nat) (List.drop (1:Nat) l)).head?.bind λz=>aL z) λl=>U' (if aX g.snd=true then some () else none) λx
 =>some [T.ab (1:Nat) p.fst p.snd,T.ao,T.ab (3:Nat) j.fst j.snd,T.ab (5:Nat) k.fst k.snd,T.ab (1:Nat) m.fst m.snd,T.str s,T.ab (1:Nat) o.fst o.snd,T.ao,T.ao,be
 g.fst g.snd,T.ao,T.ab (1:Nat) q.fst q.snd,T.ab (1:Nat) r.fst r.snd,aH l] else bif n== (18:Int) then U' (O (Key.call 45) [I (0:Int),Y'0,Y'1] [ad.box
 [Y'2],ad.box [I n,AV.t (T.ab 1 p.fst p.snd),I C,I h,AV.t (T.str s)],ad.box [Y'3,AV.t (T.ab 3 E L),AV.t (T.ab 5 F J),AV.t (T.ab 1 G M),AV.t (T.str N),
 AV.t (T.ab 1 H P),V'4,V'5],ad.box [V'6,V'7],ad.sl false 1 S Z,ad.sl false 1 U c3,ad.rows V 5 1 1 X Y,ad.mp false [Ck.s] (Ck.i i64)
 c5]) λl=>U' l.head? λx=>U' (T.an 1 x) λp=>U' (List.drop 1 l).head? λx=>U' (List.drop 1 (List.drop 1 l)).head? λx=>U' (T.int? i64 x) λa=>U'
 (List.drop 1 (List.drop 1 l)).tail.head? λx=>U' (T.an 1 x) λK=>U' (List.drop 1 (List.drop 1 l)).tail.tail.head? λx=>U' (T.int? i64 x) λb=>U' (List.drop 1
 (List.drop 1 l)).tail.tail.tail.head? λx=>U' (T.int? i64 x) λd=>U' (List.drop 1 (List.drop 1 l)).tail.tail.tail.tail.head? λx=>U' x.bc λs=>U' (List.drop 5 (List.drop
 1 (List.drop 1 l))).head? λx=>U' (List.drop 5 (List.drop 1 (List.drop 1 l))).tail.head? λx=>U' (T.an 3 x) λu=>U' (List.drop 5 (List.drop 1 (List.drop 1 l))).tail.tail.head? λx=>
 U' (T.an 5 x) λv=>U' (List.drop 5 (List.drop 1 (List.drop 1 l))).tail.tail.tail.head? λx=>U' (T.an 1 x) λw=>U' (List.drop 5 (List.drop 1 (List.drop 1
 l))).tail.tail.tail.tail.head? λx=>U' x.bc λW=>U' (List.drop 5 (List.drop 1 (List.drop 1 l))).tail.tail.tail.tail.tail.head? λx=>U' (T.an 1 x) λy=>U' (List.drop 5
 (List.drop 1 (List.drop 1 l))).tail.tail.tail.tail.tail.tail.head? λx=>U' (List.drop 5 (List.drop 1 (List.drop (1:Nat) l))).tail.tail.tail.tail.tail.tail.tail.head? λx=>U' (List.drop 8 (List.drop 5
 (List.drop 1 (List.drop 1 l)))).head? λx=>U' (aN x) λf=>U' (List.drop 8 (List.drop 5 (List.drop 1 (List.drop 1 l)))).tail.head? λx=>U' ((List.drop 2 (List.drop 8 (List.drop 5
 (List.drop (1:Nat) (List.drop (1:Nat) l))))).head?.bind λz=>T.an 1 z) λA=>U' ((List.drop 2 (List.drop (8:Nat) (List.drop (5:Nat) (List.drop (1:Nat) (List.drop (1:Nat) l))))).tail.head?.bind
 λz=>T.an 1 z) λB=>U' ((List.drop (2:Nat) (List.drop (8:Nat) (List.drop (5:Nat) (List.drop (1:Nat) (List.drop (1:Nat) l))))).tail.tail.head?.bind λz=>aL z) λl=>U' (if n=a
 then some () else none) λx=>U' (if C=b then some () else none) λx=>U' (if h=d then some () else none) λx=>U' (if n=a then some () else none) λx=>U' (if C=b
 then some () else none) λx=>U' (if h=d then some () else none) λx=>U' (O (Key.call (45:Nat)) [AV.t (T.int i64 (1:Int)),AV.ref (Id.c (0:Nat)) (0:Nat),AV.ref (Id.c (1:Nat)) (0
 :Nat)] [ad.box [AV.ref (Id.c (2:Nat)) (0:Nat)],ad.box [AV.t (T.int i64 a),AV.t (T.ab (1:Nat) K.fst K.snd),AV.t (T.int i64 b),AV.t (T.int i64 d),AV.t (T.str s)],ad.box
 [AV.ref (Id.c (3:Nat)) (0:Nat),AV.t (T.ab (3:Nat) u.fst u.snd),AV.t (T.ab (5:Nat) v.fst v.snd),AV.t (T.ab (1:Nat) w.fst w.snd),AV.t (T.str W),AV.t (T.ab (1:Nat) y.fst y.snd),AV.own
 (Id.c (4:Nat)),AV.own (Id.c (5:Nat))],ad.box [AV.own (Id.c (6:Nat)),AV.own (Id.c (7:Nat))],ad.sl false (1:Nat) A.fst A.snd,ad.sl false (1:Nat) B.fst B.snd,ad.rows f.fst (5:Nat) (1:Nat)
 (1:Nat) f.snd.length f.snd,ad.mp false [Ck.s] (Ck.i i64) l]) λl=>U' l.head? λx=>U' (T.an (1:Nat) x) λD=>U' (List.drop (1:Nat) l).head? λx=>U' (List.drop
 (1:Nat) (List.drop (1:Nat) l)).head? λx=>U' (T.int? i64 x) λn=>U' (List.drop (1:Nat) (List.drop (1:Nat) l)).tail.head? λx=>U' (T.an (1:Nat) x) λp_10=>U'
 (List.drop (1:Nat) (List.drop (1:Nat) l)).tail.tail.head? λx=>U' (T.int? i64 x) λQ=>U' (List.drop (1:Nat) (List.drop (1:Nat) l)).tail.tail.tail.head? λx=>U' (T.int?
 i64 x) λR=>U' (List.drop (1:Nat) (List.drop (1:Nat) l)).tail.tail.tail.tail.head? λx=>U' x.bc λs=>U' (List.drop (5:Nat) (List.drop (1:Nat) (List.drop (1:Nat)
 l))).head? λx=>U' (List.drop (5:Nat) (List.drop (1:Nat) (List.drop (1:Nat) l))).tail.head? λx=>U' (T.an (3:Nat) x) λj=>U' (List.drop (5:Nat) (List.drop (1:Nat) (List.drop
 (1:Nat) l))).tail.tail.head? λx=>U' (T.an (5:Nat) x) λk=>U' (List.drop (5:Nat) (List.drop (1:Nat) (List.drop (1:Nat) l))).tail.tail.tail.head? λx=>U' (T.an (1:Nat) x)
 λm=>U' (List.drop (5:Nat) (List.drop (1:Nat) (List.drop (1:Nat) l))).tail.tail.tail.tail.head? λx=>U' x.bc λs=>U' (List.drop (5:Nat) (List.drop (1:Nat) (List.drop (1:Nat)
 l))).tail.tail.tail.tail.tail.head? λx=>U' (T.an (1:Nat) x) λo=>U' (List.drop (5:Nat) (List.drop (1:Nat) (List.drop (1:Nat) l))).tail.tail.tail.tail.tail.tail.head? λx=>U'
 (List.drop (5:Nat) (List.drop (1:Nat) (List.drop (1:Nat) l))).tail.tail.tail.tail.tail.tail.tail.head? λx=>U' (List.drop (8:Nat) (List.drop (5:Nat) (List.drop (1:Nat) (List.drop (1:Nat)
 l)))).head? λx=>U' (aN x) λe=>U' (List.drop (8:Nat) (List.drop (5:Nat) (List.drop (1:Nat) (List.drop (1:Nat) l)))).tail.head? λx=>U' ((List.drop (2:Nat) (List.drop (8:
 Nat) (List.drop (5:Nat) (List.drop (1:Nat) (List.drop (1:Nat) l))))).head?.bind λz=>T.an (1:Nat) z) λq=>U' ((List.drop (2:Nat) (List.drop (8:Nat) (List.drop (5:Nat) (List.drop (1:Nat)
 (List.drop (1:Nat) l))))).tail.head?.bind λz=>T.an (1:Nat) z) λr=>U' ((List.drop (2:Nat) (List.drop (8:Nat) (List.drop (5:Nat) (List.drop (1:Nat) (List.drop (1:Nat)
 l))))).tail.tail.head?.bind λz=>aL z) λl=>U' (if a=n then some () else none) λx=>U' (if b=Q then some () else none) λx=>U' (if d=R then some () else none) λx=>
 U' (if a=n then some () else none) λx=>U' (if b=Q then some () else none) λx=>U' (if d=R then some () else none) λx=>U' (O (Key.call (48:Nat)) [AV.t (T.ab (1:
 Nat) p.fst p.snd),AV.t (T.ab (1:Nat) D.fst D.snd),AV.fn (53:Nat) [AV.ref (Id.c (0:Nat)) (0:Nat)] []] [ad.box [AV.own (Id.c (1:Nat)),AV.own (Id.c (2:Nat))],ad.rows e.fst (5:Nat) (1:Nat) (1:
 Nat) e.snd.length e.snd,ad.mp false [Ck.s] (Ck.i i64) l]) λl=>U' l.head? λx=>U' (T.an (1:Nat) x) λp=>U' (List.drop (1:Nat) l).head? λx=>U' (aN x) fun
 g=>U' (List.drop (1:Nat) l).tail.head? λx=>U' ((List.drop (2:Nat) (List.drop (1:Nat) l)).head?.bind λz=>aL z) λl=>U' (if aX g.snd=true then some () else none) λx
 =>some [T.ab (1:Nat) p.fst p.snd,T.ao,T.ab (3:Nat) j.fst j.snd,T.ab (5:Nat) k.fst k.snd,T.ab (1:Nat) m.fst m.snd,T.str s,T.ab (1:Nat) o.fst o.snd,T.ao,T.ao,be
 g.fst g.snd,T.ao,T.ab (1:Nat) q.fst q.snd,T.ab (1:Nat) r.fst r.snd,aH l] else bif n== (19:Int) then U' (O (Key.call 45) [I (0:Int),Y'0,Y'1] [ad.box
 [Y'2],ad.box [I n,AV.t (T.ab 1 p.fst p.snd),I C,I h,AV.t (T.str s)],ad.box [Y'3,AV.t (T.ab 3 E L),AV.t (T.ab 5 F J),AV.t (T.ab 1 G M),AV.t (T.str N),
 AV.t (T.ab 1 H P),V'4,V'5],ad.box [V'6,V'7],ad.sl false 1 S Z,ad.sl false 1 U c3,ad.rows V 5 1 1 X Y,ad.mp false [Ck.s] (Ck.i i64)
 c5]) λl=>U' l.head? λx=>U' (T.an 1 x) λp=>U' (List.drop 1 l).head? λx=>U' (List.drop 1 (List.drop 1 l)).head? λx=>U' (T.int? i64 x) λa=>U'
 (List.drop 1 (List.drop 1 l)).tail.head? λx=>U' (T.an 1 x) λK=>U' (List.drop 1 (List.drop 1 l)).tail.tail.head? λx=>U' (T.int? i64 x) λb=>U' (List.drop 1
 (List.drop 1 l)).tail.tail.tail.head? λx=>U' (T.int? i64 x) λd=>U' (List.drop 1 (List.drop 1 l)).tail.tail.tail.tail.head? λx=>U' x.bc λs=>U' (List.drop 5 (List.drop
 1 (List.drop 1 l))).head? λx=>U' (List.drop 5 (List.drop 1 (List.drop 1 l))).tail.head? λx=>U' (T.an 3 x) λu=>U' (List.drop 5 (List.drop 1 (List.drop 1 l))).tail.tail.head? λx=>
 U' (T.an 5 x) λv=>U' (List.drop 5 (List.drop 1 (List.drop 1 l))).tail.tail.tail.head? λx=>U' (T.an 1 x) λw=>U' (List.drop 5 (List.drop 1 (List.drop 1
 l))).tail.tail.tail.tail.head? λx=>U' x.bc λW=>U' (List.drop 5 (List.drop 1 (List.drop 1 l))).tail.tail.tail.tail.tail.head? λx=>U' (T.an 1 x) λy=>U' (List.drop 5
 (List.drop 1 (List.drop 1 l))).tail.tail.tail.tail.tail.tail.head? λx=>U' (List.drop 5 (List.drop (1:Nat) (List.drop (1:Nat) l))).tail.tail.tail.tail.tail.tail.tail.head? λx=>U' (List.drop 8
 (List.drop 5 (List.drop 1 (List.drop 1 l)))).head? λx=>U' (aN x) λf=>U' (List.drop 8 (List.drop 5 (List.drop 1 (List.drop 1 l)))).tail.head? λx=>U' ((List.drop 2 (List.drop 8
 (List.drop (5:Nat) (List.drop (1:Nat) (List.drop (1:Nat) l))))).head?.bind λz=>T.an 1 z) λA=>U' ((List.drop (2:Nat) (List.drop (8:Nat) (List.drop (5:Nat) (List.drop (1:Nat) (List.drop (1
 :Nat) l))))).tail.head?.bind λz=>T.an 1 z) λB=>U' ((List.drop (2:Nat) (List.drop (8:Nat) (List.drop (5:Nat) (List.drop (1:Nat) (List.drop (1:Nat) l))))).tail.tail.head?.bind λz=>aL z)
 λl=>U' (if n=a then some () else none) λx=>U' (if C=b then some () else none) λx=>U' (if h=d then some () else none) λx=>U' (if n=a then some () else none)
 λx=>U' (if C=b then some () else none) λx=>U' (if h=d then some () else none) λx=>U' (O (Key.call (45:Nat)) [AV.t (T.int i64 (1:Int)),AV.ref (Id.c (0:Nat)) (0:
 Nat),AV.ref (Id.c (1:Nat)) (0:Nat)] [ad.box [AV.ref (Id.c (2:Nat)) (0:Nat)],ad.box [AV.t (T.int i64 a),AV.t (T.ab (1:Nat) K.fst K.snd),AV.t (T.int i64 b),AV.t (T.int i64
 d),AV.t (T.str s)],ad.box [AV.ref (Id.c (3:Nat)) (0:Nat),AV.t (T.ab (3:Nat) u.fst u.snd),AV.t (T.ab (5:Nat) v.fst v.snd),AV.t (T.ab (1:Nat) w.fst w.snd),AV.t (T.str W),AV.t (T.ab (1:
 Nat) y.fst y.snd),AV.own (Id.c (4:Nat)),AV.own (Id.c (5:Nat))],ad.box [AV.own (Id.c (6:Nat)),AV.own (Id.c (7:Nat))],ad.sl false (1:Nat) A.fst A.snd,ad.sl false (1:Nat) B.fst B.snd,
 ad.rows f.fst (5:Nat) (1:Nat) (1:Nat) f.snd.length f.snd,ad.mp false [Ck.s] (Ck.i i64) l]) λl=>U' l.head? λx=>U' (T.an (1:Nat) x) λD=>U' (List.drop (1:Nat)
 l).head? λx=>U' (List.drop (1:Nat) (List.drop (1:Nat) l)).head? λx=>U' (T.int? i64 x) λn=>U' (List.drop (1:Nat) (List.drop (1:Nat) l)).tail.head? λx=>U' (T.an
 (1:Nat) x) λp_10=>U' (List.drop (1:Nat) (List.drop (1:Nat) l)).tail.tail.head? λx=>U' (T.int? i64 x) λQ=>U' (List.drop (1:Nat) (List.drop (1:Nat)
 l)).tail.tail.tail.head? λx=>U' (T.int? i64 x) λR=>U' (List.drop (1:Nat) (List.drop (1:Nat) l)).tail.tail.tail.tail.head? λx=>U' x.bc λs=>U' (List.drop (5:Nat)
 (List.drop (1:Nat) (List.drop (1:Nat) l))).head? λx=>U' (List.drop (5:Nat) (List.drop (1:Nat) (List.drop (1:Nat) l))).tail.head? λx=>U' (T.an (3:Nat) x) λj=>U' (List.drop
 (5:Nat) (List.drop (1:Nat) (List.drop (1:Nat) l))).tail.tail.head? λx=>U' (T.an (5:Nat) x) λk=>U' (List.drop (5:Nat) (List.drop (1:Nat) (List.drop (1:Nat) l))).tail.tail.tail.head?
 λx=>U' (T.an (1:Nat) x) λm=>U' (List.drop (5:Nat) (List.drop (1:Nat) (List.drop (1:Nat) l))).tail.tail.tail.tail.head? λx=>U' x.bc λs=>U' (List.drop (5:Nat)
 (List.drop (1:Nat) (List.drop (1:Nat) l))).tail.tail.tail.tail.tail.head? λx=>U' (T.an (1:Nat) x) λo=>U' (List.drop (5:Nat) (List.drop (1:Nat) (List.drop (1:Nat)
 l))).tail.tail.tail.tail.tail.tail.head? λx=>U' (List.drop (5:Nat) (List.drop (1:Nat) (List.drop (1:Nat) l))).tail.tail.tail.tail.tail.tail.tail.head? λx=>U' (List.drop (8:Nat) (List.drop (5
 :Nat) (List.drop (1:Nat) (List.drop (1:Nat) l)))).head? λx=>U' (aN x) λe=>U' (List.drop (8:Nat) (List.drop (5:Nat) (List.drop (1:Nat) (List.drop (1:Nat) l)))).tail.head? λx=>
 U' ((List.drop (2:Nat) (List.drop (8:Nat) (List.drop (5:Nat) (List.drop (1:Nat) (List.drop (1:Nat) l))))).head?.bind λz=>T.an (1:Nat) z) λq=>U' ((List.drop (2:Nat) (List.drop (8:
 Nat) (List.drop (5:Nat) (List.drop (1:Nat) (List.drop (1:Nat) l))))).tail.head?.bind λz=>T.an (1:Nat) z) λr=>U' ((List.drop (2:Nat) (List.drop (8:Nat) (List.drop (5:Nat) (List.drop (1:
 Nat) (List.drop (1:Nat) l))))).tail.tail.head?.bind λz=>aL z) λl=>U' (if a=n then some () else none) λx=>U' (if b=Q then some () else none) λx=>U' (if d=R then
 some () else none) λx=>U' (if a=n then some () else none) λx=>U' (if b=Q then some () else none) λx=>U' (if d=R then some () else none) λx=>U' (O (Key.call (48:
 Nat)) [AV.t (T.ab (1:Nat) p.fst p.snd),AV.t (T.ab (1:Nat) D.fst D.snd),AV.fn (54:Nat) [AV.ref (Id.c (0:Nat)) (0:Nat)] []] [ad.box [AV.own (Id.c (1:Nat)),AV.own (Id.c (2:Nat))],ad.rows e.fst (5
 :Nat) (1:Nat) (1:Nat) e.snd.length e.snd,ad.mp false [Ck.s] (Ck.i i64) l]) λl=>U' l.head? λx=>U' (T.an (1:Nat) x) λp=>U' (List.drop (1:Nat) l).head? λx=>aa
 none (aN x) λg=>U' (List.drop (1:Nat) l).tail.head? λx=>U' ((List.drop (2:Nat) (List.drop (1:Nat) l)).head?.bind λz=>aL z) λl=>U' (if aX g.snd=true then some ()
 else none) λx=>some [T.ab (1:Nat) p.fst p.snd,T.ao,T.ab (3:Nat) j.fst j.snd,T.ab (5:Nat) k.fst k.snd,T.ab (1:Nat) m.fst m.snd,T.str s,T.ab (1:Nat) o.fst o.snd,T.ao,
 T.ao,be g.fst g.snd,T.ao,T.ab (1:Nat) q.fst q.snd,T.ab (1:Nat) r.fst r.snd,aH l] else bif n== (20:Int) then U' (O (Key.call 45) [I (0:Int),Y'0,AV.ref (Id.c
 1) 0] [ad.box [Y'2],ad.box [I n,AV.t (T.ab 1 p.fst p.snd),I C,I h,AV.t (T.str s)],ad.box [Y'3,AV.t (T.ab 3 E L),AV.t (T.ab 5 F J),AV.t (T.ab 1 G M),
 AV.t (T.str N),AV.t (T.ab 1 H P),V'4,V'5],ad.box [V'6,V'7],ad.sl false 1 S Z,ad.sl false 1 U c3,ad.rows V 5 1 1 X Y,ad.mp false [Ck.s]
 (Ck.i i64) c5]) λl=>U' l.head? λx=>U' (T.an 1 x) λp=>U' (List.drop 1 l).head? λx=>U' (List.drop 1 (List.drop 1 l)).head? λx=>U' (T.int? i64 x) fun
 a=>U' (List.drop 1 (List.drop 1 l)).tail.head? λx=>U' (T.an 1 x) λK=>U' (List.drop 1 (List.drop 1 l)).tail.tail.head? λx=>U' (T.int? i64 x) λb=>U'
 (List.drop 1 (List.drop 1 l)).tail.tail.tail.head? λx=>U' (T.int? i64 x) λd=>U' (List.drop 1 (List.drop 1 l)).tail.tail.tail.tail.head? λx=>U' x.bc λs=>U' (List.drop
 5 (List.drop 1 (List.drop 1 l))).head? λx=>U' (List.drop 5 (List.drop 1 (List.drop 1 l))).tail.head? λx=>U' (T.an 3 x) λu=>U' (List.drop 5 (List.drop 1 (List.drop 1
 l))).tail.tail.head? λx=>U' (T.an 5 x) λv=>U' (List.drop 5 (List.drop 1 (List.drop 1 l))).tail.tail.tail.head? λx=>U' (T.an 1 x) λw=>U' (List.drop 5 (List.drop 1
 (List.drop 1 l))).tail.tail.tail.tail.head? λx=>U' x.bc λW=>U' (List.drop 5 (List.drop 1 (List.drop 1 l))).tail.tail.tail.tail.tail.head? λx=>U' (T.an 1 x) λy=>U'
 (List.drop 5 (List.drop 1 (List.drop (1:Nat) l))).tail.tail.tail.tail.tail.tail.head? λx=>U' (List.drop 5 (List.drop (1:Nat) (List.drop (1:Nat) l))).tail.tail.tail.tail.tail.tail.tail.head? λx=>aa
 none (List.drop 8 (List.drop 5 (List.drop 1 (List.drop 1 l)))).head? λx=>U' (aN x) λf=>U' (List.drop 8 (List.drop 5 (List.drop 1 (List.drop (1:Nat) l)))).tail.head? λx=>U'
 ((List.drop 2 (List.drop (8:Nat) (List.drop (5:Nat) (List.drop (1:Nat) (List.drop (1:Nat) l))))).head?.bind λz=>T.an 1 z) λA=>U' ((List.drop (2:Nat) (List.drop (8:Nat) (List.drop (5:Nat)
 (List.drop (1:Nat) (List.drop (1:Nat) l))))).tail.head?.bind λz=>T.an 1 z) λB=>U' ((List.drop (2:Nat) (List.drop (8:Nat) (List.drop (5:Nat) (List.drop (1:Nat) (List.drop (1:Nat)
 l))))).tail.tail.head?.bind λz=>aL z) λl=>U' (if n=a then some () else none) λx=>U' (if C=b then some () else none) λx=>U' (if h=d then some () else none) λx=>
 U' (if n=a then some () else none) λx=>U' (if C=b then some () else none) λx=>U' (if h=d then some () else none) λx=>U' (O (Key.call (45:Nat)) [AV.t (T.int
 i64 (1:Int)),AV.ref (Id.c (0:Nat)) (0:Nat),AV.ref (Id.c (1:Nat)) (0:Nat)] [ad.box [AV.ref (Id.c (2:Nat)) (0:Nat)],ad.box [AV.t (T.int i64 a),AV.t (T.ab (1:Nat) K.fst K.snd),
 AV.t (T.int i64 b),AV.t (T.int i64 d),AV.t (T.str s)],ad.box [AV.ref (Id.c (3:Nat)) (0:Nat),AV.t (T.ab (3:Nat) u.fst u.snd),AV.t (T.ab (5:Nat) v.fst v.snd),AV.t (T.ab (1:
 Nat) w.fst w.snd),AV.t (T.str W),AV.t (T.ab (1:Nat) y.fst y.snd),AV.own (Id.c (4:Nat)),AV.own (Id.c (5:Nat))],ad.box [AV.own (Id.c (6:Nat)),AV.own (Id.c (7:Nat))],ad.sl false (1:Nat)
 A.fst A.snd,ad.sl false (1:Nat) B.fst B.snd,ad.rows f.fst (5:Nat) (1:Nat) (1:Nat) f.snd.length f.snd,ad.mp false [Ck.s] (Ck.i i64) l]) λl=>U' l.head? λx=>U'
 (T.an (1:Nat) x) λD=>U' (List.drop (1:Nat) l).head? λx=>U' (List.drop (1:Nat) (List.drop (1:Nat) l)).head? λx=>U' (T.int? i64 x) λn=>U' (List.drop (1:Nat)
 (List.drop (1:Nat) l)).tail.head? λx=>U' (T.an (1:Nat) x) λp_10=>U' (List.drop (1:Nat) (List.drop (1:Nat) l)).tail.tail.head? λx=>U' (T.int? i64 x) λQ=>U'
 (List.drop (1:Nat) (List.drop (1:Nat) l)).tail.tail.tail.head? λx=>U' (T.int? i64 x) λR=>U' (List.drop (1:Nat) (List.drop (1:Nat) l)).tail.tail.tail.tail.head? λx=>U'
 x.bc λs=>U' (List.drop (5:Nat) (List.drop (1:Nat) (List.drop (1:Nat) l))).head? λx=>U' (List.drop (5:Nat) (List.drop (1:Nat) (List.drop (1:Nat) l))).tail.head? λx=>U' (T.an
 (3:Nat) x) λj=>U' (List.drop (5:Nat) (List.drop (1:Nat) (List.drop (1:Nat) l))).tail.tail.head? λx=>U' (T.an (5:Nat) x) λk=>U' (List.drop (5:Nat) (List.drop (1:Nat)
 (List.drop (1:Nat) l))).tail.tail.tail.head? λx=>U' (T.an (1:Nat) x) λm=>U' (List.drop (5:Nat) (List.drop (1:Nat) (List.drop (1:Nat) l))).tail.tail.tail.tail.head? λx=>U'
 x.bc λs=>U' (List.drop (5:Nat) (List.drop (1:Nat) (List.drop (1:Nat) l))).tail.tail.tail.tail.tail.head? λx=>U' (T.an (1:Nat) x) λo=>U' (List.drop (5:Nat) (List.drop (1:
 Nat) (List.drop (1:Nat) l))).tail.tail.tail.tail.tail.tail.head? λx=>U' (List.drop (5:Nat) (List.drop (1:Nat) (List.drop (1:Nat) l))).tail.tail.tail.tail.tail.tail.tail.head? λx=>U'
 (List.drop (8:Nat) (List.drop (5:Nat) (List.drop (1:Nat) (List.drop (1:Nat) l)))).head? λx=>U' (aN x) λe=>U' (List.drop (8:Nat) (List.drop (5:Nat) (List.drop (1:Nat) (List.drop (1
 :Nat) l)))).tail.head? λx=>U' ((List.drop (2:Nat) (List.drop (8:Nat) (List.drop (5:Nat) (List.drop (1:Nat) (List.drop (1:Nat) l))))).head?.bind λz=>T.an (1:Nat) z) λq=>U'
 ((List.drop (2:Nat) (List.drop (8:Nat) (List.drop (5:Nat) (List.drop (1:Nat) (List.drop (1:Nat) l))))).tail.head?.bind λz=>T.an (1:Nat) z) λr=>U' ((List.drop (2:Nat) (List.drop (8:Nat)
 (List.drop (5:Nat) (List.drop (1:Nat) (List.drop (1:Nat) l))))).tail.tail.head?.bind λz=>aL z) λl=>U' (if a=n then some () else none) λx=>U' (if b=Q then some () else none) fun
 x=>U' (if d=R then some () else none) λx=>U' (if a=n then some () else none) λx=>U' (if b=Q then some () else none) λx=>U' (if d=R then some () else none) fun
 x=>U' (O (Key.call (55:Nat)) [AV.ref (Id.c (0:Nat)) (0:Nat),AV.t (T.ab (1:Nat) p.fst p.snd),AV.t (T.ab (1:Nat) D.fst D.snd)] [ad.box [AV.own (Id.c (1:Nat)),AV.own (Id.c (2:Nat))],ad.rows
 e.fst (5:Nat) (1:Nat) (1:Nat) e.snd.length e.snd,ad.mp false [Ck.s] (Ck.i i64) l]) λl=>U' l.head? λx=>U' (T.an (1:Nat) x) λp=>U' (List.drop (1:Nat) l).head?
 λx=>U' (aN x) λg=>U' (List.drop (1:Nat) l).tail.head? λx=>U' ((List.drop (2:Nat) (List.drop (1:Nat) l)).head?.bind λz=>aL z) λl=>U' (if aX g.snd=true
 then some () else none) λx=>some [T.ab (1:Nat) p.fst p.snd,T.ao,T.ab (3:Nat) j.fst j.snd,T.ab (5:Nat) k.fst k.snd,T.ab (1:Nat) m.fst m.snd,T.str s,T.ab (1:Nat) o.fst
 o.snd,T.ao,T.ao,be g.fst g.snd,T.ao,T.ab (1:Nat) q.fst q.snd,T.ab (1:Nat) r.fst r.snd,aH l] else bif n== (21:Int) then U' (O (Key.call 45) [I (0:Int),AV.ref (Id.c
 0) 0,Y'1] [ad.box [Y'2],ad.box [I n,AV.t (T.ab 1 p.fst p.snd),I C,I h,AV.t (T.str s)],ad.box [Y'3,AV.t (T.ab 3 E L),AV.t (T.ab 5 F J),AV.t (T.ab
 1 G M),AV.t (T.str N),AV.t (T.ab 1 H P),V'4,V'5],ad.box [V'6,V'7],ad.sl false 1 S Z,ad.sl false 1 U c3,ad.rows V 5 1 1 X Y,ad.mp
 false [Ck.s] (Ck.i i64) c5]) λl=>U' l.head? λx=>U' (T.an 1 x) λp=>U' (List.drop 1 l).head? λx=>U' (List.drop 1 (List.drop 1 l)).head? λx=>U' (T.int?
 i64 x) λa=>U' (List.drop 1 (List.drop 1 l)).tail.head? λx=>U' (T.an 1 x) λK=>U' (List.drop 1 (List.drop 1 l)).tail.tail.head? λx=>U' (T.int? i64 x) λb
 =>U' (List.drop 1 (List.drop 1 l)).tail.tail.tail.head? λx=>U' (T.int? i64 x) λd=>U' (List.drop 1 (List.drop 1 l)).tail.tail.tail.tail.head? λx=>U' x.bc λs=>aa
 none (List.drop 5 (List.drop 1 (List.drop 1 l))).head? λx=>U' (List.drop 5 (List.drop 1 (List.drop 1 l))).tail.head? λx=>U' (T.an 3 x) λu=>U' (List.drop 5 (List.drop 1 (List.drop 1
 l))).tail.tail.head? λx=>U' (T.an 5 x) λv=>U' (List.drop 5 (List.drop 1 (List.drop 1 l))).tail.tail.tail.head? λx=>U' (T.an 1 x) λw=>U' (List.drop 5 (List.drop 1
 (List.drop 1 l))).tail.tail.tail.tail.head? λx=>U' x.bc λW=>U' (List.drop 5 (List.drop 1 (List.drop 1 l))).tail.tail.tail.tail.tail.head? λx=>U' (T.an 1 x) λy=>U'
 (List.drop 5 (List.drop (1:Nat) (List.drop (1:Nat) l))).tail.tail.tail.tail.tail.tail.head? λx=>U' (List.drop 5 (List.drop (1:Nat) (List.drop (1:Nat) l))).tail.tail.tail.tail.tail.tail.tail.head? λx
 =>U' (List.drop 8 (List.drop 5 (List.drop 1 (List.drop 1 l)))).head? λx=>U' (aN x) λf=>U' (List.drop 8 (List.drop 5 (List.drop (1:Nat) (List.drop (1:Nat) l)))).tail.head? λx=>aa
 none ((List.drop (2:Nat) (List.drop (8:Nat) (List.drop (5:Nat) (List.drop (1:Nat) (List.drop (1:Nat) l))))).head?.bind λz=>T.an 1 z) λA=>U' ((List.drop (2:Nat) (List.drop (8:Nat)
 (List.drop (5:Nat) (List.drop (1:Nat) (List.drop (1:Nat) l))))).tail.head?.bind λz=>T.an 1 z) λB=>U' ((List.drop (2:Nat) (List.drop (8:Nat) (List.drop (5:Nat) (List.drop (1:Nat)
 (List.drop (1:Nat) l))))).tail.tail.head?.bind λz=>aL z) λl=>U' (if n=a then some () else none) λx=>U' (if C=b then some () else none) λx=>U' (if h=d then some ()
 else none) λx=>U' (if n=a then some () else none) λx=>U' (if C=b then some () else none) λx=>U' (if h=d then some () else none) λx=>U' (O (Key.call (45:Nat))
 [AV.t (T.int i64 (1:Int)),AV.ref (Id.c (0:Nat)) (0:Nat),AV.ref (Id.c (1:Nat)) (0:Nat)] [ad.box [AV.ref (Id.c (2:Nat)) (0:Nat)],ad.box [AV.t (T.int i64 a),AV.t (T.ab (1:Nat) K.fst
 K.snd),AV.t (T.int i64 b),AV.t (T.int i64 d),AV.t (T.str s)],ad.box [AV.ref (Id.c (3:Nat)) (0:Nat),AV.t (T.ab (3:Nat) u.fst u.snd),AV.t (T.ab (5:Nat) v.fst v.snd),AV.t
 (T.ab (1:Nat) w.fst w.snd),AV.t (T.str W),AV.t (T.ab (1:Nat) y.fst y.snd),AV.own (Id.c (4:Nat)),AV.own (Id.c (5:Nat))],ad.box [AV.own (Id.c (6:Nat)),AV.own (Id.c (7:Nat))],ad.sl false (1:
 Nat) A.fst A.snd,ad.sl false (1:Nat) B.fst B.snd,ad.rows f.fst (5:Nat) (1:Nat) (1:Nat) f.snd.length f.snd,ad.mp false [Ck.s] (Ck.i i64) l]) λl=>U' l.head? λx=>U'
 (T.an (1:Nat) x) λD=>U' (List.drop (1:Nat) l).head? λx=>U' (List.drop (1:Nat) (List.drop (1:Nat) l)).head? λx=>U' (T.int? i64 x) λn=>U' (List.drop (1:Nat)
 (List.drop (1:Nat) l)).tail.head? λx=>U' (T.an (1:Nat) x) λp_10=>U' (List.drop (1:Nat) (List.drop (1:Nat) l)).tail.tail.head? λx=>U' (T.int? i64 x) λQ=>U'
 (List.drop (1:Nat) (List.drop (1:Nat) l)).tail.tail.tail.head? λx=>U' (T.int? i64 x) λR=>U' (List.drop (1:Nat) (List.drop (1:Nat) l)).tail.tail.tail.tail.head? λx=>U'
 x.bc λs=>U' (List.drop (5:Nat) (List.drop (1:Nat) (List.drop (1:Nat) l))).head? λx=>U' (List.drop (5:Nat) (List.drop (1:Nat) (List.drop (1:Nat) l))).tail.head? λx=>U' (T.an
 (3:Nat) x) λj=>U' (List.drop (5:Nat) (List.drop (1:Nat) (List.drop (1:Nat) l))).tail.tail.head? λx=>U' (T.an (5:Nat) x) λk=>U' (List.drop (5:Nat) (List.drop (1:Nat)
 (List.drop (1:Nat) l))).tail.tail.tail.head? λx=>U' (T.an (1:Nat) x) λm=>U' (List.drop (5:Nat) (List.drop (1:Nat) (List.drop (1:Nat) l))).tail.tail.tail.tail.head? λx=>U'
 x.bc λs=>U' (List.drop (5:Nat) (List.drop (1:Nat) (List.drop (1:Nat) l))).tail.tail.tail.tail.tail.head? λx=>U' (T.an (1:Nat) x) λo=>U' (List.drop (5:Nat) (List.drop (1:
 Nat) (List.drop (1:Nat) l))).tail.tail.tail.tail.tail.tail.head? λx=>U' (List.drop (5:Nat) (List.drop (1:Nat) (List.drop (1:Nat) l))).tail.tail.tail.tail.tail.tail.tail.head? λx=>U'
 (List.drop (8:Nat) (List.drop (5:Nat) (List.drop (1:Nat) (List.drop (1:Nat) l)))).head? λx=>U' (aN x) λe=>U' (List.drop (8:Nat) (List.drop (5:Nat) (List.drop (1:Nat) (List.drop (1
 :Nat) l)))).tail.head? λx=>U' ((List.drop (2:Nat) (List.drop (8:Nat) (List.drop (5:Nat) (List.drop (1:Nat) (List.drop (1:Nat) l))))).head?.bind λz=>T.an (1:Nat) z) λq=>U'
 ((List.drop (2:Nat) (List.drop (8:Nat) (List.drop (5:Nat) (List.drop (1:Nat) (List.drop (1:Nat) l))))).tail.head?.bind λz=>T.an (1:Nat) z) λr=>U' ((List.drop (2:Nat) (List.drop (8:Nat)
 (List.drop (5:Nat) (List.drop (1:Nat) (List.drop (1:Nat) l))))).tail.tail.head?.bind λz=>aL z) λl=>U' (if a=n then some () else none) λx=>U' (if b=Q then some () else none) fun
 x=>U' (if d=R then some () else none) λx=>U' (if a=n then some () else none) λx=>U' (if b=Q then some () else none) λx=>U' (if d=R then some () else none) fun
 x=>U' (O (Key.call (56:Nat)) [AV.ref (Id.c (0:Nat)) (0:Nat),AV.t (T.ab (1:Nat) p.fst p.snd),AV.t (T.ab (1:Nat) D.fst D.snd)] [ad.box [AV.own (Id.c (1:Nat)),AV.own (Id.c (2:Nat))],ad.rows
 e.fst (5:Nat) (1:Nat) (1:Nat) e.snd.length e.snd,ad.mp false [Ck.s] (Ck.i i64) l]) λl=>U' l.head? λx=>U' (T.an (1:Nat) x) λp=>U' (List.drop (1:Nat) l).head?
 λx=>U' (aN x) λg=>U' (List.drop (1:Nat) l).tail.head? λx=>U' ((List.drop (2:Nat) (List.drop (1:Nat) l)).head?.bind λz=>aL z) λl=>U' (if aX g.snd=true
 then some () else none) λx=>some [T.ab (1:Nat) p.fst p.snd,T.ao,T.ab (3:Nat) j.fst j.snd,T.ab (5:Nat) k.fst k.snd,T.ab (1:Nat) m.fst m.snd,T.str s,T.ab (1:Nat) o.fst
 o.snd,T.ao,T.ao,be g.fst g.snd,T.ao,T.ab (1:Nat) q.fst q.snd,T.ab (1:Nat) r.fst r.snd,aH l] else bif n== (23:Int) then U' (O (Key.call 45) [I (0:Int),AV.ref (Id.c
 0) 0,Y'1] [ad.box [Y'2],ad.box [I n,AV.t (T.ab 1 p.fst p.snd),I C,I h,AV.t (T.str s)],ad.box [Y'3,AV.t (T.ab 3 E L),AV.t (T.ab 5 F J),AV.t (T.ab
 1 G M),AV.t (T.str N),AV.t (T.ab 1 H P),V'4,V'5],ad.box [V'6,V'7],ad.sl false 1 S Z,ad.sl false 1 U c3,ad.rows V 5 1 1 X Y,ad.mp
 false [Ck.s] (Ck.i i64) c5]) λl=>U' l.head? λx=>U' (T.an 1 x) λp=>U' (List.drop 1 l).head? λx=>U' (List.drop 1 (List.drop 1 l)).head? λx=>U' (T.int?
 i64 x) λa=>U' (List.drop 1 (List.drop 1 l)).tail.head? λx=>U' (T.an 1 x) λK=>U' (List.drop 1 (List.drop 1 l)).tail.tail.head? λx=>U' (T.int? i64 x) λb
 =>U' (List.drop 1 (List.drop 1 l)).tail.tail.tail.head? λx=>U' (T.int? i64 x) λd=>U' (List.drop 1 (List.drop 1 l)).tail.tail.tail.tail.head? λx=>U' x.bc λs=>aa
 none (List.drop 5 (List.drop 1 (List.drop 1 l))).head? λx=>U' (List.drop 5 (List.drop 1 (List.drop 1 l))).tail.head? λx=>U' (T.an 3 x) λu=>U' (List.drop 5 (List.drop 1 (List.drop 1
 l))).tail.tail.head? λx=>U' (T.an 5 x) λv=>U' (List.drop 5 (List.drop 1 (List.drop 1 l))).tail.tail.tail.head? λx=>U' (T.an 1 x) λw=>U' (List.drop 5 (List.drop 1
 (List.drop 1 l))).tail.tail.tail.tail.head? λx=>U' x.bc λs=>U' (List.drop 5 (List.drop 1 (List.drop 1 l))).tail.tail.tail.tail.tail.head? λx=>U' (T.an 1 x) λy=>U'
 (List.drop 5 (List.drop (1:Nat) (List.drop (1:Nat) l))).tail.tail.tail.tail.tail.tail.head? λx=>U' (List.drop 5 (List.drop (1:Nat) (List.drop (1:Nat) l))).tail.tail.tail.tail.tail.tail.tail.head? λx
 =>U' (List.drop 8 (List.drop 5 (List.drop 1 (List.drop 1 l)))).head? λx=>U' (aN x) λf=>U' (List.drop 8 (List.drop (5:Nat) (List.drop (1:Nat) (List.drop (1:Nat) l)))).tail.head? fun
 x=>U' ((List.drop (2:Nat) (List.drop (8:Nat) (List.drop (5:Nat) (List.drop (1:Nat) (List.drop (1:Nat) l))))).head?.bind λz=>T.an 1 z) λA=>U' ((List.drop (2:Nat) (List.drop (8:Nat)
 (List.drop (5:Nat) (List.drop (1:Nat) (List.drop (1:Nat) l))))).tail.head?.bind λz=>T.an (1:Nat) z) λB=>U' ((List.drop (2:Nat) (List.drop (8:Nat) (List.drop (5:Nat) (List.drop (1:Nat)
 (List.drop (1:Nat) l))))).tail.tail.head?.bind λz=>aL z) λl=>U' (if n=a then some () else none) λx=>U' (if C=b then some () else none) λx=>U' (if h=d then some ()
 else none) λx=>U' (if n=a then some () else none) λx=>U' (if C=b then some () else none) λx=>U' (if h=d then some () else none) λx=>U' (O (Key.call (57:Nat))
 [AV.ref (Id.c (0:Nat)) (0:Nat),AV.t (T.ab (1:Nat) p.fst p.snd),AV.t (T.int i64 b)] [ad.box [AV.own (Id.c (1:Nat)),AV.own (Id.c (2:Nat))],ad.rows f.fst (5:Nat) (1:Nat) (1:Nat)
 f.snd.length f.snd,ad.mp false [Ck.s] (Ck.i i64) l]) λl=>U' l.head? λx=>U' (T.an (1:Nat) x) λp=>U' (List.drop (1:Nat) l).head? λx=>U' (aN x) λD=>
 U' (List.drop (1:Nat) l).tail.head? λx=>U' ((List.drop (2:Nat) (List.drop (1:Nat) l)).head?.bind λz=>aL z) λl=>U' (if aX D.snd=true then some () else none) λx=>some
 [T.ab (1:Nat) p.fst p.snd,T.ao,T.ab (3:Nat) u.fst u.snd,T.ab (5:Nat) v.fst v.snd,T.ab (1:Nat) w.fst w.snd,T.str s,T.ab (1:Nat) y.fst y.snd,T.ao,T.ao,be D.fst D.snd,
 T.ao,T.ab (1:Nat) A.fst A.snd,T.ab (1:Nat) B.fst B.snd,aH l] else U' (if aX Y=true then some () else none) λx=>some [T.ae true,T.ao,T.ab 3 E L,T.ab 5 F J,T.ab
 1 G M,T.str N,T.ab 1 H P,T.ao,T.ao,be V Y,T.ao,T.ab 1 S Z,T.ab 1 U c3,aH c5]):=by kernel_rfl
theorem CN(O:aq)(r:Bool)(d:List (List T))(f:Int)(a:Int)(g:Bool)(h:Bool)(j:Bool)(u:Int)(v:Int)(k:Bool)(w:List (List T))(m:Bool)(y:List (List T))(o:Bool)(z:List (List T))(A:ByteArray)(q:Bool)(B:List (List T))(b:Bool)(e:List (List T))(H:Bool)(L:List (List T))(J:Bool)(G:List (List T))(C:Bool)(F:Nat)(c7:List Row)(D:Bool)(c8:List (List T))(M:List (List T×T)):ax ak ann O pK [Y'0,Y'1,Y'2,Y'3,(AV.t (T.ab 1 r d)),(I f),(I a)] [(ad.box [(AV.t (T.ae g)),(AV.t (T.ae h)),(AV.t (T.ae j))]),(ad.box [(I u),(I v)]),(ad.box [Y'4,(AV.t (T.ab 3 k w)),(AV.t (T.ab 5 m y)),(AV.t (T.ab 1 o z)),(AV.t (T.str A)),(AV.t (T.ab 1 q B)),V'5,V'6]),(ad.box [(AV.t (T.ab 3 b e)),V'7,V'8]),(ad.box [V'7,V'9]),(ad.sl false 1 H L),(ad.sl false 1 J G),(ad.rows C 5 1 1 F c7),(ad.sl false 1 D c8),(ad.mp false [Ck.s] (Ck.i i64) M)]=
 (bif decide (a < f) then U' (if(0:Int)<=a/\a < (↑d.length:Int) then some () else none) λx=>U' d[a.toNat]? λl=>U' l.head? λx=>U' (T.int? i64 x) fun
 n=>U' (if(0:Int)<=n/\n < (↑G.length:Int) then some () else none) λx=>U' G[n.toNat]? λl=>U' l.head? λx=>U' (T.int? i64 x) λn=>U' (bp 8 (c8.length+
 [[T.int i64 n]].length)) λx=>O pK [Y'0,Y'1,Y'2,Y'3,AV.t (T.ab 1 r d),I f,I (i64.wrap (a+ (1:Int)))] [ad.box [AV.t
 (T.ae g),AV.t (T.ae h),AV.t (T.ae j)],ad.box [I u,I v],ad.box [Y'4,AV.t (T.ab 3 k w),AV.t (T.ab 5 m y),AV.t (T.ab 1 o z),AV.t (T.str A),AV.t (T.ab
 1 q B),V'5,V'6],ad.box [AV.t (T.ab 3 b e),V'7,V'8],ad.box [V'7,V'9],ad.sl false 1 H L,ad.sl false 1 J G,ad.rows
 C 5 1 1 F c7,ad.sl false 1 (D && false) (c8++ [[T.int i64 n]]),ad.mp false [Ck.s] (Ck.i i64) M] else U' (O (Key.call 29) [AV.agg [AV.t (T.ab 3 b e),V'0,AV.own (Id.c
 1)]] [ad.rows C 5 1 1 F c7,ad.sl false 1 D c8]) λl=>U' l.head? λx=>U' (T.an 3 x) λp=>U' l.tail.head? λx=>U' (T.an 5 x) λE=>U' l.tail.tail.head? λx
 =>U' (T.an 1 x) λK=>bif decide ((↑E.snd.length:Int) > (200:Int)) then some [T.ae true,T.ae true,T.ae true,T.int i64 (10:Int),T.int i64 (0:Int)] else some [T.ab 3 p.fst
 p.snd,T.ab 5 E.fst E.snd,T.ab 1 K.fst K.snd,T.int i64 (0:Int),T.int i64 (0:Int)]):=by kernel_rfl
theorem uC(O:aq)(E:Int)(d:Bool)(h:List (List T))(e:Bool)(b:List (List T))(f:Bool)(j:List (List T))(k:ByteArray)(g:Bool)(m:List (List T))(o:Bool)(a:List (List T))(q:Bool)(c3:List (List T))(r:Bool)(v:Nat)(F:List Row)(G:List (List T×T)):ax ak ann O (Key.call 28) [Y'0,(I E)] [(ad.box [Y'1,(AV.t (T.ab 3 d h)),(AV.t (T.ab 5 e b)),(AV.t (T.ab 1 f j)),(AV.t (T.str k)),(AV.t (T.ab 1 g m)),V'2,V'3]),(ad.box [V'4,V'5]),(ad.sl false 1 o a),(ad.sl false 1 q c3),(ad.rows r 5 1 1 v F),(ad.mp false [Ck.s] (Ck.i i64) G)]=
 (U' (if(0:Int)<=E/\E < (↑b.length:Int) then some () else none) λx=>U' b[E.toNat]? λl=>U' l.head? λx=>U' l.tail.head? λQ=>U' l.tail.tail.head? λR=>
 U' l.tail.tail.tail.head? λS=>U' l.tail.tail.tail.tail.head? λU=>U' (T.int? i64 x) λn=>U' (T.an 1 Q) λp=>U' (T.int? i64 R) λN=>U'
 (T.int? i64 S) λP=>U' U.bc λs=>bif n== (22:Int) then U' (if(0:Int)<=(0:Int)/\(0:Int) < (↑p.snd.length:Int) then some () else none) λx=>U' p.snd[0]? λl=>
 U' l.head? λx=>U' (T.int? i64 x) λn=>U' (if(0:Int)<=n/\n < (↑a.length:Int) then some () else none) λx=>U' a[n.toNat]? λl=>U' l.head? λx=>U'
 (T.an 1 x) λu=>U' (if(0:Int)<=(1:Int)/\(1:Int) < (↑p.snd.length:Int) then some () else none) λx=>U' p.snd[1]? λl=>U' l.head? λx=>U' (T.int? i64 x) λn
 =>U' (if(0:Int)<=n/\n < (↑a.length:Int) then some () else none) λx=>U' a[n.toNat]? λl=>U' l.head? λx=>U' (T.an 1 x) λp=>U' (O (Key.call 58) [Y'0,
 AV.t (T.ab 1 u.fst u.snd),AV.t (T.ab 1 p.fst p.snd)] [ad.box [V'1,V'2],ad.rows r 5 1 1 v F,ad.mp false [Ck.s] (Ck.i i64) G]) λl=>U' l.head? λx=>U'
 (T.int? i64 x) λn=>U' (List.drop 1 l).head? λx=>U' (aN x) λp=>U' (List.drop 1 l).tail.head? λx=>U' ((List.drop 2 (List.drop 1 l)).head?.bind λz=>aL z) λl=>
 U' (if aX p.snd=true then some () else none) λx=>some [T.int i64 n,T.ao,T.ab 3 d h,T.ab 5 e b,T.ab 1 f j,T.str k,T.ab 1 g m,T.ao,T.ao,be p.fst
 p.snd,T.ao,T.ab 1 o a,T.ab 1 q c3,aH l] else aa (some (n== (8:Int))) (if(0:Int)<=(0:Int)/\(0:Int) < (↑p.snd.length:Int) then some () else none) λx=>aa (some (n== (8:Int))) p.snd[0]?
 λl=>aa (some (n== (8:Int))) l.head? λx=>aa (some (n== (8:Int))) (T.int? i64 x) λw=>aa (some (n== (8:Int))) (if(0:Int)<=w/\w < (↑a.length:Int) then some () else none) λx
 =>aa (some (n== (8:Int))) a[w.toNat]? λl=>aa (some (n== (8:Int))) l.head? λx=>aa (some (n== (8:Int))) (T.an 1 x) λu=>bif bif n== (8:Int) then !u.fst else false then U' (O
 (Key.call 50) [Y'0,B true] [ad.box [V'1,V'2],ad.rows r 5 1 1 v F,ad.mp false [Ck.s] (Ck.i i64) G]) λl=>U' l.head? λx=>U' (T.int? i64
 x) λn=>U' (List.drop 1 l).head? λx=>U' (aN x) λC=>U' (List.drop 1 l).tail.head? λx=>U' ((List.drop 2 (List.drop 1 l)).head?.bind λz=>aL z) λl=>U' (if(0:
 Int)<=(0:Int)/\(0:Int) < (↑p.snd.length:Int) then some () else none) λx=>U' p.snd[0]? λJ=>U' J.head? λx=>U' (T.int? i64 x) λy=>U' (if(0:Int)<=y/\y
 < (↑a.length:Int) then some () else none) λx=>U' a[y.toNat]? λK=>U' K.head? λx=>U' (T.an 1 x) λH=>U' (if(0:Int)<=(1:Int)/\(1:Int) < (↑p.snd.length:Int)
 then some () else none) λx=>U' p.snd[1]? λL=>U' L.head? λx=>U' (T.int? i64 x) λA=>U' (if(0:Int)<=A/\A < (↑a.length:Int) then some () else none) λx
 =>U' a[A.toNat]? λM=>U' M.head? λx=>U' (T.an 1 x) λp=>U' (O (Key.call 48) [AV.t (T.ab 1 H.fst H.snd),AV.t (T.ab 1 p.fst p.snd),AV.fn 59 [Y'0] []]
 [ad.box [V'1,V'2],ad.rows C.fst 5 1 1 C.snd.length C.snd,ad.mp false [Ck.s] (Ck.i i64) l]) λl=>U' l.head? λx=>U' (T.an 1 x) λp=>U' (List.drop
 1 l).head? λx=>U' (aN x) λD=>U' (List.drop 1 l).tail.head? λx=>U' ((List.drop (2:Nat) (List.drop (1:Nat) l)).head?.bind λz=>aL z) λl=>O (bG ak 28 true 7 [(0,
 none),((6:Nat),none),((96:Nat),none),((97:Nat),none),((98:Nat),none)] (6,(2008:Nat))) [AV.ref (Id.c (0:Nat)) 0,AV.t (T.int i64 n),AV.t (T.ab (1:Nat) p.fst p.snd),AV.t (T.int i64
 (↑p.snd.length:Int)),AV.t (T.int i64 (0:Int))] [ad.box [AV.ref (Id.c (1:Nat)) (0:Nat),AV.t (T.ab (3:Nat) d h),AV.t (T.ab (5:Nat) e b),AV.t (T.ab (1:Nat) f j),AV.t (T.str
 k),AV.t (T.ab (1:Nat) g m),AV.own (Id.c (2:Nat)),AV.own (Id.c (3:Nat))],ad.box [AV.own (Id.c (6:Nat)),AV.own (Id.c (5:Nat))],ad.sl false 1 o a,ad.sl false 1 q c3,ad.dead,ad.mp false
 [Ck.s] (Ck.i i64) l,ad.rows D.fst 5 1 1 D.snd.length D.snd] else O og [Y'0,Y'6,AV.t (T.ae true),AV.t (T.ab 1 p.fst p.snd),I (↑p.snd.length:Int),I (0:Int)]
 [ad.box [Y'1,AV.t (T.ab 3 d h),AV.t (T.ab 5 e b),AV.t (T.ab 1 f j),AV.t (T.str k),AV.t (T.ab 1 g m),V'2,V'3],ad.box [V'4,
 V'5],ad.sl false 1 o a,ad.sl false 1 q c3,ad.rows r 5 1 1 v F,ad.mp false [Ck.s] (Ck.i i64) G,ad.box [I n,AV.t (T.ab 1 p.fst p.snd),I N,I P,AV.t (T.str s)]]):=by kernel_rfl
theorem xU(O:aq)(d:Bool)(c:List (List T))(e:Int)(a:Int):ax ak ann O eN [(AV.t (T.ab 1 d c)),(AV.fn 14 [] []),(I e),(I a)] []=
 (bif decide (a < e) then U' (if(0:Int)<=a/\a < (↑c.length:Int) then some () else none) λx=>U' c[a.toNat]? λl=>U' l.head? λx=>U' (T.int? i64 x) λn=>U'
 (O (Key.call 14) [I n] []) λl=>U' l.head? λx=>U' x.bool? λb=>bif b then some [T.int i64 a] else O eN [AV.t (T.ab 1 d c),AV.fn 14 [] [],I e,I (i64.wrap (a+ (1:
 Int)))] [] else some [T.int i64 (-1:Int)]):=by kernel_rfl
theorem x5(O:aq)(d:Bool)(c:List (List T))(e:Int)(a:Int):ax ak ann O gQ [(AV.t (T.ab 3 d c)),(AV.fn 41 [] []),(I e),(I a)] []=
 (bif decide (a < e) then U' (if(0:Int)<=a/\a < (↑c.length:Int) then some () else none) λx=>U' c[a.toNat]? λl=>U' l.head? λx=>U' l.tail.head? λf=>U'
 l.tail.tail.head? λg=>U' x.bc λs=>U' (T.an 1 f) λp=>U' (T.int? i64 g) λn=>U' (O (Key.call 41) [AV.agg [AV.t (T.str s),AV.t (T.ab 1 p.fst p.snd),I n]] [])
 λl=>U' l.head? λx=>U' x.bool? λb=>bif b then some [T.int i64 a] else O gQ [AV.t (T.ab 3 d c),AV.fn 41 [] [],I e,I (i64.wrap (a+ (1:Int)))] [] else some [T.int
 i64 (-1:Int)]):=by kernel_rfl
theorem BK(O:aq)(j:Bool)(g:List (List T))(k:Int)(a:Int)(d:Bool)(e:Bool)(f:Bool)(b:Bool)(h:Bool)(m:List (List T))(i:Bool)(c3:List (List T)):ax ak ann O ig [Y'0,Y'1,(AV.t (T.ab 5 j g)),(I k),(I a)] [(ad.box [(AV.t (T.ae d)),(AV.t (T.ae e)),(AV.t (T.ae f))]),(ad.box [V'2,(AV.t (T.ae b)),V'3]),(ad.sl false 3 h m),(ad.sl false 1 i c3)]=
 (bif decide (a < k) then U' (if(0:Int)<=a/\a < (↑g.length:Int) then some () else none) λx=>U' g[a.toNat]? λl=>U' l.head? λx=>U' l.tail.head? λr=>U'
 l.tail.tail.head? λu=>U' l.tail.tail.tail.head? λv=>U' l.tail.tail.tail.tail.head? λw=>U' (T.int? i64 x) λn=>U' (T.an 1 r) λp=>U' (T.int?
 i64 u) λo=>U' (T.int? i64 v) λq=>U' w.bc λs=>U' (O (Key.call 18) [AV.t (T.ab 1 p.fst p.snd)] []) λl=>U' l.head? λx=>U' (T.an 1 x) λp
 =>O ig [Y'0,Y'1,AV.t (T.ab 5 j g),I k,I (i64.wrap (a+ (1:Int)))] [ad.box [AV.t (T.ae d),AV.t (T.ae e),AV.t (T.ae f)],ad.box [V'2,
 V'3,V'4],ad.sl false 3 h m,ad.sl false 5 (b && false) [[T.int i64 n,T.ab 1 p.fst p.snd,T.int i64 o,T.int i64 q,T.str s]],ad.sl false 1 i c3] else
 some [T.ab 3 h m,T.ae b,T.ab 1 i c3]):=by kernel_rfl
theorem BL(O:aq)(j:Bool)(g:List (List T))(k:Int)(a:Int)(d:Bool)(e:Bool)(f:Bool)(b:Bool)(h:Bool)(m:List (List T))(i:Bool)(c3:List (List T)):ax ak ann O ig [Y'0,Y'1,(AV.t (T.ab 5 j g)),(I k),(I a)] [(ad.box [(AV.t (T.ae d)),(AV.t (T.ae e)),(AV.t (T.ae f))]),(ad.box [(AV.t (T.ae b)),V'2,V'3]),(ad.sl false 5 h m),(ad.sl false 1 i c3)]=
 (bif decide (a < k) then U' (if(0:Int)<=a/\a < (↑g.length:Int) then some () else none) λx=>U' g[a.toNat]? λl=>U' l.head? λx=>U' l.tail.head? λr=>U'
 l.tail.tail.head? λu=>U' l.tail.tail.tail.head? λv=>U' l.tail.tail.tail.tail.head? λw=>U' (T.int? i64 x) λn=>U' (T.an 1 r) λp=>U' (T.int?
 i64 u) λo=>U' (T.int? i64 v) λq=>U' w.bc λs=>U' (O (Key.call 18) [AV.t (T.ab 1 p.fst p.snd)] []) λl=>U' l.head? λx=>U' (T.an 1 x) λp
 =>U' (bp 64 (m.length+ [[T.int i64 n,T.ab 1 p.fst p.snd,T.int i64 o,T.int i64 q,T.str s]].length)) λx=>O ig [Y'0,Y'1,AV.t (T.ab 5 j
 g),I k,I (i64.wrap (a+ (1:Int)))] [ad.box [AV.t (T.ae d),AV.t (T.ae e),AV.t (T.ae f)],ad.box [AV.t (T.ae b),V'2,V'3],ad.sl false 5 (h && false) (m
 ++ [[T.int i64 n,T.ab 1 p.fst p.snd,T.int i64 o,T.int i64 q,T.str s]]),ad.sl false 1 i c3] else some [T.ae b,T.ab 5 h m,T.ab 1 i c3]):=by kernel_rfl
theorem CL(O:aq)(b:Bool)(c:List (List T))(a:ByteArray):ax ak ann O (Key.call 77) [(AV.t (T.ab 3 b c)),(AV.fn 42 [] [(AV.t (T.ptr [(T.str a)]))])] []=
 (O gQ [AV.t (T.ab 3 b c),AV.fn 42 [] [AV.t (T.ptr [T.str a])],I (↑c.length:Int),I (0:Int)] []):=by kernel_rfl
theorem BN(O:aq)(b:ByteArray)(r:Bool)(u:Int)(e:Bool)(k:List (List T))(m:Int)(n:Int)(o:Int)(g:Int)(j:Bool)(q:List (List T))(h:ByteArray)(a:Bool)(d:List (List T))(i:Int):ax ak ann O mS [(AV.t (T.str b)),V'0,(B r),(I u),Y'1,(AV.t (T.ab 3 e k)),(I m),(I n),(I o),(I g)] [(ad.sl false 3 j q),(ad.box [(AV.t (T.str h)),(AV.t (T.ab 1 a d)),(I i)])]=
 (bif decide (g < o) then U' (O (Key.call 44) [I u] []) λl=>U' l.head? λx=>U' x.bc λs=>U' (if b.size+s.size<=4294967296 then some () else none) λx=>U' (if(b++
 s).size+1<=4294967296 then some () else none) λx=>U' (O (Key.call 44) [I g] []) λl=>U' l.head? λx=>U' x.bc λf=>U' (if(b++s++ (ByteArray.mk #[(95:UInt8)])).size+
 f.size<=4294967296 then some () else none) λx=>U' (O (Key.call 18) [AV.t (T.ab 1 a d)] []) λl=>U' l.head? λx=>U' (T.an 1 x) λp=>U' (bp 48 (q.length+ [[T.str
 (b++s++ (ByteArray.mk #[(95:UInt8)])++f),T.ab 1 p.fst p.snd,T.int i64 (1:Int)]].length)) λx=>O mS [AV.t (T.str b),V'0,AV.t (T.bool (bif r then decide ((↑(b++s++
 (ByteArray.mk #[(95:UInt8)])++f).size:Int)<=(12:Int)) else false)),I u,Y'1,AV.t (T.ab 3 e k),I m,I n,I o,I (i64.wrap (g+ (1:Int)))] [ad.sl false 3 (j && false)
 (q++ [[T.str (b++s++ (ByteArray.mk #[(95:UInt8)])++f),T.ab 1 p.fst p.snd,T.int i64 (1:Int)]]),ad.box [AV.t (T.str h),AV.t (T.ab 1 a d),I i]] else O lu [AV.t (T.str b),AV.own
 (Id.c 0),B r,AV.t (T.ab 3 e k),I m,I (i64.wrap (n+ (1:Int)))] [ad.sl false 3 j q]):=by kernel_rfl
theorem BS(O:aq)(E:Int)(C:Bool)(D:Bool)(B:Bool)(w:List (List T))(F:Int)(b:Int)(d:Bool)(j:List (List T))(e:Bool)(k:List (List T))(f:Bool)(m:List (List T))(o:ByteArray)(g:Bool)(a:List (List T))(y:Bool)(H:List (List T))(z:Bool)(c3:List (List T))(A:Bool)(G:Nat)(J:List Row)(K:List (List T×T))(p:Int)(h:Bool)(q:List (List T))(r:Int)(u:Int)(v:ByteArray):ax ak ann O oe [(I E),Y'6,Y'7,(AV.t (T.ae C)),(AV.t (T.ae D)),(AV.t (T.ab 1 B w)),(I F),(I b)] [(ad.box [Y'1,(AV.t (T.ab 3 d j)),(AV.t (T.ab 5 e k)),(AV.t (T.ab 1 f m)),(AV.t (T.str o)),(AV.t (T.ab 1 g a)),V'2,V'3]),(ad.box [V'4,V'5]),(ad.sl false 1 y H),(ad.sl false 1 z c3),(ad.rows A 5 1 1 G J),(ad.mp false [Ck.s] (Ck.i i64) K),(ad.box [Y'0]),(ad.box [(I p),(AV.t (T.ab 1 h q)),(I r),(I u),(AV.t (T.str v))])]=
 (bif decide (b < F) then U' (if(0:Int)<=b/\b < (↑w.length:Int) then some () else none) λx=>U' w[b.toNat]? λl=>U' l.head? λx=>U' (T.int? i64 x) λn=>
 U' (if(0:Int)<=n/\n < (↑c3.length:Int) then some () else none) λx=>U' c3[n.toNat]? λl=>U' l.head? λx=>U' (T.int? i64 x) λn=>O oe [I E,Y'6,
 Y'7,AV.t (T.ae C),V'8,AV.t (T.ab 1 B w),I F,I (i64.wrap (b+ (1:Int)))] [ad.box [Y'1,AV.t (T.ab 3 d j),AV.t (T.ab 5 e k),AV.t (T.ab
 1 f m),AV.t (T.str o),AV.t (T.ab 1 g a),V'2,V'3],ad.box [V'4,V'5],ad.sl false 1 y H,ad.sl false 1 z c3,ad.rows A 5 1 1 G J,ad.mp
 false [Ck.s] (Ck.i i64) K,ad.box [Y'0],ad.box [I p,AV.t (T.ab 1 h q),I r,I u,AV.t (T.str v)],ad.sl false 1 (D && false) [[T.int i64 n]]] else U' (if(0
 :Int)<=E/\E < (↑a.length:Int) then some () else none) λx=>U' a[E.toNat]? λl=>U' l.head? λx=>U' (T.int? i64 x) λn=>O ij [Y'6,AV.ref (Id.c 7)
 0,AV.t (T.ae C),AV.t (T.ae D),I (i64.wrap (n - (10:Int))),I (0:Int)] [ad.box [Y'1,AV.t (T.ab 3 d j),AV.t (T.ab 5 e k),AV.t (T.ab 1 f m),AV.t (T.str o),
 AV.t (T.ab 1 g a),V'2,V'3],ad.box [V'4,V'5],ad.sl false 1 y H,ad.sl false 1 z c3,ad.rows A 5 1 1 G J,ad.mp false [Ck.s] (Ck.i i64) K,
 ad.box [Y'0],ad.box [I p,AV.t (T.ab 1 h q),I r,I u,AV.t (T.str v)]]):=by kernel_rfl
theorem Jg(O:aq)(w:Int)(h:Int)(b:Bool)(a:List (List T))(j:Int)(k:Int)(m:ByteArray)(d:Bool)(o:List (List T))(e:Bool)(q:List (List T))(f:Bool)(r:List (List T))(u:ByteArray)(g:Bool)(v:List (List T))(z:Bool)(y:List (List T))(A:Bool)(D:List (List T))(B:Bool)(E:Nat)(C:List Row)(c7:List (List T×T)):ax ak ann O (Key.call 45) [(I w),Y'0,Y'1] [(ad.box [Y'2]),(ad.box [(I h),(AV.t (T.ab 1 b a)),(I j),(I k),(AV.t (T.str m))]),(ad.box [Y'3,(AV.t (T.ab 3 d o)),(AV.t (T.ab 5 e q)),(AV.t (T.ab 1 f r)),(AV.t (T.str u)),(AV.t (T.ab 1 g v)),V'4,V'5]),(ad.box [V'6,V'7]),(ad.sl false 1 z y),(ad.sl false 1 A D),(ad.rows B 5 1 1 E C),(ad.mp false [Ck.s] (Ck.i i64) c7)]=
 (U' (if(0:Int)<=w/\w < (↑a.length:Int) then some () else none) λx=>U' a[w.toNat]? λl=>U' l.head? λx=>U' (T.int? i64 x) λn=>U' (if(0:Int)<=n/\n
 < (↑y.length:Int) then some () else none) λx=>U' y[n.toNat]? λl=>U' l.head? λx=>U' (T.an 1 x) λp=>U' (if aX C=true then some () else none) λx=>some [T.ab 1
 p.fst p.snd,T.ao,T.int i64 h,T.ab 1 b a,T.int i64 j,T.int i64 k,T.str m,T.ao,T.ab 3 d o,T.ab 5 e q,T.ab 1 f r,T.str u,T.ab 1 g
 v,T.ao,T.ao,be B C,T.ao,T.ab 1 z y,T.ab 1 A D,aH c7]):=by kernel_rfl
theorem Jj(O:aq)(l:Bool)(r:List (List T))(m:Bool)(u:List (List T))(v:Int)(a:Bool)(f:List (List T))(b:Bool)(g:List (List T))(d:Bool)(h:List (List T))(j:ByteArray)(e:Bool)(k:List (List T))(n:Bool)(w:List (List T))(o:Bool)(x:List (List T))(p:Bool)(q:Nat)(y:List Row)(c7:List (List T×T)):ax ak ann O (Key.call 48) [(AV.t (T.ab 1 l r)),(AV.t (T.ab 1 m u)),(AV.fn 49 [] [Y'0,Y'1])] [(ad.box [Y'2]),(ad.box [(I v)]),(ad.box [Y'3,(AV.t (T.ab 3 a f)),(AV.t (T.ab 5 b g)),(AV.t (T.ab 1 d h)),(AV.t (T.str j)),(AV.t (T.ab 1 e k)),V'4,V'5]),(ad.box [V'6,V'7]),(ad.sl false 1 n w),(ad.sl false 1 o x),(ad.rows p 5 1 1 q y),(ad.mp false [Ck.s] (Ck.i i64) c7)]=
 (O oq [AV.t (T.ab 1 l r),AV.t (T.ab 1 m u),AV.fn 49 [] [Y'0,Y'1],AV.t (T.ae true),I (↑r.length:Int),I (0:Int)] [ad.box [Y'2],ad.box [I v],ad.box
 [Y'3,AV.t (T.ab 3 a f),AV.t (T.ab 5 b g),AV.t (T.ab 1 d h),AV.t (T.str j),AV.t (T.ab 1 e k),V'4,V'5],ad.box [V'6,AV.own (Id.c
 7)],ad.sl false 1 n w,ad.sl false 1 o x,ad.rows p 5 1 1 q y,ad.mp false [Ck.s] (Ck.i i64) c7]):=by kernel_rfl
theorem IL(O:aq)(D:Bool)(q:Int)(a:Int)(b:Bool)(g:List (List T))(d:Bool)(h:List (List T))(e:Bool)(j:List (List T))(k:ByteArray)(f:Bool)(m:List (List T))(A:Bool)(G:List (List T))(B:Bool)(c3:List (List T))(C:Bool)(F:Nat)(E:List Row)(H:List (List T×T))(u:Int)(r:Bool)(v:List (List T))(o:Int)(w:Int)(y:ByteArray):ax ak ann O od [Y'6,Y'7,(AV.t (T.ae D)),(I q),(I a)] [(ad.box [Y'1,(AV.t (T.ab 3 b g)),(AV.t (T.ab 5 d h)),(AV.t (T.ab 1 e j)),(AV.t (T.str k)),(AV.t (T.ab 1 f m)),V'2,V'3]),(ad.box [V'4,V'5]),(ad.sl false 1 A G),(ad.sl false 1 B c3),(ad.rows C 5 1 1 F E),(ad.mp false [Ck.s] (Ck.i i64) H),(ad.box [Y'0]),(ad.box [(I u),(AV.t (T.ab 1 r v)),(I o),(I w),(AV.t (T.str y))])]=
 (bif decide (a < q) then U' (if a < (0:Int) then none else some ()) λx=>U' (O (Key.call 50) [Y'0,AV.t (T.bool (i64.wrap (↑(BitVec.ofInt 64 (o.fdiv ((2:Int) ^ min
 a.toNat 64)) &&& BitVec.ofInt 64 (1:Int)).toNat:Int)== (1:Int)))] [ad.box [V'1,V'2],ad.rows C 5 1 1 F E,ad.mp false [Ck.s] (Ck.i i64) H]) λl=>U' l.head? fun
 x=>U' (T.int? i64 x) λn=>U' (List.drop 1 l).head? λx=>U' (aN x) λp=>U' (List.drop 1 l).tail.head? λx=>U' ((List.drop 2 (List.drop 1 l)).head?.bind λz=>
 aL z) λl=>O od [Y'6,Y'7,V'8,I q,I (i64.wrap (a+ (1:Int)))] [ad.box [Y'1,AV.t (T.ab 3 b g),AV.t (T.ab 5 d h),AV.t
 (T.ab 1 e j),AV.t (T.str k),AV.t (T.ab 1 f m),V'2,V'3],ad.box [V'9,V'5],ad.sl false 1 A G,ad.sl false 1 B c3,ad.dead,ad.mp false
 [Ck.s] (Ck.i i64) l,ad.box [Y'0],ad.box [I u,AV.t (T.ab 1 r v),I o,I w,AV.t (T.str y)],ad.sl false 1 (D && false) [[T.int i64 n]],ad.rows p.fst 5 1 1
 p.snd.length p.snd] else U' (if aX E=true then some () else none) λx=>some [T.ae D,T.ao,T.ab 3 b g,T.ab 5 d h,T.ab 1 e j,T.str k,T.ab 1 f m,T.ao,T.ao,
 be C E,T.ao,T.ab 1 A G,T.ab 1 B c3,aH H]):=by kernel_rfl
theorem IM(O:aq)(y:Bool)(r:Bool)(g:List (List T))(q:Int)(a:Int)(b:Bool)(h:List (List T))(d:Bool)(j:List (List T))(e:Bool)(k:List (List T))(m:ByteArray)(f:Bool)(o:List (List T))(u:Bool)(B:List (List T))(v:Bool)(c3:List (List T))(C:List (List T×T))(w:Bool)(A:Nat)(c7:List Row):ax ak ann O pG [Y'6,(AV.t (T.ae y)),(AV.t (T.ab 1 r g)),(I q),(I a)] [(ad.box [Y'1,(AV.t (T.ab 3 b h)),(AV.t (T.ab 5 d j)),(AV.t (T.ab 1 e k)),(AV.t (T.str m)),(AV.t (T.ab 1 f o)),V'2,V'3]),(ad.box [V'7,V'5]),(ad.sl false 1 u B),(ad.sl false 1 v c3),(Go.Aev.ad.dead),(ad.mp false [Ck.s] (Ck.i i64) C),(ad.box [Y'0]),(ad.rows w 5 1 1 A c7)]=
 (bif decide (a < q) then U' (if(0:Int)<=a/\a < (↑g.length:Int) then some () else none) λx=>U' g[a.toNat]? λl=>U' l.head? λx=>U' (T.int? i64 x) fun
 n=>U' (O (Key.call 51) [Y'0,I n] [ad.box [V'1,V'2],ad.rows w 5 1 1 A c7,ad.mp false [Ck.s] (Ck.i i64) C]) λl=>U' l.head? λx=>U'
 (T.int? i64 x) λn=>U' (List.drop 1 l).head? λx=>U' (aN x) λp=>U' (List.drop 1 l).tail.head? λx=>U' ((List.drop 2 (List.drop 1 l)).head?.bind λz=>aL z) λl=>
 O pG [Y'6,V'7,AV.t (T.ab 1 r g),I q,I (i64.wrap (a+ (1:Int)))] [ad.box [Y'1,AV.t (T.ab 3 b h),AV.t (T.ab 5 d j),AV.t (T.ab 1
 e k),AV.t (T.str m),AV.t (T.ab 1 f o),V'2,V'3],ad.box [V'8,V'5],ad.sl false 1 u B,ad.sl false 1 v c3,ad.dead,ad.mp false [Ck.s] (Ck.i
 i64) l,ad.box [Y'0],ad.sl false 1 (y && false) [[T.int i64 n]],ad.rows p.fst 5 1 1 p.snd.length p.snd] else U' (if aX c7=true then some () else none) λx=>some [T.ae
 y,T.ao,T.ab 3 b h,T.ab 5 d j,T.ab 1 e k,T.str m,T.ab 1 f o,T.ao,T.ao,be w c7,T.ao,T.ab 1 u B,T.ab 1 v c3,aH C]):=by kernel_rfl
theorem Jl(O:aq)(a:Bool)(f:List (List T))(b:Bool)(g:List (List T))(d:Bool)(e:Nat)(h:List Row)(j:List (List T×T)):ax ak ann O (Key.call 48) [(AV.t (T.ab 1 a f)),(AV.t (T.ab 1 b g)),(AV.fn 52 [Y'0] [])] [(ad.box [V'1,V'2]),(ad.rows d 5 1 1 e h),(ad.mp false [Ck.s] (Ck.i i64) j)]=
 (O dP [AV.t (T.ab 1 a f),AV.t (T.ab 1 b g),AV.fn 52 [Y'0] [],AV.t (T.ae true),I (↑f.length:Int),I (0:Int)] [ad.box [V'1,V'2],ad.rows d 5 1 1 e h,
 ad.mp false [Ck.s] (Ck.i i64) j]):=by kernel_rfl
theorem Jm(O:aq)(a:Bool)(f:List (List T))(b:Bool)(g:List (List T))(d:Bool)(e:Nat)(h:List Row)(j:List (List T×T)):ax ak ann O (Key.call 48) [(AV.t (T.ab 1 a f)),(AV.t (T.ab 1 b g)),(AV.fn 53 [Y'0] [])] [(ad.box [V'1,V'2]),(ad.rows d 5 1 1 e h),(ad.mp false [Ck.s] (Ck.i i64) j)]=
 (O dP [AV.t (T.ab 1 a f),AV.t (T.ab 1 b g),AV.fn 53 [Y'0] [],AV.t (T.ae true),I (↑f.length:Int),I (0:Int)] [ad.box [V'1,V'2],ad.rows d 5 1 1 e h,
 ad.mp false [Ck.s] (Ck.i i64) j]):=by kernel_rfl
theorem Jn(O:aq)(a:Bool)(f:List (List T))(b:Bool)(g:List (List T))(d:Bool)(e:Nat)(h:List Row)(j:List (List T×T)):ax ak ann O (Key.call 48) [(AV.t (T.ab 1 a f)),(AV.t (T.ab 1 b g)),(AV.fn 54 [Y'0] [])] [(ad.box [V'1,V'2]),(ad.rows d 5 1 1 e h),(ad.mp false [Ck.s] (Ck.i i64) j)]=
 (O dP [AV.t (T.ab 1 a f),AV.t (T.ab 1 b g),AV.fn 54 [Y'0] [],AV.t (T.ae true),I (↑f.length:Int),I (0:Int)] [ad.box [V'1,V'2],ad.rows d 5 1 1 e h,
 ad.mp false [Ck.s] (Ck.i i64) j]):=by kernel_rfl
theorem Jv(O:aq)(a:Bool)(f:List (List T))(b:Bool)(g:List (List T))(d:Bool)(e:Nat)(h:List Row)(j:List (List T×T)):ax ak ann O (Key.call 55) [Y'0,(AV.t (T.ab 1 a f)),(AV.t (T.ab 1 b g))] [(ad.box [V'1,V'2]),(ad.rows d 5 1 1 e h),(ad.mp false [Ck.s] (Ck.i i64) j)]=
 (U' (O (Key.call 50) [Y'0,B false] [ad.box [V'1,V'2],ad.rows d 5 1 1 e h,ad.mp false [Ck.s] (Ck.i i64) j]) λl=>U' l.head? λx=>U'
 (T.int? i64 x) λn=>U' (List.drop 1 l).head? λx=>U' (aN x) λp=>U' (List.drop 1 l).tail.head? λx=>U' ((List.drop 2 (List.drop 1 l)).head?.bind λz=>aL z) λl=>
 O ot [Y'0,AV.t (T.ab 1 a f),AV.t (T.ab 1 b g),I n,AV.t (T.ae true),I (↑f.length:Int),I (0:Int)] [ad.box [V'3,V'2],ad.dead,ad.mp false [Ck.s] (Ck.i
 i64) l,ad.rows p.fst 5 1 1 p.snd.length p.snd]):=by kernel_rfl
theorem Jw(O:aq)(a:Bool)(d:List (List T))(e:Bool)(h:List (List T))(f:Bool)(g:Nat)(j:List Row)(k:List (List T×T)):ax ak ann O (Key.call 56) [Y'0,(AV.t (T.ab 1 a d)),(AV.t (T.ab 1 e h))] [(ad.box [V'1,V'2]),(ad.rows f 5 1 1 g j),(ad.mp false [Ck.s] (Ck.i i64) k)]=
 (U' (O (Key.call 57) [Y'0,AV.t (T.ab 1 a d),I (↑d.length:Int)] [ad.box [V'1,V'2],ad.rows f 5 1 1 g j,ad.mp false [Ck.s] (Ck.i i64) k]) λl=>aa
 none l.head? λx=>U' (T.an 1 x) λp=>U' (List.drop 1 l).head? λx=>U' (aN x) λb=>U' (List.drop 1 l).tail.head? λx=>U' ((List.drop 2 (List.drop 1 l)).head?.bind
 λz=>aL z) λl=>O pJ [Y'0,AV.t (T.ab 1 a d),AV.t (T.ab 1 p.fst p.snd),AV.t (T.ab 1 e h),I (↑h.length:Int),I (0:Int)] [ad.box [V'3,V'2],ad.dead,
 ad.mp false [Ck.s] (Ck.i i64) l,ad.rows b.fst 5 1 1 b.snd.length b.snd]):=by kernel_rfl
theorem Jy(O:aq)(a:Bool)(e:List (List T))(f:Int)(b:Bool)(d:Nat)(g:List Row)(h:List (List T×T)):ax ak ann O (Key.call 57) [Y'0,(AV.t (T.ab 1 a e)),(I f)] [(ad.box [V'1,V'2]),(ad.rows b 5 1 1 d g),(ad.mp false [Ck.s] (Ck.i i64) h)]=
 (O jh [Y'0,AV.t (T.ab 1 a e),I f,AV.t (T.ae true),I (↑e.length:Int),I (0:Int)] [ad.box [V'1,V'2],ad.rows b 5 1 1 d g,ad.mp false [Ck.s] (Ck.i
 i64) h]):=by kernel_rfl
theorem IN(O:aq)(a:Bool)(b:List (List T))(e:Bool)(g:Nat)(d:List Row)(f:Bool)(h:List (List T)):ax ak ann O (Key.call 29) [(AV.agg [(AV.t (T.ab 3 a b)),V'0,V'1])] [(ad.rows e 5 1 1 g d),(ad.sl false 1 f h)]=
 (U' (lR (↑d.length:Int) (↑d.length:Int)) λx=>O tG [Y'2,Y'3,V'4,V'1,I (↑h.length:Int),I (0:Int)] [ad.rows e 5 1 1 g d,ad.sl false
 1 f h,ad.box [AV.t (T.ab 3 a b),V'0,V'1],ad.box [AV.t (T.ae true),AV.t (T.ae true),AV.t (T.ae true)],ad.sl false 1 false (List.replicate (↑d.length:Int).toNat [T.bool
 false])]):=by kernel_rfl
theorem Jz(O:aq)(a:Bool)(f:List (List T))(b:Bool)(g:List (List T))(d:Bool)(e:Nat)(h:List Row)(j:List (List T×T)):ax ak ann O (Key.call 58) [Y'0,(AV.t (T.ab 1 a f)),(AV.t (T.ab 1 b g))] [(ad.box [V'1,V'2]),(ad.rows d 5 1 1 e h),(ad.mp false [Ck.s] (Ck.i i64) j)]=
 (U' (O (Key.call 50) [Y'0,B false] [ad.box [V'1,V'2],ad.rows d 5 1 1 e h,ad.mp false [Ck.s] (Ck.i i64) j]) λl=>U' l.head? λx=>U'
 (T.int? i64 x) λn=>U' (List.drop 1 l).head? λx=>U' (aN x) λp=>U' (List.drop 1 l).tail.head? λx=>U' ((List.drop 2 (List.drop 1 l)).head?.bind λz=>aL z) λl=>
 O wO [Y'0,AV.t (T.ab 1 a f),AV.t (T.ab 1 b g),I n,I (↑f.length:Int),I (0:Int)] [ad.box [V'3,V'2],ad.dead,ad.mp false [Ck.s] (Ck.i i64) l,ad.rows
 p.fst 5 1 1 p.snd.length p.snd]):=by kernel_rfl
theorem Jq(O:aq)(f:Bool)(a:Bool)(b:Nat)(d:List Row)(e:List (List T×T)):ax ak ann O (Key.call 50) [Y'0,(B f)] [(ad.box [V'1,V'2]),(ad.rows a 5 1 1 b d),(ad.mp false [Ck.s] (Ck.i i64) e)]=
 (bif f then U' (O (Key.call 46) [Y'0,I (1:Int),AV.t (T.str (ByteArray.mk #[])),I (0:Int),I (0:Int),AV.t (T.ab 1 true [])] [ad.box [V'1,V'2],ad.rows a 5 1 1 b
 d,ad.mp false [Ck.s] (Ck.i i64) e]) λl=>U' l.head? λx=>U' (T.int? i64 x) λn=>U' (List.drop 1 l).head? λx=>U' (aN x) λp=>U' (List.drop 1
 l).tail.head? λx=>U' ((List.drop 2 (List.drop 1 l)).head?.bind λz=>aL z) λl=>U' (if aX p.snd=true then some () else none) λx=>some [T.int i64 n,be p.fst p.snd,T.ao,
 aH l] else U' (O (Key.call 46) [Y'0,I (2:Int),AV.t (T.str (ByteArray.mk #[])),I (0:Int),I (0:Int),AV.t (T.ab 1 true [])] [ad.box [V'1,V'2],ad.rows a 5 1 1
 b d,ad.mp false [Ck.s] (Ck.i i64) e]) λl=>U' l.head? λx=>U' (T.int? i64 x) λn=>U' (List.drop 1 l).head? λx=>U' (aN x) λp=>U' (List.drop 1
 l).tail.head? λx=>U' ((List.drop 2 (List.drop 1 l)).head?.bind λz=>aL z) λl=>U' (if aX p.snd=true then some () else none) λx=>some [T.int i64 n,be p.fst p.snd,T.ao,
 aH l]):=by kernel_rfl
theorem Jo(O:aq)(a:Bool)(f:List (List T))(b:Bool)(g:List (List T))(d:Bool)(e:Nat)(h:List Row)(j:List (List T×T)):ax ak ann O (Key.call 48) [(AV.t (T.ab 1 a f)),(AV.t (T.ab 1 b g)),(AV.fn 59 [Y'0] [])] [(ad.box [V'1,V'2]),(ad.rows d 5 1 1 e h),(ad.mp false [Ck.s] (Ck.i i64) j)]=
 (O dP [AV.t (T.ab 1 a f),AV.t (T.ab 1 b g),AV.fn 59 [Y'0] [],AV.t (T.ae true),I (↑f.length:Int),I (0:Int)] [ad.box [V'1,V'2],ad.rows d 5 1 1 e h,
 ad.mp false [Ck.s] (Ck.i i64) j]):=by kernel_rfl
theorem BW(O:aq)(D:Int)(v:Bool)(o:List (List T))(w:Int)(a:Int)(b:Bool)(g:List (List T))(d:Bool)(h:List (List T))(e:Bool)(j:List (List T))(k:ByteArray)(f:Bool)(m:List (List T))(q:Bool)(B:List (List T))(r:Bool)(c3:List (List T))(C:List (List T×T))(u:Bool)(A:Nat)(y:List Row):ax ak ann O wN [Y'0,(I D),(AV.t (T.ab 1 v o)),(I w),(I a)] [(ad.box [Y'1,(AV.t (T.ab 3 b g)),(AV.t (T.ab 5 d h)),(AV.t (T.ab 1 e j)),(AV.t (T.str k)),(AV.t (T.ab 1 f m)),V'2,V'3]),(ad.box [V'6,V'5]),(ad.sl false 1 q B),(ad.sl false 1 r c3),(Go.Aev.ad.dead),(ad.mp false [Ck.s] (Ck.i i64) C),(ad.rows u 5 1 1 A y)]=
 (bif decide (a < w) then U' (if(0:Int)<=a/\a < (↑o.length:Int) then some () else none) λx=>U' o[a.toNat]? λl=>U' l.head? λx=>U' (T.int? i64 x) λn=>
 U' (O (Key.call 52) [Y'0,I D,I n] [ad.box [V'1,V'2],ad.rows u 5 1 1 A y,ad.mp false [Ck.s] (Ck.i i64) C]) λl=>U' l.head? λx=>U'
 (T.int? i64 x) λn=>U' (List.drop 1 l).head? λx=>U' (aN x) λp=>U' (List.drop 1 l).tail.head? λx=>U' ((List.drop 2 (List.drop 1 l)).head?.bind λz=>aL z) λl=>
 O wN [Y'0,I n,AV.t (T.ab 1 v o),I w,I (i64.wrap (a+ (1:Int)))] [ad.box [Y'1,AV.t (T.ab 3 b g),AV.t (T.ab 5 d h),AV.t (T.ab 1 e j),AV.t
 (T.str k),AV.t (T.ab 1 f m),V'2,V'3],ad.box [V'6,V'5],ad.sl false 1 q B,ad.sl false 1 r c3,ad.dead,ad.mp false [Ck.s] (Ck.i i64) l,
 ad.rows p.fst 5 1 1 p.snd.length p.snd] else U' (if aX y=true then some () else none) λx=>some [T.int i64 D,T.ao,T.ab 3 b g,T.ab 5 d h,T.ab 1 e j,T.str k,
 T.ab 1 f m,T.ao,T.ao,be u y,T.ao,T.ab 1 q B,T.ab 1 r c3,aH C]):=by kernel_rfl
theorem BU(O:aq)(F:Bool)(A:Bool)(g:List (List T))(w:Int)(a:Int)(b:Bool)(h:List (List T))(d:Bool)(j:List (List T))(e:Bool)(k:List (List T))(m:ByteArray)(f:Bool)(o:List (List T))(C:Bool)(H:List (List T))(D:Bool)(c3:List (List T))(E:Bool)(G:Nat)(J:List Row)(K:List (List T×T))(q:Int)(y:Bool)(B:List (List T))(r:Int)(u:Int)(v:ByteArray):ax ak ann O og [Y'0,Y'6,(AV.t (T.ae F)),(AV.t (T.ab 1 A g)),(I w),(I a)] [(ad.box [Y'1,(AV.t (T.ab 3 b h)),(AV.t (T.ab 5 d j)),(AV.t (T.ab 1 e k)),(AV.t (T.str m)),(AV.t (T.ab 1 f o)),V'2,V'3]),(ad.box [V'4,V'5]),(ad.sl false 1 C H),(ad.sl false 1 D c3),(ad.rows E 5 1 1 G J),(ad.mp false [Ck.s] (Ck.i i64) K),(ad.box [(I q),(AV.t (T.ab 1 y B)),(I r),(I u),(AV.t (T.str v))])]=
 (bif decide (a < w) then U' (if(0:Int)<=a/\a < (↑g.length:Int) then some () else none) λx=>U' g[a.toNat]? λl=>U' l.head? λx=>U' (T.int? i64 x) fun
 n=>U' (if(0:Int)<=n/\n < (↑c3.length:Int) then some () else none) λx=>U' c3[n.toNat]? λl=>U' l.head? λx=>U' (T.int? i64 x) λn=>O og [Y'0,
 Y'6,V'7,AV.t (T.ab 1 A g),I w,I (i64.wrap (a+ (1:Int)))] [ad.box [Y'1,AV.t (T.ab 3 b h),AV.t (T.ab 5 d j),AV.t (T.ab 1 e k),
 AV.t (T.str m),AV.t (T.ab 1 f o),V'2,V'3],ad.box [V'4,V'5],ad.sl false 1 C H,ad.sl false 1 D c3,ad.rows E 5 1 1 G J,ad.mp false [Ck.s]
 (Ck.i i64) K,ad.box [I q,AV.t (T.ab 1 y B),I r,I u,AV.t (T.str v)],ad.sl false 1 (F && false) [[T.int i64 n]]] else U' (O (Key.call 46) [Y'0,I q,AV.t
 (T.str v),I r,I u,AV.t (T.ab 1 F [])] [ad.box [V'1,V'2],ad.rows E 5 1 1 G J,ad.mp false [Ck.s] (Ck.i i64) K]) λl=>U' l.head? λx=>U' (T.int?
 i64 x) λn=>U' (List.drop 1 l).head? λx=>U' (aN x) λp=>U' (List.drop 1 l).tail.head? λx=>U' ((List.drop 2 (List.drop 1 l)).head?.bind λz=>aL z) λl=>aa
 none (if aX p.snd=true then some () else none) λx=>some [T.int i64 n,T.ao,T.ab 3 b h,T.ab 5 d j,T.ab 1 e k,T.str m,T.ab 1 f o,T.ao,T.ao,be p.fst
 p.snd,T.ao,T.ab 1 C H,T.ab 1 D c3,aH l]):=by kernel_rfl
theorem Jd(O:aq)(d:ByteArray)(c:Bool)(e:List (List T))(a:Int):ax ak ann O (Key.call 41) [(AV.agg [(AV.t (T.str d)),(AV.t (T.ab 1 c e)),(I a)])] []=
 (U' (O (Key.call 14) [I a] []) λl=>U' l.head? λx=>U' x.bool? λb=>some [T.bool b]):=by kernel_rfl
theorem BM(O:aq)(j:Bool)(f:List (List T))(k:Int)(a:Int)(b:Bool)(d:Bool)(e:Bool)(g:Bool)(q:List (List T))(h:Bool)(c3:List (List T))(i:Bool)(r:List (List T)):ax ak ann O ig [Y'0,Y'1,(AV.t (T.ab 5 j f)),(I k),(I a)] [(ad.box [(AV.t (T.ae b)),(AV.t (T.ae d)),(AV.t (T.ae e))]),(ad.box [V'2,V'3,V'4]),(ad.sl false 3 g q),(ad.sl false 5 h c3),(ad.sl false 1 i r)]=
 (bif decide (a < k) then U' (if(0:Int)<=a/\a < (↑f.length:Int) then some () else none) λx=>U' f[a.toNat]? λl=>U' l.head? λx=>U' l.tail.head? λu=>U'
 l.tail.tail.head? λv=>U' l.tail.tail.tail.head? λw=>U' l.tail.tail.tail.tail.head? λy=>U' (T.int? i64 x) λn=>U' (T.an 1 u) λp=>U' (T.int?
 i64 v) λm=>U' (T.int? i64 w) λo=>U' y.bc λs=>U' (O (Key.call 18) [AV.t (T.ab 1 p.fst p.snd)] []) λl=>U' l.head? λx=>U' (T.an 1 x) λp
 =>U' (bp 64 (c3.length+ [[T.int i64 n,T.ab 1 p.fst p.snd,T.int i64 m,T.int i64 o,T.str s]].length)) λx=>O ig [Y'0,Y'1,AV.t (T.ab 5 j
 f),I k,I (i64.wrap (a+ (1:Int)))] [ad.box [AV.t (T.ae b),AV.t (T.ae d),AV.t (T.ae e)],ad.box [V'2,V'3,V'4],ad.sl false 3 g q,ad.sl false
 5 (h && false) (c3++ [[T.int i64 n,T.ab 1 p.fst p.snd,T.int i64 m,T.int i64 o,T.str s]]),ad.sl false 1 i r] else some [T.ab 3 g q,T.ab 5 h c3,T.ab 1 i r]):=by kernel_rfl
theorem x6(O:aq)(e:Bool)(d:List (List T))(c:ByteArray)(f:Int)(a:Int):ax ak ann O gQ [(AV.t (T.ab 3 e d)),(AV.fn 42 [] [(AV.t (T.ptr [(T.str c)]))]),(I f),(I a)] []=
 (bif decide (a < f) then U' (if(0:Int)<=a/\a < (↑d.length:Int) then some () else none) λx=>U' d[a.toNat]? λl=>U' l.head? λx=>U' l.tail.head? λg=>U'
 l.tail.tail.head? λh=>U' x.bc λs=>U' (T.an 1 g) λp=>U' (T.int? i64 h) λn=>U' (O (Key.call 42) [AV.agg [AV.t (T.str s),AV.t (T.ab 1 p.fst p.snd),I n],AV.t
 (T.ptr [T.str c])] []) λl=>U' l.head? λx=>U' x.bool? λb=>bif b then some [T.int i64 a] else O gQ [AV.t (T.ab 3 e d),AV.fn 42 [] [AV.t (T.ptr [T.str c])],I f,I
 (i64.wrap (a+ (1:Int)))] [] else some [T.int i64 (-1:Int)]):=by kernel_rfl
theorem BT(O:aq)(E:Int)(D:Bool)(C:Bool)(w:List (List T))(F:Int)(b:Int)(d:Bool)(j:List (List T))(e:Bool)(k:List (List T))(f:Bool)(m:List (List T))(o:ByteArray)(g:Bool)(a:List (List T))(y:Bool)(H:List (List T))(z:Bool)(c3:List (List T))(A:Bool)(G:Nat)(J:List Row)(K:List (List T×T))(p:Int)(h:Bool)(q:List (List T))(r:Int)(u:Int)(v:ByteArray)(B:Bool)(c8:List (List T)):ax ak ann O oe [(I E),Y'6,Y'7,(AV.t (T.ae D)),V'8,(AV.t (T.ab 1 C w)),(I F),(I b)] [(ad.box [Y'1,(AV.t (T.ab 3 d j)),(AV.t (T.ab 5 e k)),(AV.t (T.ab 1 f m)),(AV.t (T.str o)),(AV.t (T.ab 1 g a)),V'2,V'3]),(ad.box [V'4,V'5]),(ad.sl false 1 y H),(ad.sl false 1 z c3),(ad.rows A 5 1 1 G J),(ad.mp false [Ck.s] (Ck.i i64) K),(ad.box [Y'0]),(ad.box [(I p),(AV.t (T.ab 1 h q)),(I r),(I u),(AV.t (T.str v))]),(ad.sl false 1 B c8)]=
 (bif decide (b < F) then U' (if(0:Int)<=b/\b < (↑w.length:Int) then some () else none) λx=>U' w[b.toNat]? λl=>U' l.head? λx=>U' (T.int? i64 x) λn=>
 U' (if(0:Int)<=n/\n < (↑c3.length:Int) then some () else none) λx=>U' c3[n.toNat]? λl=>U' l.head? λx=>U' (T.int? i64 x) λn=>U' (bp 8 (c8.length+ [[T.int
 i64 n]].length)) λx=>O oe [I E,Y'6,Y'7,AV.t (T.ae D),V'8,AV.t (T.ab 1 C w),I F,I (i64.wrap (b+ (1:Int)))] [ad.box [AV.ref (Id.c 1)
 0,AV.t (T.ab 3 d j),AV.t (T.ab 5 e k),AV.t (T.ab 1 f m),AV.t (T.str o),AV.t (T.ab 1 g a),V'2,V'3],ad.box [V'4,V'5],ad.sl false
 1 y H,ad.sl false 1 z c3,ad.rows A 5 1 1 G J,ad.mp false [Ck.s] (Ck.i i64) K,ad.box [Y'0],ad.box [I p,AV.t (T.ab 1 h q),I r,I u,AV.t (T.str v)],ad.sl
 false 1 (B && false) (c8++ [[T.int i64 n]])] else U' (if(0:Int)<=E/\E < (↑a.length:Int) then some () else none) λx=>U' a[E.toNat]? λl=>U' l.head? λx=>U'
 (T.int? i64 x) λn=>O ij [Y'6,Y'7,AV.t (T.ae D),V'8,I (i64.wrap (n - (10:Int))),I (0:Int)] [ad.box [Y'1,AV.t (T.ab 3 d
 j),AV.t (T.ab 5 e k),AV.t (T.ab 1 f m),AV.t (T.str o),AV.t (T.ab 1 g a),V'2,V'3],ad.box [V'4,V'5],ad.sl false 1 y H,ad.sl false
 1 z c3,ad.rows A 5 1 1 G J,ad.mp false [Ck.s] (Ck.i i64) K,ad.box [Y'0],ad.box [I p,AV.t (T.ab 1 h q),I r,I u,AV.t (T.str v)],ad.sl false 1 B c8]):=by kernel_rfl
theorem IJ(O:aq)(C:Bool)(D:Bool)(E:Int)(q:Int)(b:Bool)(f:List (List T))(d:Bool)(g:List (List T))(e:Bool)(h:List (List T))(a:ByteArray)(j:Bool)(k:List (List T))(y:Bool)(J:List (List T))(A:Bool)(c3:List (List T))(B:Bool)(H:Nat)(F:List Row)(K:List (List T×T))(r:Int)(o:Bool)(u:List (List T))(v:Int)(w:Int)(m:ByteArray):ax ak ann O ij [Y'6,Y'7,(AV.t (T.ae C)),(AV.t (T.ae D)),(I E),(I q)] [(ad.box [Y'1,(AV.t (T.ab 3 b f)),(AV.t (T.ab 5 d g)),(AV.t (T.ab 1 e h)),(AV.t (T.str a)),(AV.t (T.ab 1 j k)),V'2,V'3]),(ad.box [V'4,V'5]),(ad.sl false 1 y J),(ad.sl false 1 A c3),(ad.rows B 5 1 1 H F),(ad.mp false [Ck.s] (Ck.i i64) K),(ad.box [Y'0]),(ad.box [(I r),(AV.t (T.ab 1 o u)),(I v),(I w),(AV.t (T.str m))])]=
 (bif decide (q < E) then U' (O (Key.call 47) [AV.agg [AV.t (T.ab 3 b f),AV.t (T.ab 5 d g),AV.t (T.ab 1 e h)],AV.t (T.str m)] []) λl=>U' l.head? λx=>U' (T.int?
 i64 x) λn=>U' (O (Key.call 44) [I n] []) λl=>U' l.head? λx=>U' x.bc λs=>U' (if a.size+s.size<=4294967296 then some () else none) λx=>U' (if(a++
 s).size+1<=4294967296 then some () else none) λx=>U' (O (Key.call 44) [I q] []) λl=>U' l.head? λx=>U' x.bc λG=>U' (if(a++s++ (ByteArray.mk #[(95:UInt8)])).size
 +G.size<=4294967296 then some () else none) λx=>U' (O (Key.call 46) [Y'0,I (9:Int),AV.t (T.str (a++s++ (ByteArray.mk #[(95:UInt8)])++G)),I (0:Int),I (0:Int),AV.t (T.ab
 1 D [])] [ad.box [V'1,V'2],ad.rows B 5 1 1 H F,ad.mp false [Ck.s] (Ck.i i64) K]) λl=>U' l.head? λx=>U' (T.int? i64 x) λn=>U'
 (List.drop 1 l).head? λx=>U' (aN x) λp=>U' (List.drop 1 l).tail.head? λx=>U' ((List.drop 2 (List.drop 1 l)).head?.bind λz=>aL z) λl=>O ij [Y'6,AV.ref
 (Id.c 7) 0,V'8,AV.t (T.ae D),I E,I (i64.wrap (q+ (1:Int)))] [ad.box [Y'1,AV.t (T.ab 3 b f),AV.t (T.ab 5 d g),AV.t (T.ab 1 e h),AV.t (T.str
 a),AV.t (T.ab 1 j k),V'2,V'3],ad.box [V'9,V'5],ad.sl false 1 y J,ad.sl false 1 A c3,ad.dead,ad.mp false [Ck.s] (Ck.i i64) l,ad.box
 [Y'0],ad.box [I r,AV.t (T.ab 1 o u),I v,I w,AV.t (T.str m)],ad.sl false 1 (C && false) [[T.int i64 n]],ad.rows p.fst 5 1 1 p.snd.length p.snd] else U' (if aX
 F=true then some () else none) λx=>some [T.ae C,T.ao,T.ab 3 b f,T.ab 5 d g,T.ab 1 e h,T.str a,T.ab 1 j k,T.ao,T.ao,be B F,T.ao,T.ab 1 y J,T.ab 1
 A c3,aH K]):=by kernel_rfl
theorem Jk(O:aq)(C:Bool)(A:List (List T))(D:Bool)(B:List (List T))(u:Bool)(w:Int)(a:Int)(L:Int)(b:Bool)(g:List (List T))(d:Bool)(h:List (List T))(e:Bool)(j:List (List T))(k:ByteArray)(f:Bool)(m:List (List T))(o:Bool)(M:List (List T))(q:Bool)(N:List (List T))(r:Bool)(K:Nat)(y:List Row)(c7:List (List T×T)):ax ak ann O oq [(AV.t (T.ab 1 C A)),(AV.t (T.ab 1 D B)),(AV.fn 49 [] [Y'0,Y'1]),(AV.t (T.ae u)),(I w),(I a)] [(ad.box [Y'2]),(ad.box [(I L)]),(ad.box [Y'3,(AV.t (T.ab 3 b g)),(AV.t (T.ab 5 d h)),(AV.t (T.ab 1 e j)),(AV.t (T.str k)),(AV.t (T.ab 1 f m)),V'4,V'5]),(ad.box [V'6,V'7]),(ad.sl false 1 o M),(ad.sl false 1 q N),(ad.rows r 5 1 1 K y),(ad.mp false [Ck.s] (Ck.i i64) c7)]=
 (bif decide (a < w) then U' (if(0:Int)<=a/\a < (↑A.length:Int) then some () else none) λx=>U' A[a.toNat]? λl=>U' l.head? λx=>U' (T.int? i64 x) λn=>aa
 none (if(0:Int)<=a/\a < (↑B.length:Int) then some () else none) λx=>U' B[a.toNat]? λl=>U' l.head? λx=>U' (T.int? i64 x) λP=>U' (O (Key.call 49) [I n,I
 P,Y'0,Y'1] [ad.box [Y'2],ad.box [I L],ad.box [Y'3,AV.t (T.ab 3 b g),AV.t (T.ab 5 d h),AV.t (T.ab 1 e j),AV.t (T.str k),AV.t
 (T.ab 1 f m),V'4,V'5],ad.box [V'6,V'7],ad.sl false 1 o M,ad.sl false 1 q N,ad.rows r 5 1 1 K y,ad.mp false [Ck.s] (Ck.i i64) c7]) fun
 l=>U' l.head? λx=>U' (T.int? i64 x) λn=>U' (List.drop 1 l).head? λx=>U' (List.drop 1 (List.drop 1 l)).head? λx=>U' (T.int? i64 x) λQ=>U'
 (List.drop 1 (List.drop 1 (List.drop 1 l))).head? λx=>U' (List.drop 1 (List.drop 1 (List.drop 1 l))).tail.head? λx=>U' (T.an 3 x) λp=>U' (List.drop 1 (List.drop 1 (List.drop 1
 l))).tail.tail.head? λx=>U' (T.an 5 x) λE=>U' (List.drop 1 (List.drop 1 (List.drop 1 l))).tail.tail.tail.head? λx=>U' (T.an 1 x) λF=>U' (List.drop 1 (List.drop 1
 (List.drop 1 l))).tail.tail.tail.tail.head? λx=>U' x.bc λs=>U' (List.drop 1 (List.drop 1 (List.drop 1 l))).tail.tail.tail.tail.tail.head? λx=>U' (T.an 1 x) λG=>U'
 (List.drop 1 (List.drop 1 (List.drop 1 l))).tail.tail.tail.tail.tail.tail.head? λx=>U' (List.drop 1 (List.drop 1 (List.drop 1 l))).tail.tail.tail.tail.tail.tail.tail.head? λx=>U' (List.drop 8
 (List.drop 1 (List.drop 1 (List.drop 1 l)))).head? λx=>U' (aN x) λv=>U' (List.drop 8 (List.drop 1 (List.drop 1 (List.drop 1 l)))).tail.head? λx=>U' ((List.drop 2 (List.drop 8
 (List.drop 1 (List.drop 1 (List.drop 1 l))))).head?.bind λz=>T.an 1 z) λH=>U' ((List.drop 2 (List.drop 8 (List.drop 1 (List.drop 1 (List.drop 1 l))))).tail.head?.bind λz=>T.an 1 z) λJ=>
 U' ((List.drop 2 (List.drop 8 (List.drop 1 (List.drop 1 (List.drop 1 l))))).tail.tail.head?.bind λz=>aL z) λl=>O oq [AV.t (T.ab 1 C A),AV.t (T.ab 1 D B),AV.fn 49 [] [Y'0,
 Y'1],V'8,I w,AV.t (T.int i64 (i64.wrap (a+ (1:Int))))] [ad.box [Y'2],ad.box [I Q],ad.box [Y'3,AV.t (T.ab 3 p.fst p.snd),AV.t (T.ab
 5 E.fst E.snd),AV.t (T.ab 1 F.fst F.snd),AV.t (T.str s),AV.t (T.ab 1 G.fst G.snd),V'4,V'5],ad.box [V'9,V'7],ad.sl false 1 H.fst H.snd,ad.sl
 false 1 J.fst J.snd,ad.dead,ad.mp false [Ck.s] (Ck.i i64) l,ad.sl false 1 (u && false) [[T.int i64 n]],ad.rows v.fst 5 1 1 v.snd.length v.snd] else U' (if aX y=true then
 some () else none) λx=>some [T.ae u,T.ao,T.int i64 L,T.ao,T.ab 3 b g,T.ab 5 d h,T.ab 1 e j,T.str k,T.ab 1 f m,T.ao,T.ao,be r y,T.ao,T.ab 1
 o M,T.ab 1 q N,aH c7]):=by kernel_rfl
theorem BQ(O:aq)(q:Int)(a:Int)(b:Bool)(g:List (List T))(d:Bool)(h:List (List T))(e:Bool)(j:List (List T))(k:ByteArray)(f:Bool)(m:List (List T))(A:Bool)(G:List (List T))(B:Bool)(c3:List (List T))(H:List (List T×T))(u:Int)(r:Bool)(v:List (List T))(o:Int)(w:Int)(y:ByteArray)(C:Bool)(c8:List (List T))(D:Bool)(F:Nat)(E:List Row):ax ak ann O od [Y'6,Y'7,V'8,(I q),(I a)] [(ad.box [Y'1,(AV.t (T.ab 3 b g)),(AV.t (T.ab 5 d h)),(AV.t (T.ab 1 e j)),(AV.t (T.str k)),(AV.t (T.ab 1 f m)),V'2,V'3]),(ad.box [V'9,V'5]),(ad.sl false 1 A G),(ad.sl false 1 B c3),(Go.Aev.ad.dead),(ad.mp false [Ck.s] (Ck.i i64) H),(ad.box [Y'0]),(ad.box [(I u),(AV.t (T.ab 1 r v)),(I o),(I w),(AV.t (T.str y))]),(ad.sl false 1 C c8),(ad.rows D 5 1 1 F E)]=
 (bif decide (a < q) then U' (if a < (0:Int) then none else some ()) λx=>U' (O (Key.call 50) [Y'0,AV.t (T.bool (i64.wrap (↑(BitVec.ofInt 64 (o.fdiv ((2:Int) ^ min
 a.toNat 64)) &&& BitVec.ofInt 64 (1:Int)).toNat:Int)== (1:Int)))] [ad.box [V'1,V'2],ad.rows D 5 1 1 F E,ad.mp false [Ck.s] (Ck.i i64) H]) λl=>U' l.head? fun
 x=>U' (T.int? i64 x) λn=>U' (List.drop 1 l).head? λx=>U' (aN x) λp=>U' (List.drop 1 l).tail.head? λx=>U' ((List.drop 2 (List.drop 1 l)).head?.bind λz=>
 aL z) λl=>U' (bp 8 (c8.length+ [[T.int i64 n]].length)) λx=>O od [Y'6,Y'7,V'8,I q,I (i64.wrap (a+ (1:Int)))] [ad.box
 [Y'1,AV.t (T.ab 3 b g),AV.t (T.ab 5 d h),AV.t (T.ab 1 e j),AV.t (T.str k),AV.t (T.ab 1 f m),V'2,V'3],ad.box [V'9,AV.own (Id.c
 5)],ad.sl false 1 A G,ad.sl false 1 B c3,ad.dead,ad.mp false [Ck.s] (Ck.i i64) l,ad.box [Y'0],ad.box [I u,AV.t (T.ab 1 r v),I o,I w,AV.t (T.str y)],ad.sl
 false 1 (C && false) (c8++ [[T.int i64 n]]),ad.rows p.fst 5 1 1 p.snd.length p.snd] else U' (if aX E=true then some () else none) λx=>some [T.ab 1 C c8,T.ao,T.ab 3 b g,T.ab
 5 d h,T.ab 1 e j,T.str k,T.ab 1 f m,T.ao,T.ao,be D E,T.ao,T.ab 1 A G,T.ab 1 B c3,aH H]):=by kernel_rfl
theorem Jr(O:aq)(b:Int)(d:Bool)(e:Nat)(a:List Row)(f:List (List T×T)):ax ak ann O (Key.call 51) [Y'0,(I b)] [(ad.box [V'1,V'2]),(ad.rows d 5 1 1 e a),(ad.mp false [Ck.s] (Ck.i i64) f)]=
 (U' (if(0:Int)<=b/\b < (↑a.length:Int) then some () else none) λx=>U' a[b.toNat]? λx=>U' (List.drop 0 x.cs).head? λx=>U' (T.int? i64 x) λn=>bif n== (1:Int)
 then U' (O (Key.call 50) [Y'0,B false] [ad.box [V'1,V'2],ad.rows d 5 1 1 e a,ad.mp false [Ck.s] (Ck.i i64) f]) λl=>U' l.head? λx=>U'
 (T.int? i64 x) λn=>U' (List.drop 1 l).head? λx=>U' (aN x) λp=>U' (List.drop 1 l).tail.head? λx=>U' ((List.drop 2 (List.drop 1 l)).head?.bind λz=>aL z) λl=>
 U' (if aX p.snd=true then some () else none) λx=>some [T.int i64 n,be p.fst p.snd,T.ao,aH l] else bif n== (2:Int) then U' (O (Key.call 50) [Y'0,B true] [ad.box
 [V'1,V'2],ad.rows d 5 1 1 e a,ad.mp false [Ck.s] (Ck.i i64) f]) λl=>U' l.head? λx=>U' (T.int? i64 x) λn=>U' (List.drop 1 l).head? λx
 =>U' (aN x) λp=>U' (List.drop 1 l).tail.head? λx=>U' ((List.drop 2 (List.drop 1 l)).head?.bind λz=>aL z) λl=>U' (if aX p.snd=true then some () else none) λx=>
 some [T.int i64 n,be p.fst p.snd,T.ao,aH l] else bif n== (3:Int) then U' (if(0:Int)<=b/\b < (↑a.length:Int) then some () else none) λx=>U' a[b.toNat]? λx=>U'
 (cy x.n a) λp=>U' (if(0:Int)<=(0:Int)/\(0:Int) < (↑p.snd.length:Int) then some () else none) λg=>U' (cy x.n a) λp=>U' p.snd[0]? λl=>U' l.head? λx=>aa
 none (T.int? i64 x) λn=>U' (if aX a=true then some () else none) λx=>some [T.int i64 n,be d a,T.ao,aH f] else U' (O (Key.call 46) [Y'0,I (3:Int),
 AV.t (T.str (ByteArray.mk #[])),I (0:Int),I (0:Int),AV.t (T.ab 1 false [[T.int i64 b]])] [ad.box [V'1,V'2],ad.rows d 5 1 1 e a,ad.mp false [Ck.s] (Ck.i i64) f])
 λl=>U' l.head? λx=>U' (T.int? i64 x) λn=>U' (List.drop 1 l).head? λx=>U' (aN x) λp=>U' (List.drop 1 l).tail.head? λx=>U' ((List.drop 2
 (List.drop 1 l)).head?.bind λz=>aL z) λl=>U' (if aX p.snd=true then some () else none) λx=>some [T.int i64 n,be p.fst p.snd,T.ao,aH l]):=by kernel_rfl
theorem BR(O:aq)(r:Bool)(g:List (List T))(q:Int)(a:Int)(b:Bool)(h:List (List T))(d:Bool)(j:List (List T))(e:Bool)(k:List (List T))(m:ByteArray)(f:Bool)(o:List (List T))(u:Bool)(B:List (List T))(v:Bool)(c3:List (List T))(C:List (List T×T))(w:Bool)(c7:List (List T))(y:Bool)(A:Nat)(c8:List Row):ax ak ann O pG [Y'6,V'7,(AV.t (T.ab 1 r g)),(I q),(I a)] [(ad.box [Y'1,(AV.t (T.ab 3 b h)),(AV.t (T.ab 5 d j)),(AV.t (T.ab 1 e k)),(AV.t (T.str m)),(AV.t (T.ab 1 f o)),V'2,V'3]),(ad.box [V'8,V'5]),(ad.sl false 1 u B),(ad.sl false 1 v c3),(Go.Aev.ad.dead),(ad.mp false [Ck.s] (Ck.i i64) C),(ad.box [Y'0]),(ad.sl false 1 w c7),(ad.rows y 5 1 1 A c8)]=
 (bif decide (a < q) then U' (if(0:Int)<=a/\a < (↑g.length:Int) then some () else none) λx=>U' g[a.toNat]? λl=>U' l.head? λx=>U' (T.int? i64 x) fun
 n=>U' (O (Key.call 51) [Y'0,I n] [ad.box [V'1,V'2],ad.rows y 5 1 1 A c8,ad.mp false [Ck.s] (Ck.i i64) C]) λl=>U' l.head? λx=>U'
 (T.int? i64 x) λn=>U' (List.drop 1 l).head? λx=>U' (aN x) λp=>U' (List.drop 1 l).tail.head? λx=>U' ((List.drop 2 (List.drop 1 l)).head?.bind λz=>aL z) λl=>
 U' (bp 8 (c7.length+ [[T.int i64 n]].length)) λx=>O pG [Y'6,V'7,AV.t (T.ab 1 r g),I q,I (i64.wrap (a+ (1:Int)))] [ad.box [AV.ref (Id.c
 1) 0,AV.t (T.ab 3 b h),AV.t (T.ab 5 d j),AV.t (T.ab 1 e k),AV.t (T.str m),AV.t (T.ab 1 f o),V'2,V'3],ad.box [V'8,V'5],ad.sl
 false 1 u B,ad.sl false 1 v c3,ad.dead,ad.mp false [Ck.s] (Ck.i i64) l,ad.box [Y'0],ad.sl false 1 (w && false) (c7++ [[T.int i64 n]]),ad.rows p.fst 5 1 1 p.snd.length
 p.snd] else U' (if aX c8=true then some () else none) λx=>some [T.ab 1 w c7,T.ao,T.ab 3 b h,T.ab 5 d j,T.ab 1 e k,T.str m,T.ab 1 f o,T.ao,T.ao,be
 y c8,T.ao,T.ab 1 u B,T.ab 1 v c3,aH C]):=by kernel_rfl
theorem Cg(O:aq)(j:Bool)(g:List (List T))(k:Bool)(h:List (List T))(d:Bool)(e:Int)(a:Int)(b:Bool)(m:Nat)(f:List Row)(o:List (List T×T)):ax ak ann O dP [(AV.t (T.ab 1 j g)),(AV.t (T.ab 1 k h)),(AV.fn 52 [Y'0] []),(AV.t (T.ae d)),(I e),(I a)] [(ad.box [V'1,V'2]),(ad.rows b 5 1 1 m f),(ad.mp false [Ck.s] (Ck.i i64) o)]=
 (bif decide (a < e) then U' (if(0:Int)<=a/\a < (↑g.length:Int) then some () else none) λx=>U' g[a.toNat]? λl=>U' l.head? λx=>U' (T.int? i64 x) λn=>aa
 none (if(0:Int)<=a/\a < (↑h.length:Int) then some () else none) λx=>U' h[a.toNat]? λl=>U' l.head? λx=>U' (T.int? i64 x) λq=>U' (O (Key.call 52) [AV.ref
 (Id.c 0) 0,I n,I q] [ad.box [V'1,V'2],ad.rows b 5 1 1 m f,ad.mp false [Ck.s] (Ck.i i64) o]) λl=>U' l.head? λx=>U' (T.int? i64 x) λn=>aa
 none (List.drop 1 l).head? λx=>U' (aN x) λp=>U' (List.drop 1 l).tail.head? λx=>U' ((List.drop 2 (List.drop 1 l)).head?.bind λz=>aL z) λl=>O dP [AV.t (T.ab 1 j g),
 AV.t (T.ab 1 k h),AV.fn 52 [Y'0] [],V'3,I e,I (i64.wrap (a+ (1:Int)))] [ad.box [V'4,V'2],ad.dead,ad.mp false [Ck.s] (Ck.i i64) l,
 ad.sl false 1 (d && false) [[T.int i64 n]],ad.rows p.fst 5 1 1 p.snd.length p.snd] else U' (if aX f=true then some () else none) λx=>some [T.ae d,be b f,T.ao,aH o]):=by kernel_rfl
theorem Ch(O:aq)(j:Bool)(g:List (List T))(k:Bool)(h:List (List T))(d:Bool)(e:Int)(a:Int)(b:Bool)(m:Nat)(f:List Row)(o:List (List T×T)):ax ak ann O dP [(AV.t (T.ab 1 j g)),(AV.t (T.ab 1 k h)),(AV.fn 53 [Y'0] []),(AV.t (T.ae d)),(I e),(I a)] [(ad.box [V'1,V'2]),(ad.rows b 5 1 1 m f),(ad.mp false [Ck.s] (Ck.i i64) o)]=
 (bif decide (a < e) then U' (if(0:Int)<=a/\a < (↑g.length:Int) then some () else none) λx=>U' g[a.toNat]? λl=>U' l.head? λx=>U' (T.int? i64 x) λn=>aa
 none (if(0:Int)<=a/\a < (↑h.length:Int) then some () else none) λx=>U' h[a.toNat]? λl=>U' l.head? λx=>U' (T.int? i64 x) λq=>U' (O (Key.call 53) [AV.ref
 (Id.c 0) 0,I n,I q] [ad.box [V'1,V'2],ad.rows b 5 1 1 m f,ad.mp false [Ck.s] (Ck.i i64) o]) λl=>U' l.head? λx=>U' (T.int? i64 x) λn=>aa
 none (List.drop 1 l).head? λx=>U' (aN x) λp=>U' (List.drop 1 l).tail.head? λx=>U' ((List.drop 2 (List.drop 1 l)).head?.bind λz=>aL z) λl=>O dP [AV.t (T.ab 1 j g),
 AV.t (T.ab 1 k h),AV.fn 53 [Y'0] [],V'3,I e,I (i64.wrap (a+ (1:Int)))] [ad.box [V'4,V'2],ad.dead,ad.mp false [Ck.s] (Ck.i i64) l,
 ad.sl false 1 (d && false) [[T.int i64 n]],ad.rows p.fst 5 1 1 p.snd.length p.snd] else U' (if aX f=true then some () else none) λx=>some [T.ae d,be b f,T.ao,aH o]):=by kernel_rfl
theorem Ci(O:aq)(j:Bool)(g:List (List T))(k:Bool)(h:List (List T))(d:Bool)(e:Int)(a:Int)(b:Bool)(m:Nat)(f:List Row)(o:List (List T×T)):ax ak ann O dP [(AV.t (T.ab 1 j g)),(AV.t (T.ab 1 k h)),(AV.fn 54 [Y'0] []),(AV.t (T.ae d)),(I e),(I a)] [(ad.box [V'1,V'2]),(ad.rows b 5 1 1 m f),(ad.mp false [Ck.s] (Ck.i i64) o)]=
 (bif decide (a < e) then U' (if(0:Int)<=a/\a < (↑g.length:Int) then some () else none) λx=>U' g[a.toNat]? λl=>U' l.head? λx=>U' (T.int? i64 x) λn=>aa
 none (if(0:Int)<=a/\a < (↑h.length:Int) then some () else none) λx=>U' h[a.toNat]? λl=>U' l.head? λx=>U' (T.int? i64 x) λq=>U' (O (Key.call 54) [AV.ref
 (Id.c 0) 0,I n,I q] [ad.box [V'1,V'2],ad.rows b 5 1 1 m f,ad.mp false [Ck.s] (Ck.i i64) o]) λl=>U' l.head? λx=>U' (T.int? i64 x) λn=>aa
 none (List.drop 1 l).head? λx=>U' (aN x) λp=>U' (List.drop 1 l).tail.head? λx=>U' ((List.drop 2 (List.drop 1 l)).head?.bind λz=>aL z) λl=>O dP [AV.t (T.ab 1 j g),
 AV.t (T.ab 1 k h),AV.fn 54 [Y'0] [],V'3,I e,I (i64.wrap (a+ (1:Int)))] [ad.box [V'4,V'2],ad.dead,ad.mp false [Ck.s] (Ck.i i64) l,
 ad.sl false 1 (d && false) [[T.int i64 n]],ad.rows p.fst 5 1 1 p.snd.length p.snd] else U' (if aX f=true then some () else none) λx=>some [T.ae d,be b f,T.ao,aH o]):=by kernel_rfl
theorem xI(O:aq)(h:Bool)(b:List (List T))(j:Bool)(d:List (List T))(k:Int)(e:Bool)(f:Int)(a:Int)(q:List (List T×T))(g:Bool)(o:Nat)(c3:List Row):ax ak ann O ot [Y'0,(AV.t (T.ab 1 h b)),(AV.t (T.ab 1 j d)),(I k),(AV.t (T.ae e)),(I f),(I a)] [(ad.box [V'3,V'2]),(Go.Aev.ad.dead),(ad.mp false [Ck.s] (Ck.i i64) q),(ad.rows g 5 1 1 o c3)]=
 (bif decide (a < f) then U' (if(0:Int)<=a/\a < (↑b.length:Int) then some () else none) λx=>U' b[a.toNat]? λl=>U' l.head? λx=>U' (T.int? i64 x) λn=>aa
 none (if(0:Int)<=a/\a < (↑d.length:Int) then some () else none) λx=>U' d[a.toNat]? λl=>U' l.head? λx=>U' (T.int? i64 x) λv=>U' (O (Key.call 54) [AV.ref
 (Id.c 0) 0,I n,I v] [ad.box [V'1,V'2],ad.rows g 5 1 1 o c3,ad.mp false [Ck.s] (Ck.i i64) q]) λl=>U' l.head? λx=>U' (T.int? i64 x) λn=>aa
 none (List.drop 1 l).head? λx=>U' (aN x) λp=>U' (List.drop 1 l).tail.head? λx=>U' ((List.drop 2 (List.drop 1 l)).head?.bind λz=>aL z) λl=>U' (O (Key.call 54) [AV.ref
 (Id.c 0) 0,I n,I k] [ad.box [V'1,V'2],ad.rows p.fst 5 1 1 p.snd.length p.snd,ad.mp false [Ck.s] (Ck.i i64) l]) λl=>U' l.head? λx=>U' (T.int? i64 x)
 λm=>U' (List.drop 1 l).head? λx=>U' (aN x) λp=>U' (List.drop 1 l).tail.head? λx=>U' ((List.drop 2 (List.drop 1 l)).head?.bind λz=>aL z) λl=>bif decide
 (i64.wrap (a+ (1:Int)) < (↑b.length:Int)) then U' (if(0:Int)<=a/\a < (↑b.length:Int) then some () else none) λx=>U' b[a.toNat]? λr=>U' r.head? λx=>aa
 none (T.int? i64 x) λw=>U' (if(0:Int)<=a/\a < (↑d.length:Int) then some () else none) λx=>U' d[a.toNat]? λu=>U' u.head? λx=>U' (T.int? i64
 x) λy=>U' (O (Key.call 52) [Y'0,I w,I y] [ad.box [V'1,V'2],ad.rows p.fst 5 1 1 p.snd.length p.snd,ad.mp false [Ck.s] (Ck.i i64) l]) λl=>U'
 l.head? λx=>U' (T.int? i64 x) λA=>U' (List.drop 1 l).head? λx=>U' (aN x) λp=>U' (List.drop 1 l).tail.head? λx=>U' ((List.drop 2 (List.drop 1
 l)).head?.bind λz=>aL z) λl=>U' (O (Key.call 52) [Y'0,I n,I k] [ad.box [V'1,V'2],ad.rows p.fst 5 1 1 p.snd.length p.snd,ad.mp false [Ck.s] (Ck.i
 i64) l]) λl=>U' l.head? λx=>U' (T.int? i64 x) λn=>U' (List.drop 1 l).head? λx=>U' (aN x) λp=>U' (List.drop 1 l).tail.head? λx=>U'
 ((List.drop 2 (List.drop 1 l)).head?.bind λz=>aL z) λl=>U' (O (Key.call 53) [Y'0,AV.t (T.int i64 A),AV.t (T.int i64 n)] [ad.box [V'1,V'2],
 ad.rows p.fst 5 1 1 p.snd.length p.snd,ad.mp false [Ck.s] (Ck.i i64) l]) λl=>U' l.head? λx=>U' (T.int? i64 x) λn=>U' (List.drop 1 l).head? λx=>U' (aN x)
 λp=>U' (List.drop 1 l).tail.head? λx=>U' ((List.drop (2:Nat) (List.drop (1:Nat) l)).head?.bind λz=>aL z) λl=>O (bG ak 55 true 4 [((0:Nat),none),((1:Nat),none),((2:
 Nat),none),((7:Nat),none),((8:Nat),none),((14:Nat),none),((15:Nat),none)] ((3:Nat),(2002:Nat))) [AV.ref (Id.c (0:Nat)) (0:Nat),AV.t (T.ab (1:Nat) h b),AV.t (T.ab (1:Nat) j d),AV.t
 (T.int i64 n),AV.own (Id.c (3:Nat)),AV.t (T.int i64 f),AV.t (T.int i64 (i64.wrap (a+ (1:Int))))] [ad.box [AV.own (Id.c (4:Nat)),AV.own (Id.c (2:Nat))],ad.dead,ad.mp
 false [Ck.s] (Ck.i i64) l,ad.sl false (1:Nat) (e && false) [[T.int i64 m]],ad.rows p.fst (5:Nat) (1:Nat) (1:Nat) p.snd.length p.snd] else O ot [Y'0,AV.t (T.ab 1 h
 b),AV.t (T.ab 1 j d),I k,V'3,I f,I (i64.wrap (a+ (1:Int)))] [ad.box [V'4,V'2],ad.dead,ad.mp false [Ck.s] (Ck.i i64) l,ad.sl false 1 (e &&
 false) [[T.int i64 m]],ad.rows p.fst 5 1 1 p.snd.length p.snd] else U' (if aX c3=true then some () else none) λx=>some [T.ae e,be g c3,T.ao,aH q]):=by kernel_rfl
theorem Cp(O:aq)(e:Bool)(o:List (List T))(g:Bool)(q:List (List T))(f:Bool)(b:List (List T))(j:Int)(a:Int)(m:List (List T×T))(d:Bool)(k:Nat)(c3:List Row):ax ak ann O pJ [Y'0,(AV.t (T.ab 1 e o)),(AV.t (T.ab 1 g q)),(AV.t (T.ab 1 f b)),(I j),(I a)] [(ad.box [V'3,V'2]),(Go.Aev.ad.dead),(ad.mp false [Ck.s] (Ck.i i64) m),(ad.rows d 5 1 1 k c3)]=
 (bif decide (a < j) then U' (if(0:Int)<=a/\a < (↑b.length:Int) then some () else none) λx=>U' b[a.toNat]? λl=>U' l.head? λx=>U' (T.int? i64 x) λn=>
 U' (O (Key.call 57) [Y'0,AV.t (T.ab 1 e o),I a] [ad.box [V'1,V'2],ad.rows d 5 1 1 k c3,ad.mp false [Ck.s] (Ck.i i64) m]) λl=>U' l.head? fun
 x=>U' (T.an 1 x) λp=>U' (List.drop 1 l).head? λx=>U' (aN x) λh=>U' (List.drop 1 l).tail.head? λx=>U' ((List.drop 2 (List.drop 1 l)).head?.bind λz=>aL z)
 λl=>O ou [Y'0,AV.t (T.ab 1 e o),AV.t (T.ab 1 g q),I n,AV.t (T.ae true),AV.t (T.ab 1 f b),I j,I a,AV.t (T.ab 1 p.fst p.snd),I (↑p.snd.length:Int),I (0:Int)]
 [ad.box [V'3,V'2],ad.dead,ad.mp false [Ck.s] (Ck.i i64) l,ad.rows h.fst 5 1 1 h.snd.length h.snd] else U' (if aX c3=true then some () else none) λx=>some
 [T.ab 1 g q,be d c3,T.ao,aH m]):=by kernel_rfl
theorem xK(O:aq)(h:Bool)(j:List (List T))(b:Int)(e:Bool)(f:Int)(a:Int)(d:Bool)(k:Nat)(g:List Row)(m:List (List T×T)):ax ak ann O jh [Y'0,(AV.t (T.ab 1 h j)),(I b),(AV.t (T.ae e)),(I f),(I a)] [(ad.box [V'1,V'2]),(ad.rows d 5 1 1 k g),(ad.mp false [Ck.s] (Ck.i i64) m)]=
 (bif decide (a < f) then bif decide (a < b) then U' (O (Key.call 50) [Y'0,B false] [ad.box [V'1,V'2],ad.rows d 5 1 1 k g,ad.mp false [Ck.s] (Ck.i i64)
 m]) λl=>U' l.head? λx=>U' (T.int? i64 x) λn=>U' (List.drop 1 l).head? λx=>U' (aN x) λp=>U' (List.drop 1 l).tail.head? λx=>U' ((List.drop 2
 (List.drop 1 l)).head?.bind λz=>aL z) λl=>O jh [Y'0,AV.t (T.ab 1 h j),I b,V'3,I f,I (i64.wrap (a+ (1:Int)))] [ad.box [V'4,V'2],
 ad.dead,ad.mp false [Ck.s] (Ck.i i64) l,ad.sl false 1 (e && false) [[T.int i64 n]],ad.rows p.fst 5 1 1 p.snd.length p.snd] else U' (if(0:Int)<=i64.wrap (a - b)/\
 i64.wrap (a - b) < (↑j.length:Int) then some () else none) λx=>U' j[(i64.wrap (a - b)).toNat]? λl=>U' l.head? λx=>U' (T.int? i64 x) λn=>O jh
 [Y'0,AV.t (T.ab 1 h j),I b,V'3,I f,I (i64.wrap (a+ (1:Int)))] [ad.box [V'1,V'2],ad.rows d 5 1 1 k g,ad.mp false [Ck.s] (Ck.i
 i64) m,ad.sl false 1 (e && false) [[T.int i64 n]]] else U' (if aX g=true then some () else none) λx=>some [T.ae e,be d g,T.ao,aH m]):=by kernel_rfl
theorem B0(O:aq)(o:Int)(a:Int)(j:Bool)(p:Nat)(q:List Row)(k:Bool)(h:List (List T))(b:Bool)(g:List (List T))(d:Bool)(e:Bool)(f:Bool)(m:Bool)(i:List (List T)):ax ak ann O tG [Y'2,Y'3,V'4,V'1,(I o),(I a)] [(ad.rows j 5 1 1 p q),(ad.sl false 1 k h),(ad.box [(AV.t (T.ab 3 b g)),V'0,V'1]),(ad.box [(AV.t (T.ae d)),(AV.t (T.ae e)),(AV.t (T.ae f))]),(ad.sl false 1 m i)]=
 (bif decide (a < o) then U' (if(0:Int)<=a/\a < (↑h.length:Int) then some () else none) λx=>U' h[a.toNat]? λl=>U' l.head? λx=>U' (T.int? i64 x) λn=>aa
 none (if(0:Int)<=n/\n < (↑i.length:Int) then some () else none) λx=>U' (gL n.toNat 0 [T.bool true] i) λl=>O tG [Y'2,Y'3,V'4,V'1,I
 o,I (i64.wrap (a+ (1:Int)))] [ad.rows j 5 1 1 p q,ad.sl false 1 k h,ad.box [AV.t (T.ab 3 b g),V'0,V'1],ad.box [AV.t (T.ae d),AV.t (T.ae e),AV.t
 (T.ae f)],ad.sl false 1 m l] else O l5 [Y'2,Y'3,V'4,I (i64.wrap ((↑i.length:Int) - (1:Int)))] [ad.rows j 5 1 1 p q,ad.sl false 1 k h,
 ad.box [AV.t (T.ab 3 b g),V'0,V'1],ad.box [AV.t (T.ae d),AV.t (T.ae e),AV.t (T.ae f)],ad.sl false 1 m i]):=by kernel_rfl
theorem Cs(O:aq)(g:Bool)(b:List (List T))(h:Bool)(d:List (List T))(m:Int)(f:Int)(a:Int)(k:List (List T×T))(e:Bool)(j:Nat)(c3:List Row):ax ak ann O wO [Y'0,(AV.t (T.ab 1 g b)),(AV.t (T.ab 1 h d)),(I m),(I f),(I a)] [(ad.box [V'3,V'2]),(Go.Aev.ad.dead),(ad.mp false [Ck.s] (Ck.i i64) k),(ad.rows e 5 1 1 j c3)]=
 (bif decide (a < f) then U' (if(0:Int)<=a/\a < (↑b.length:Int) then some () else none) λx=>U' b[a.toNat]? λl=>U' l.head? λx=>U' (T.int? i64 x) λn=>aa
 none (O (Key.call 51) [Y'0,I n] [ad.box [V'1,V'2],ad.rows e 5 1 1 j c3,ad.mp false [Ck.s] (Ck.i i64) k]) λl=>U' l.head? λx=>U' (T.int?
 i64 x) λn=>U' (List.drop 1 l).head? λx=>U' (aN x) λp=>U' (List.drop 1 l).tail.head? λx=>U' ((List.drop 2 (List.drop 1 l)).head?.bind λz=>aL z) λl=>aa
 none (if(0:Int)<=a/\a < (↑d.length:Int) then some () else none) λx=>U' d[a.toNat]? λo=>U' o.head? λx=>U' (T.int? i64 x) λu=>U' (O (Key.call 52)
 [Y'0,I n,I u] [ad.box [V'1,V'2],ad.rows p.fst 5 1 1 p.snd.length p.snd,ad.mp false [Ck.s] (Ck.i i64) l]) λl=>U' l.head? λx=>U' (T.int?
 i64 x) λn=>U' (List.drop 1 l).head? λx=>U' (aN x) λp=>U' (List.drop 1 l).tail.head? λx=>U' ((List.drop 2 (List.drop 1 l)).head?.bind λz=>aL z) λl=>aa
 none (if(0:Int)<=a/\a < (↑b.length:Int) then some () else none) λx=>U' b[a.toNat]? λq=>U' q.head? λx=>U' (T.int? i64 x) λv=>U' (if(0:Int)<=a/\
 a < (↑d.length:Int) then some () else none) λx=>U' d[a.toNat]? λr=>U' r.head? λx=>U' (T.int? i64 x) λw=>U' (O (Key.call 59) [Y'0,I v,I
 w] [ad.box [V'1,V'2],ad.rows p.fst 5 1 1 p.snd.length p.snd,ad.mp false [Ck.s] (Ck.i i64) l]) λl=>U' l.head? λx=>U' (T.int? i64 x) λy=>U'
 (List.drop 1 l).head? λx=>U' (aN x) λp=>U' (List.drop 1 l).tail.head? λx=>U' ((List.drop 2 (List.drop 1 l)).head?.bind λz=>aL z) λl=>U' (O (Key.call 52) [AV.ref (Id.c
 0) 0,I y,I m] [ad.box [V'1,V'2],ad.rows p.fst 5 1 1 p.snd.length p.snd,ad.mp false [Ck.s] (Ck.i i64) l]) λl=>U' l.head? λx=>U' (T.int? i64 x) fun
 A=>U' (List.drop 1 l).head? λx=>U' (aN x) λp=>U' (List.drop 1 l).tail.head? λx=>U' ((List.drop 2 (List.drop 1 l)).head?.bind λz=>aL z) λl=>U' (O (Key.call
 53) [Y'0,AV.t (T.int i64 n),AV.t (T.int i64 A)] [ad.box [V'1,V'2],ad.rows p.fst 5 1 1 p.snd.length p.snd,ad.mp false [Ck.s] (Ck.i i64) l]) λl=>
 U' l.head? λx=>U' (T.int? i64 x) λn=>U' (List.drop 1 l).head? λx=>U' (aN x) λp=>U' (List.drop 1 l).tail.head? λx=>U' ((List.drop (2:Nat) (List.drop
 (1:Nat) l)).head?.bind λz=>aL z) λl=>O (bG ak 58 true 3 [(0,none),((1:Nat),none),((2:Nat),none),((7:Nat),none),((12:Nat),none),((13:Nat),none)] (3,(2002:Nat))) [AV.ref (Id.c (0
 :Nat)) 0,AV.t (T.ab (1:Nat) g b),AV.t (T.ab (1:Nat) h d),AV.t (T.int i64 n),AV.t (T.int i64 f),AV.t (T.int i64 (i64.wrap (a+ (1:Int))))] [ad.box [AV.own (Id.c (3:
 Nat)),AV.own (Id.c (2:Nat))],ad.dead,ad.mp false [Ck.s] (Ck.i i64) l,ad.rows p.fst 5 1 1 p.snd.length p.snd] else U' (if aX c3=true then some () else none) λx=>some [T.int i64 m,
 be e c3,T.ao,aH k]):=by kernel_rfl
theorem Jh(O:aq)(j:Int)(a:ByteArray)(k:Int)(a4:Int)(d:Bool)(e:List (List T))(f:Bool)(h:Nat)(m:List Row)(n:List (List T×T)):ax ak ann O (Key.call 46) [Y'0,(I j),(AV.t (T.str a)),(I k),(I a4),(AV.t (T.ab 1 d e))] [(ad.box [V'1,V'2]),(ad.rows f 5 1 1 h m),(ad.mp false [Ck.s] (Ck.i i64) n)]=
 (U' (O (Key.call 44) [I j] []) λl=>U' l.head? λx=>U' x.bc λs=>U' (if s.size+1<=4294967296 then some () else none) λx=>U' (if(s++ (ByteArray.mk #[(32:
 UInt8)])).size+a.size<=4294967296 then some () else none) λx=>U' (if(s++ (ByteArray.mk #[(32:UInt8)])++a).size+1<=4294967296 then some () else none) λx=>U' (O (Key.call 44) [I k] [])
 λl=>U' l.head? λx=>U' x.bc λb=>U' (if(s++ (ByteArray.mk #[(32:UInt8)])++a++ (ByteArray.mk #[(32:UInt8)])).size+b.size<=4294967296 then some () else none) λx=>aa
 none (if(s++ (ByteArray.mk #[(32:UInt8)])++a++ (ByteArray.mk #[(32:UInt8)])++b).size+1<=4294967296 then some () else none) λx=>U' (O (Key.call 44) [I a4] []) λl=>U' l.head? λx=>
 U' x.bc λg=>U' (if(s++ (ByteArray.mk #[(32:UInt8)])++a++ (ByteArray.mk #[(32:UInt8)])++b++ (ByteArray.mk #[(32:UInt8)])).size+g.size<=4294967296 then some () else none) λx=>
 O tK [Y'0,I j,AV.t (T.str a),I k,I a4,AV.t (T.ab 1 d e),AV.t (T.str (s++ (ByteArray.mk #[(32:UInt8)])++a++ (ByteArray.mk #[(32:UInt8)])++b++ (ByteArray.mk #[(32:UInt8)])++
 g)),AV.t (T.ab 1 d e),I (↑e.length:Int),I (0:Int)] [ad.box [V'1,V'2],ad.rows f 5 1 1 h m,ad.mp false [Ck.s] (Ck.i i64) n]):=by kernel_rfl
theorem Cj(O:aq)(j:Bool)(g:List (List T))(k:Bool)(h:List (List T))(d:Bool)(e:Int)(a:Int)(b:Bool)(m:Nat)(f:List Row)(o:List (List T×T)):ax ak ann O dP [(AV.t (T.ab 1 j g)),(AV.t (T.ab 1 k h)),(AV.fn 59 [Y'0] []),(AV.t (T.ae d)),(I e),(I a)] [(ad.box [V'1,V'2]),(ad.rows b 5 1 1 m f),(ad.mp false [Ck.s] (Ck.i i64) o)]=
 (bif decide (a < e) then U' (if(0:Int)<=a/\a < (↑g.length:Int) then some () else none) λx=>U' g[a.toNat]? λl=>U' l.head? λx=>U' (T.int? i64 x) λn=>aa
 none (if(0:Int)<=a/\a < (↑h.length:Int) then some () else none) λx=>U' h[a.toNat]? λl=>U' l.head? λx=>U' (T.int? i64 x) λq=>U' (O (Key.call 59) [AV.ref
 (Id.c 0) 0,I n,I q] [ad.box [V'1,V'2],ad.rows b 5 1 1 m f,ad.mp false [Ck.s] (Ck.i i64) o]) λl=>U' l.head? λx=>U' (T.int? i64 x) λn=>aa
 none (List.drop 1 l).head? λx=>U' (aN x) λp=>U' (List.drop 1 l).tail.head? λx=>U' ((List.drop 2 (List.drop 1 l)).head?.bind λz=>aL z) λl=>O dP [AV.t (T.ab 1 j g),
 AV.t (T.ab 1 k h),AV.fn 59 [Y'0] [],V'3,I e,I (i64.wrap (a+ (1:Int)))] [ad.box [V'4,V'2],ad.dead,ad.mp false [Ck.s] (Ck.i i64) l,
 ad.sl false 1 (d && false) [[T.int i64 n]],ad.rows p.fst 5 1 1 p.snd.length p.snd] else U' (if aX f=true then some () else none) λx=>some [T.ae d,be b f,T.ao,aH o]):=by kernel_rfl
theorem Js(O:aq)(d:Int)(a:Int)(e:Bool)(f:Nat)(g:List Row)(h:List (List T×T)):ax ak ann O (Key.call 52) [Y'0,(I d),(I a)] [(ad.box [V'1,V'2]),(ad.rows e 5 1 1 f g),(ad.mp false [Ck.s] (Ck.i i64) h)]=
 (U' (O (Key.call 81) [Y'0,I d,I (2:Int)] [ad.box [V'1,V'2],ad.rows e 5 1 1 f g,ad.mp false [Ck.s] (Ck.i i64) h]) λl=>U' l.head? λx=>aa
 none x.bool? λb=>U' (List.drop 1 l).head? λx=>U' (aN x) λp=>U' (List.drop 1 l).tail.head? λx=>U' ((List.drop 2 (List.drop 1 l)).head?.bind λz=>aL z) λl=>bif b
 then bif b then U' (if aX p.snd=true then some () else none) λx=>some [T.int i64 d,be p.fst p.snd,T.ao,aH l] else U' (O (Key.call 81) [Y'0,I d,I (1:Int)]
 [ad.box [V'1,V'2],ad.rows p.fst 5 1 1 p.snd.length p.snd,ad.mp false [Ck.s] (Ck.i i64) l]) λl=>U' l.head? λx=>U' x.bool? λb=>U' (List.drop 1 l).head?
 λx=>U' (aN x) λp=>U' (List.drop 1 l).tail.head? λx=>U' ((List.drop 2 (List.drop 1 l)).head?.bind λz=>aL z) λl=>bif b then bif b then U' (if aX p.snd=true then
 some () else none) λx=>some [T.int i64 a,be p.fst p.snd,T.ao,aH l] else U' (O (Key.call 46) [Y'0,I (4:Int),AV.t (T.str (ByteArray.mk #[])),I (0:Int),I (0:Int),AV.t
 (T.ab 1 false [[T.int i64 d],[T.int i64 a]])] [ad.box [V'1,V'2],ad.rows p.fst 5 1 1 p.snd.length p.snd,ad.mp false [Ck.s] (Ck.i i64) l]) λl=>U' l.head?
 λx=>U' (T.int? i64 x) λn=>U' (List.drop 1 l).head? λx=>U' (aN x) λp=>U' (List.drop 1 l).tail.head? λx=>U' ((List.drop 2 (List.drop 1 l)).head?.bind λz
 =>aL z) λl=>U' (if aX p.snd=true then some () else none) λx=>some [T.int i64 n,be p.fst p.snd,T.ao,aH l] else U' (O (Key.call 81) [Y'0,I a,I (2:Int)]
 [ad.box [V'1,V'2],ad.rows p.fst 5 1 1 p.snd.length p.snd,ad.mp false [Ck.s] (Ck.i i64) l]) λl=>U' l.head? λx=>U' x.bool? λb=>U' (List.drop 1 l).head?
 λx=>U' (aN x) λp=>U' (List.drop 1 l).tail.head? λx=>U' ((List.drop 2 (List.drop 1 l)).head?.bind λz=>aL z) λl=>bif b then U' (if aX p.snd=true then some () else
 none) λx=>some [T.int i64 a,be p.fst p.snd,T.ao,aH l] else U' (O (Key.call 46) [Y'0,I (4:Int),AV.t (T.str (ByteArray.mk #[])),I (0:Int),I (0:Int),AV.t (T.ab 1 false
 [[T.int i64 d],[T.int i64 a]])] [ad.box [V'1,V'2],ad.rows p.fst 5 1 1 p.snd.length p.snd,ad.mp false [Ck.s] (Ck.i i64) l]) λl=>U' l.head? λx=>aa
 none (T.int? i64 x) λn=>U' (List.drop 1 l).head? λx=>U' (aN x) λp=>U' (List.drop 1 l).tail.head? λx=>U' ((List.drop 2 (List.drop 1 l)).head?.bind λz=>aL z) fun
 l=>U' (if aX p.snd=true then some () else none) λx=>some [T.int i64 n,be p.fst p.snd,T.ao,aH l] else U' (O (Key.call 81) [Y'0,I a,I (1:Int)] [ad.box [AV.own
 (Id.c 1),V'2],ad.rows p.fst 5 1 1 p.snd.length p.snd,ad.mp false [Ck.s] (Ck.i i64) l]) λl=>U' l.head? λx=>U' x.bool? λb=>U' (List.drop 1 l).head? λx=>U'
 (aN x) λp=>U' (List.drop 1 l).tail.head? λx=>U' ((List.drop 2 (List.drop 1 l)).head?.bind λz=>aL z) λl=>bif b then bif b then U' (if aX p.snd=true then some () else none)
 λx=>some [T.int i64 d,be p.fst p.snd,T.ao,aH l] else U' (O (Key.call 81) [Y'0,I d,I (1:Int)] [ad.box [V'1,V'2],ad.rows p.fst 5 1 1 p.snd.length
 p.snd,ad.mp false [Ck.s] (Ck.i i64) l]) λl=>U' l.head? λx=>U' x.bool? λb=>U' (List.drop 1 l).head? λx=>U' (aN x) λp=>U' (List.drop 1 l).tail.head? λx
 =>U' ((List.drop 2 (List.drop 1 l)).head?.bind λz=>aL z) λl=>bif b then bif b then U' (if aX p.snd=true then some () else none) λx=>some [T.int i64 a,be p.fst p.snd,
 T.ao,aH l] else U' (O (Key.call 46) [Y'0,I (4:Int),AV.t (T.str (ByteArray.mk #[])),I (0:Int),I (0:Int),AV.t (T.ab 1 false [[T.int i64 d],[T.int i64 a]])] [ad.box
 [V'1,V'2],ad.rows p.fst 5 1 1 p.snd.length p.snd,ad.mp false [Ck.s] (Ck.i i64) l]) λl=>U' l.head? λx=>U' (T.int? i64 x) λn=>U' (List.drop 1
 l).head? λx=>U' (aN x) λp=>U' (List.drop 1 l).tail.head? λx=>U' ((List.drop 2 (List.drop 1 l)).head?.bind λz=>aL z) λl=>U' (if aX p.snd=true then some () else
 none) λx=>some [T.int i64 n,be p.fst p.snd,T.ao,aH l] else U' (O (Key.call 81) [Y'0,I a,I (2:Int)] [ad.box [V'1,V'2],ad.rows p.fst 5 1 1
 p.snd.length p.snd,ad.mp false [Ck.s] (Ck.i i64) l]) λl=>U' l.head? λx=>U' x.bool? λb=>U' (List.drop 1 l).head? λx=>U' (aN x) λp=>U' (List.drop 1
 l).tail.head? λx=>U' ((List.drop 2 (List.drop 1 l)).head?.bind λz=>aL z) λl=>bif b then U' (if aX p.snd=true then some () else none) λx=>some [T.int i64 a,be p.fst
 p.snd,T.ao,aH l] else U' (O (Key.call 46) [Y'0,I (4:Int),AV.t (T.str (ByteArray.mk #[])),I (0:Int),I (0:Int),AV.t (T.ab 1 false [[T.int i64 d],[T.int i64 a]])]
 [ad.box [V'1,V'2],ad.rows p.fst 5 1 1 p.snd.length p.snd,ad.mp false [Ck.s] (Ck.i i64) l]) λl=>U' l.head? λx=>U' (T.int? i64 x) λn=>U'
 (List.drop 1 l).head? λx=>U' (aN x) λp=>U' (List.drop 1 l).tail.head? λx=>U' ((List.drop 2 (List.drop 1 l)).head?.bind λz=>aL z) λl=>U' (if aX p.snd=true then
 some () else none) λx=>some [T.int i64 n,be p.fst p.snd,T.ao,aH l] else bif d==a then U' (if aX p.snd=true then some () else none) λx=>some [T.int i64 d,be p.fst
 p.snd,T.ao,aH l] else U' (O (Key.call 81) [Y'0,I d,I (1:Int)] [ad.box [V'1,V'2],ad.rows p.fst 5 1 1 p.snd.length p.snd,ad.mp false [Ck.s] (Ck.i i64) l])
 λl=>U' l.head? λx=>U' x.bool? λb=>U' (List.drop 1 l).head? λx=>U' (aN x) λp=>U' (List.drop 1 l).tail.head? λx=>U' ((List.drop 2 (List.drop 1
 l)).head?.bind λz=>aL z) λl=>bif b then bif b then U' (if aX p.snd=true then some () else none) λx=>some [T.int i64 a,be p.fst p.snd,T.ao,aH l] else U' (O (Key.call
 46) [Y'0,I (4:Int),AV.t (T.str (ByteArray.mk #[])),I (0:Int),I (0:Int),AV.t (T.ab 1 false [[T.int i64 d],[T.int i64 a]])] [ad.box [V'1,V'2],ad.rows
 p.fst 5 1 1 p.snd.length p.snd,ad.mp false [Ck.s] (Ck.i i64) l]) λl=>U' l.head? λx=>U' (T.int? i64 x) λn=>U' (List.drop 1 l).head? λx=>U' (aN x) λp=>
 U' (List.drop 1 l).tail.head? λx=>U' ((List.drop 2 (List.drop 1 l)).head?.bind λz=>aL z) λl=>U' (if aX p.snd=true then some () else none) λx=>some [T.int i64 n,be
 p.fst p.snd,T.ao,aH l] else U' (O (Key.call 81) [Y'0,I a,I (2:Int)] [ad.box [V'1,V'2],ad.rows p.fst 5 1 1 p.snd.length p.snd,ad.mp false [Ck.s] (Ck.i
 i64) l]) λl=>U' l.head? λx=>U' x.bool? λb=>U' (List.drop 1 l).head? λx=>U' (aN x) λp=>U' (List.drop 1 l).tail.head? λx=>U' ((List.drop 2
 (List.drop 1 l)).head?.bind λz=>aL z) λl=>bif b then U' (if aX p.snd=true then some () else none) λx=>some [T.int i64 a,be p.fst p.snd,T.ao,aH l] else U' (O (Key.call
 46) [Y'0,I (4:Int),AV.t (T.str (ByteArray.mk #[])),I (0:Int),I (0:Int),AV.t (T.ab 1 false [[T.int i64 d],[T.int i64 a]])] [ad.box [V'1,V'2],ad.rows
 p.fst 5 1 1 p.snd.length p.snd,ad.mp false [Ck.s] (Ck.i i64) l]) λl=>U' l.head? λx=>U' (T.int? i64 x) λn=>U' (List.drop 1 l).head? λx=>U' (aN x) λp=>
 U' (List.drop 1 l).tail.head? λx=>U' ((List.drop 2 (List.drop 1 l)).head?.bind λz=>aL z) λl=>U' (if aX p.snd=true then some () else none) λx=>some [T.int i64 n,be
 p.fst p.snd,T.ao,aH l]):=by kernel_rfl
theorem BV(O:aq)(A:Bool)(g:List (List T))(w:Int)(a:Int)(b:Bool)(h:List (List T))(d:Bool)(j:List (List T))(e:Bool)(k:List (List T))(m:ByteArray)(f:Bool)(o:List (List T))(C:Bool)(H:List (List T))(D:Bool)(c3:List (List T))(E:Bool)(G:Nat)(J:List Row)(K:List (List T×T))(q:Int)(y:Bool)(B:List (List T))(r:Int)(u:Int)(v:ByteArray)(F:Bool)(c7:List (List T)):ax ak ann O og [Y'0,Y'6,V'7,(AV.t (T.ab 1 A g)),(I w),(I a)] [(ad.box [Y'1,(AV.t (T.ab 3 b h)),(AV.t (T.ab 5 d j)),(AV.t (T.ab 1 e k)),(AV.t (T.str m)),(AV.t (T.ab 1 f o)),V'2,V'3]),(ad.box [V'4,V'5]),(ad.sl false 1 C H),(ad.sl false 1 D c3),(ad.rows E 5 1 1 G J),(ad.mp false [Ck.s] (Ck.i i64) K),(ad.box [(I q),(AV.t (T.ab 1 y B)),(I r),(I u),(AV.t (T.str v))]),(ad.sl false 1 F c7)]=
 (bif decide (a < w) then U' (if(0:Int)<=a/\a < (↑g.length:Int) then some () else none) λx=>U' g[a.toNat]? λl=>U' l.head? λx=>U' (T.int? i64 x) fun
 n=>U' (if(0:Int)<=n/\n < (↑c3.length:Int) then some () else none) λx=>U' c3[n.toNat]? λl=>U' l.head? λx=>U' (T.int? i64 x) λn=>U' (bp 8 (c7.length+
 [[T.int i64 n]].length)) λx=>O og [Y'0,Y'6,V'7,AV.t (T.ab 1 A g),I w,I (i64.wrap (a+ (1:Int)))] [ad.box [Y'1,AV.t
 (T.ab 3 b h),AV.t (T.ab 5 d j),AV.t (T.ab 1 e k),AV.t (T.str m),AV.t (T.ab 1 f o),V'2,V'3],ad.box [V'4,V'5],ad.sl false 1 C
 H,ad.sl false 1 D c3,ad.rows E 5 1 1 G J,ad.mp false [Ck.s] (Ck.i i64) K,ad.box [I q,AV.t (T.ab 1 y B),I r,I u,AV.t (T.str v)],ad.sl false 1 (F && false) (c7++ [[T.int
 i64 n]])] else U' (O (Key.call 46) [Y'0,I q,AV.t (T.str v),I r,I u,AV.t (T.ab 1 F c7)] [ad.box [V'1,V'2],ad.rows E 5 1 1 G J,ad.mp false
 [Ck.s] (Ck.i i64) K]) λl=>U' l.head? λx=>U' (T.int? i64 x) λn=>U' (List.drop 1 l).head? λx=>U' (aN x) λp=>U' (List.drop 1 l).tail.head? λx=>
 U' ((List.drop 2 (List.drop 1 l)).head?.bind λz=>aL z) λl=>U' (if aX p.snd=true then some () else none) λx=>some [T.int i64 n,T.ao,T.ab 3 b h,T.ab 5 d j,
 T.ab 1 e k,T.str m,T.ab 1 f o,T.ao,T.ao,be p.fst p.snd,T.ao,T.ab 1 C H,T.ab 1 D c3,aH l]):=by kernel_rfl
theorem Je(O:aq)(a:ByteArray)(c:Bool)(d:List (List T))(e:Int)(f:ByteArray):ax ak ann O (Key.call 42) [(AV.agg [(AV.t (T.str a)),(AV.t (T.ab 1 c d)),(I e)]),(AV.t (T.ptr [(T.str f)]))] []=
 (U' (O (Key.call 43) [AV.t (T.str a),AV.t (T.str f)] []) λl=>U' l.head? λx=>U' x.bc λs=>U' l.tail.head? λx=>U' x.bool? λb=>aa (some (bif b then !s.toList==
 (ByteArray.mk #[]).toList else false)) (if(0:Int)<=(0:Int)/\(0:Int) < (↑s.size:Int) then some () else none) λx=>aa (some (bif b then !s.toList== (ByteArray.mk #[]).toList else false)) s.data.toList[0]?
 λx=>aa (some (bif bif b then !s.toList== (ByteArray.mk #[]).toList else false then decide ((↑x.toNat:Int)>=(48:Int)) else false)) (if(0:Int)<=(0:Int)/\(0:Int) < (↑s.size:Int) then some () else none)
 λh=>aa (some (bif bif b then !s.toList== (ByteArray.mk #[]).toList else false then decide ((↑x.toNat:Int)>=(48:Int)) else false)) s.data.toList[0]? λg=>some [T.bool (bif bif bif b then !s.toList==
 (ByteArray.mk #[]).toList else false then decide ((↑x.toNat:Int)>=(48:Int)) else false then decide ((↑g.toNat:Int)<=(57:Int)) else false)]):=by kernel_rfl
theorem IK(O:aq)(D:Bool)(E:Int)(q:Int)(b:Bool)(f:List (List T))(d:Bool)(g:List (List T))(e:Bool)(h:List (List T))(a:ByteArray)(j:Bool)(k:List (List T))(y:Bool)(J:List (List T))(A:Bool)(c3:List (List T))(B:Bool)(H:Nat)(F:List Row)(K:List (List T×T))(r:Int)(o:Bool)(u:List (List T))(v:Int)(w:Int)(m:ByteArray)(C:Bool)(c8:List (List T)):ax ak ann O ij [Y'6,Y'7,(AV.t (T.ae D)),V'8,(I E),(I q)] [(ad.box [Y'1,(AV.t (T.ab 3 b f)),(AV.t (T.ab 5 d g)),(AV.t (T.ab 1 e h)),(AV.t (T.str a)),(AV.t (T.ab 1 j k)),V'2,V'3]),(ad.box [V'4,V'5]),(ad.sl false 1 y J),(ad.sl false 1 A c3),(ad.rows B 5 1 1 H F),(ad.mp false [Ck.s] (Ck.i i64) K),(ad.box [Y'0]),(ad.box [(I r),(AV.t (T.ab 1 o u)),(I v),(I w),(AV.t (T.str m))]),(ad.sl false 1 C c8)]=
 (bif decide (q < E) then U' (O (Key.call 47) [AV.agg [AV.t (T.ab 3 b f),AV.t (T.ab 5 d g),AV.t (T.ab 1 e h)],AV.t (T.str m)] []) λl=>U' l.head? λx=>U' (T.int?
 i64 x) λn=>U' (O (Key.call 44) [I n] []) λl=>U' l.head? λx=>U' x.bc λs=>U' (if a.size+s.size<=4294967296 then some () else none) λx=>U' (if(a++
 s).size+1<=4294967296 then some () else none) λx=>U' (O (Key.call 44) [I q] []) λl=>U' l.head? λx=>U' x.bc λG=>U' (if(a++s++ (ByteArray.mk #[(95:UInt8)])).size
 +G.size<=4294967296 then some () else none) λx=>U' (O (Key.call 46) [Y'0,I (9:Int),AV.t (T.str (a++s++ (ByteArray.mk #[(95:UInt8)])++G)),I (0:Int),I (0:Int),AV.t (T.ab
 1 C c8)] [ad.box [V'1,V'2],ad.rows B 5 1 1 H F,ad.mp false [Ck.s] (Ck.i i64) K]) λl=>U' l.head? λx=>U' (T.int? i64 x) λn=>U'
 (List.drop 1 l).head? λx=>U' (aN x) λp=>U' (List.drop 1 l).tail.head? λx=>U' ((List.drop 2 (List.drop 1 l)).head?.bind λz=>aL z) λl=>O ij [Y'6,AV.ref
 (Id.c 7) 0,V'8,AV.t (T.ab 1 C c8),I E,I (i64.wrap (q+ (1:Int)))] [ad.box [Y'1,AV.t (T.ab 3 b f),AV.t (T.ab 5 d g),AV.t (T.ab 1 e h),AV.t (T.str
 a),AV.t (T.ab 1 j k),V'2,V'3],ad.box [V'9,V'5],ad.sl false 1 y J,ad.sl false 1 A c3,ad.dead,ad.mp false [Ck.s] (Ck.i i64) l,ad.box
 [Y'0],ad.box [I r,AV.t (T.ab 1 o u),I v,I w,AV.t (T.str m)],ad.sl false 1 (D && false) [[T.int i64 n]],ad.rows p.fst 5 1 1 p.snd.length p.snd] else U' (if aX
 F=true then some () else none) λx=>some [T.ae D,T.ao,T.ab 3 b f,T.ab 5 d g,T.ab 1 e h,T.str a,T.ab 1 j k,T.ao,T.ao,be B F,T.ao,T.ab 1 y J,T.ab 1
 A c3,aH K]):=by kernel_rfl
theorem Ji(O:aq)(a:Bool)(b:List (List T))(c:Bool)(e:List (List T))(d:Bool)(f:List (List T))(g:ByteArray):ax ak ann O (Key.call 47) [(AV.agg [(AV.t (T.ab 3 a b)),(AV.t (T.ab 5 c e)),(AV.t (T.ab 1 d f))]),(AV.t (T.str g))] []=
 (U' (O (Key.call 77) [AV.t (T.ab 3 a b),AV.fn 80 [] [AV.t (T.ptr [T.str g])]] []) λl=>U' l.head? λx=>U' (T.int? i64 x) λn=>some [T.int i64 n]):=by kernel_rfl
theorem BO(O:aq)(D:Bool)(E:Int)(q:Int)(b:Bool)(f:List (List T))(d:Bool)(g:List (List T))(e:Bool)(h:List (List T))(a:ByteArray)(j:Bool)(k:List (List T))(y:Bool)(J:List (List T))(A:Bool)(c3:List (List T))(K:List (List T×T))(r:Int)(o:Bool)(u:List (List T))(v:Int)(w:Int)(m:ByteArray)(B:Bool)(c8:List (List T))(C:Bool)(H:Nat)(F:List Row):ax ak ann O ij [Y'6,Y'7,V'8,(AV.t (T.ae D)),(I E),(I q)] [(ad.box [Y'1,(AV.t (T.ab 3 b f)),(AV.t (T.ab 5 d g)),(AV.t (T.ab 1 e h)),(AV.t (T.str a)),(AV.t (T.ab 1 j k)),V'2,V'3]),(ad.box [V'9,V'5]),(ad.sl false 1 y J),(ad.sl false 1 A c3),(Go.Aev.ad.dead),(ad.mp false [Ck.s] (Ck.i i64) K),(ad.box [Y'0]),(ad.box [(I r),(AV.t (T.ab 1 o u)),(I v),(I w),(AV.t (T.str m))]),(ad.sl false 1 B c8),(ad.rows C 5 1 1 H F)]=
 (bif decide (q < E) then U' (O (Key.call 47) [AV.agg [AV.t (T.ab 3 b f),AV.t (T.ab 5 d g),AV.t (T.ab 1 e h)],AV.t (T.str m)] []) λl=>U' l.head? λx=>U' (T.int?
 i64 x) λn=>U' (O (Key.call 44) [I n] []) λl=>U' l.head? λx=>U' x.bc λs=>U' (if a.size+s.size<=4294967296 then some () else none) λx=>U' (if(a++
 s).size+1<=4294967296 then some () else none) λx=>U' (O (Key.call 44) [I q] []) λl=>U' l.head? λx=>U' x.bc λG=>U' (if(a++s++ (ByteArray.mk #[(95:UInt8)])).size
 +G.size<=4294967296 then some () else none) λx=>U' (O (Key.call 46) [Y'0,I (9:Int),AV.t (T.str (a++s++ (ByteArray.mk #[(95:UInt8)])++G)),I (0:Int),I (0:Int),AV.t (T.ab
 1 D [])] [ad.box [V'1,V'2],ad.rows C 5 1 1 H F,ad.mp false [Ck.s] (Ck.i i64) K]) λl=>U' l.head? λx=>U' (T.int? i64 x) λn=>U'
 (List.drop 1 l).head? λx=>U' (aN x) λp=>U' (List.drop 1 l).tail.head? λx=>U' ((List.drop 2 (List.drop 1 l)).head?.bind λz=>aL z) λl=>U' (bp 8 (c8.length+ [[T.int
 i64 n]].length)) λx=>O ij [Y'6,Y'7,V'8,AV.t (T.ae D),I E,I (i64.wrap (q+ (1:Int)))] [ad.box [Y'1,AV.t (T.ab 3 b f),
 AV.t (T.ab 5 d g),AV.t (T.ab 1 e h),AV.t (T.str a),AV.t (T.ab 1 j k),V'2,V'3],ad.box [V'9,V'5],ad.sl false 1 y J,ad.sl false 1 A
 c3,ad.dead,ad.mp false [Ck.s] (Ck.i i64) l,ad.box [Y'0],ad.box [I r,AV.t (T.ab 1 o u),I v,I w,AV.t (T.str m)],ad.sl false 1 (B && false) (c8++ [[T.int i64
 n]]),ad.rows p.fst 5 1 1 p.snd.length p.snd] else U' (if aX F=true then some () else none) λx=>some [T.ab 1 B c8,T.ao,T.ab 3 b f,T.ab 5 d g,T.ab 1 e h,T.str a,
 T.ab 1 j k,T.ao,T.ao,be C F,T.ao,T.ab 1 y J,T.ab 1 A c3,aH K]):=by kernel_rfl
theorem Jp(O:aq)(r:Int)(y:Int)(u:Int)(a:Bool)(f:List (List T))(b:Bool)(g:List (List T))(d:Bool)(h:List (List T))(j:ByteArray)(e:Bool)(k:List (List T))(m:Bool)(A:List (List T))(o:Bool)(B:List (List T))(q:Bool)(w:Nat)(v:List Row)(c7:List (List T×T)):ax ak ann O (Key.call 49) [(I r),(I y),Y'0,Y'1] [(ad.box [Y'2]),(ad.box [(I u)]),(ad.box [Y'3,(AV.t (T.ab 3 a f)),(AV.t (T.ab 5 b g)),(AV.t (T.ab 1 d h)),(AV.t (T.str j)),(AV.t (T.ab 1 e k)),V'4,V'5]),(ad.box [V'6,V'7]),(ad.sl false 1 m A),(ad.sl false 1 o B),(ad.rows q 5 1 1 w v),(ad.mp false [Ck.s] (Ck.i i64) c7)]=
 (bif r==y then U' (if aX v=true then some () else none) λx=>some [T.int i64 r,T.ao,T.int i64 u,T.ao,T.ab 3 a f,T.ab 5 b g,T.ab 1 d h,T.str j,
 T.ab 1 e k,T.ao,T.ao,be q v,T.ao,T.ab 1 m A,T.ab 1 o B,aH c7] else U' (O (Key.call 46) [Y'0,I (7:Int),AV.t (T.str (ByteArray.mk #[])),I (0:Int),I (0:Int),
 AV.t (T.ab 1 false [[T.int i64 u],[T.int i64 r],[T.int i64 y]])] [ad.box [V'1,V'2],ad.rows q 5 1 1 w v,ad.mp false [Ck.s] (Ck.i i64) c7]) λl=>
 U' l.head? λx=>U' (T.int? i64 x) λn=>U' (List.drop 1 l).head? λx=>U' (aN x) λp=>U' (List.drop 1 l).tail.head? λx=>U' ((List.drop 2 (List.drop 1
 l)).head?.bind λz=>aL z) λl=>U' (if aX p.snd=true then some () else none) λx=>some [T.int i64 n,T.ao,T.int i64 u,T.ao,T.ab 3 a f,T.ab 5 b g,T.ab 1
 d h,T.str j,T.ab 1 e k,T.ao,T.ao,be p.fst p.snd,T.ao,T.ab 1 m A,T.ab 1 o B,aH l]):=by kernel_rfl
theorem Cl(O:aq)(C:Bool)(A:List (List T))(D:Bool)(B:List (List T))(w:Int)(a:Int)(L:Int)(b:Bool)(g:List (List T))(d:Bool)(h:List (List T))(e:Bool)(j:List (List T))(k:ByteArray)(f:Bool)(m:List (List T))(o:Bool)(M:List (List T))(q:Bool)(N:List (List T))(c7:List (List T×T))(r:Bool)(c8:List (List T))(u:Bool)(K:Nat)(y:List Row):ax ak ann O oq [(AV.t (T.ab 1 C A)),(AV.t (T.ab 1 D B)),(AV.fn 49 [] [Y'0,Y'1]),V'8,(I w),(I a)] [(ad.box [Y'2]),(ad.box [(I L)]),(ad.box [Y'3,(AV.t (T.ab 3 b g)),(AV.t (T.ab 5 d h)),(AV.t (T.ab 1 e j)),(AV.t (T.str k)),(AV.t (T.ab 1 f m)),V'4,V'5]),(ad.box [V'9,V'7]),(ad.sl false 1 o M),(ad.sl false 1 q N),(Go.Aev.ad.dead),(ad.mp false [Ck.s] (Ck.i i64) c7),(ad.sl false 1 r c8),(ad.rows u 5 1 1 K y)]=
 (bif decide (a < w) then U' (if(0:Int)<=a/\a < (↑A.length:Int) then some () else none) λx=>U' A[a.toNat]? λl=>U' l.head? λx=>U' (T.int? i64 x) λn=>aa
 none (if(0:Int)<=a/\a < (↑B.length:Int) then some () else none) λx=>U' B[a.toNat]? λl=>U' l.head? λx=>U' (T.int? i64 x) λP=>U' (O (Key.call 49) [I n,I
 P,Y'0,Y'1] [ad.box [Y'2],ad.box [I L],ad.box [Y'3,AV.t (T.ab 3 b g),AV.t (T.ab 5 d h),AV.t (T.ab 1 e j),AV.t (T.str k),AV.t
 (T.ab 1 f m),V'4,V'5],ad.box [V'6,V'7],ad.sl false 1 o M,ad.sl false 1 q N,ad.rows u 5 1 1 K y,ad.mp false [Ck.s] (Ck.i i64) c7]) fun
 l=>U' l.head? λx=>U' (T.int? i64 x) λn=>U' (List.drop 1 l).head? λx=>U' (List.drop 1 (List.drop 1 l)).head? λx=>U' (T.int? i64 x) λQ=>U'
 (List.drop 1 (List.drop 1 (List.drop 1 l))).head? λx=>U' (List.drop 1 (List.drop 1 (List.drop 1 l))).tail.head? λx=>U' (T.an 3 x) λp=>U' (List.drop 1 (List.drop 1 (List.drop 1
 l))).tail.tail.head? λx=>U' (T.an 5 x) λE=>U' (List.drop 1 (List.drop 1 (List.drop 1 l))).tail.tail.tail.head? λx=>U' (T.an 1 x) λF=>U' (List.drop 1 (List.drop 1
 (List.drop 1 l))).tail.tail.tail.tail.head? λx=>U' x.bc λs=>U' (List.drop 1 (List.drop 1 (List.drop 1 l))).tail.tail.tail.tail.tail.head? λx=>U' (T.an 1 x) λG=>U'
 (List.drop 1 (List.drop 1 (List.drop 1 l))).tail.tail.tail.tail.tail.tail.head? λx=>U' (List.drop 1 (List.drop 1 (List.drop 1 l))).tail.tail.tail.tail.tail.tail.tail.head? λx=>U' (List.drop 8
 (List.drop 1 (List.drop 1 (List.drop 1 l)))).head? λx=>U' (aN x) λv=>U' (List.drop 8 (List.drop 1 (List.drop 1 (List.drop 1 l)))).tail.head? λx=>U' ((List.drop 2 (List.drop 8
 (List.drop 1 (List.drop 1 (List.drop 1 l))))).head?.bind λz=>T.an 1 z) λH=>U' ((List.drop 2 (List.drop 8 (List.drop 1 (List.drop 1 (List.drop 1 l))))).tail.head?.bind λz=>T.an 1 z) λJ=>
 U' ((List.drop 2 (List.drop 8 (List.drop 1 (List.drop 1 (List.drop 1 l))))).tail.tail.head?.bind λz=>aL z) λl=>U' (bp 8 (c8.length+ [[T.int i64 n]].length)) λx=>O oq [AV.t
 (T.ab 1 C A),AV.t (T.ab 1 D B),AV.fn 49 [] [Y'0,Y'1],V'8,I w,AV.t (T.int i64 (i64.wrap (a+ (1:Int))))] [ad.box [Y'2],ad.box [I
 Q],ad.box [Y'3,AV.t (T.ab 3 p.fst p.snd),AV.t (T.ab 5 E.fst E.snd),AV.t (T.ab 1 F.fst F.snd),AV.t (T.str s),AV.t (T.ab 1 G.fst G.snd),V'4,V'5],ad.box
 [V'9,V'7],ad.sl false 1 H.fst H.snd,ad.sl false 1 J.fst J.snd,ad.dead,ad.mp false [Ck.s] (Ck.i i64) l,ad.sl false 1 (r && false) (c8++ [[T.int i64 n]]),
 ad.rows v.fst 5 1 1 v.snd.length v.snd] else U' (if aX y=true then some () else none) λx=>some [T.ab 1 r c8,T.ao,T.int i64 L,T.ao,T.ab 3 b g,T.ab 5 d h,T.ab
 1 e j,T.str k,T.ab 1 f m,T.ao,T.ao,be u y,T.ao,T.ab 1 o M,T.ab 1 q N,aH c7]):=by kernel_rfl
theorem Cm(O:aq)(j:Bool)(g:List (List T))(k:Bool)(h:List (List T))(e:Int)(a:Int)(o:List (List T×T))(b:Bool)(c3:List (List T))(d:Bool)(m:Nat)(f:List Row):ax ak ann O dP [(AV.t (T.ab 1 j g)),(AV.t (T.ab 1 k h)),(AV.fn 52 [Y'0] []),V'3,(I e),(I a)] [(ad.box [V'4,V'2]),(Go.Aev.ad.dead),(ad.mp false [Ck.s] (Ck.i i64) o),(ad.sl false 1 b c3),(ad.rows d 5 1 1 m f)]=
 (bif decide (a < e) then U' (if(0:Int)<=a/\a < (↑g.length:Int) then some () else none) λx=>U' g[a.toNat]? λl=>U' l.head? λx=>U' (T.int? i64 x) λn=>aa
 none (if(0:Int)<=a/\a < (↑h.length:Int) then some () else none) λx=>U' h[a.toNat]? λl=>U' l.head? λx=>U' (T.int? i64 x) λq=>U' (O (Key.call 52) [AV.ref
 (Id.c 0) 0,I n,I q] [ad.box [V'1,V'2],ad.rows d 5 1 1 m f,ad.mp false [Ck.s] (Ck.i i64) o]) λl=>U' l.head? λx=>U' (T.int? i64 x) λn=>aa
 none (List.drop 1 l).head? λx=>U' (aN x) λp=>U' (List.drop 1 l).tail.head? λx=>U' ((List.drop 2 (List.drop 1 l)).head?.bind λz=>aL z) λl=>U' (bp 8 (c3.length+
 [[T.int i64 n]].length)) λx=>O dP [AV.t (T.ab 1 j g),AV.t (T.ab 1 k h),AV.fn 52 [Y'0] [],V'3,I e,I (i64.wrap (a+ (1:Int)))] [ad.box [AV.own (Id.c
 4),V'2],ad.dead,ad.mp false [Ck.s] (Ck.i i64) l,ad.sl false 1 (b && false) (c3++ [[T.int i64 n]]),ad.rows p.fst 5 1 1 p.snd.length p.snd] else U' (if aX f=true then
 some () else none) λx=>some [T.ab 1 b c3,be d f,T.ao,aH o]):=by kernel_rfl
theorem Jt(O:aq)(d:Int)(a:Int)(e:Bool)(f:Nat)(g:List Row)(h:List (List T×T)):ax ak ann O (Key.call 53) [Y'0,(I d),(I a)] [(ad.box [V'1,V'2]),(ad.rows e 5 1 1 f g),(ad.mp false [Ck.s] (Ck.i i64) h)]=
 (U' (O (Key.call 81) [Y'0,I d,I (1:Int)] [ad.box [V'1,V'2],ad.rows e 5 1 1 f g,ad.mp false [Ck.s] (Ck.i i64) h]) λl=>U' l.head? λx=>aa
 none x.bool? λb=>U' (List.drop 1 l).head? λx=>U' (aN x) λp=>U' (List.drop 1 l).tail.head? λx=>U' ((List.drop 2 (List.drop 1 l)).head?.bind λz=>aL z) λl=>bif b
 then bif b then U' (if aX p.snd=true then some () else none) λx=>some [T.int i64 d,be p.fst p.snd,T.ao,aH l] else U' (O (Key.call 81) [Y'0,I d,I (2:Int)]
 [ad.box [V'1,V'2],ad.rows p.fst 5 1 1 p.snd.length p.snd,ad.mp false [Ck.s] (Ck.i i64) l]) λl=>U' l.head? λx=>U' x.bool? λb=>U' (List.drop 1 l).head?
 λx=>U' (aN x) λp=>U' (List.drop 1 l).tail.head? λx=>U' ((List.drop 2 (List.drop 1 l)).head?.bind λz=>aL z) λl=>bif b then bif b then U' (if aX p.snd=true then
 some () else none) λx=>some [T.int i64 a,be p.fst p.snd,T.ao,aH l] else U' (O (Key.call 46) [Y'0,I (5:Int),AV.t (T.str (ByteArray.mk #[])),I (0:Int),I (0:Int),AV.t
 (T.ab 1 false [[T.int i64 d],[T.int i64 a]])] [ad.box [V'1,V'2],ad.rows p.fst 5 1 1 p.snd.length p.snd,ad.mp false [Ck.s] (Ck.i i64) l]) λl=>U' l.head?
 λx=>U' (T.int? i64 x) λn=>U' (List.drop 1 l).head? λx=>U' (aN x) λp=>U' (List.drop 1 l).tail.head? λx=>U' ((List.drop 2 (List.drop 1 l)).head?.bind λz
 =>aL z) λl=>U' (if aX p.snd=true then some () else none) λx=>some [T.int i64 n,be p.fst p.snd,T.ao,aH l] else U' (O (Key.call 81) [Y'0,I a,I (1:Int)]
 [ad.box [V'1,V'2],ad.rows p.fst 5 1 1 p.snd.length p.snd,ad.mp false [Ck.s] (Ck.i i64) l]) λl=>U' l.head? λx=>U' x.bool? λb=>U' (List.drop 1 l).head?
 λx=>U' (aN x) λp=>U' (List.drop 1 l).tail.head? λx=>U' ((List.drop 2 (List.drop 1 l)).head?.bind λz=>aL z) λl=>bif b then U' (if aX p.snd=true then some () else
 none) λx=>some [T.int i64 a,be p.fst p.snd,T.ao,aH l] else U' (O (Key.call 46) [Y'0,I (5:Int),AV.t (T.str (ByteArray.mk #[])),I (0:Int),I (0:Int),AV.t (T.ab 1 false
 [[T.int i64 d],[T.int i64 a]])] [ad.box [V'1,V'2],ad.rows p.fst 5 1 1 p.snd.length p.snd,ad.mp false [Ck.s] (Ck.i i64) l]) λl=>U' l.head? λx=>aa
 none (T.int? i64 x) λn=>U' (List.drop 1 l).head? λx=>U' (aN x) λp=>U' (List.drop 1 l).tail.head? λx=>U' ((List.drop 2 (List.drop 1 l)).head?.bind λz=>aL z) fun
 l=>U' (if aX p.snd=true then some () else none) λx=>some [T.int i64 n,be p.fst p.snd,T.ao,aH l] else U' (O (Key.call 81) [Y'0,I a,I (2:Int)] [ad.box [AV.own
 (Id.c 1),V'2],ad.rows p.fst 5 1 1 p.snd.length p.snd,ad.mp false [Ck.s] (Ck.i i64) l]) λl=>U' l.head? λx=>U' x.bool? λb=>U' (List.drop 1 l).head? λx=>U'
 (aN x) λp=>U' (List.drop 1 l).tail.head? λx=>U' ((List.drop 2 (List.drop 1 l)).head?.bind λz=>aL z) λl=>bif b then bif b then U' (if aX p.snd=true then some () else none)
 λx=>some [T.int i64 d,be p.fst p.snd,T.ao,aH l] else U' (O (Key.call 81) [Y'0,I d,I (2:Int)] [ad.box [V'1,V'2],ad.rows p.fst 5 1 1 p.snd.length
 p.snd,ad.mp false [Ck.s] (Ck.i i64) l]) λl=>U' l.head? λx=>U' x.bool? λb=>U' (List.drop 1 l).head? λx=>U' (aN x) λp=>U' (List.drop 1 l).tail.head? λx
 =>U' ((List.drop 2 (List.drop 1 l)).head?.bind λz=>aL z) λl=>bif b then bif b then U' (if aX p.snd=true then some () else none) λx=>some [T.int i64 a,be p.fst p.snd,
 T.ao,aH l] else U' (O (Key.call 46) [Y'0,I (5:Int),AV.t (T.str (ByteArray.mk #[])),I (0:Int),I (0:Int),AV.t (T.ab 1 false [[T.int i64 d],[T.int i64 a]])] [ad.box
 [V'1,V'2],ad.rows p.fst 5 1 1 p.snd.length p.snd,ad.mp false [Ck.s] (Ck.i i64) l]) λl=>U' l.head? λx=>U' (T.int? i64 x) λn=>U' (List.drop 1
 l).head? λx=>U' (aN x) λp=>U' (List.drop 1 l).tail.head? λx=>U' ((List.drop 2 (List.drop 1 l)).head?.bind λz=>aL z) λl=>U' (if aX p.snd=true then some () else
 none) λx=>some [T.int i64 n,be p.fst p.snd,T.ao,aH l] else U' (O (Key.call 81) [Y'0,I a,I (1:Int)] [ad.box [V'1,V'2],ad.rows p.fst 5 1 1
 p.snd.length p.snd,ad.mp false [Ck.s] (Ck.i i64) l]) λl=>U' l.head? λx=>U' x.bool? λb=>U' (List.drop 1 l).head? λx=>U' (aN x) λp=>U' (List.drop 1
 l).tail.head? λx=>U' ((List.drop 2 (List.drop 1 l)).head?.bind λz=>aL z) λl=>bif b then U' (if aX p.snd=true then some () else none) λx=>some [T.int i64 a,be p.fst
 p.snd,T.ao,aH l] else U' (O (Key.call 46) [Y'0,I (5:Int),AV.t (T.str (ByteArray.mk #[])),I (0:Int),I (0:Int),AV.t (T.ab 1 false [[T.int i64 d],[T.int i64 a]])]
 [ad.box [V'1,V'2],ad.rows p.fst 5 1 1 p.snd.length p.snd,ad.mp false [Ck.s] (Ck.i i64) l]) λl=>U' l.head? λx=>U' (T.int? i64 x) λn=>U'
 (List.drop 1 l).head? λx=>U' (aN x) λp=>U' (List.drop 1 l).tail.head? λx=>U' ((List.drop 2 (List.drop 1 l)).head?.bind λz=>aL z) λl=>U' (if aX p.snd=true then
 some () else none) λx=>some [T.int i64 n,be p.fst p.snd,T.ao,aH l] else bif d==a then U' (if aX p.snd=true then some () else none) λx=>some [T.int i64 d,be p.fst
 p.snd,T.ao,aH l] else U' (O (Key.call 81) [Y'0,I d,I (2:Int)] [ad.box [V'1,V'2],ad.rows p.fst 5 1 1 p.snd.length p.snd,ad.mp false [Ck.s] (Ck.i i64) l])
 λl=>U' l.head? λx=>U' x.bool? λb=>U' (List.drop 1 l).head? λx=>U' (aN x) λp=>U' (List.drop 1 l).tail.head? λx=>U' ((List.drop 2 (List.drop 1
 l)).head?.bind λz=>aL z) λl=>bif b then bif b then U' (if aX p.snd=true then some () else none) λx=>some [T.int i64 a,be p.fst p.snd,T.ao,aH l] else U' (O (Key.call
 46) [Y'0,I (5:Int),AV.t (T.str (ByteArray.mk #[])),I (0:Int),I (0:Int),AV.t (T.ab 1 false [[T.int i64 d],[T.int i64 a]])] [ad.box [V'1,V'2],ad.rows
 p.fst 5 1 1 p.snd.length p.snd,ad.mp false [Ck.s] (Ck.i i64) l]) λl=>U' l.head? λx=>U' (T.int? i64 x) λn=>U' (List.drop 1 l).head? λx=>U' (aN x) λp=>
 U' (List.drop 1 l).tail.head? λx=>U' ((List.drop 2 (List.drop 1 l)).head?.bind λz=>aL z) λl=>U' (if aX p.snd=true then some () else none) λx=>some [T.int i64 n,be
 p.fst p.snd,T.ao,aH l] else U' (O (Key.call 81) [Y'0,I a,I (1:Int)] [ad.box [V'1,V'2],ad.rows p.fst 5 1 1 p.snd.length p.snd,ad.mp false [Ck.s] (Ck.i
 i64) l]) λl=>U' l.head? λx=>U' x.bool? λb=>U' (List.drop 1 l).head? λx=>U' (aN x) λp=>U' (List.drop 1 l).tail.head? λx=>U' ((List.drop 2
 (List.drop 1 l)).head?.bind λz=>aL z) λl=>bif b then U' (if aX p.snd=true then some () else none) λx=>some [T.int i64 a,be p.fst p.snd,T.ao,aH l] else U' (O (Key.call
 46) [Y'0,I (5:Int),AV.t (T.str (ByteArray.mk #[])),I (0:Int),I (0:Int),AV.t (T.ab 1 false [[T.int i64 d],[T.int i64 a]])] [ad.box [V'1,V'2],ad.rows
 p.fst 5 1 1 p.snd.length p.snd,ad.mp false [Ck.s] (Ck.i i64) l]) λl=>U' l.head? λx=>U' (T.int? i64 x) λn=>U' (List.drop 1 l).head? λx=>U' (aN x) λp=>
 U' (List.drop 1 l).tail.head? λx=>U' ((List.drop 2 (List.drop 1 l)).head?.bind λz=>aL z) λl=>U' (if aX p.snd=true then some () else none) λx=>some [T.int i64 n,be
 p.fst p.snd,T.ao,aH l]):=by kernel_rfl
theorem Cn(O:aq)(j:Bool)(g:List (List T))(k:Bool)(h:List (List T))(e:Int)(a:Int)(o:List (List T×T))(b:Bool)(c3:List (List T))(d:Bool)(m:Nat)(f:List Row):ax ak ann O dP [(AV.t (T.ab 1 j g)),(AV.t (T.ab 1 k h)),(AV.fn 53 [Y'0] []),V'3,(I e),(I a)] [(ad.box [V'4,V'2]),(Go.Aev.ad.dead),(ad.mp false [Ck.s] (Ck.i i64) o),(ad.sl false 1 b c3),(ad.rows d 5 1 1 m f)]=
 (bif decide (a < e) then U' (if(0:Int)<=a/\a < (↑g.length:Int) then some () else none) λx=>U' g[a.toNat]? λl=>U' l.head? λx=>U' (T.int? i64 x) λn=>aa
 none (if(0:Int)<=a/\a < (↑h.length:Int) then some () else none) λx=>U' h[a.toNat]? λl=>U' l.head? λx=>U' (T.int? i64 x) λq=>U' (O (Key.call 53) [AV.ref
 (Id.c 0) 0,I n,I q] [ad.box [V'1,V'2],ad.rows d 5 1 1 m f,ad.mp false [Ck.s] (Ck.i i64) o]) λl=>U' l.head? λx=>U' (T.int? i64 x) λn=>aa
 none (List.drop 1 l).head? λx=>U' (aN x) λp=>U' (List.drop 1 l).tail.head? λx=>U' ((List.drop 2 (List.drop 1 l)).head?.bind λz=>aL z) λl=>U' (bp 8 (c3.length+
 [[T.int i64 n]].length)) λx=>O dP [AV.t (T.ab 1 j g),AV.t (T.ab 1 k h),AV.fn 53 [Y'0] [],V'3,I e,I (i64.wrap (a+ (1:Int)))] [ad.box [AV.own (Id.c
 4),V'2],ad.dead,ad.mp false [Ck.s] (Ck.i i64) l,ad.sl false 1 (b && false) (c3++ [[T.int i64 n]]),ad.rows p.fst 5 1 1 p.snd.length p.snd] else U' (if aX f=true then
 some () else none) λx=>some [T.ab 1 b c3,be d f,T.ao,aH o]):=by kernel_rfl
theorem Ju(O:aq)(d:Int)(e:Int)(a:Bool)(b:Nat)(f:List Row)(g:List (List T×T)):ax ak ann O (Key.call 54) [Y'0,(I d),(I e)] [(ad.box [V'1,V'2]),(ad.rows a 5 1 1 b f),(ad.mp false [Ck.s] (Ck.i i64) g)]=
 (U' (O (Key.call 59) [Y'0,I d,I e] [ad.box [V'1,V'2],ad.rows a 5 1 1 b f,ad.mp false [Ck.s] (Ck.i i64) g]) λl=>U' l.head? λx=>U'
 (T.int? i64 x) λn=>U' (List.drop 1 l).head? λx=>U' (aN x) λp=>U' (List.drop 1 l).tail.head? λx=>U' ((List.drop 2 (List.drop 1 l)).head?.bind λz=>aL z) λl=>
 U' (O (Key.call 51) [Y'0,I n] [ad.box [V'1,V'2],ad.rows p.fst 5 1 1 p.snd.length p.snd,ad.mp false [Ck.s] (Ck.i i64) l]) λl=>U' l.head? λx=>aa
 none (T.int? i64 x) λn=>U' (List.drop 1 l).head? λx=>U' (aN x) λp=>U' (List.drop 1 l).tail.head? λx=>U' ((List.drop 2 (List.drop 1 l)).head?.bind λz=>aL z) fun
 l=>U' (if aX p.snd=true then some () else none) λx=>some [T.int i64 n,be p.fst p.snd,T.ao,aH l]):=by kernel_rfl
theorem Co(O:aq)(j:Bool)(g:List (List T))(k:Bool)(h:List (List T))(e:Int)(a:Int)(o:List (List T×T))(b:Bool)(c3:List (List T))(d:Bool)(m:Nat)(f:List Row):ax ak ann O dP [(AV.t (T.ab 1 j g)),(AV.t (T.ab 1 k h)),(AV.fn 54 [Y'0] []),V'3,(I e),(I a)] [(ad.box [V'4,V'2]),(Go.Aev.ad.dead),(ad.mp false [Ck.s] (Ck.i i64) o),(ad.sl false 1 b c3),(ad.rows d 5 1 1 m f)]=
 (bif decide (a < e) then U' (if(0:Int)<=a/\a < (↑g.length:Int) then some () else none) λx=>U' g[a.toNat]? λl=>U' l.head? λx=>U' (T.int? i64 x) λn=>aa
 none (if(0:Int)<=a/\a < (↑h.length:Int) then some () else none) λx=>U' h[a.toNat]? λl=>U' l.head? λx=>U' (T.int? i64 x) λq=>U' (O (Key.call 54) [AV.ref
 (Id.c 0) 0,I n,I q] [ad.box [V'1,V'2],ad.rows d 5 1 1 m f,ad.mp false [Ck.s] (Ck.i i64) o]) λl=>U' l.head? λx=>U' (T.int? i64 x) λn=>aa
 none (List.drop 1 l).head? λx=>U' (aN x) λp=>U' (List.drop 1 l).tail.head? λx=>U' ((List.drop 2 (List.drop 1 l)).head?.bind λz=>aL z) λl=>U' (bp 8 (c3.length+
 [[T.int i64 n]].length)) λx=>O dP [AV.t (T.ab 1 j g),AV.t (T.ab 1 k h),AV.fn 54 [Y'0] [],V'3,I e,I (i64.wrap (a+ (1:Int)))] [ad.box [AV.own (Id.c
 4),V'2],ad.dead,ad.mp false [Ck.s] (Ck.i i64) l,ad.sl false 1 (b && false) (c3++ [[T.int i64 n]]),ad.rows p.fst 5 1 1 p.snd.length p.snd] else U' (if aX f=true then
 some () else none) λx=>some [T.ab 1 b c3,be d f,T.ao,aH o]):=by kernel_rfl
theorem xJ(O:aq)(h:Bool)(b:List (List T))(j:Bool)(d:List (List T))(o:Int)(f:Int)(a:Int)(r:List (List T×T))(e:Bool)(c3:List (List T))(g:Bool)(q:Nat)(m:List Row):ax ak ann O ot [Y'0,(AV.t (T.ab 1 h b)),(AV.t (T.ab 1 j d)),(I o),V'3,(I f),(I a)] [(ad.box [V'4,V'2]),(Go.Aev.ad.dead),(ad.mp false [Ck.s] (Ck.i i64) r),(ad.sl false 1 e c3),(ad.rows g 5 1 1 q m)]=
 (bif decide (a < f) then U' (if(0:Int)<=a/\a < (↑b.length:Int) then some () else none) λx=>U' b[a.toNat]? λl=>U' l.head? λx=>U' (T.int? i64 x) λn=>aa
 none (if(0:Int)<=a/\a < (↑d.length:Int) then some () else none) λx=>U' d[a.toNat]? λl=>U' l.head? λx=>U' (T.int? i64 x) λw=>U' (O (Key.call 54) [AV.ref
 (Id.c 0) 0,I n,I w] [ad.box [V'1,V'2],ad.rows g 5 1 1 q m,ad.mp false [Ck.s] (Ck.i i64) r]) λl=>U' l.head? λx=>U' (T.int? i64 x) λn=>aa
 none (List.drop 1 l).head? λx=>U' (aN x) λp=>U' (List.drop 1 l).tail.head? λx=>U' ((List.drop 2 (List.drop 1 l)).head?.bind λz=>aL z) λl=>U' (O (Key.call 54) [AV.ref
 (Id.c 0) 0,I n,I o] [ad.box [V'1,V'2],ad.rows p.fst 5 1 1 p.snd.length p.snd,ad.mp false [Ck.s] (Ck.i i64) l]) λl=>U' l.head? λx=>U' (T.int? i64 x)
 λk=>U' (List.drop 1 l).head? λx=>U' (aN x) λp=>U' (List.drop 1 l).tail.head? λx=>U' ((List.drop 2 (List.drop 1 l)).head?.bind λz=>aL z) λl=>U' (bp 8
 (c3.length+ [[T.int i64 k]].length)) λx=>bif decide (i64.wrap (a+ (1:Int)) < (↑b.length:Int)) then U' (if(0:Int)<=a/\a < (↑b.length:Int) then some () else none) λx=>
 U' b[a.toNat]? λu=>U' u.head? λx=>U' (T.int? i64 x) λy=>U' (if(0:Int)<=a/\a < (↑d.length:Int) then some () else none) λx=>U' d[a.toNat]?
 λv=>U' v.head? λx=>U' (T.int? i64 x) λA=>U' (O (Key.call 52) [Y'0,I y,I A] [ad.box [V'1,V'2],ad.rows p.fst 5 1 1 p.snd.length
 p.snd,ad.mp false [Ck.s] (Ck.i i64) l]) λl=>U' l.head? λx=>U' (T.int? i64 x) λB=>U' (List.drop 1 l).head? λx=>U' (aN x) λp=>U' (List.drop 1
 l).tail.head? λx=>U' ((List.drop 2 (List.drop 1 l)).head?.bind λz=>aL z) λl=>U' (O (Key.call 52) [Y'0,I n,I o] [ad.box [V'1,V'2],ad.rows p.fst 5 1
 1 p.snd.length p.snd,ad.mp false [Ck.s] (Ck.i i64) l]) λl=>U' l.head? λx=>U' (T.int? i64 x) λn=>U' (List.drop 1 l).head? λx=>U' (aN x) λp=>U'
 (List.drop 1 l).tail.head? λx=>U' ((List.drop 2 (List.drop 1 l)).head?.bind λz=>aL z) λl=>U' (O (Key.call 53) [Y'0,AV.t (T.int i64 B),AV.t (T.int i64 n)]
 [ad.box [V'1,V'2],ad.rows p.fst 5 1 1 p.snd.length p.snd,ad.mp false [Ck.s] (Ck.i i64) l]) λl=>U' l.head? λx=>U' (T.int? i64 x) λn=>U'
 (List.drop 1 l).head? λx=>U' (aN x) λp=>U' (List.drop (1:Nat) l).tail.head? λx=>U' ((List.drop (2:Nat) (List.drop (1:Nat) l)).head?.bind λz=>aL z) λl=>O (bG ak
 (55:Nat) true (4:Nat) [((0:Nat),none),((1:Nat),none),((2:Nat),none),((7:Nat),none),((8:Nat),none),((14:Nat),none),((15:Nat),none)] ((3:Nat),(2002:Nat))) [AV.ref (Id.c (0:Nat)) (0:
 Nat),AV.t (T.ab (1:Nat) h b),AV.t (T.ab (1:Nat) j d),AV.t (T.int i64 n),AV.own (Id.c (3:Nat)),AV.t (T.int i64 f),AV.t (T.int i64 (i64.wrap (a+ (1:Int))))]
 [ad.box [AV.own (Id.c (4:Nat)),AV.own (Id.c (2:Nat))],ad.dead,ad.mp false [Ck.s] (Ck.i i64) l,ad.sl false (1:Nat) (e && false) (c3++ [[T.int i64 k]]),ad.rows p.fst (5:Nat) (1:Nat)
 (1:Nat) p.snd.length p.snd] else O ot [Y'0,AV.t (T.ab 1 h b),AV.t (T.ab 1 j d),I o,V'3,I f,I (i64.wrap (a+ (1:Int)))] [ad.box [V'4,AV.own (Id.c
 2)],ad.dead,ad.mp false [Ck.s] (Ck.i i64) l,ad.sl false 1 (e && false) (c3++ [[T.int i64 k]]),ad.rows p.fst 5 1 1 p.snd.length p.snd] else U' (if aX m=true then some () else none)
 λx=>some [T.ab 1 e c3,be g m,T.ao,aH r]):=by kernel_rfl
theorem Jx(O:aq)(g:Bool)(w:List (List T))(j:Bool)(y:List (List T))(A:Int)(b:Bool)(d:Bool)(m:List (List T))(o:Int)(q:Int)(h:Bool)(e:List (List T))(r:Int)(a:Int)(v:List (List T×T))(f:Bool)(u:Nat)(c3:List Row):ax ak ann O ou [Y'0,(AV.t (T.ab 1 g w)),(AV.t (T.ab 1 j y)),(I A),(AV.t (T.ae b)),(AV.t (T.ab 1 d m)),(I o),(I q),(AV.t (T.ab 1 h e)),(I r),(I a)] [(ad.box [V'3,V'2]),(Go.Aev.ad.dead),(ad.mp false [Ck.s] (Ck.i i64) v),(ad.rows f 5 1 1 u c3)]=
 (bif decide (a < r) then U' (if(0:Int)<=a/\a < (↑e.length:Int) then some () else none) λx=>U' e[a.toNat]? λl=>U' l.head? λx=>U' (T.int? i64 x) λn=>
 U' (O (Key.call 52) [Y'0,I A,I n] [ad.box [V'1,V'2],ad.rows f 5 1 1 u c3,ad.mp false [Ck.s] (Ck.i i64) v]) λl=>U' l.head? λx=>U'
 (T.int? i64 x) λn=>U' (List.drop 1 l).head? λx=>U' (aN x) λp=>U' (List.drop 1 l).tail.head? λx=>U' ((List.drop 2 (List.drop 1 l)).head?.bind λz=>aL z) λl=>
 O ou [Y'0,AV.t (T.ab 1 g w),AV.t (T.ab 1 j y),I A,V'3,AV.t (T.ab 1 d m),I o,I q,AV.t (T.ab 1 h e),I r,I (i64.wrap (a+ (1:Int)))] [ad.box
 [V'4,V'2],ad.dead,ad.mp false [Ck.s] (Ck.i i64) l,ad.sl false 1 (b && false) [[T.int i64 n]],ad.rows p.fst 5 1 1 p.snd.length p.snd] else U' (O (Key.call 55)
 [Y'0,AV.t (T.ab 1 j y),AV.t (T.ab 1 b [])] [ad.box [V'1,V'2],ad.rows f 5 1 1 u c3,ad.mp false [Ck.s] (Ck.i i64) v]) λl=>U' l.head? λx=>aa
 none (T.an 1 x) λp=>U' (List.drop 1 l).head? λx=>U' (aN x) λk=>U' (List.drop 1 l).tail.head? λx=>U' ((List.drop 2 (List.drop 1 l)).head?.bind λz=>aL z) λl=>O
 pJ [Y'0,AV.t (T.ab 1 g w),AV.t (T.ab 1 p.fst p.snd),AV.t (T.ab 1 d m),I o,I (i64.wrap (q+ (1:Int)))] [ad.box [V'3,V'2],ad.dead,ad.mp false
 [Ck.s] (Ck.i i64) l,ad.rows k.fst 5 1 1 k.snd.length k.snd]):=by kernel_rfl
theorem xL(O:aq)(h:Bool)(j:List (List T))(b:Int)(f:Int)(a:Int)(m:List (List T×T))(d:Bool)(c3:List (List T))(e:Bool)(k:Nat)(g:List Row):ax ak ann O jh [Y'0,(AV.t (T.ab 1 h j)),(I b),V'3,(I f),(I a)] [(ad.box [V'4,V'2]),(Go.Aev.ad.dead),(ad.mp false [Ck.s] (Ck.i i64) m),(ad.sl false 1 d c3),(ad.rows e 5 1 1 k g)]=
 (bif decide (a < f) then bif decide (a < b) then U' (O (Key.call 50) [Y'0,B false] [ad.box [V'1,V'2],ad.rows e 5 1 1 k g,ad.mp false [Ck.s] (Ck.i i64)
 m]) λl=>U' l.head? λx=>U' (T.int? i64 x) λn=>U' (List.drop 1 l).head? λx=>U' (aN x) λp=>U' (List.drop 1 l).tail.head? λx=>U' ((List.drop 2
 (List.drop 1 l)).head?.bind λz=>aL z) λl=>U' (bp 8 (c3.length+ [[T.int i64 n]].length)) λx=>O jh [Y'0,AV.t (T.ab 1 h j),I b,V'3,I f,I
 (i64.wrap (a+ (1:Int)))] [ad.box [V'4,V'2],ad.dead,ad.mp false [Ck.s] (Ck.i i64) l,ad.sl false 1 (d && false) (c3++ [[T.int i64 n]]),ad.rows p.fst 5 1 1
 p.snd.length p.snd] else U' (if(0:Int)<=i64.wrap (a - b)/\i64.wrap (a - b) < (↑j.length:Int) then some () else none) λx=>U' j[(i64.wrap (a - b)).toNat]? λl=>
 U' l.head? λx=>U' (T.int? i64 x) λn=>U' (bp 8 (c3.length+ [[T.int i64 n]].length)) λx=>O jh [Y'0,AV.t (T.ab 1 h j),I b,V'3,I
 f,I (i64.wrap (a+ (1:Int)))] [ad.box [V'4,V'2],ad.dead,ad.mp false [Ck.s] (Ck.i i64) m,ad.sl false 1 (d && false) (c3++ [[T.int i64 n]]),ad.rows e 5
 1 1 k g] else U' (if aX g=true then some () else none) λx=>some [T.ab 1 d c3,be e g,T.ao,aH m]):=by kernel_rfl
theorem Cr(O:aq)(h:Bool)(j:List (List T))(b:Int)(f:Int)(a:Int)(d:Bool)(k:Nat)(g:List Row)(m:List (List T×T))(e:Bool)(c3:List (List T)):ax ak ann O jh [Y'0,(AV.t (T.ab 1 h j)),(I b),V'3,(I f),(I a)] [(ad.box [V'1,V'2]),(ad.rows d 5 1 1 k g),(ad.mp false [Ck.s] (Ck.i i64) m),(ad.sl false 1 e c3)]=
 (bif decide (a < f) then bif decide (a < b) then U' (O (Key.call 50) [Y'0,B false] [ad.box [V'1,V'2],ad.rows d 5 1 1 k g,ad.mp false [Ck.s] (Ck.i i64)
 m]) λl=>U' l.head? λx=>U' (T.int? i64 x) λn=>U' (List.drop 1 l).head? λx=>U' (aN x) λp=>U' (List.drop 1 l).tail.head? λx=>U' ((List.drop 2
 (List.drop 1 l)).head?.bind λz=>aL z) λl=>U' (bp 8 (c3.length+ [[T.int i64 n]].length)) λx=>O jh [Y'0,AV.t (T.ab 1 h j),I b,V'3,I f,I
 (i64.wrap (a+ (1:Int)))] [ad.box [V'4,V'2],ad.dead,ad.mp false [Ck.s] (Ck.i i64) l,ad.sl false 1 (e && false) (c3++ [[T.int i64 n]]),ad.rows p.fst 5 1 1
 p.snd.length p.snd] else U' (if(0:Int)<=i64.wrap (a - b)/\i64.wrap (a - b) < (↑j.length:Int) then some () else none) λx=>U' j[(i64.wrap (a - b)).toNat]? λl=>
 U' l.head? λx=>U' (T.int? i64 x) λn=>U' (bp 8 (c3.length+ [[T.int i64 n]].length)) λx=>O jh [Y'0,AV.t (T.ab 1 h j),I b,V'3,I
 f,I (i64.wrap (a+ (1:Int)))] [ad.box [V'1,V'2],ad.rows d 5 1 1 k g,ad.mp false [Ck.s] (Ck.i i64) m,ad.sl false 1 (e && false) (c3++ [[T.int i64
 n]])] else U' (if aX g=true then some () else none) λx=>some [T.ab 1 e c3,be d g,T.ao,aH m]):=by kernel_rfl
theorem xD(O:aq)(h:Int)(k:Bool)(q:Nat)(j:List Row)(m:Bool)(r:List (List T))(a:Bool)(g:List (List T))(d:Bool)(e:Bool)(f:Bool)(o:Bool)(i:List (List T)):ax ak ann O l5 [Y'2,Y'3,V'4,(I h)] [(ad.rows k 5 1 1 q j),(ad.sl false 1 m r),(ad.box [(AV.t (T.ab 3 a g)),V'0,V'1]),(ad.box [(AV.t (T.ae d)),(AV.t (T.ae e)),(AV.t (T.ae f))]),(ad.sl false 1 o i)]=
 (bif decide (h>=(0:Int)) then U' (if(0:Int)<=h/\h < (↑i.length:Int) then some () else none) λx=>U' i[h.toNat]? λl=>U' l.head? λx=>U' x.bool? λb=>bif b then aa
 none (if(0:Int)<=h/\h < (↑j.length:Int) then some () else none) λx=>U' j[h.toNat]? λx=>U' (cy x.n j) λp=>O tF [Y'2,Y'3,V'4,I h,
 AV.row (Id.c 0) x.n,I (↑p.snd.length:Int),I (0:Int)] [ad.rows k 5 1 1 q j,ad.sl false 1 m r,ad.box [AV.t (T.ab 3 a g),V'0,V'1],ad.box [AV.t (T.ae d),AV.t (T.ae
 e),AV.t (T.ae f)],ad.sl false 1 o i] else O l5 [Y'2,Y'3,V'4,I (i64.wrap (h - (1:Int)))] [ad.rows k 5 1 1 q j,ad.sl false 1 m r,ad.box
 [AV.t (T.ab 3 a g),V'0,V'1],ad.box [AV.t (T.ae d),AV.t (T.ae e),AV.t (T.ae f)],ad.sl false 1 o i] else U' (lR (↑i.length:Int) (↑i.length:Int)) λx
 =>O iM [Y'2,Y'3,V'4,V'5,Y'6,V'0,I (↑j.length:Int),I (0:Int)] [ad.rows k 5 1 1 q j,ad.sl false 1 m r,ad.box
 [AV.t (T.ab 3 a g),V'0,V'1],ad.box [AV.t (T.ae d),AV.t (T.ae e),AV.t (T.ae f)],ad.sl false 1 o i,ad.sl false 1 false (List.replicate (↑i.length:Int).toNat
 [T.int i64 (0:Int)]),ad.box [AV.t (T.ab 3 a g),AV.t (T.ae true),AV.t (T.ae true)]]):=by kernel_rfl
theorem JA(O:aq)(a:Int)(d:Int)(e:Bool)(f:Nat)(g:List Row)(h:List (List T×T)):ax ak ann O (Key.call 59) [Y'0,(I a),(I d)] [(ad.box [V'1,V'2]),(ad.rows e 5 1 1 f g),(ad.mp false [Ck.s] (Ck.i i64) h)]=
 (bif a==d then U' (O (Key.call 50) [Y'0,B true] [ad.box [V'1,V'2],ad.rows e 5 1 1 f g,ad.mp false [Ck.s] (Ck.i i64) h]) λl=>U' l.head? λx
 =>U' (T.int? i64 x) λn=>U' (List.drop 1 l).head? λx=>U' (aN x) λp=>U' (List.drop 1 l).tail.head? λx=>U' ((List.drop 2 (List.drop 1 l)).head?.bind λz=>aL
 z) λl=>U' (if aX p.snd=true then some () else none) λx=>some [T.int i64 n,be p.fst p.snd,T.ao,aH l] else U' (O (Key.call 81) [Y'0,I a,I (1:Int)] [ad.box
 [V'1,V'2],ad.rows e 5 1 1 f g,ad.mp false [Ck.s] (Ck.i i64) h]) λl=>U' l.head? λx=>U' x.bool? λb=>U' (List.drop 1 l).head? λx=>U'
 (aN x) λp=>U' (List.drop 1 l).tail.head? λx=>U' ((List.drop 2 (List.drop 1 l)).head?.bind λz=>aL z) λl=>bif b then U' (if aX p.snd=true then some () else none) λx=>
 some [T.int i64 d,be p.fst p.snd,T.ao,aH l] else U' (O (Key.call 81) [Y'0,I d,I (1:Int)] [ad.box [V'1,V'2],ad.rows p.fst 5 1 1 p.snd.length p.snd,
 ad.mp false [Ck.s] (Ck.i i64) l]) λl=>U' l.head? λx=>U' x.bool? λb=>U' (List.drop 1 l).head? λx=>U' (aN x) λp=>U' (List.drop 1 l).tail.head? λx=>aa
 none ((List.drop 2 (List.drop 1 l)).head?.bind λz=>aL z) λl=>bif b then U' (if aX p.snd=true then some () else none) λx=>some [T.int i64 a,be p.fst p.snd,T.ao,aH l] else aa
 none (O (Key.call 81) [Y'0,I a,I (2:Int)] [ad.box [V'1,V'2],ad.rows p.fst 5 1 1 p.snd.length p.snd,ad.mp false [Ck.s] (Ck.i i64) l]) λl=>U' l.head? λx
 =>U' x.bool? λb=>U' (List.drop 1 l).head? λx=>U' (aN x) λp=>U' (List.drop 1 l).tail.head? λx=>U' ((List.drop 2 (List.drop 1 l)).head?.bind λz=>aL z) λl=>
 bif b then U' (O (Key.call 51) [Y'0,I d] [ad.box [V'1,V'2],ad.rows p.fst 5 1 1 p.snd.length p.snd,ad.mp false [Ck.s] (Ck.i i64) l]) λl=>U' l.head? fun
 x=>U' (T.int? i64 x) λn=>U' (List.drop 1 l).head? λx=>U' (aN x) λp=>U' (List.drop 1 l).tail.head? λx=>U' ((List.drop 2 (List.drop 1 l)).head?.bind λz=>
 aL z) λl=>U' (if aX p.snd=true then some () else none) λx=>some [T.int i64 n,be p.fst p.snd,T.ao,aH l] else U' (O (Key.call 81) [Y'0,I d,I (2:Int)]
 [ad.box [V'1,V'2],ad.rows p.fst 5 1 1 p.snd.length p.snd,ad.mp false [Ck.s] (Ck.i i64) l]) λl=>U' l.head? λx=>U' x.bool? λb=>U' (List.drop 1 l).head?
 λx=>U' (aN x) λp=>U' (List.drop 1 l).tail.head? λx=>U' ((List.drop 2 (List.drop 1 l)).head?.bind λz=>aL z) λl=>bif b then U' (O (Key.call 51) [Y'0,I a]
 [ad.box [V'1,V'2],ad.rows p.fst 5 1 1 p.snd.length p.snd,ad.mp false [Ck.s] (Ck.i i64) l]) λl=>U' l.head? λx=>U' (T.int? i64 x) λn=>U'
 (List.drop 1 l).head? λx=>U' (aN x) λp=>U' (List.drop 1 l).tail.head? λx=>U' ((List.drop 2 (List.drop 1 l)).head?.bind λz=>aL z) λl=>U' (if aX p.snd=true then
 some () else none) λx=>some [T.int i64 n,be p.fst p.snd,T.ao,aH l] else U' (O (Key.call 46) [Y'0,I (6:Int),AV.t (T.str (ByteArray.mk #[])),I (0:Int),I (0:Int),AV.t
 (T.ab 1 false [[T.int i64 a],[T.int i64 d]])] [ad.box [V'1,V'2],ad.rows p.fst 5 1 1 p.snd.length p.snd,ad.mp false [Ck.s] (Ck.i i64) l]) λl=>U' l.head?
 λx=>U' (T.int? i64 x) λn=>U' (List.drop 1 l).head? λx=>U' (aN x) λp=>U' (List.drop 1 l).tail.head? λx=>U' ((List.drop 2 (List.drop 1 l)).head?.bind λz
 =>aL z) λl=>U' (if aX p.snd=true then some () else none) λx=>some [T.int i64 n,be p.fst p.snd,T.ao,aH l]):=by kernel_rfl
theorem xH(O:aq)(h:Int)(j:ByteArray)(k:Int)(m:Int)(r:Bool)(v:List (List T))(a:ByteArray)(q:Bool)(f:List (List T))(u:Int)(b:Int)(o:Bool)(d:Nat)(e:List Row)(g:List (List T×T)):ax ak ann O tK [Y'0,(I h),(AV.t (T.str j)),(I k),(I m),(AV.t (T.ab 1 r v)),(AV.t (T.str a)),(AV.t (T.ab 1 q f)),(I u),(I b)] [(ad.box [V'1,V'2]),(ad.rows o 5 1 1 d e),(ad.mp false [Ck.s] (Ck.i i64) g)]=
 (bif decide (b < u) then U' (if(0:Int)<=b/\b < (↑f.length:Int) then some () else none) λx=>U' f[b.toNat]? λl=>U' l.head? λx=>U' (T.int? i64 x) λn=>
 U' (O (Key.call 44) [I n] []) λl=>U' l.head? λx=>U' x.bc λs=>U' (if 1+s.size<=4294967296 then some () else none) λx=>U' (if a.size+ ((ByteArray.mk #[(32:UInt8)])
 ++s).size<=4294967296 then some () else none) λx=>O tK [Y'0,I h,AV.t (T.str j),I k,I m,AV.t (T.ab 1 r v),AV.t (T.str (a++ ((ByteArray.mk #[(32:UInt8)])++s))),AV.t (T.ab 1
 q f),I u,I (i64.wrap (b+ (1:Int)))] [ad.box [V'1,V'2],ad.rows o 5 1 1 d e,ad.mp false [Ck.s] (Ck.i i64) g] else U' (T.int? i64 ((fU [T.str
 a] g).getD (T.int i64 (0:Int)))) λn=>bif (fU [T.str a] g).isSome then U' (if aX e=true then some () else none) λx=>some [T.int i64 n,be o e,T.ao,aH g] else
 U' (O (Key.call 18) [AV.t (T.ab 1 r v)] []) λl=>U' l.head? λx=>U' (T.an 1 x) λp=>U' (bp 64 (e.length+1)) λx=>U' (if aX (e++ [(Row.mk d [T.int
 i64 h,T.ao,T.int i64 k,T.int i64 m,T.str j] (some (p.fst,p.snd)))])=true then some () else none) λx=>some [T.int i64 (i64.wrap ((↑(e++ [(Row.mk d [T.int
 i64 h,T.ao,T.int i64 k,T.int i64 m,T.str j] (some (p.fst,p.snd)))]).length:Int) - (1:Int))),be false (e++ [(Row.mk d [T.int i64 h,T.ao,T.int i64 k,
 T.int i64 m,T.str j] (some (p.fst,p.snd)))]),T.ao,aH (hJ [T.str a] (T.int i64 (i64.wrap ((↑(e++ [(Row.mk d [T.int i64 h,T.ao,T.int i64 k,T.int i64
 m,T.str j] (some (p.fst,p.snd)))]).length:Int) - (1:Int)))) g)]):=by kernel_rfl
theorem Cf(O:aq)(j:Bool)(g:List (List T))(k:Bool)(h:List (List T))(e:Int)(a:Int)(o:List (List T×T))(b:Bool)(c3:List (List T))(d:Bool)(m:Nat)(f:List Row):ax ak ann O dP [(AV.t (T.ab 1 j g)),(AV.t (T.ab 1 k h)),(AV.fn 59 [Y'0] []),V'3,(I e),(I a)] [(ad.box [V'4,V'2]),(Go.Aev.ad.dead),(ad.mp false [Ck.s] (Ck.i i64) o),(ad.sl false 1 b c3),(ad.rows d 5 1 1 m f)]=
 (bif decide (a < e) then U' (if(0:Int)<=a/\a < (↑g.length:Int) then some () else none) λx=>U' g[a.toNat]? λl=>U' l.head? λx=>U' (T.int? i64 x) λn=>aa
 none (if(0:Int)<=a/\a < (↑h.length:Int) then some () else none) λx=>U' h[a.toNat]? λl=>U' l.head? λx=>U' (T.int? i64 x) λq=>U' (O (Key.call 59) [AV.ref
 (Id.c 0) 0,I n,I q] [ad.box [V'1,V'2],ad.rows d 5 1 1 m f,ad.mp false [Ck.s] (Ck.i i64) o]) λl=>U' l.head? λx=>U' (T.int? i64 x) λn=>aa
 none (List.drop 1 l).head? λx=>U' (aN x) λp=>U' (List.drop 1 l).tail.head? λx=>U' ((List.drop 2 (List.drop 1 l)).head?.bind λz=>aL z) λl=>U' (bp 8 (c3.length+
 [[T.int i64 n]].length)) λx=>O dP [AV.t (T.ab 1 j g),AV.t (T.ab 1 k h),AV.fn 59 [Y'0] [],V'3,I e,I (i64.wrap (a+ (1:Int)))] [ad.box [AV.own (Id.c
 4),V'2],ad.dead,ad.mp false [Ck.s] (Ck.i i64) l,ad.sl false 1 (b && false) (c3++ [[T.int i64 n]]),ad.rows p.fst 5 1 1 p.snd.length p.snd] else U' (if aX f=true then
 some () else none) λx=>some [T.ab 1 b c3,be d f,T.ao,aH o]):=by kernel_rfl
theorem Kg(O:aq)(b:Int)(e:Int)(d:Bool)(g:Nat)(a:List Row)(f:List (List T×T)):ax ak ann O (Key.call 81) [Y'0,(I b),(I e)] [(ad.box [V'1,V'2]),(ad.rows d 5 1 1 g a),(ad.mp false [Ck.s] (Ck.i i64) f)]=
 (U' (if(0:Int)<=b/\b < (↑a.length:Int) then some () else none) λx=>U' a[b.toNat]? λx=>U' (List.drop 0 x.cs).head? λx=>U' (T.int? i64 x) λn=>U' (if
 aX a=true then some () else none) λx=>some [T.bool (n==e),be d a,T.ao,aH f]):=by kernel_rfl
theorem Jf(O:aq)(a:ByteArray)(c:ByteArray):ax ak ann O (Key.call 43) [(AV.t (T.str a)),(AV.t (T.str c))] []=
 (U' (O (Key.call 78) [AV.t (T.str a),AV.t (T.str c)] []) λl=>U' l.head? λx=>U' x.bc λs=>U' l.tail.head? λx=>U' x.bool? λb=>some [T.str s,T.bool b]):=by kernel_rfl
theorem BP(O:aq)(D:Bool)(L:List (List T))(E:Int)(q:Int)(b:Bool)(f:List (List T))(d:Bool)(g:List (List T))(e:Bool)(h:List (List T))(a:ByteArray)(j:Bool)(k:List (List T))(y:Bool)(J:List (List T))(A:Bool)(c3:List (List T))(K:List (List T×T))(r:Int)(o:Bool)(u:List (List T))(v:Int)(w:Int)(m:ByteArray)(B:Bool)(c8:List (List T))(C:Bool)(H:Nat)(F:List Row):ax ak ann O ij [Y'6,Y'7,V'8,(AV.t (T.ab 1 D L)),(I E),(I q)] [(ad.box [Y'1,(AV.t (T.ab 3 b f)),(AV.t (T.ab 5 d g)),(AV.t (T.ab 1 e h)),(AV.t (T.str a)),(AV.t (T.ab 1 j k)),V'2,V'3]),(ad.box [V'9,V'5]),(ad.sl false 1 y J),(ad.sl false 1 A c3),(Go.Aev.ad.dead),(ad.mp false [Ck.s] (Ck.i i64) K),(ad.box [Y'0]),(ad.box [(I r),(AV.t (T.ab 1 o u)),(I v),(I w),(AV.t (T.str m))]),(ad.sl false 1 B c8),(ad.rows C 5 1 1 H F)]=
 (bif decide (q < E) then U' (O (Key.call 47) [AV.agg [AV.t (T.ab 3 b f),AV.t (T.ab 5 d g),AV.t (T.ab 1 e h)],AV.t (T.str m)] []) λl=>U' l.head? λx=>U' (T.int?
 i64 x) λn=>U' (O (Key.call 44) [I n] []) λl=>U' l.head? λx=>U' x.bc λs=>U' (if a.size+s.size<=4294967296 then some () else none) λx=>U' (if(a++
 s).size+1<=4294967296 then some () else none) λx=>U' (O (Key.call 44) [I q] []) λl=>U' l.head? λx=>U' x.bc λG=>U' (if(a++s++ (ByteArray.mk #[(95:UInt8)])).size
 +G.size<=4294967296 then some () else none) λx=>U' (O (Key.call 46) [Y'0,I (9:Int),AV.t (T.str (a++s++ (ByteArray.mk #[(95:UInt8)])++G)),I (0:Int),I (0:Int),AV.t (T.ab
 1 D L)] [ad.box [V'1,V'2],ad.rows C 5 1 1 H F,ad.mp false [Ck.s] (Ck.i i64) K]) λl=>U' l.head? λx=>U' (T.int? i64 x) λn=>U'
 (List.drop 1 l).head? λx=>U' (aN x) λp=>U' (List.drop 1 l).tail.head? λx=>U' ((List.drop 2 (List.drop 1 l)).head?.bind λz=>aL z) λl=>U' (bp 8 (c8.length+ [[T.int
 i64 n]].length)) λx=>O ij [Y'6,Y'7,V'8,AV.t (T.ab 1 D L),I E,I (i64.wrap (q+ (1:Int)))] [ad.box [Y'1,AV.t (T.ab 3 b
 f),AV.t (T.ab 5 d g),AV.t (T.ab 1 e h),AV.t (T.str a),AV.t (T.ab 1 j k),V'2,V'3],ad.box [V'9,V'5],ad.sl false 1 y J,ad.sl false
 1 A c3,ad.dead,ad.mp false [Ck.s] (Ck.i i64) l,ad.box [Y'0],ad.box [I r,AV.t (T.ab 1 o u),I v,I w,AV.t (T.str m)],ad.sl false 1 (B && false) (c8++ [[T.int
 i64 n]]),ad.rows p.fst 5 1 1 p.snd.length p.snd] else U' (if aX F=true then some () else none) λx=>some [T.ab 1 B c8,T.ao,T.ab 3 b f,T.ab 5 d g,T.ab 1 e h,
 T.str a,T.ab 1 j k,T.ao,T.ao,be C F,T.ao,T.ab 1 y J,T.ab 1 A c3,aH K]):=by kernel_rfl
theorem Kc(O:aq)(b:Bool)(c:List (List T))(a:ByteArray):ax ak ann O (Key.call 77) [(AV.t (T.ab 3 b c)),(AV.fn 80 [] [(AV.t (T.ptr [(T.str a)]))])] []=
 (O gQ [AV.t (T.ab 3 b c),AV.fn 80 [] [AV.t (T.ptr [T.str a])],I (↑c.length:Int),I (0:Int)] []):=by kernel_rfl
theorem Cq(O:aq)(g:Bool)(y:List (List T))(j:Bool)(A:List (List T))(B:Int)(b:Bool)(m:List (List T))(o:Int)(q:Int)(h:Bool)(d:List (List T))(r:Int)(a:Int)(v:List (List T×T))(e:Bool)(c3:List (List T))(f:Bool)(u:Nat)(w:List Row):ax ak ann O ou [Y'0,(AV.t (T.ab 1 g y)),(AV.t (T.ab 1 j A)),(I B),V'3,(AV.t (T.ab 1 b m)),(I o),(I q),(AV.t (T.ab 1 h d)),(I r),(I a)] [(ad.box [V'4,V'2]),(Go.Aev.ad.dead),(ad.mp false [Ck.s] (Ck.i i64) v),(ad.sl false 1 e c3),(ad.rows f 5 1 1 u w)]=
 (bif decide (a < r) then U' (if(0:Int)<=a/\a < (↑d.length:Int) then some () else none) λx=>U' d[a.toNat]? λl=>U' l.head? λx=>U' (T.int? i64 x) λn=>
 U' (O (Key.call 52) [Y'0,I B,I n] [ad.box [V'1,V'2],ad.rows f 5 1 1 u w,ad.mp false [Ck.s] (Ck.i i64) v]) λl=>U' l.head? λx=>U'
 (T.int? i64 x) λn=>U' (List.drop 1 l).head? λx=>U' (aN x) λp=>U' (List.drop 1 l).tail.head? λx=>U' ((List.drop 2 (List.drop 1 l)).head?.bind λz=>aL z) λl=>
 U' (bp 8 (c3.length+ [[T.int i64 n]].length)) λx=>O ou [Y'0,AV.t (T.ab 1 g y),AV.t (T.ab 1 j A),I B,V'3,AV.t (T.ab 1 b m),I o,I q,AV.t
 (T.ab 1 h d),I r,I (i64.wrap (a+ (1:Int)))] [ad.box [V'4,V'2],ad.dead,ad.mp false [Ck.s] (Ck.i i64) l,ad.sl false 1 (e && false) (c3++ [[T.int i64
 n]]),ad.rows p.fst 5 1 1 p.snd.length p.snd] else U' (O (Key.call 55) [Y'0,AV.t (T.ab 1 j A),AV.t (T.ab 1 e c3)] [ad.box [V'1,V'2],ad.rows f 5 1 1 u w,
 ad.mp false [Ck.s] (Ck.i i64) v]) λl=>U' l.head? λx=>U' (T.an 1 x) λp=>U' (List.drop 1 l).head? λx=>U' (aN x) λk=>U' (List.drop 1 l).tail.head? λx
 =>U' ((List.drop 2 (List.drop 1 l)).head?.bind λz=>aL z) λl=>O pJ [Y'0,AV.t (T.ab 1 g y),AV.t (T.ab 1 p.fst p.snd),AV.t (T.ab 1 b m),I o,I (i64.wrap (q+
 (1:Int)))] [ad.box [V'3,V'2],ad.dead,ad.mp false [Ck.s] (Ck.i i64) l,ad.rows k.fst 5 1 1 k.snd.length k.snd]):=by kernel_rfl
theorem BX(O:aq)(u:Int)(h:Nat)(o:Int)(a:Int)(j:Bool)(q:Nat)(i:List Row)(k:Bool)(s:List (List T))(b:Bool)(g:List (List T))(d:Bool)(e:Bool)(f:Bool)(m:Bool)(r:List (List T)):ax ak ann O tF [Y'2,Y'3,V'4,(I u),(AV.row (Id.c 0) h),(I o),(I a)] [(ad.rows j 5 1 1 q i),(ad.sl false 1 k s),(ad.box [(AV.t (T.ab 3 b g)),V'0,V'1]),(ad.box [(AV.t (T.ae d)),(AV.t (T.ae e)),(AV.t (T.ae f))]),(ad.sl false 1 m r)]=
 (bif decide (a < o) then U' (cy h i) λp=>U' (if(0:Int)<=a/\a < (↑p.snd.length:Int) then some () else none) λx=>U' (cy h i) λp=>U' p.snd[a.toNat]? λl=>
 U' l.head? λx=>U' (T.int? i64 x) λn=>U' (if(0:Int)<=n/\n < (↑r.length:Int) then some () else none) λx=>U' (gL n.toNat 0 [T.bool true] r) λl=>O tF
 [Y'2,Y'3,V'4,I u,AV.row (Id.c 0) h,I o,I (i64.wrap (a+ (1:Int)))] [ad.rows j 5 1 1 q i,ad.sl false 1 k s,ad.box [AV.t (T.ab 3 b g),
 V'0,V'1],ad.box [AV.t (T.ae d),AV.t (T.ae e),AV.t (T.ae f)],ad.sl false 1 m l] else O l5 [Y'2,Y'3,V'4,I (i64.wrap (u
 - (1:Int)))] [ad.rows j 5 1 1 q i,ad.sl false 1 k s,ad.box [AV.t (T.ab 3 b g),V'0,V'1],ad.box [AV.t (T.ae d),AV.t (T.ae e),AV.t (T.ae f)],ad.sl false 1
 m r]):=by kernel_rfl
theorem xB(O:aq)(v:Int)(a:Int)(q:Bool)(w:Nat)(m:List Row)(r:Bool)(y:List (List T))(k:Bool)(o:List (List T))(d:Bool)(e:Bool)(f:Bool)(B:Bool)(z:List (List T))(u:Bool)(A:List (List T))(g:Bool)(j:List (List T))(h:Bool)(i:Bool):ax ak ann O iM [Y'2,Y'3,V'4,V'5,Y'6,V'0,(I v),(I a)] [(ad.rows q 5 1 1 w m),(ad.sl false 1 r y),(ad.box [(AV.t (T.ab 3 k o)),V'0,V'1]),(ad.box [(AV.t (T.ae d)),(AV.t (T.ae e)),(AV.t (T.ae f))]),(ad.sl false 1 B z),(ad.sl false 1 u A),(ad.box [(AV.t (T.ab 3 g j)),(AV.t (T.ae h)),(AV.t (T.ae i))])]=
 (bif decide (a < v) then U' (if(0:Int)<=a/\a < (↑m.length:Int) then some () else none) λx=>U' m[a.toNat]? λx=>U' x.cs.head? λE=>U' x.cs.tail.head? λK=>aa
 none x.cs.tail.tail.head? λF=>U' x.cs.tail.tail.tail.head? λG=>U' x.cs.tail.tail.tail.tail.head? λH=>U' (T.int? i64 E) λn=>U' (T.int? i64 F) λC=>
 U' (T.int? i64 G) λD=>U' H.bc λs=>U' (if(0:Int)<=a/\a < (↑z.length:Int) then some () else none) λL=>U' z[a.toNat]? λl=>U' l.head? λJ
 =>U' J.bool? λb=>bif !b then O iM [Y'2,Y'3,V'4,V'5,Y'6,V'0,I v,I (i64.wrap (a+ (1:Int)))] [ad.rows
 q 5 1 1 w m,ad.sl false 1 r y,ad.box [AV.t (T.ab 3 k o),V'0,V'1],ad.box [AV.t (T.ae d),AV.t (T.ae e),AV.t (T.ae f)],ad.sl false 1 B z,ad.sl false 1
 u A,ad.box [AV.t (T.ab 3 g j),AV.t (T.ae h),AV.t (T.ae i)]] else U' (if(0:Int)<=a/\a < (↑A.length:Int) then some () else none) λM=>U' (gL a.toNat 0 [T.int
 i64 (↑0:Int)] A) λl=>U' (cy x.n m) λp=>O gP [Y'2,Y'3,V'4,V'5,Y'6,Y'7,V'0,I v,I
 a,AV.row (Id.c 0) x.n,I (↑p.snd.length:Int),I (0:Int)] [ad.rows q 5 1 1 w m,ad.sl false 1 r y,ad.box [AV.t (T.ab 3 k o),V'0,V'1],ad.box [AV.t (T.ae d),AV.t
 (T.ae e),AV.t (T.ae f)],ad.sl false 1 B z,ad.sl false 1 u l,ad.box [AV.t (T.ab 3 g j),AV.t (T.ae h),AV.t (T.ae i)],ad.box [I n,AV.row (Id.c 0) x.n,I C,I D,AV.t (T.str
 s)]] else O fQ [Y'2,V'3,Y'4,V'1,I (↑y.length:Int),I (0:Int)] [ad.rows q 5 1 1 w m,ad.sl false 1 r y,ad.box [AV.t (T.ae d),AV.t (T.ae
 e),AV.t (T.ae f)],ad.sl false 1 u A,ad.box [AV.t (T.ab 3 g j),AV.t (T.ae h),AV.t (T.ae i)]]):=by kernel_rfl
theorem Ke(O:aq)(a:ByteArray)(c:ByteArray):ax ak ann O (Key.call 78) [(AV.t (T.str a)),(AV.t (T.str c))] []=
 (U' (O (Key.call 91) [AV.t (T.str a),AV.t (T.str c)] []) λl=>U' l.head? λx=>U' x.bool? λb=>bif !b then some [T.str a,T.bool false] else U' (fp (↑c.size:Int) (↑a.size:Int)
 (↑a.size:Int)) λx=>some [T.str (a.extract (↑c.size:Int).toNat (↑a.size:Int).toNat),T.bool true]):=by kernel_rfl
theorem CK(O:aq)(e:Bool)(d:List (List T))(c:ByteArray)(f:Int)(a:Int):ax ak ann O gQ [(AV.t (T.ab 3 e d)),(AV.fn 80 [] [(AV.t (T.ptr [(T.str c)]))]),(I f),(I a)] []=
 (bif decide (a < f) then U' (if(0:Int)<=a/\a < (↑d.length:Int) then some () else none) λx=>U' d[a.toNat]? λl=>U' l.head? λx=>U' l.tail.head? λg=>U'
 l.tail.tail.head? λh=>U' x.bc λs=>U' (T.an 1 g) λp=>U' (T.int? i64 h) λn=>U' (O (Key.call 80) [AV.agg [AV.t (T.str s),AV.t (T.ab 1 p.fst p.snd),I n],AV.t
 (T.ptr [T.str c])] []) λl=>U' l.head? λx=>U' x.bool? λb=>bif b then some [T.int i64 a] else O gQ [AV.t (T.ab 3 e d),AV.fn 80 [] [AV.t (T.ptr [T.str c])],I f,I
 (i64.wrap (a+ (1:Int)))] [] else some [T.int i64 (-1:Int)]):=by kernel_rfl
theorem BY(O:aq)(C:Int)(D:Int)(v:Nat)(E:Int)(b:Int)(y:Bool)(F:Nat)(k:List Row)(z:Bool)(G:List (List T))(d:Bool)(m:List (List T))(e:Bool)(f:Bool)(g:Bool)(A:Bool)(H:List (List T))(B:Bool)(w:List (List T))(h:Bool)(o:List (List T))(i:Bool)(j:Bool)(q:Int)(a:Nat)(r:Int)(s:Int)(u:ByteArray):ax ak ann O gP [Y'2,Y'3,V'4,V'5,Y'6,Y'7,V'0,(I C),(I D),(AV.row (Id.c 0) v),(I E),(I b)] [(ad.rows y 5 1 1 F k),(ad.sl false 1 z G),(ad.box [(AV.t (T.ab 3 d m)),V'0,V'1]),(ad.box [(AV.t (T.ae e)),(AV.t (T.ae f)),(AV.t (T.ae g))]),(ad.sl false 1 A H),(ad.sl false 1 B w),(ad.box [(AV.t (T.ab 3 h o)),(AV.t (T.ae i)),(AV.t (T.ae j))]),(ad.box [(I q),(AV.row (Id.c 0) a),(I r),(I s),(AV.t (T.str u))])]=
 (bif decide (b < E) then U' (cy v k) λp=>U' (if(0:Int)<=b/\b < (↑p.snd.length:Int) then some () else none) λx=>U' (cy v k) λp=>U' p.snd[b.toNat]? λl=>
 U' l.head? λx=>U' (T.int? i64 x) λn=>U' (if(0:Int)<=n/\n < (↑w.length:Int) then some () else none) λx=>U' w[n.toNat]? λl=>U' l.head? λx=>U'
 (T.int? i64 x) λn=>U' (cy a k) λp=>U' (if(0:Int)<=b/\b < (↑p.snd.length:Int) then some () else none) λx=>U' (cy a k) λp=>U' (gL b.toNat 0
 [T.int i64 n] p.snd) λl=>O gP [Y'2,Y'3,V'4,V'5,Y'6,Y'7,V'0,I C,I D,AV.row (Id.c 0) v,I E,I
 (i64.wrap (b+ (1:Int)))] [ad.rows y 5 1 1 F (cU a (some (p.fst,l)) k),ad.sl false 1 z G,ad.box [AV.t (T.ab 3 d m),V'0,V'1],ad.box [AV.t (T.ae e),
 AV.t (T.ae f),AV.t (T.ae g)],ad.sl false 1 A H,ad.sl false 1 B w,ad.box [AV.t (T.ab 3 h o),AV.t (T.ae i),AV.t (T.ae j)],ad.box [I q,AV.row (Id.c 0) a,I r,I s,
 AV.t (T.str u)]] else U' (cy a k) λp=>O iM [Y'2,Y'3,V'4,V'5,Y'6,V'0,I C,I (i64.wrap (D+ (1:
 Int)))] [ad.rows y 5 1 1 F (cU a none k),ad.sl false 1 z G,ad.box [AV.t (T.ab 3 d m),V'0,V'1],ad.box [AV.t (T.ae e),AV.t (T.ae f),AV.t (T.ae g)],
 ad.sl false 1 A H,ad.sl false 1 B w,ad.box [AV.t (T.ab 3 h o),V'7,AV.t (T.ae j)],ad.sl false 5 (i && false) [[T.int i64 q,T.ab 1 p.fst p.snd,T.int i64
 r,T.int i64 s,T.str u]]]):=by kernel_rfl
theorem B1(O:aq)(g:Int)(a:Int)(m:Bool)(q:Nat)(r:List Row)(o:Bool)(k:List (List T))(h:Bool)(i:Bool)(j:Bool)(p:Bool)(c3:List (List T))(b:Bool)(f:List (List T))(d:Bool)(e:Bool):ax ak ann O fQ [Y'2,V'3,Y'4,V'1,(I g),(I a)] [(ad.rows m 5 1 1 q r),(ad.sl false 1 o k),(ad.box [(AV.t (T.ae h)),(AV.t (T.ae i)),(AV.t (T.ae j))]),(ad.sl false 1 p c3),(ad.box [(AV.t (T.ab 3 b f)),(AV.t (T.ae d)),(AV.t (T.ae e))])]=
 (bif decide (a < g) then U' (if(0:Int)<=a/\a < (↑k.length:Int) then some () else none) λx=>U' k[a.toNat]? λl=>U' l.head? λx=>U' (T.int? i64 x) λn=>
 U' (if(0:Int)<=n/\n < (↑c3.length:Int) then some () else none) λx=>U' c3[n.toNat]? λl=>U' l.head? λx=>U' (T.int? i64 x) λn=>O fQ [Y'2,AV.own
 (Id.c 3),Y'4,V'1,I g,I (i64.wrap (a+ (1:Int)))] [ad.rows m 5 1 1 q r,ad.sl false 1 o k,ad.box [AV.t (T.ae h),AV.t (T.ae i),AV.t (T.ae j)],
 ad.sl false 1 p c3,ad.box [AV.t (T.ab 3 b f),AV.t (T.ae d),V'5],ad.sl false 1 (e && false) [[T.int i64 n]]] else some [T.ab 3 b f,T.ae d,T.ae e]):=by kernel_rfl
theorem Iv(O:aq)(b:ByteArray)(a:ByteArray):ax ak ann O (Key.call 91) [(AV.t (T.str b)),(AV.t (T.str a))] []=
 (aa (some (decide ((↑b.size:Int)>=(↑a.size:Int)))) (fp (0:Int) (↑a.size:Int) (↑b.size:Int)) λx=>some [T.bool (bif decide ((↑b.size:Int)>=(↑a.size:Int)) then(b.extract 0 (↑a.size:
 Int).toNat).toList==a.toList else false)]):=by kernel_rfl
theorem Kf(O:aq)(a:ByteArray)(b:Bool)(c:List (List T))(d:Int)(e:ByteArray):ax ak ann O (Key.call 80) [(AV.agg [(AV.t (T.str a)),(AV.t (T.ab 1 b c)),(I d)]),(AV.t (T.ptr [(T.str e)]))] []=
 (some [T.bool (a.toList==e.toList)]):=by kernel_rfl
theorem xC(O:aq)(v:Int)(a:Int)(o:Bool)(w:Nat)(k:List Row)(q:Bool)(y:List (List T))(j:Bool)(m:List (List T))(d:Bool)(e:Bool)(f:Bool)(B:Bool)(z:List (List T))(r:Bool)(A:List (List T))(g:Bool)(i:List (List T))(h:Bool)(u:Bool)(c7:List (List T)):ax ak ann O iM [Y'2,Y'3,V'4,V'5,Y'6,V'0,(I v),(I a)] [(ad.rows o 5 1 1 w k),(ad.sl false 1 q y),(ad.box [(AV.t (T.ab 3 j m)),V'0,V'1]),(ad.box [(AV.t (T.ae d)),(AV.t (T.ae e)),(AV.t (T.ae f))]),(ad.sl false 1 B z),(ad.sl false 1 r A),(ad.box [(AV.t (T.ab 3 g i)),V'7,(AV.t (T.ae h))]),(ad.sl false 5 u c7)]=
 (bif decide (a < v) then U' (if(0:Int)<=a/\a < (↑k.length:Int) then some () else none) λx=>U' k[a.toNat]? λx=>U' x.cs.head? λE=>U' x.cs.tail.head? λK=>aa
 none x.cs.tail.tail.head? λF=>U' x.cs.tail.tail.tail.head? λG=>U' x.cs.tail.tail.tail.tail.head? λH=>U' (T.int? i64 E) λn=>U' (T.int? i64 F) λC=>
 U' (T.int? i64 G) λD=>U' H.bc λs=>U' (if(0:Int)<=a/\a < (↑z.length:Int) then some () else none) λL=>U' z[a.toNat]? λl=>U' l.head? λJ
 =>U' J.bool? λb=>bif !b then O iM [Y'2,Y'3,V'4,V'5,Y'6,V'0,I v,I (i64.wrap (a+ (1:Int)))] [ad.rows
 o 5 1 1 w k,ad.sl false 1 q y,ad.box [AV.t (T.ab 3 j m),V'0,V'1],ad.box [AV.t (T.ae d),AV.t (T.ae e),AV.t (T.ae f)],ad.sl false 1 B z,ad.sl false 1
 r A,ad.box [AV.t (T.ab 3 g i),V'7,AV.t (T.ae h)],ad.sl false 5 u c7] else U' (if(0:Int)<=a/\a < (↑A.length:Int) then some () else none) λM=>U' (gL
 a.toNat 0 [T.int i64 (↑c7.length:Int)] A) λl=>U' (cy x.n k) λp=>O gP [Y'2,Y'3,V'4,V'5,Y'6,Y'7,
 V'0,I v,I a,AV.row (Id.c 0) x.n,I (↑p.snd.length:Int),I (0:Int)] [ad.rows o 5 1 1 w k,ad.sl false 1 q y,ad.box [AV.t (T.ab 3 j m),V'0,V'1],ad.box
 [AV.t (T.ae d),AV.t (T.ae e),AV.t (T.ae f)],ad.sl false 1 B z,ad.sl false 1 r l,ad.box [AV.t (T.ab 3 g i),V'8,AV.t (T.ae h)],ad.box [I n,AV.row (Id.c 0) x.n,I
 C,I D,AV.t (T.str s)],ad.sl false 5 u c7] else O fQ [Y'2,V'3,Y'4,V'1,I (↑y.length:Int),I (0:Int)] [ad.rows o 5 1 1 w k,ad.sl false 1
 q y,ad.box [AV.t (T.ae d),AV.t (T.ae e),AV.t (T.ae f)],ad.sl false 1 r A,ad.box [AV.t (T.ab 3 g i),V'5,AV.t (T.ae h)],ad.sl false 5 u c7]):=by kernel_rfl
theorem B2(O:aq)(f:Int)(a:Int)(o:Bool)(r:Nat)(s:List Row)(p:Bool)(k:List (List T))(g:Bool)(h:Bool)(i:Bool)(q:Bool)(c3:List (List T))(b:Bool)(e:List (List T))(d:Bool)(j:Bool)(m:List (List T)):ax ak ann O fQ [Y'2,V'3,Y'4,V'1,(I f),(I a)] [(ad.rows o 5 1 1 r s),(ad.sl false 1 p k),(ad.box [(AV.t (T.ae g)),(AV.t (T.ae h)),(AV.t (T.ae i))]),(ad.sl false 1 q c3),(ad.box [(AV.t (T.ab 3 b e)),(AV.t (T.ae d)),V'5]),(ad.sl false 1 j m)]=
 (bif decide (a < f) then U' (if(0:Int)<=a/\a < (↑k.length:Int) then some () else none) λx=>U' k[a.toNat]? λl=>U' l.head? λx=>U' (T.int? i64 x) λn=>
 U' (if(0:Int)<=n/\n < (↑c3.length:Int) then some () else none) λx=>U' c3[n.toNat]? λl=>U' l.head? λx=>U' (T.int? i64 x) λn=>U' (bp 8 (m.length+ [[T.int
 i64 n]].length)) λx=>O fQ [Y'2,V'3,Y'4,V'1,I f,I (i64.wrap (a+ (1:Int)))] [ad.rows o 5 1 1 r s,ad.sl false 1 p k,
 ad.box [AV.t (T.ae g),AV.t (T.ae h),AV.t (T.ae i)],ad.sl false 1 q c3,ad.box [AV.t (T.ab 3 b e),AV.t (T.ae d),V'5],ad.sl false 1 (j && false) (m++ [[T.int
 i64 n]])] else some [T.ab 3 b e,T.ae d,T.ab 1 j m]):=by kernel_rfl
theorem BZ(O:aq)(C:Int)(D:Int)(u:Nat)(E:Int)(b:Int)(w:Bool)(F:Nat)(q:List Row)(y:Bool)(G:List (List T))(h:Bool)(r:List (List T))(i:Bool)(j:Bool)(k:Bool)(z:Bool)(H:List (List T))(A:Bool)(v:List (List T))(m:Bool)(s:List (List T))(o:Bool)(d:Int)(a:Nat)(e:Int)(f:Int)(g:ByteArray)(B:Bool)(c8:List (List T)):ax ak ann O gP [Y'2,Y'3,V'4,V'5,Y'6,Y'7,V'0,(I C),(I D),(AV.row (Id.c 0) u),(I E),(I b)] [(ad.rows w 5 1 1 F q),(ad.sl false 1 y G),(ad.box [(AV.t (T.ab 3 h r)),V'0,V'1]),(ad.box [(AV.t (T.ae i)),(AV.t (T.ae j)),(AV.t (T.ae k))]),(ad.sl false 1 z H),(ad.sl false 1 A v),(ad.box [(AV.t (T.ab 3 m s)),V'8,(AV.t (T.ae o))]),(ad.box [(I d),(AV.row (Id.c 0) a),(I e),(I f),(AV.t (T.str g))]),(ad.sl false 5 B c8)]=
 (bif decide (b < E) then U' (cy u q) λp=>U' (if(0:Int)<=b/\b < (↑p.snd.length:Int) then some () else none) λx=>U' (cy u q) λp=>U' p.snd[b.toNat]? λl=>
 U' l.head? λx=>U' (T.int? i64 x) λn=>U' (if(0:Int)<=n/\n < (↑v.length:Int) then some () else none) λx=>U' v[n.toNat]? λl=>U' l.head? λx=>U'
 (T.int? i64 x) λn=>U' (cy a q) λp=>U' (if(0:Int)<=b/\b < (↑p.snd.length:Int) then some () else none) λx=>U' (cy a q) λp=>U' (gL b.toNat 0
 [T.int i64 n] p.snd) λl=>O gP [Y'2,Y'3,V'4,V'5,Y'6,Y'7,V'0,I C,I D,AV.row (Id.c 0) u,I E,I
 (i64.wrap (b+ (1:Int)))] [ad.rows w 5 1 1 F (cU a (some (p.fst,l)) q),ad.sl false 1 y G,ad.box [AV.t (T.ab 3 h r),V'0,V'1],ad.box [AV.t (T.ae i),
 AV.t (T.ae j),AV.t (T.ae k)],ad.sl false 1 z H,ad.sl false 1 A v,ad.box [AV.t (T.ab 3 m s),V'8,AV.t (T.ae o)],ad.box [I d,AV.row (Id.c 0) a,I e,I f,AV.t
 (T.str g)],ad.sl false 5 B c8] else U' (cy a q) λp=>U' (bp 64 (c8.length+ [[T.int i64 d,T.ab 1 p.fst p.snd,T.int i64 e,T.int i64 f,T.str
 g]].length)) λx=>O iM [Y'2,Y'3,V'4,V'5,Y'6,V'0,I C,I (i64.wrap (D+ (1:Int)))] [ad.rows w 5 1 1 F (cU
 a none q),ad.sl false 1 y G,ad.box [AV.t (T.ab 3 h r),V'0,V'1],ad.box [AV.t (T.ae i),AV.t (T.ae j),AV.t (T.ae k)],ad.sl false 1 z H,ad.sl false 1 A
 v,ad.box [AV.t (T.ab 3 m s),V'7,AV.t (T.ae o)],ad.sl false 5 (B && false) (c8++ [[T.int i64 d,T.ab 1 p.fst p.snd,T.int i64 e,T.int i64 f,T.str
 g]])]):=by kernel_rfl
theorem B3(O:aq)(f:Int)(a:Int)(m:Bool)(q:Nat)(s:List Row)(o:Bool)(k:List (List T))(g:Bool)(h:Bool)(i:Bool)(p:Bool)(c3:List (List T))(b:Bool)(e:List (List T))(d:Bool)(j:Bool)(r:List (List T)):ax ak ann O fQ [Y'2,V'3,Y'4,V'1,(I f),(I a)] [(ad.rows m 5 1 1 q s),(ad.sl false 1 o k),(ad.box [(AV.t (T.ae g)),(AV.t (T.ae h)),(AV.t (T.ae i))]),(ad.sl false 1 p c3),(ad.box [(AV.t (T.ab 3 b e)),V'5,(AV.t (T.ae d))]),(ad.sl false 5 j r)]=
 (bif decide (a < f) then U' (if(0:Int)<=a/\a < (↑k.length:Int) then some () else none) λx=>U' k[a.toNat]? λl=>U' l.head? λx=>U' (T.int? i64 x) λn=>
 U' (if(0:Int)<=n/\n < (↑c3.length:Int) then some () else none) λx=>U' c3[n.toNat]? λl=>U' l.head? λx=>U' (T.int? i64 x) λn=>O fQ [Y'2,AV.own
 (Id.c 3),Y'4,V'1,I f,I (i64.wrap (a+ (1:Int)))] [ad.rows m 5 1 1 q s,ad.sl false 1 o k,ad.box [AV.t (T.ae g),AV.t (T.ae h),AV.t (T.ae i)],
 ad.sl false 1 p c3,ad.box [AV.t (T.ab 3 b e),V'5,V'6],ad.sl false 5 j r,ad.sl false 1 (d && false) [[T.int i64 n]]] else some [T.ab 3 b e,T.ab 5 j r,
 T.ae d]):=by kernel_rfl
theorem B4(O:aq)(e:Int)(a:Int)(o:Bool)(r:Nat)(u:List Row)(p:Bool)(k:List (List T))(f:Bool)(g:Bool)(h:Bool)(q:Bool)(c3:List (List T))(b:Bool)(d:List (List T))(i:Bool)(s:List (List T))(j:Bool)(m:List (List T)):ax ak ann O fQ [Y'2,V'3,Y'4,V'1,(I e),(I a)] [(ad.rows o 5 1 1 r u),(ad.sl false 1 p k),(ad.box [(AV.t (T.ae f)),(AV.t (T.ae g)),(AV.t (T.ae h))]),(ad.sl false 1 q c3),(ad.box [(AV.t (T.ab 3 b d)),V'5,V'6]),(ad.sl false 5 i s),(ad.sl false 1 j m)]=
 (bif decide (a < e) then U' (if(0:Int)<=a/\a < (↑k.length:Int) then some () else none) λx=>U' k[a.toNat]? λl=>U' l.head? λx=>U' (T.int? i64 x) λn=>
 U' (if(0:Int)<=n/\n < (↑c3.length:Int) then some () else none) λx=>U' c3[n.toNat]? λl=>U' l.head? λx=>U' (T.int? i64 x) λn=>U' (bp 8 (m.length+ [[T.int
 i64 n]].length)) λx=>O fQ [Y'2,V'3,Y'4,V'1,I e,I (i64.wrap (a+ (1:Int)))] [ad.rows o 5 1 1 r u,ad.sl false 1 p k,
 ad.box [AV.t (T.ae f),AV.t (T.ae g),AV.t (T.ae h)],ad.sl false 1 q c3,ad.box [AV.t (T.ab 3 b d),V'5,V'6],ad.sl false 5 i s,ad.sl false 1 (j && false) (m
 ++ [[T.int i64 n]])] else some [T.ab 3 b d,T.ab 5 i s,T.ab 1 j m]):=by kernel_rfl
end Go.Aev.Gen
