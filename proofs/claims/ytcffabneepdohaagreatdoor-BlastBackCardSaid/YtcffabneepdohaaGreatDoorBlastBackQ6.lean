import Derived.Test.YtcffabneepdohaaGreatDoorBlastBackQ5
import Derived.Test.YtcffabneepdohaaGreatDoorChecked
import Derived.KernelRfl
set_option linter.all false
namespace Go.Aev.Gen
open Go Go.Aev Go.IntKind
noncomputable abbrev aj:=Go.Proofs.Tryz.prog
def ann:cW:={
 live:=(λf r=>match f,r with
  | 10,6=>some [(4,none),(6,none),(9,none),(11,none),(13,none)]
  | 27,7=>some [(2,none),(3,none),(5,none),(7,none),(9,some 4),(31,none),(32,none),(33,none)]
  | 27,12=>some [(2,none),(3,none),(5,none),(7,none),(9,some 4),(10,none),(11,none),(12,some 4),(13,none),(31,none),(32,none),(33,none),(44,none),(45,none),(46,none)]
  | 63,41=>some [(5,none),(9,none),(12,none),(21,some 1),(174,none),(175,none),(176,none)]
  | 88,2=>some [(1,none),(2,none),(4,none),(11,none),(12,none),(13,none)]
  | 88,6=>some [(1,none),(2,none),(4,none),(6,none),(7,none),(11,none),(12,none),(13,none),(18,none),(19,none),(20,none)]
  | 89,7=>some [(4,none),(6,none),(7,none),(32,none),(33,none),(34,none)]
  | 92,2=>some [(1,none),(2,none),(8,none),(9,none),(10,none)]
  | 93,4=>some [(1,none),(2,none),(6,none),(7,none),(8,none),(19,none),(20,none),(21,none)]
  | 94,8=>some [(0,none),(1,none),(2,none),(3,none),(9,none),(33,none),(34,none),(35,none)]
  | 106,2=>some [(0,none),(1,none),(7,none),(8,none)]
  | 109,2=>some [(2,none),(5,none),(6,none),(7,none)]
  | 7,9=>some [(3,none),(4,none),(5,none),(9,none),(37,none),(38,none),(39,none)]
  | 7,15=>some [(3,none),(4,none),(5,none),(9,none),(12,none),(37,none),(38,none),(39,none),(62,none),(63,none)]
  | 7,20=>some [(3,none),(4,none),(5,none),(9,none),(12,none),(14,none),(15,none),(37,none),(38,none),(39,none),(62,none),(63,none),(73,none),(74,none),(75,none)]
  | 9,7=>some [(3,none),(4,none),(24,none),(25,none),(26,none)]
  | 6,10=>some [(1,none),(2,none),(3,none),(4,none),(7,none),(8,none),(9,none),(51,none),(52,none)]
  | 6,24=>some [(2,none),(3,none),(9,none),(13,some 3000001),(121,none),(122,none),(123,none)]
  | 11,10=>some [(3,none),(4,none),(5,none),(9,none),(10,none),(34,none),(35,none),(36,none)]
  | 12,8=>some [(1,none),(3,none),(5,none),(25,none),(26,none)]
  | 12,18=>some [(3,none),(5,none),(52,none),(53,none),(54,none)]
  | 21,4=>some [(2,none),(3,none),(16,none),(17,none),(18,none)]
  | 26,6=>some [(2,none),(3,none),(21,none),(22,none),(23,none)]
  | 14,3=>some [(1,none),(2,none),(3,none),(13,none),(14,none),(15,none)]
  | 14,9=>some [(2,none),(3,none),(31,none),(32,none),(33,none)]
  | 15,2=>some [(1,none),(3,none)]
  | 16,4=>some [(1,none),(6,none),(7,none),(13,none),(14,none),(15,none)]
  | 16,10=>some [(1,none),(6,none),(7,none),(8,none),(9,none),(13,none),(14,none),(15,none),(34,none),(35,none)]
  | 18,8=>some [(1,none),(2,none),(5,none),(7,none),(8,none),(30,none),(31,none),(32,none)]
  | 18,13=>some [(2,none),(5,none),(7,none),(8,none),(54,none),(55,none)]
  | 18,22=>some [(2,none),(5,none),(7,none),(106,none),(107,none)]
  | 18,28=>some [(2,none),(7,none),(128,none),(129,none),(130,none)]
  | 19,7=>some [(0,none),(6,none),(96,none),(97,none),(98,none)]
  | 19,14=>some [(0,none),(5,none),(9,none),(112,none),(113,none),(114,none)]
  | 20,3=>some [(1,none),(2,none),(3,none),(22,none),(23,none),(24,none)]
  | 20,8=>some [(1,none),(2,none),(3,none),(6,none)]
  | 20,12=>some [(1,none),(2,none),(3,none),(6,none),(48,none),(49,none),(50,none)]
  | 20,19=>some [(1,none),(2,none),(3,none),(9,none),(10,none),(65,none),(66,none),(67,none)]
  | 20,24=>some [(1,none),(2,none),(3,none),(9,none),(10,none),(12,none),(65,none),(66,none),(67,none),(84,none),(85,none),(86,none)]
  | 20,31=>some [(2,none),(9,none),(10,none),(108,none),(109,none),(110,none)]
  | 28,4=>some [(0,none),(2,none),(3,none),(4,none),(12,none),(13,none),(14,none)]
  | 28,8=>some [(0,none),(2,none),(3,none),(4,none),(12,none),(13,none),(14,none),(28,none),(29,none),(30,none)]
  | 28,13=>some [(0,none),(2,none),(3,none),(4,none),(8,none),(9,none),(12,none),(13,none),(14,none),(28,none),(29,none),(30,none),(38,none),(39,none),(40,none)]
  | 29,4=>some [(0,none),(2,none),(10,none),(11,none),(12,none)]
  | 30,16=>some [(1,none),(2,none),(8,none),(9,none),(12,none),(65,none),(66,none),(67,none)]
  | 59,4=>some [(0,none),(1,none),(12,none),(13,none)]
  | 38,3=>some [(0,none),(1,none),(2,none),(3,none),(4,none),(5,none),(13,none),(31,none),(32,none),(33,none)]
  | 40,3=>some [(0,none),(1,none),(2,none),(7,none),(10,none),(11,none)]
  | 47,4=>some [(0,none),(1,none),(2,none),(7,none),(8,none),(14,none),(15,none)]
  | 48,3=>some [(0,none),(1,none),(7,none),(18,none),(19,none),(20,none)]
  | 48,7=>some [(0,none),(1,none),(7,none),(9,none),(10,none),(18,none),(19,none),(20,none),(28,none),(29,none),(30,none)]
  | 49,3=>some [(0,none),(1,none),(2,none),(7,none),(10,none),(11,none)]
  | 50,3=>some [(0,none),(1,none),(2,none),(7,none),(12,none),(13,none)]
  | 65,2=>some [(1,none),(2,none),(8,none),(9,none),(10,none)]
  | 66,2=>some [(0,none),(7,none),(8,none)]
  | 80,2=>some [(0,none),(1,none),(7,none),(8,none)]
  | 74,2=>some [(0,none),(1,none),(7,none),(8,none)]
  | 81,4=>some [(1,none),(16,none),(17,none),(18,none)]
  | 75,2=>some [(0,none),(1,none),(7,none),(8,none)]
  | 95,1=>some [(0,none),(1,none)]
  | 104,1=>some [(0,none),(1,none)]
  | 117,1=>some [(0,none),(1,none),(4,none)]
  | 118,11=>some [(0,none),(1,none),(3,none),(4,none),(10,none),(11,none),(12,none),(13,none),(14,none),(15,none),(16,none)]
  | 118,18=>some [(0,none),(1,none),(3,none),(4,none),(10,none),(11,none),(12,none),(13,none),(17,none)]
  | _,_=>none),
 join:=(λf r=>match f,r with
  | 6,9=>some [(1,none),(2,none),(3,none),(4,none),(7,none),(8,none),(9,some 7000001),(9,some 8000001),(43,some 1105101)]
  | _,_=>none),
 sig:=(λf=>match f with
  | 24=>some ⟨[.own 1],[]⟩
  | _=>none),
 jm:=(λf=>match f with
  | 38=>some [true,false,false,false,false,false]
  | 42=>some [true,false]
  | 43=>some [true,false]
  | 44=>some [true,false,false]
  | 45=>some [true,false,false]
  | 46=>some [true,false,false]
  | 51=>some [true,false,false]
  | 50=>some [true,false,false]
  | 47=>some [true,false,false]
  | 48=>some [true,false,false]
  | 49=>some [true,false,false]
  | 79=>some [true,false,false]
  | 18=>some [true,false]
  | 19=>some [true,false]
  | 37=>some [false,true,true]
  | 40=>some [false,false,true]
  | 41=>some [false,false,true,true]
  | 20=>some [true]
  | _=>none),
 A9:=(λf m=>match f with
  | 38=>⟨[.f (.i .i64)],[.box [.rows 5 1 1, .same 2], .dead, .mp false [.s] (.i .i64)]⟩
  | 42=>⟨[.f (.i .i64)],[.box [.rows 5 1 1, .same 2], .dead, .mp false [.s] (.i .i64)]⟩
  | 43=>⟨[.f (.i .i64)],[.box [.rows 5 1 1, .same 2], .dead, .mp false [.s] (.i .i64)]⟩
  | 44=>⟨[.f (.i .i64)],[.box [.rows 5 1 1, .same 2], .dead, .mp false [.s] (.i .i64)]⟩
  | 45=>⟨[.f (.i .i64)],[.box [.rows 5 1 1, .same 2], .dead, .mp false [.s] (.i .i64)]⟩
  | 46=>⟨[.f (.i .i64)],[.box [.rows 5 1 1, .same 2], .dead, .mp false [.s] (.i .i64)]⟩
  | 51=>⟨[.f (.i .i64)],[.box [.rows 5 1 1, .same 2], .dead, .mp false [.s] (.i .i64)]⟩
  | 50=>⟨[.f (.i .i64)],[.box [.rows 5 1 1, .same 2], .dead, .mp false [.s] (.i .i64)]⟩
  | 47=>⟨[.t (.l 1)],[.box [.rows 5 1 1, .same 2], .dead, .mp false [.s] (.i .i64)]⟩
  | 48=>⟨[.t (.l 1)],[.box [.rows 5 1 1, .same 2], .dead, .mp false [.s] (.i .i64)]⟩
  | 49=>⟨[.t (.l 1)],[.box [.rows 5 1 1, .same 2], .dead, .mp false [.s] (.i .i64)]⟩
  | 79=>⟨[.f .b],[.box [.rows 5 1 1, .same 2], .dead, .mp false [.s] (.i .i64)]⟩
  | 18=>⟨[.t (.l 1)],[.box [.ref 1 0, .t (.l 3), .t (.l 5), .t (.l 1), .f .s, .t (.l 1), .same 2, .same 3], .box [.rows 5 1 1, .same 5], .sl 1, .sl 1, .dead, .mp false [.s] (.i .i64)]⟩
  | 19=>⟨[.f (.i .i64)],[.box [.ref 1 0, .t (.l 3), .t (.l 5), .t (.l 1), .f .s, .t (.l 1), .same 2, .same 3], .box [.rows 5 1 1, .same 5], .sl 1, .sl 1, .dead, .mp false [.s] (.i .i64)]⟩
  | 37=>⟨[.t (.l 1)],[.box [.ref 2 0], .box [.f (.i .i64), .t (.l 1), .f (.i .i64), .f (.i .i64), .f .s], .box [.ref 3 0, .t (.l 3), .t (.l 5), .t (.l 1), .f .s, .t (.l 1), .same 4, .same 5], .box [.rows 5 1 1, .same 7], .sl 1, .sl 1, .dead, .mp false [.s] (.i .i64)]⟩
  | 40=>if m=1 then⟨[.t (.l 1)],[.box [.ref 2 0], .box [.f (.i .i64)], .box [.ref 3 0, .t (.l 3), .t (.l 5), .t (.l 1), .f .s, .t (.l 1), .same 4, .same 5], .box [.rows 5 1 1, .same 7], .sl 1, .sl 1, .dead, .mp false [.s] (.i .i64)]⟩ else⟨[.t (.l 1)],[.box [.rows 5 1 1, .same 2], .dead, .mp false [.s] (.i .i64)]⟩
  | 41=>⟨[.f (.i .i64)],[.box [.ref 2 0], .box [.f (.i .i64)], .box [.ref 3 0, .t (.l 3), .t (.l 5), .t (.l 1), .f .s, .t (.l 1), .same 4, .same 5], .box [.rows 5 1 1, .same 7], .sl 1, .sl 1, .dead, .mp false [.s] (.i .i64)]⟩
  | 20=>⟨[.agg [.t (.l 3), .t (.l 5), .t (.l 1)]],[.dead, .dead]⟩
  | _=>⟨[],[]⟩),
 wr:=(λf=>f==63),
 mN:=(λd t=>match d,t with
  | some 66,23=>1
  | some 67,23=>3
  | some 62,50=>6
  | some 89,50=>6
  | some 103,23=>5
  | _,_=>0),
 tz:=(λd t=>match d,t with
  | some 147,24=>true
  | some 149,24=>true
  | some 159,24=>true
  | some 161,24=>true
  | some 171,24=>true
  | some 173,24=>true
  | some 187,24=>true
  | some 189,24=>true
  | some 198,24=>true
  | some 200,24=>true
  | some 209,24=>true
  | some 23,3=>true
  | some 28,3=>true
  | some 39,3=>true
  | _,_=>false),
 zg:=(λd t=>match d,t with
  | some 150,60=>true
  | some 153,61=>true
  | some 162,60=>true
  | some 165,61=>true
  | some 174,60=>true
  | some 177,61=>true
  | some 182,60=>true
  | some 185,61=>true
  | some 193,60=>true
  | some 196,61=>true
  | some 204,60=>true
  | some 207,61=>true
  | some 211,3=>true
  | some 26,0=>true
  | some 27,3=>true
  | some 33,0=>true
  | some 34,3=>true
  | some 37,0=>true
  | some 38,3=>true
  | _,_=>false),
 zf:=(λd t=>match d,t with
  | some 31,0=>true
  | some 32,52=>true
  | _,_=>false),
 Bg:=(λd=>match d with
  | some 84=>true
  | some 87=>true
  | _=>false),
 st:=(λd=>match d with
  | some 15=>true
  | some 16=>true
  | some 27=>true
  | some 24=>true
  | some 23=>true
  | some 31=>true
  | some 34=>true
  | _=>false),
 KY:=(λd t=>match d,t with
  | some 16,61=>false
  | some 16,24=>false
  | some 34,0=>false
  | _,_=>true),
 ld:=(λd=>match d with
  | some 27=>true
  | some 66=>true
  | some 79=>true
  | some 54=>true
  | some 23=>true
  | _=>false),
 ext:=(λf bE a=>match f,bE,a with
  | 36,[.t (.int .i64 n)],[]=>if -9223372036854775808<=n/\n<=9223372036854775807 then some [.str ⟨(Go.Lib.itoa n).toArray⟩] else none
  | _,_,_=>none)}
abbrev Y'0:AV:=.ref (Id.c 0) 0
abbrev V'0:AV:=.own (Id.c 0)
abbrev Y'1:AV:=.ref (Id.c 1) 0
abbrev V'1:AV:=.own (Id.c 1)
abbrev Y'2:AV:=.ref (Id.c 2) 0
abbrev V'2:AV:=.own (Id.c 2)
abbrev Y'3:AV:=.ref (Id.c 3) 0
abbrev V'3:AV:=.own (Id.c 3)
abbrev Y'4:AV:=.ref (Id.c 4) 0
abbrev V'4:AV:=.own (Id.c 4)
abbrev Y'5:AV:=.ref (Id.c 5) 0
abbrev V'5:AV:=.own (Id.c 5)
abbrev Y'6:AV:=.ref (Id.c 6) 0
abbrev V'6:AV:=.own (Id.c 6)
abbrev Y'7:AV:=.ref (Id.c 7) 0
abbrev V'7:AV:=.own (Id.c 7)
abbrev Y'8:AV:=.ref (Id.c 8) 0
abbrev V'8:AV:=.own (Id.c 8)
abbrev Y'9:AV:=.ref (Id.c 9) 0
abbrev V'9:AV:=.own (Id.c 9)
abbrev U' {α R:Type} [Inhabited α](a:Option α)(k:α → Option R):Option R:=ab none a k
theorem hm:aj.follows .mixedOrders=true:=by kernel_rfl
noncomputable abbrev AF:Key:=bY aj 6 false 9 [(1,none),(2,none),(3,none),(4,none),(7,none),(8,none),(9,some 7000001),(9,some 8000001),(43,some 1105101)] (0,0)
noncomputable abbrev pP:Key:=bY aj 14 true 3 [(1,none),(2,none),(3,none),(13,none),(14,none),(15,none)] (0,0)
noncomputable abbrev xE:Key:=bY aj 15 true 2 [(1,none),(3,none)] (0,0)
noncomputable abbrev nq:Key:=bY aj 16 true 4 [(1,none),(6,none),(7,none),(13,none),(14,none),(15,none)] (0,0)
noncomputable abbrev ve:Key:=bY aj 6 true 10 [(1,none),(2,none),(3,none),(4,none),(7,none),(8,none),(9,none),(51,none),(52,none)] (0,0)
noncomputable abbrev jz:Key:=bY aj 14 true 9 [(2,none),(3,none),(31,none),(32,none),(33,none)] (0,0)
noncomputable abbrev pQ:Key:=bY aj 16 true 10 [(1,none),(6,none),(7,none),(8,none),(9,none),(13,none),(14,none),(15,none),(34,none),(35,none)] (0,0)
noncomputable abbrev tc:Key:=bY aj 6 true 24 [(2,none),(3,none),(9,none),(13,some 3000001),(121,none),(122,none),(123,none)] (0,0)
noncomputable abbrev fK:Key:=bY aj 74 true 2 [(0,none),(1,none),(7,none),(8,none)] (0,0)
noncomputable abbrev jh:Key:=bY aj 75 true 2 [(0,none),(1,none),(7,none),(8,none)] (0,0)
noncomputable abbrev ru:Key:=bY aj 18 true 8 [(1,none),(2,none),(5,none),(7,none),(8,none),(30,none),(31,none),(32,none)] (6,2008)
noncomputable abbrev rr:Key:=bY aj 18 true 22 [(2,none),(5,none),(7,none),(106,none),(107,none)] (6,2008)
noncomputable abbrev s5:Key:=bY aj 18 true 28 [(2,none),(7,none),(128,none),(129,none),(130,none)] (6,2008)
noncomputable abbrev AD:Key:=bY aj 19 true 7 [(0,none),(6,none),(96,none),(97,none),(98,none)] (6,2008)
noncomputable abbrev rv:Key:=bY aj 19 true 14 [(0,none),(5,none),(9,none),(112,none),(113,none),(114,none)] (6,2008)
noncomputable abbrev jA:Key:=bY aj 18 true 13 [(2,none),(5,none),(7,none),(8,none),(54,none),(55,none)] (6,2008)
noncomputable abbrev rA:Key:=bY aj 40 true 3 [(0,none),(1,none),(2,none),(7,none),(10,none),(11,none)] (8,1)
noncomputable abbrev fe:Key:=bY aj 40 true 3 [(0,none),(1,none),(2,none),(7,none),(10,none),(11,none)] (3,2002)
noncomputable abbrev rB:Key:=bY aj 47 true 4 [(0,none),(1,none),(2,none),(7,none),(8,none),(14,none),(15,none)] (3,2002)
noncomputable abbrev s7:Key:=bY aj 48 true 3 [(0,none),(1,none),(7,none),(18,none),(19,none),(20,none)] (3,2002)
noncomputable abbrev kP:Key:=bY aj 49 true 3 [(0,none),(1,none),(2,none),(7,none),(10,none),(11,none)] (3,2002)
noncomputable abbrev xG:Key:=bY aj 20 true 3 [(1,none),(2,none),(3,none),(22,none),(23,none),(24,none)] (2,0)
noncomputable abbrev AE:Key:=bY aj 50 true 3 [(0,none),(1,none),(2,none),(7,none),(12,none),(13,none)] (3,2002)
noncomputable abbrev rC:Key:=bY aj 48 true 7 [(0,none),(1,none),(7,none),(9,none),(10,none),(18,none),(19,none),(20,none),(28,none),(29,none),(30,none)] (3,2002)
noncomputable abbrev ot:Key:=bY aj 20 true 8 [(1,none),(2,none),(3,none),(6,none)] (2,0)
noncomputable abbrev xI:Key:=bY aj 38 true 3 [(0,none),(1,none),(2,none),(3,none),(4,none),(5,none),(13,none),(31,none),(32,none),(33,none)] (3,2002)
noncomputable abbrev xF:Key:=bY aj 20 true 12 [(1,none),(2,none),(3,none),(6,none),(48,none),(49,none),(50,none)] (2,0)
noncomputable abbrev ke:Key:=bY aj 20 true 19 [(1,none),(2,none),(3,none),(9,none),(10,none),(65,none),(66,none),(67,none)] (2,0)
noncomputable abbrev jg:Key:=bY aj 20 true 24 [(1,none),(2,none),(3,none),(9,none),(10,none),(12,none),(65,none),(66,none),(67,none),(84,none),(85,none),(86,none)] (2,0)
noncomputable abbrev il:Key:=bY aj 20 true 31 [(2,none),(9,none),(10,none),(108,none),(109,none),(110,none)] (2,0)
abbrev LT:=List (List T)
abbrev af(n:Nat)(e:Bool)(l:List (List T)):AV:=AV.t (T.aa n e l)
abbrev bC(s:ByteArray):AV:=AV.t (T.str s)
abbrev bB(e:Bool):AV:=AV.t (T.aC e)
abbrev ae(n:Int):T:=T.int i64 n
abbrev aB(l:List (List T×T)):ad:=ad.mp false [Ck.s] (Ck.i i64) l
abbrev ak(n:Nat)(e:Bool)(l:List (List T)):ad:=ad.sl false n e l
abbrev aA(a:Nat)(b:Nat):ad:=ad.box [AV.own (Id.c a),AV.own (Id.c b)]
abbrev bQ(d:Nat)(e:Bool)(f:LT)(g:Bool)(a4:LT)(h:Bool)(i:LT)(j:ByteArray)(k:Bool)(l:LT)(a:Nat)(b:Nat):ad:=ad.box [AV.ref (Id.c d) 0,af 3 e f,af 5 g a4,af 1 h i,bC j,af 1 k l,AV.own (Id.c a),AV.own (Id.c b)]
abbrev bM(a:Bool)(b:LT)(c:Bool)(d:LT)(a4:Bool)(e:LT):AV:=AV.agg [af 3 a b,af 5 c d,af 1 a4 e]
abbrev bV(a:Int)(b:Bool)(c:LT)(d:Int)(a4:Int)(e:ByteArray):AV:=AV.agg [I a,af 1 b c,I d,I a4,bC e]
abbrev bZ(a:Int)(b:Bool)(c:LT)(d:Int)(a4:Int)(e:ByteArray):ad:=ad.box [I a,af 1 b c,I d,I a4,bC e]
abbrev cq(a:Bool)(b:Bool)(c:Bool):ad:=ad.box [bB a,bB b,bB c]
abbrev cx(a:Int)(b:Int):ad:=ad.box [I a,I b]
abbrev cF(a:Nat):ad:=ad.box [AV.ref (Id.c a) 0]
abbrev cX(a:Bool)(b:LT):AV:=AV.agg [af 5 a b]
abbrev dq(a:ByteArray)(b:Bool)(c:LT)(d:Int):AV:=AV.agg [bC a,af 1 b c,I d]
abbrev dH(a:Int)(b:Int)(c:Bool)(d:Int):ad:=ad.box [I a,I b,bB c,I d]
abbrev dR(a:Bool)(b:Int)(c:Int)(d:Bool)(a4:Int):ad:=ad.box [bB a,I b,I c,bB d,I a4]
abbrev dS(a:Int)(b:Int):AV:=AV.agg [I a,I b]
abbrev eu(a:Bool)(b:LT)(c:Bool)(d:LT)(a4:Bool)(e:LT):ad:=ad.box [af 3 a b,af 5 c d,af 1 a4 e]
abbrev eI(a:Bool)(b:LT)(d:Nat)(e:Nat):ad:=ad.box [af 3 a b,AV.own (Id.c d),AV.own (Id.c e)]
abbrev iH(a:Bool)(b:LT):ad:=ad.box [af 5 a b]
abbrev iW(a:Int)(b:Int)(c:Bool)(d:LT)(a4:Int):AV:=AV.agg [I a,I b,af 2 c d,I a4]
abbrev ku(a:ByteArray)(b:Bool)(c:LT)(d:Int):ad:=ad.box [bC a,af 1 b c,I d]
abbrev l4(a:Bool)(b:LT)(c:Int)(d:Int)(a4:Bool)(e:LT)(f:Int):ad:=ad.box [af 5 a b,I c,I d,af 2 a4 e,I f]
abbrev mC(a:Bool):ad:=ad.box [bB a]
abbrev nA(a:Bool)(b:LT)(c:Int)(d:Int)(a4:Bool)(e:LT)(f:Int):AV:=AV.agg [af 5 a b,I c,I d,af 2 a4 e,I f]
abbrev nC(a:Bool)(b:LT)(c:Int)(d:Int)(a4:Bool)(e:LT)(f:Int):AV:=AV.agg [af 1 a b,I c,I d,af 2 a4 e,I f]
abbrev nD(a:Nat)(b:Int)(d:Int)(e:Bool)(a4:Int):ad:=ad.box [AV.own (Id.c a),I b,I d,bB e,I a4]
abbrev oB(a:Bool)(b:LT)(d:Nat)(e:Bool):ad:=ad.box [af 3 a b,AV.own (Id.c d),bB e]
abbrev oC(a:Bool)(b:LT)(c:Int)(d:Int)(a4:Bool)(e:LT)(f:Int):ad:=ad.box [af 1 a b,I c,I d,af 2 a4 e,I f]
abbrev pY(a:Bool)(b:LT)(c:Bool)(d:Bool):ad:=ad.box [af 3 a b,bB c,bB d]
abbrev pZ(a:Int)(b:Int)(d:Nat)(e:Int):ad:=ad.box [I a,I b,AV.own (Id.c d),I e]
abbrev tv(a:Int)(b:Int)(c:Bool)(d:LT)(a4:Int):ad:=ad.box [I a,I b,af 2 c d,I a4]
theorem e9(O:aq)(A C D:Bool)(M N P:List (List T)):au aj ann O (Key.call 6) [bM A M C N D P] []=
 (U' (O (Key.call 12) [bM A M C N D P] []) λl=>U' l.head? λx=>U' (T.aQ 1 x) λp=>U' l.tail.head? λx=>U' (T.int? i64 x) λn=>U' l.tail.tail.head? λx=>U' (T.int? i64 x) λe=>bif !n==0 then some [T.aC true,T.aC true,T.aC true,ae n,ae e] else bw (O (Key.call 13) [bM A M C N D P,af 1 p.1 p.2] []) λb=>bif !b then yo (O (Key.call 14) [bM A M C N D P] []) λp a d=>some [T.aa 3 p.1 p.2,T.aa 5 a.1 a.2,T.aa 1 d.1 d.2,ae 0,ae 0] else ir (O (Key.call 15) [bM A M C N D P] []) λs=>U' (O (Key.call 16) [bM A M C N D P,bC s] []) λl=>U' l.head? λx=>U' (T.aQ 3 x) λa=>U' l.tail.head? λx=>U' x.bool? λb=>O AF [Y'0,Y'1,Y'2,af 1 p.1 p.2,af 3 a.1 a.2,B b,Y'3,Y'3,Y'4] [eu A M C N D P,cq true true true,cx (0:Int) (0:Int),bQ 4 A M C N D P s p.1 p.2 5 6,aA 7 8,ak 1 true [],ak 1 true [],ad.rows true 5 1 1 0 [],aB []]):=by kernel_rfl
theorem NI(O:aq)(A C D E:Bool)(M N P Q:List (List T)):au aj ann O (Key.call 13) [bM A M C N D P,af 1 E Q] []=
 (bw (O (Key.call 31) [af 1 E Q,AV.fn 17 [] []] []) λb=>U' (fA (some !b) (O (Key.call 32) [af 3 A M,AV.fn 33 [] []] [])) λl=>ab (some !b) l.head? λx=>ab (some !b) x.bool? λa=>some [T.bool (bif b then true else a)]):=by kernel_rfl
theorem FO(O:aq)(A C D:Bool)(M N P:List (List T)):au aj ann O (Key.call 14) [bM A M C N D P] []=
 (iI (O (Key.call 24) [af 1 D P] []) λp=>O pP [Y'0,Y'1,Y'2,af 3 A M,I ↑M.length,I 0] [eu A M C N D P,cq true true true,ad.box [bB true,bB true,V'3],ak 1 p.1 p.2]):=by kernel_rfl
theorem NJ(O:aq)(A C D:Bool)(M N P:List (List T)):au aj ann O (Key.call 15) [bM A M C N D P] []=
 (O xE [Y'0,Y'1] [eu A M C N D P,ad.box [bC (ByteArray.mk #[(95:UInt8)])]]):=by kernel_rfl
theorem NK(O:aq)(A C D:Bool)(M N P:List (List T))(t:ByteArray):au aj ann O (Key.call 16) [bM A M C N D P,bC t] []=
 (O nq [bC t,bB true,B true,af 3 A M,I ↑M.length,I 0] []):=by kernel_rfl
theorem PD(O:aq)(A C D E F G H J K L d A2 e f g h:Bool)(M N P Q R S U V W X Y:List (List T))(a b:Int)(t:ByteArray)(y:Nat)(c7:List Row)(c8:List (List T×T)):au aj ann O AF [Y'0,Y'1,Y'2,af 1 A M,af 3 C N,B D,Y'3,Y'3,Y'4] [eu E P F Q G R,cq H J K,cx a b,bQ 4 L S d U A2 V t e W 5 6,aA 7 8,ak 1 f X,ak 1 g Y,ad.rows h 5 1 1 y c7,aB c8]=
 (O ve [Y'0,Y'1,Y'2,af 1 A M,af 3 C N,B D,Y'3,I ↑Q.length,I 0] [eu E P F Q G R,cq H J K,cx a b,bQ 4 L S d U A2 V t e W 5 6,aA 7 8,ak 1 f X,ak 1 g Y,ad.rows h 5 1 1 y c7,aB c8]):=by kernel_rfl
theorem N1(O:aq)(A:Bool)(M:List (List T)):au aj ann O (Key.call 31) [af 1 A M,AV.fn 17 [] []] []=
 (cM (O (Key.call 74) [af 1 A M,AV.fn 17 [] []] []) λn=>some [T.bool (decide (n>=0))]):=by kernel_rfl
theorem Oc(O:aq)(A:Bool)(M:List (List T)):au aj ann O (Key.call 32) [af 3 A M,AV.fn 33 [] []] []=
 (cM (O (Key.call 75) [af 3 A M,AV.fn 33 [] []] []) λn=>some [T.bool (decide (n>=0))]):=by kernel_rfl
theorem ND(O:aq)(A:Bool)(M:List (List T)):au aj ann O (Key.call 24) [af 1 A M] []=
 (bif A then some [T.aC true] else U' (bH 8 (0+M.length)) λx=>some [T.aa 1 false M]):=by kernel_rfl
theorem FP(O:aq)(A C D E F G H J K L:Bool)(M N P Q R:List (List T))(a b:Int):au aj ann O pP [Y'0,Y'1,Y'2,af 3 A M,I a,I b] [eu C N D P E Q,cq F G H,ad.box [bB J,bB K,V'3],ak 1 L R]=
 (bif decide (b < a) then lf M b λs p n=>iI (O (Key.call 24) [af 1 p.1 p.2] []) λp=>O pP [Y'0,Y'1,Y'2,af 3 A M,I a,I (i64.wrap (b+1))] [eu C N D P E Q,cq F G H,ad.box [V'3,bB K,V'4],ak 3 (J && false) [[T.str s,T.aa 1 p.1 p.2,ae n]],ak 1 L R] else O jz [Y'0,Y'1,af 5 D P,I ↑P.length,I 0] [cq F G H,ad.box [bB J,bB K,V'2],ak 1 L R]):=by kernel_rfl
theorem Bp(O:aq)(A C D:Bool)(M N P:List (List T))(t:ByteArray):au aj ann O xE [Y'0,Y'1] [eu A M C N D P,ad.box [bC t]]=
 (bw (O (Key.call 32) [af 3 A M,AV.fn 34 [] [AV.t (T.ptr [T.str t])]] []) λb=>bif b then aF (t.size+1<=4294967296) <| O xE [Y'0,Y'1] [eu A M C N D P,ad.box [bC (t++ (ByteArray.mk #[(95:UInt8)]))]] else some [T.str t]):=by kernel_rfl
theorem Bq(O:aq)(t:ByteArray)(A C D:Bool)(M:List (List T))(a b:Int):au aj ann O nq [bC t,bB A,B C,af 3 D M,I a,I b] []=
 (bif decide (b < a) then lf M b λs p n=>bw (O (Key.call 17) [I n] []) λd=>bif !d then iI (O (Key.call 24) [af 1 p.1 p.2] []) λp=>O nq [bC t,V'0,B C,af 3 D M,I a,I (i64.wrap (b+1))] [ak 3 (A && false) [[T.str s,T.aa 1 p.1 p.2,ae n]]] else O pQ [bC t,bB A,B C,I b,Y'0,af 3 D M,I a,I b,I (i64.wrap (n - 10)),I 0] [ku s p.1 p.2 n] else some [T.aC A,T.bool (bif C then true else false)]):=by kernel_rfl
theorem tP(O:aq)(A C D E F G H J K L m A2 o q r u:Bool)(M N P Q R S U V W X Y:List (List T))(a b c d:Int)(t:ByteArray)(y:Nat)(c7:List Row)(c8:List (List T×T)):au aj ann O ve [Y'0,Y'1,Y'2,af 1 A M,af 3 C N,B D,Y'3,I a,I b] [eu E P F Q G R,cq H J K,cx c d,bQ 4 L S m U A2 V t o W 5 6,aA 7 8,ak 1 q X,ak 1 r Y,ad.rows u 5 1 1 y c7,aB c8]=
 (bif decide (b < a) then bq M b λn=>bw (O (Key.call 17) [I n] []) λv=>bif v then U' (O (Key.call 18) [Y'0,I b] [bQ 1 L S m U A2 V t o W 2 3,aA 4 5,ak 1 q X,ak 1 r Y,ad.rows u 5 1 1 y c7,aB c8]) λl=>U' l.head? λx=>U' (T.aQ 1 x) λp=>U' (List.drop 1 l).head? λx=>U' (List.drop 1 l).tail.head? λx=>U' (T.aQ 3 x) λh=>U' (List.drop 1 l).tail.tail.head? λx=>U' (T.aQ 5 x) λi=>U' (List.drop 1 l).tail.tail.tail.head? λx=>U' (T.aQ 1 x) λj=>U' (List.drop 1 l).tail.tail.tail.tail.head? λx=>U' x.dY λs=>U' (List.drop 1 l).tail.tail.tail.tail.tail.head? λx=>U' (T.aQ 1 x) λf=>U' (List.drop 1 l).tail.tail.tail.tail.tail.tail.head? λx=>U' (List.drop 1 l).tail.tail.tail.tail.tail.tail.tail.head? λx=>U' (List.drop 8 (List.drop 1 l)).head? λx=>U' (kB x) λe=>U' (List.drop 8 (List.drop 1 l)).tail.head? λx=>U' ((List.drop 2 (List.drop 8 (List.drop 1 l))).head?.bind λz=>T.aQ 1 z) λg=>U' ((List.drop 2 (List.drop 8 (List.drop 1 l))).tail.head?.bind λz=>T.aQ 1 z) λk=>U' ((List.drop 2 (List.drop 8 (List.drop 1 l))).tail.tail.head?.bind λz=>jL z) λl=>U' (bH 24 (g.2.length+1)) λx=>U' (bH 8 (k.2.length+1)) λx=>bif decide (↑e.2.length > (800:Int)) then bif bif !D then true else decide (↑e.2.length > (800:Int)) then some [T.aC true,T.aC true,T.aC true,ae 10,ae 0] else O tc [Y'0,Y'1,Y'2,Y'3,af 1 G R,I ↑R.length,I 0] [cq H J K,cx c d,bQ 4 h.1 h.2 i.1 i.2 j.1 j.2 s f.1 f.2 5 6,eI C N 7 8,aA 7 9,ak 1 (g.1 && false) (g.2++ [[T.aa 1 p.1 p.2]]),ak 1 (k.1 && false) (k.2++ [[ae 0]]),ad.rows e.1 5 1 1 e.2.length e.2,ak 1 true [],aB l] else O ve [Y'0,Y'1,Y'2,af 1 A M,af 3 C N,B D,Y'3,I a,I (i64.wrap (b+1))] [eu E P F Q G R,cq H J K,cx c d,bQ 4 h.1 h.2 i.1 i.2 j.1 j.2 s f.1 f.2 5 6,aA 7 8,ak 1 (g.1 && false) (g.2++ [[T.aa 1 p.1 p.2]]),ak 1 (k.1 && false) (k.2++ [[ae 0]]),ad.rows e.1 5 1 1 e.2.length e.2,aB l] else U' (O (Key.call 19) [Y'0,I b] [bQ 1 L S m U A2 V t o W 2 3,aA 4 5,ak 1 q X,ak 1 r Y,ad.rows u 5 1 1 y c7,aB c8]) λl=>U' l.head? λx=>U' (T.int? i64 x) λn=>U' (List.drop 1 l).head? λx=>U' (List.drop 1 l).tail.head? λx=>U' (T.aQ 3 x) λp=>U' (List.drop 1 l).tail.tail.head? λx=>U' (T.aQ 5 x) λh=>U' (List.drop 1 l).tail.tail.tail.head? λx=>U' (T.aQ 1 x) λi=>U' (List.drop 1 l).tail.tail.tail.tail.head? λx=>U' x.dY λs=>U' (List.drop 1 l).tail.tail.tail.tail.tail.head? λx=>U' (T.aQ 1 x) λj=>U' (List.drop 1 l).tail.tail.tail.tail.tail.tail.head? λx=>U' (List.drop 1 l).tail.tail.tail.tail.tail.tail.tail.head? λx=>U' (List.drop 8 (List.drop 1 l)).head? λx=>U' (kB x) λf=>U' (List.drop 8 (List.drop 1 l)).tail.head? λx=>U' ((List.drop 2 (List.drop 8 (List.drop 1 l))).head?.bind λz=>T.aQ 1 z) λe=>U' ((List.drop 2 (List.drop 8 (List.drop 1 l))).tail.head?.bind λz=>T.aQ 1 z) λg=>U' ((List.drop 2 (List.drop 8 (List.drop 1 l))).tail.tail.head?.bind λz=>jL z) λl=>U' (bH 24 (e.2.length+1)) λx=>U' (bH 8 (g.2.length+1)) λx=>bif decide (↑f.2.length > (800:Int)) then bif bif !D then true else decide (↑f.2.length > (800:Int)) then some [T.aC true,T.aC true,T.aC true,ae 10,ae 0] else O tc [Y'0,Y'1,Y'2,Y'3,af 1 G R,I ↑R.length,I 0] [cq H J K,cx c d,bQ 4 p.1 p.2 h.1 h.2 i.1 i.2 s j.1 j.2 5 6,eI C N 7 8,aA 7 9,ak 1 (e.1 && false) (e.2++ [[T.aC true]]),ak 1 (g.1 && false) (g.2++ [[ae n]]),ad.rows f.1 5 1 1 f.2.length f.2,ak 1 true [],aB l] else O ve [Y'0,Y'1,Y'2,af 1 A M,af 3 C N,B D,Y'3,I a,I (i64.wrap (b+1))] [eu E P F Q G R,cq H J K,cx c d,bQ 4 p.1 p.2 h.1 h.2 i.1 i.2 s j.1 j.2 5 6,aA 7 8,ak 1 (e.1 && false) (e.2++ [[T.aC true]]),ak 1 (g.1 && false) (g.2++ [[ae n]]),ad.rows f.1 5 1 1 f.2.length f.2,aB l] else bif bif !D then true else decide (↑c7.length > (800:Int)) then some [T.aC true,T.aC true,T.aC true,ae 10,ae 0] else O tc [Y'0,Y'1,Y'2,Y'3,af 1 G R,I ↑R.length,I 0] [cq H J K,cx c d,bQ 4 L S m U A2 V t o W 5 6,eI C N 7 8,aA 7 9,ak 1 q X,ak 1 r Y,ad.rows u 5 1 1 y c7,ak 1 true [],aB c8]):=by kernel_rfl
theorem Pe(O:aq)(A:Bool)(M:List (List T)):au aj ann O (Key.call 74) [af 1 A M,AV.fn 17 [] []] []=
 (O fK [af 1 A M,AV.fn 17 [] [],I ↑M.length,I 0] []):=by kernel_rfl
theorem Pp(O:aq)(A:Bool)(M:List (List T)):au aj ann O (Key.call 75) [af 3 A M,AV.fn 33 [] []] []=
 (O jh [af 3 A M,AV.fn 33 [] [],I ↑M.length,I 0] []):=by kernel_rfl
theorem FQ(O:aq)(A C D E F G H J K L:Bool)(M N P Q R S:List (List T))(a b:Int):au aj ann O pP [Y'0,Y'1,Y'2,af 3 A M,I a,I b] [eu C N D P E Q,cq F G H,ad.box [V'3,bB J,V'4],ak 3 K R,ak 1 L S]=
 (bif decide (b < a) then lf M b λs p n=>iI (O (Key.call 24) [af 1 p.1 p.2] []) λp=>U' (bH 48 (R.length+1)) λx=>O pP [Y'0,Y'1,Y'2,af 3 A M,I a,I (i64.wrap (b+1))] [eu C N D P E Q,cq F G H,ad.box [V'3,bB J,V'4],ak 3 (K && false) (R++ [[T.str s,T.aa 1 p.1 p.2,ae n]]),ak 1 L S] else O jz [Y'0,Y'1,af 5 D P,I ↑P.length,I 0] [cq F G H,ad.box [V'2,bB J,V'3],ak 3 K R,ak 1 L S]):=by kernel_rfl
theorem FR(O:aq)(A C D E F G H:Bool)(M N:List (List T))(a b:Int):au aj ann O jz [Y'0,Y'1,af 5 A M,I a,I b] [cq C D E,ad.box [bB F,bB G,V'2],ak 1 H N]=
 (bif decide (b < a) then nG M b λn p d e s=>iI (O (Key.call 24) [af 1 p.1 p.2] []) λp=>O jz [Y'0,Y'1,af 5 A M,I a,I (i64.wrap (b+1))] [cq C D E,ad.box [bB F,V'2,V'3],ak 5 (G && false) [[ae n,T.aa 1 p.1 p.2,ae d,ae e,T.str s]],ak 1 H N] else some [T.aC F,T.aC G,T.aa 1 H N]):=by kernel_rfl
theorem Gm(O:aq)(A:Bool)(M:List (List T))(t:ByteArray):au aj ann O (Key.call 32) [af 3 A M,AV.fn 34 [] [AV.t (T.ptr [T.str t])]] []=
 (cM (O (Key.call 75) [af 3 A M,AV.fn 34 [] [AV.t (T.ptr [T.str t])]] []) λn=>some [T.bool (decide (n>=0))]):=by kernel_rfl
theorem NC(O:aq)(a:Int):au aj ann O (Key.call 17) [I a] []=
 (some [T.bool (bif decide (a > 10) then decide (a<=18) else false)]):=by kernel_rfl
theorem Br(O:aq)(t:ByteArray)(A C D:Bool)(M N:List (List T))(a b:Int):au aj ann O nq [bC t,V'0,B A,af 3 C M,I a,I b] [ak 3 D N]=
 (bif decide (b < a) then lf M b λs p n=>bw (O (Key.call 17) [I n] []) λd=>bif !d then iI (O (Key.call 24) [af 1 p.1 p.2] []) λp=>U' (bH 48 (N.length+1)) λx=>O nq [bC t,V'0,B A,af 3 C M,I a,I (i64.wrap (b+1))] [ak 3 (D && false) (N++ [[T.str s,T.aa 1 p.1 p.2,ae n]])] else O pQ [bC t,V'0,B A,I b,Y'1,af 3 C M,I a,I b,I (i64.wrap (n - 10)),I 0] [ak 3 D N,ku s p.1 p.2 n] else some [T.aa 3 D N,T.bool (bif A then decide (↑N.length<=(30:Int)) else false)]):=by kernel_rfl
theorem NL(O:aq)(t u:ByteArray)(A C D E:Bool)(a b c d e f:Int)(M N:List (List T)):au aj ann O pQ [bC t,bB A,B C,I a,Y'0,af 3 D M,I b,I c,I d,I e] [ku u E N f]=
 (bif decide (e < d) then ir (O (Key.call 36) [I a] []) λs=>aF (t.size+s.size<=4294967296) <| aF ((t++s).size+1<=4294967296) <| ir (O (Key.call 36) [I e] []) λg=>aF ((t++s++ (ByteArray.mk #[(95:UInt8)])).size+g.size<=4294967296) <| iI (O (Key.call 24) [af 1 E N] []) λp=>O pQ [bC t,V'0,B (bif C then decide ((↑(t++s++ (ByteArray.mk #[(95:UInt8)])++g).size:Int)<=(12:Int)) else false),I a,Y'1,af 3 D M,I b,I c,I d,I (i64.wrap (e+1))] [ak 3 (A && false) [[T.str (t++s++ (ByteArray.mk #[(95:UInt8)])++g),T.aa 1 p.1 p.2,ae 1]],ku u E N f] else O nq [bC t,bB A,B C,af 3 D M,I b,I (i64.wrap (c+1))] []):=by kernel_rfl
theorem nL(O:aq)(a:Int)(A C D E F G H:Bool)(M N P Q R S:List (List T))(t:ByteArray)(y:Nat)(Z:List Row)(c5:List (List T×T)):au aj ann O (Key.call 18) [Y'0,I a] [bQ 1 A M C N D P t E Q 2 3,aA 4 5,ak 1 F R,ak 1 G S,ad.rows H 5 1 1 y Z,aB c5]=
 (nG N a λn p L i s=>bif n==9 then O ru [I a,Y'6,Y'7,bB true,bB true,af 1 p.1 p.2,I ↑p.2.length,I 0] [bQ 1 A M C N D P t E Q 2 3,aA 4 5,ak 1 F R,ak 1 G S,ad.rows H 5 1 1 y Z,aB c5,cF 0,bZ n p.1 p.2 L i s] else bif n==7 then fG p.2 λd=>bq S d λb=>qc (O (Key.call 37) [I 1,Y'0,Y'1] [cF 2,bZ n p.1 p.2 L i s,bQ 3 A M C N D P t E Q 4 5,aA 6 7,ak 1 F R,ak 1 G S,ad.rows H 5 1 1 y Z,aB c5]) λp n V e W s u v w Y B g J K l=>yq (O (Key.call 37) [I 2,Y'0,Y'1] [cF 2,bZ n V.1 V.2 e W s,bQ 3 u.1 u.2 v.1 v.2 w.1 w.2 Y B.1 B.2 4 5,aA 6 7,ak 1 J.1 J.2,ak 1 K.1 K.2,ad.rows g.1 5 1 1 g.2.length g.2,aB l]) λU j k m s o f q r l=>U' (O (Key.call 40) [af 1 p.1 p.2,af 1 U.1 U.2,AV.fn 41 [] [Y'0,Y'1]] [cF 2,ad.box [I b],bQ 3 j.1 j.2 k.1 k.2 m.1 m.2 s o.1 o.2 4 5,aA 6 7,ak 1 q.1 q.2,ak 1 r.1 r.2,ad.rows f.1 5 1 1 f.2.length f.2,aB l]) λl=>U' l.head? λx=>U' (T.aQ 1 x) λp=>U' (List.drop 1 l).head? λx=>U' (List.drop 1 (List.drop 1 l)).head? λx=>U' (T.int? i64 x) λn=>U' (List.drop 1 (List.drop 1 (List.drop 1 l))).head? λx=>U' (List.drop 1 (List.drop 1 (List.drop 1 l))).tail.head? λx=>U' (T.aQ 3 x) λh=>U' (List.drop 1 (List.drop 1 (List.drop 1 l))).tail.tail.head? λx=>U' (T.aQ 5 x) λp_19=>U' (List.drop 1 (List.drop 1 (List.drop 1 l))).tail.tail.tail.head? λx=>U' (T.aQ 1 x) λp_20=>U' (List.drop 1 (List.drop 1 (List.drop 1 l))).tail.tail.tail.tail.head? λx=>U' x.dY λs=>U' (List.drop 1 (List.drop 1 (List.drop 1 l))).tail.tail.tail.tail.tail.head? λx=>U' (T.aQ 1 x) λp_21=>U' (List.drop 1 (List.drop 1 (List.drop 1 l))).tail.tail.tail.tail.tail.tail.head? λx=>U' (List.drop 1 (List.drop 1 (List.drop 1 l))).tail.tail.tail.tail.tail.tail.tail.head? λx=>U' (List.drop 8 (List.drop 1 (List.drop 1 (List.drop 1 l)))).head? λx=>U' (kB x) λp_22=>U' (List.drop 8 (List.drop 1 (List.drop 1 (List.drop 1 l)))).tail.head? λx=>U' ((List.drop 2 (List.drop 8 (List.drop 1 (List.drop 1 (List.drop 1 l))))).head?.bind λz=>T.aQ 1 z) λp_23=>U' ((List.drop 2 (List.drop 8 (List.drop 1 (List.drop 1 (List.drop 1 l))))).tail.head?.bind λz=>T.aQ 1 z) λp_24=>U' ((List.drop 2 (List.drop 8 (List.drop 1 (List.drop 1 (List.drop 1 l))))).tail.tail.head?.bind λz=>jL z) λl=>aF (bh p_22.2=true) <| some [T.aa 1 p.1 p.2,T.ax,T.aa 3 h.1 h.2,T.aa 5 p_19.1 p_19.2,T.aa 1 p_20.1 p_20.2,T.str s,T.aa 1 p_21.1 p_21.2,T.ax,T.ax,bz p_22.1 p_22.2,T.ax,T.aa 1 p_23.1 p_23.2,T.aa 1 p_24.1 p_24.2,aO l] else bif n==15 then O rr [Y'6,Y'7,bB true,I i,I 0] [bQ 1 A M C N D P t E Q 2 3,aA 4 5,ak 1 F R,ak 1 G S,ad.rows H 5 1 1 y Z,aB c5,cF 0,bZ n p.1 p.2 L i s] else bif n==16 then yq (O (Key.call 37) [I 0,Y'0,Y'1] [cF 2,bZ n p.1 p.2 L i s,bQ 3 A M C N D P t E Q 4 5,aA 6 7,ak 1 F R,ak 1 G S,ad.rows H 5 1 1 y Z,aB c5]) λp u v w s B g J K l=>O (bY aj 18 true 28 [(2,none),(7,none),(128,none),(129,none),(130,none)] (6,2008)) [Y'6,bB true,af 1 p.1 p.2,I ↑p.2.length,I 0] [bQ 1 u.1 u.2 v.1 v.2 w.1 w.2 s B.1 B.2 2 3,aA 7 5,ak 1 J.1 J.2,ak 1 K.1 K.2,ad.dead,aB l,cF 0,ad.rows g.1 5 1 1 g.2.length g.2] else bif n==17 then qc (O (Key.call 37) [I 0,Y'0,Y'1] [cF 2,bZ n p.1 p.2 L i s,bQ 3 A M C N D P t E Q 4 5,aA 6 7,ak 1 F R,ak 1 G S,ad.rows H 5 1 1 y Z,aB c5]) λp d V b e s u v w Y B g J K l=>aF (n=d) <| aF (L=b) <| aF (i=e) <| aF (n=d) <| aF (L=b) <| aF (i=e) <| p9 (O (Key.call 37) [I 1,Y'0,Y'1] [cF 2,bZ d V.1 V.2 b e s,bQ 3 u.1 u.2 v.1 v.2 w.1 w.2 Y B.1 B.2 4 5,aA 6 7,ak 1 J.1 J.2,ak 1 K.1 K.2,ad.rows g.1 5 1 1 g.2.length g.2,aB l]) λU n W X j k m s o f q r l=>aF (d=n) <| aF (b=W) <| aF (e=X) <| aF (d=n) <| aF (b=W) <| aF (e=X) <| lh (O (Key.call 40) [af 1 p.1 p.2,af 1 U.1 U.2,AV.fn 44 [Y'0] []] [aA 1 2,ad.rows f.1 5 1 1 f.2.length f.2,aB l]) λp h l=>aF (bh h.2=true) <| some [T.aa 1 p.1 p.2,T.ax,T.aa 3 j.1 j.2,T.aa 5 k.1 k.2,T.aa 1 m.1 m.2,T.str s,T.aa 1 o.1 o.2,T.ax,T.ax,bz h.1 h.2,T.ax,T.aa 1 q.1 q.2,T.aa 1 r.1 r.2,aO l] else bif n==18 then qc (O (Key.call 37) [I 0,Y'0,Y'1] [cF 2,bZ n p.1 p.2 L i s,bQ 3 A M C N D P t E Q 4 5,aA 6 7,ak 1 F R,ak 1 G S,ad.rows H 5 1 1 y Z,aB c5]) λp d V b e s u v w Y B g J K l=>aF (n=d) <| aF (L=b) <| aF (i=e) <| aF (n=d) <| aF (L=b) <| aF (i=e) <| p9 (O (Key.call 37) [I 1,Y'0,Y'1] [cF 2,bZ d V.1 V.2 b e s,bQ 3 u.1 u.2 v.1 v.2 w.1 w.2 Y B.1 B.2 4 5,aA 6 7,ak 1 J.1 J.2,ak 1 K.1 K.2,ad.rows g.1 5 1 1 g.2.length g.2,aB l]) λU n W X j k m s o f q r l=>aF (d=n) <| aF (b=W) <| aF (e=X) <| aF (d=n) <| aF (b=W) <| aF (e=X) <| lh (O (Key.call 40) [af 1 p.1 p.2,af 1 U.1 U.2,AV.fn 45 [Y'0] []] [aA 1 2,ad.rows f.1 5 1 1 f.2.length f.2,aB l]) λp h l=>aF (bh h.2=true) <| some [T.aa 1 p.1 p.2,T.ax,T.aa 3 j.1 j.2,T.aa 5 k.1 k.2,T.aa 1 m.1 m.2,T.str s,T.aa 1 o.1 o.2,T.ax,T.ax,bz h.1 h.2,T.ax,T.aa 1 q.1 q.2,T.aa 1 r.1 r.2,aO l] else bif n==19 then qc (O (Key.call 37) [I 0,Y'0,Y'1] [cF 2,bZ n p.1 p.2 L i s,bQ 3 A M C N D P t E Q 4 5,aA 6 7,ak 1 F R,ak 1 G S,ad.rows H 5 1 1 y Z,aB c5]) λp d V b e s u v w Y B g J K l=>aF (n=d) <| aF (L=b) <| aF (i=e) <| aF (n=d) <| aF (L=b) <| aF (i=e) <| p9 (O (Key.call 37) [I 1,Y'0,Y'1] [cF 2,bZ d V.1 V.2 b e s,bQ 3 u.1 u.2 v.1 v.2 w.1 w.2 Y B.1 B.2 4 5,aA 6 7,ak 1 J.1 J.2,ak 1 K.1 K.2,ad.rows g.1 5 1 1 g.2.length g.2,aB l]) λU n W X j k m s o f q r l=>aF (d=n) <| aF (b=W) <| aF (e=X) <| aF (d=n) <| aF (b=W) <| aF (e=X) <| lh (O (Key.call 40) [af 1 p.1 p.2,af 1 U.1 U.2,AV.fn 46 [Y'0] []] [aA 1 2,ad.rows f.1 5 1 1 f.2.length f.2,aB l]) λp h l=>aF (bh h.2=true) <| some [T.aa 1 p.1 p.2,T.ax,T.aa 3 j.1 j.2,T.aa 5 k.1 k.2,T.aa 1 m.1 m.2,T.str s,T.aa 1 o.1 o.2,T.ax,T.ax,bz h.1 h.2,T.ax,T.aa 1 q.1 q.2,T.aa 1 r.1 r.2,aO l] else bif n==20 then qc (O (Key.call 37) [I 0,Y'0,Y'1] [cF 2,bZ n p.1 p.2 L i s,bQ 3 A M C N D P t E Q 4 5,aA 6 7,ak 1 F R,ak 1 G S,ad.rows H 5 1 1 y Z,aB c5]) λp d V b e s u v w Y B g J K l=>aF (n=d) <| aF (L=b) <| aF (i=e) <| aF (n=d) <| aF (L=b) <| aF (i=e) <| p9 (O (Key.call 37) [I 1,Y'0,Y'1] [cF 2,bZ d V.1 V.2 b e s,bQ 3 u.1 u.2 v.1 v.2 w.1 w.2 Y B.1 B.2 4 5,aA 6 7,ak 1 J.1 J.2,ak 1 K.1 K.2,ad.rows g.1 5 1 1 g.2.length g.2,aB l]) λU n W X j k m s o f q r l=>aF (d=n) <| aF (b=W) <| aF (e=X) <| aF (d=n) <| aF (b=W) <| aF (e=X) <| lh (O (Key.call 47) [Y'0,af 1 p.1 p.2,af 1 U.1 U.2] [aA 1 2,ad.rows f.1 5 1 1 f.2.length f.2,aB l]) λp h l=>aF (bh h.2=true) <| some [T.aa 1 p.1 p.2,T.ax,T.aa 3 j.1 j.2,T.aa 5 k.1 k.2,T.aa 1 m.1 m.2,T.str s,T.aa 1 o.1 o.2,T.ax,T.ax,bz h.1 h.2,T.ax,T.aa 1 q.1 q.2,T.aa 1 r.1 r.2,aO l] else bif n==21 then qc (O (Key.call 37) [I 0,Y'0,Y'1] [cF 2,bZ n p.1 p.2 L i s,bQ 3 A M C N D P t E Q 4 5,aA 6 7,ak 1 F R,ak 1 G S,ad.rows H 5 1 1 y Z,aB c5]) λp d V b e s u v w Y B g J K l=>aF (n=d) <| aF (L=b) <| aF (i=e) <| aF (n=d) <| aF (L=b) <| aF (i=e) <| p9 (O (Key.call 37) [I 1,Y'0,Y'1] [cF 2,bZ d V.1 V.2 b e s,bQ 3 u.1 u.2 v.1 v.2 w.1 w.2 Y B.1 B.2 4 5,aA 6 7,ak 1 J.1 J.2,ak 1 K.1 K.2,ad.rows g.1 5 1 1 g.2.length g.2,aB l]) λU n W X j k m s o f q r l=>aF (d=n) <| aF (b=W) <| aF (e=X) <| aF (d=n) <| aF (b=W) <| aF (e=X) <| lh (O (Key.call 48) [Y'0,af 1 p.1 p.2,af 1 U.1 U.2] [aA 1 2,ad.rows f.1 5 1 1 f.2.length f.2,aB l]) λp h l=>aF (bh h.2=true) <| some [T.aa 1 p.1 p.2,T.ax,T.aa 3 j.1 j.2,T.aa 5 k.1 k.2,T.aa 1 m.1 m.2,T.str s,T.aa 1 o.1 o.2,T.ax,T.ax,bz h.1 h.2,T.ax,T.aa 1 q.1 q.2,T.aa 1 r.1 r.2,aO l] else bif n==23 then p9 (O (Key.call 37) [I 0,Y'0,Y'1] [cF 2,bZ n p.1 p.2 L i s,bQ 3 A M C N D P t E Q 4 5,aA 6 7,ak 1 F R,ak 1 G S,ad.rows H 5 1 1 y Z,aB c5]) λp d b e u v w s B g J K l=>aF (n=d) <| aF (L=b) <| aF (i=e) <| aF (n=d) <| aF (L=b) <| aF (i=e) <| lh (O (Key.call 49) [Y'0,af 1 p.1 p.2,I b] [aA 1 2,ad.rows g.1 5 1 1 g.2.length g.2,aB l]) λp U l=>aF (bh U.2=true) <| some [T.aa 1 p.1 p.2,T.ax,T.aa 3 u.1 u.2,T.aa 5 v.1 v.2,T.aa 1 w.1 w.2,T.str s,T.aa 1 B.1 B.2,T.ax,T.ax,bz U.1 U.2,T.ax,T.aa 1 J.1 J.2,T.aa 1 K.1 K.2,aO l] else aF (bh Z=true) <| some [T.aC true,T.ax,T.aa 3 A M,T.aa 5 C N,T.aa 1 D P,T.str t,T.aa 1 E Q,T.ax,T.ax,bz H Z,T.ax,T.aa 1 F R,T.aa 1 G S,aO c5]):=by kernel_rfl
theorem GU(O:aq)(A C D E F G H J K L h A2 g:Bool)(M N P Q R S U V W:List (List T))(a b c d:Int)(t:ByteArray)(y:Nat)(c7:List Row)(i:List (List T×T)):au aj ann O tc [Y'0,Y'1,Y'2,Y'3,af 1 A M,I a,I b] [cq C D E,cx c d,bQ 4 F N G P H Q t J R 5 6,eI K S 7 8,aA 7 9,ak 1 L U,ak 1 h V,ad.rows A2 5 1 1 y c7,ak 1 g W,aB i]=
 (bif decide (b < a) then bq M b λn=>bq V n λn=>U' (bH 8 (W.length+1)) λx=>O tc [Y'0,Y'1,Y'2,Y'3,af 1 A M,I a,I (i64.wrap (b+1))] [cq C D E,cx c d,bQ 4 F N G P H Q t J R 5 6,eI K S 7 8,aA 7 9,ak 1 L U,ak 1 h V,ad.rows A2 5 1 1 y c7,ak 1 (g && false) (W++ [[ae n]]),aB i] else yo (O (Key.call 20) [AV.agg [af 3 K S,V'0,V'1]] [ad.rows A2 5 1 1 y c7,ak 1 g W]) λp e f=>bif decide (↑e.2.length > (200:Int)) then some [T.aC true,T.aC true,T.aC true,ae 10,ae 0] else some [T.aa 3 p.1 p.2,T.aa 5 e.1 e.2,T.aa 1 f.1 f.2,ae 0,ae 0]):=by kernel_rfl
theorem yC(O:aq)(a:Int)(A C D E F G H:Bool)(M N P Q R S:List (List T))(t:ByteArray)(y:Nat)(g:List Row)(h:List (List T×T)):au aj ann O (Key.call 19) [Y'0,I a] [bQ 1 A M C N D P t E Q 2 3,aA 4 5,ak 1 F R,ak 1 G S,ad.rows H 5 1 1 y g,aB h]=
 (nG N a λn p j k s=>bif n==22 then fG p.2 λn=>rO R n λb=>lj p.2 λn=>rO R n λp=>bS (O (Key.call 50) [Y'0,af 1 b.1 b.2,af 1 p.1 p.2] [aA 1 2,ad.rows H 5 1 1 y g,aB h]) λn p l=>aF (bh p.2=true) <| some [ae n,T.ax,T.aa 3 A M,T.aa 5 C N,T.aa 1 D P,T.str t,T.aa 1 E Q,T.ax,T.ax,bz p.1 p.2,T.ax,T.aa 1 F R,T.aa 1 G S,aO l] else ab (some (n==8)) (if(0:Int)<=(0:Int)/\(0:Int) < ↑p.2.length then some () else none) λx=>ab (some (n==8)) p.2[0]? λl=>ab (some (n==8)) l.head? λx=>ab (some (n==8)) (T.int? i64 x) λd=>ab (some (n==8)) (if 0<=d/\d < ↑R.length then some () else none) λx=>ab (some (n==8)) R[d.toNat]? λl=>ab (some (n==8)) l.head? λx=>ab (some (n==8)) (T.aQ 1 x) λb=>bif bif n==8 then !b.1 else false then bS (O (Key.call 42) [Y'0,B true] [aA 1 2,ad.rows H 5 1 1 y g,aB h]) λn e l=>fG p.2 λm=>rO R m λi=>lj p.2 λo=>rO R o λp=>lh (O (Key.call 40) [af 1 i.1 i.2,af 1 p.1 p.2,AV.fn 51 [Y'0] []] [aA 1 2,ad.rows e.1 5 1 1 e.2.length e.2,aB l]) λp f l=>O (bY aj 19 true 7 [(0,none),(6,none),(96,none),(97,none),(98,none)] (6,2008)) [Y'0,I n,af 1 p.1 p.2,I ↑p.2.length,I 0] [bQ 1 A M C N D P t E Q 2 3,aA 6 5,ak 1 F R,ak 1 G S,ad.dead,aB l,ad.rows f.1 5 1 1 f.2.length f.2] else O rv [Y'0,Y'6,bB true,af 1 p.1 p.2,I ↑p.2.length,I 0] [bQ 1 A M C N D P t E Q 2 3,aA 4 5,ak 1 F R,ak 1 G S,ad.rows H 5 1 1 y g,aB h,bZ n p.1 p.2 j k s]):=by kernel_rfl
theorem BI(O:aq)(A:Bool)(M:List (List T))(a b:Int):au aj ann O fK [af 1 A M,AV.fn 17 [] [],I a,I b] []=
 (bif decide (b < a) then bq M b λn=>bw (O (Key.call 17) [I n] []) λc=>bif c then some [ae b] else O fK [af 1 A M,AV.fn 17 [] [],I a,I (i64.wrap (b+1))] [] else some [ae (-1)]):=by kernel_rfl
theorem BP(O:aq)(A:Bool)(M:List (List T))(a b:Int):au aj ann O jh [af 3 A M,AV.fn 33 [] [],I a,I b] []=
 (bif decide (b < a) then lf M b λs p n=>bw (O (Key.call 33) [dq s p.1 p.2 n] []) λc=>bif c then some [ae b] else O jh [af 3 A M,AV.fn 33 [] [],I a,I (i64.wrap (b+1))] [] else some [ae (-1)]):=by kernel_rfl
theorem FT(O:aq)(A C D E F G H:Bool)(M N P:List (List T))(a b:Int):au aj ann O jz [Y'0,Y'1,af 5 A M,I a,I b] [cq C D E,ad.box [V'2,bB F,V'3],ak 3 G N,ak 1 H P]=
 (bif decide (b < a) then nG M b λn p d e s=>iI (O (Key.call 24) [af 1 p.1 p.2] []) λp=>O jz [Y'0,Y'1,af 5 A M,I a,I (i64.wrap (b+1))] [cq C D E,ad.box [V'2,V'3,V'4],ak 3 G N,ak 5 (F && false) [[ae n,T.aa 1 p.1 p.2,ae d,ae e,T.str s]],ak 1 H P] else some [T.aa 3 G N,T.aC F,T.aa 1 H P]):=by kernel_rfl
theorem FU(O:aq)(A C D E F G H:Bool)(M N P:List (List T))(a b:Int):au aj ann O jz [Y'0,Y'1,af 5 A M,I a,I b] [cq C D E,ad.box [bB F,V'2,V'3],ak 5 G N,ak 1 H P]=
 (bif decide (b < a) then nG M b λn p d e s=>iI (O (Key.call 24) [af 1 p.1 p.2] []) λp=>U' (bH 64 (N.length+1)) λx=>O jz [Y'0,Y'1,af 5 A M,I a,I (i64.wrap (b+1))] [cq C D E,ad.box [bB F,V'2,V'3],ak 5 (G && false) (N++ [[ae n,T.aa 1 p.1 p.2,ae d,ae e,T.str s]]),ak 1 H P] else some [T.aC F,T.aa 5 G N,T.aa 1 H P]):=by kernel_rfl
theorem GQ(O:aq)(A:Bool)(M:List (List T))(t:ByteArray):au aj ann O (Key.call 75) [af 3 A M,AV.fn 34 [] [AV.t (T.ptr [T.str t])]] []=
 (O jh [af 3 A M,AV.fn 34 [] [AV.t (T.ptr [T.str t])],I ↑M.length,I 0] []):=by kernel_rfl
theorem FW(O:aq)(t u:ByteArray)(A C D E:Bool)(a b c d e f:Int)(M N P:List (List T)):au aj ann O pQ [bC t,V'0,B A,I a,Y'1,af 3 C M,I b,I c,I d,I e] [ak 3 D N,ku u E P f]=
 (bif decide (e < d) then ir (O (Key.call 36) [I a] []) λs=>aF (t.size+s.size<=4294967296) <| aF ((t++s).size+1<=4294967296) <| ir (O (Key.call 36) [I e] []) λg=>aF ((t++s++ (ByteArray.mk #[(95:UInt8)])).size+g.size<=4294967296) <| iI (O (Key.call 24) [af 1 E P] []) λp=>U' (bH 48 (N.length+1)) λx=>O pQ [bC t,V'0,B (bif A then decide ((↑(t++s++ (ByteArray.mk #[(95:UInt8)])++g).size:Int)<=(12:Int)) else false),I a,Y'1,af 3 C M,I b,I c,I d,I (i64.wrap (e+1))] [ak 3 (D && false) (N++ [[T.str (t++s++ (ByteArray.mk #[(95:UInt8)])++g),T.aa 1 p.1 p.2,ae 1]]),ku u E P f] else O nq [bC t,V'0,B A,af 3 C M,I b,I (i64.wrap (c+1))] [ak 3 D N]):=by kernel_rfl
theorem F1(O:aq)(a b c d e f:Int)(A C D E F G H J K L g:Bool)(M N P Q R S U V:List (List T))(t u:ByteArray)(y:Nat)(h:List Row)(i:List (List T×T)):au aj ann O ru [I a,Y'6,Y'7,bB A,bB C,af 1 D M,I b,I c] [bQ 1 E N F P G Q t H R 2 3,aA 4 5,ak 1 J S,ak 1 K U,ad.rows L 5 1 1 y h,aB i,cF 0,bZ d g V e f u]=
 (bif decide (c < b) then bq M c λn=>bq U n λn=>O ru [I a,Y'6,Y'7,bB A,V'8,af 1 D M,I b,I (i64.wrap (c+1))] [bQ 1 E N F P G Q t H R 2 3,aA 4 5,ak 1 J S,ak 1 K U,ad.rows L 5 1 1 y h,aB i,cF 0,bZ d g V e f u,ak 1 (C && false) [[ae n]]] else bq R a λn=>O jA [Y'6,Y'7,bB A,bB C,I (i64.wrap (n - 10)),I 0] [bQ 1 E N F P G Q t H R 2 3,aA 4 5,ak 1 J S,ak 1 K U,ad.rows L 5 1 1 y h,aB i,cF 0,bZ d g V e f u]):=by kernel_rfl
theorem Oi(O:aq)(a b c d:Int)(A C D E F G H J:Bool)(M N P Q R S U:List (List T))(t u:ByteArray)(y:Nat)(e:List Row)(c7:List (List T×T)):au aj ann O (Key.call 37) [I a,Y'0,Y'1] [cF 2,bZ b A M c d t,bQ 3 C N D P E Q u F R 4 5,aA 6 7,ak 1 G S,ak 1 H U,ad.rows J 5 1 1 y e,aB c7]=
 (bq M a λn=>rO S n λp=>aF (bh e=true) <| some [T.aa 1 p.1 p.2,T.ax,ae b,T.aa 1 A M,ae c,ae d,T.str t,T.ax,T.aa 3 C N,T.aa 5 D P,T.aa 1 E Q,T.str u,T.aa 1 F R,T.ax,T.ax,bz J e,T.ax,T.aa 1 G S,T.aa 1 H U,aO c7]):=by kernel_rfl
theorem Om(O:aq)(A C D E F G H J K:Bool)(M N P Q R S U V:List (List T))(a:Int)(t:ByteArray)(y:Nat)(b:List Row)(c7:List (List T×T)):au aj ann O (Key.call 40) [af 1 A M,af 1 C N,AV.fn 41 [] [Y'0,Y'1]] [cF 2,ad.box [I a],bQ 3 D P E Q F R t G S 4 5,aA 6 7,ak 1 H U,ak 1 J V,ad.rows K 5 1 1 y b,aB c7]=
 (O rA [af 1 A M,af 1 C N,AV.fn 41 [] [Y'0,Y'1],bB true,I ↑M.length,I 0] [cF 2,ad.box [I a],bQ 3 D P E Q F R t G S 4 5,aA 6 7,ak 1 H U,ak 1 J V,ad.rows K 5 1 1 y b,aB c7]):=by kernel_rfl
theorem NO(O:aq)(A C D E F G H J K:Bool)(a b c d e:Int)(M N P Q R S U:List (List T))(t u:ByteArray)(y:Nat)(f:List Row)(g:List (List T×T)):au aj ann O rr [Y'6,Y'7,bB A,I a,I b] [bQ 1 C M D N E P t F Q 2 3,aA 4 5,ak 1 G R,ak 1 H S,ad.rows J 5 1 1 y f,aB g,cF 0,bZ c K U d e u]=
 (bif decide (b < a) then U' (if b < 0 then none else some ()) λx=>bS (O (Key.call 42) [Y'0,B (i64.wrap (↑(BitVec.ofInt 64 (d.fdiv ((2:Int) ^ min b.toNat 64)) &&& BitVec.ofInt 64 (1:Int)).toNat:Int)== (1:Int))] [aA 1 2,ad.rows J 5 1 1 y f,aB g]) λn p l=>O rr [Y'6,Y'7,V'8,I a,I (i64.wrap (b+1))] [bQ 1 C M D N E P t F Q 2 3,aA 9 5,ak 1 G R,ak 1 H S,ad.dead,aB l,cF 0,bZ c K U d e u,ak 1 (A && false) [[ae n]],ad.rows p.1 5 1 1 p.2.length p.2] else aF (bh f=true) <| some [T.aC A,T.ax,T.aa 3 C M,T.aa 5 D N,T.aa 1 E P,T.str t,T.aa 1 F Q,T.ax,T.ax,bz J f,T.ax,T.aa 1 G R,T.aa 1 H S,aO g]):=by kernel_rfl
theorem NP(O:aq)(A C D E F G H J K:Bool)(M N P Q R S U:List (List T))(a b:Int)(t:ByteArray)(d:List (List T×T))(y:Nat)(c7:List Row):au aj ann O s5 [Y'6,bB A,af 1 C M,I a,I b] [bQ 1 D N E P F Q t G R 2 3,aA 7 5,ak 1 H S,ak 1 J U,Go.Aev.ad.dead,aB d,cF 0,ad.rows K 5 1 1 y c7]=
 (bif decide (b < a) then bq M b λn=>bS (O (Key.call 43) [Y'0,I n] [aA 1 2,ad.rows K 5 1 1 y c7,aB d]) λn p l=>O s5 [Y'6,V'7,af 1 C M,I a,I (i64.wrap (b+1))] [bQ 1 D N E P F Q t G R 2 3,aA 8 5,ak 1 H S,ak 1 J U,ad.dead,aB l,cF 0,ak 1 (A && false) [[ae n]],ad.rows p.1 5 1 1 p.2.length p.2] else aF (bh c7=true) <| some [T.aC A,T.ax,T.aa 3 D N,T.aa 5 E P,T.aa 1 F Q,T.str t,T.aa 1 G R,T.ax,T.ax,bz K c7,T.ax,T.aa 1 H S,T.aa 1 J U,aO d]):=by kernel_rfl
theorem Oo(O:aq)(A C D:Bool)(M N:List (List T))(y:Nat)(a:List Row)(b:List (List T×T)):au aj ann O (Key.call 40) [af 1 A M,af 1 C N,AV.fn 44 [Y'0] []] [aA 1 2,ad.rows D 5 1 1 y a,aB b]=
 (O fe [af 1 A M,af 1 C N,AV.fn 44 [Y'0] [],bB true,I ↑M.length,I 0] [aA 1 2,ad.rows D 5 1 1 y a,aB b]):=by kernel_rfl
theorem Oq(O:aq)(A C D:Bool)(M N:List (List T))(y:Nat)(a:List Row)(b:List (List T×T)):au aj ann O (Key.call 40) [af 1 A M,af 1 C N,AV.fn 45 [Y'0] []] [aA 1 2,ad.rows D 5 1 1 y a,aB b]=
 (O fe [af 1 A M,af 1 C N,AV.fn 45 [Y'0] [],bB true,I ↑M.length,I 0] [aA 1 2,ad.rows D 5 1 1 y a,aB b]):=by kernel_rfl
theorem Ot(O:aq)(A C D:Bool)(M N:List (List T))(y:Nat)(a:List Row)(b:List (List T×T)):au aj ann O (Key.call 40) [af 1 A M,af 1 C N,AV.fn 46 [Y'0] []] [aA 1 2,ad.rows D 5 1 1 y a,aB b]=
 (O fe [af 1 A M,af 1 C N,AV.fn 46 [Y'0] [],bB true,I ↑M.length,I 0] [aA 1 2,ad.rows D 5 1 1 y a,aB b]):=by kernel_rfl
theorem OB(O:aq)(A C D:Bool)(M N:List (List T))(y:Nat)(a:List Row)(b:List (List T×T)):au aj ann O (Key.call 47) [Y'0,af 1 A M,af 1 C N] [aA 1 2,ad.rows D 5 1 1 y a,aB b]=
 (bS (O (Key.call 42) [Y'0,B false] [aA 1 2,ad.rows D 5 1 1 y a,aB b]) λn p l=>O rB [Y'0,af 1 A M,af 1 C N,I n,bB true,I ↑M.length,I 0] [aA 3 2,ad.dead,aB l,ad.rows p.1 5 1 1 p.2.length p.2]):=by kernel_rfl
theorem OC(O:aq)(A C D:Bool)(M N:List (List T))(y:Nat)(b:List Row)(d:List (List T×T)):au aj ann O (Key.call 48) [Y'0,af 1 A M,af 1 C N] [aA 1 2,ad.rows D 5 1 1 y b,aB d]=
 (lh (O (Key.call 49) [Y'0,af 1 A M,I ↑M.length] [aA 1 2,ad.rows D 5 1 1 y b,aB d]) λp a l=>O s7 [Y'0,af 1 A M,af 1 p.1 p.2,af 1 C N,I ↑N.length,I 0] [aA 3 2,ad.dead,aB l,ad.rows a.1 5 1 1 a.2.length a.2]):=by kernel_rfl
theorem OF(O:aq)(A C:Bool)(M:List (List T))(a:Int)(y:Nat)(b:List Row)(d:List (List T×T)):au aj ann O (Key.call 49) [Y'0,af 1 A M,I a] [aA 1 2,ad.rows C 5 1 1 y b,aB d]=
 (O kP [Y'0,af 1 A M,I a,bB true,I ↑M.length,I 0] [aA 1 2,ad.rows C 5 1 1 y b,aB d]):=by kernel_rfl
theorem NQ(O:aq)(A C D:Bool)(M N:List (List T))(y:Nat)(a:List Row):au aj ann O (Key.call 20) [AV.agg [af 3 A M,V'0,V'1]] [ad.rows C 5 1 1 y a,ak 1 D N]=
 (U' (nY ↑a.length ↑a.length) λx=>O xG [Y'2,Y'3,V'4,V'1,I ↑N.length,I 0] [ad.rows C 5 1 1 y a,ak 1 D N,eI A M 0 1,cq true true true,ak 1 false (List.replicate (↑a.length:Int).toNat [T.bool false])]):=by kernel_rfl
theorem OG(O:aq)(A C D:Bool)(M N:List (List T))(y:Nat)(a:List Row)(b:List (List T×T)):au aj ann O (Key.call 50) [Y'0,af 1 A M,af 1 C N] [aA 1 2,ad.rows D 5 1 1 y a,aB b]=
 (bS (O (Key.call 42) [Y'0,B false] [aA 1 2,ad.rows D 5 1 1 y a,aB b]) λn p l=>O AE [Y'0,af 1 A M,af 1 C N,I n,I ↑M.length,I 0] [aA 3 2,ad.dead,aB l,ad.rows p.1 5 1 1 p.2.length p.2]):=by kernel_rfl
theorem Ow(O:aq)(A C:Bool)(y:Nat)(a:List Row)(b:List (List T×T)):au aj ann O (Key.call 42) [Y'0,B A] [aA 1 2,ad.rows C 5 1 1 y a,aB b]=
 (bif A then bS (O (Key.call 38) [Y'0,I 1,bC (ByteArray.mk #[]),I 0,I 0,af 1 true []] [aA 1 2,ad.rows C 5 1 1 y a,aB b]) λn p l=>aF (bh p.2=true) <| some [ae n,bz p.1 p.2,T.ax,aO l] else bS (O (Key.call 38) [Y'0,I 2,bC (ByteArray.mk #[]),I 0,I 0,af 1 true []] [aA 1 2,ad.rows C 5 1 1 y a,aB b]) λn p l=>aF (bh p.2=true) <| some [ae n,bz p.1 p.2,T.ax,aO l]):=by kernel_rfl
theorem Ou(O:aq)(A C D:Bool)(M N:List (List T))(y:Nat)(a:List Row)(b:List (List T×T)):au aj ann O (Key.call 40) [af 1 A M,af 1 C N,AV.fn 51 [Y'0] []] [aA 1 2,ad.rows D 5 1 1 y a,aB b]=
 (O fe [af 1 A M,af 1 C N,AV.fn 51 [Y'0] [],bB true,I ↑M.length,I 0] [aA 1 2,ad.rows D 5 1 1 y a,aB b]):=by kernel_rfl
theorem F5(O:aq)(a b c:Int)(A C D E F G H J:Bool)(M N P Q R S U:List (List T))(t:ByteArray)(e:List (List T×T))(y:Nat)(d:List Row):au aj ann O AD [Y'0,I a,af 1 A M,I b,I c] [bQ 1 C N D P E Q t F R 2 3,aA 6 5,ak 1 G S,ak 1 H U,Go.Aev.ad.dead,aB e,ad.rows J 5 1 1 y d]=
 (bif decide (c < b) then bq M c λn=>bS (O (Key.call 44) [Y'0,I a,I n] [aA 1 2,ad.rows J 5 1 1 y d,aB e]) λn p l=>O AD [Y'0,I n,af 1 A M,I b,I (i64.wrap (c+1))] [bQ 1 C N D P E Q t F R 2 3,aA 6 5,ak 1 G S,ak 1 H U,ad.dead,aB l,ad.rows p.1 5 1 1 p.2.length p.2] else aF (bh d=true) <| some [ae a,T.ax,T.aa 3 C N,T.aa 5 D P,T.aa 1 E Q,T.str t,T.aa 1 F R,T.ax,T.ax,bz J d,T.ax,T.aa 1 G S,T.aa 1 H U,aO e]):=by kernel_rfl
theorem F3(O:aq)(A C D E F G H J K L:Bool)(M N P Q R S U V:List (List T))(a b c d e:Int)(t u:ByteArray)(y:Nat)(f:List Row)(g:List (List T×T)):au aj ann O rv [Y'0,Y'6,bB A,af 1 C M,I a,I b] [bQ 1 D N E P F Q t G R 2 3,aA 4 5,ak 1 H S,ak 1 J U,ad.rows K 5 1 1 y f,aB g,bZ c L V d e u]=
 (bif decide (b < a) then bq M b λn=>bq U n λn=>O rv [Y'0,Y'6,V'7,af 1 C M,I a,I (i64.wrap (b+1))] [bQ 1 D N E P F Q t G R 2 3,aA 4 5,ak 1 H S,ak 1 J U,ad.rows K 5 1 1 y f,aB g,bZ c L V d e u,ak 1 (A && false) [[ae n]]] else bS (O (Key.call 38) [Y'0,I c,bC u,I d,I e,af 1 A []] [aA 1 2,ad.rows K 5 1 1 y f,aB g]) λn p l=>aF (bh p.2=true) <| some [ae n,T.ax,T.aa 3 D N,T.aa 5 E P,T.aa 1 F Q,T.str t,T.aa 1 G R,T.ax,T.ax,bz p.1 p.2,T.ax,T.aa 1 H S,T.aa 1 J U,aO l]):=by kernel_rfl
theorem Oe(O:aq)(t:ByteArray)(A:Bool)(M:List (List T))(a:Int):au aj ann O (Key.call 33) [dq t A M a] []=
 (bw (O (Key.call 17) [I a] []) λb=>some [T.bool b]):=by kernel_rfl
theorem FV(O:aq)(A C D E F G H:Bool)(M N P Q:List (List T))(a b:Int):au aj ann O jz [Y'0,Y'1,af 5 A M,I a,I b] [cq C D E,ad.box [V'2,V'3,V'4],ak 3 F N,ak 5 G P,ak 1 H Q]=
 (bif decide (b < a) then nG M b λn p d e s=>iI (O (Key.call 24) [af 1 p.1 p.2] []) λp=>U' (bH 64 (P.length+1)) λx=>O jz [Y'0,Y'1,af 5 A M,I a,I (i64.wrap (b+1))] [cq C D E,ad.box [V'2,V'3,V'4],ak 3 F N,ak 5 (G && false) (P++ [[ae n,T.aa 1 p.1 p.2,ae d,ae e,T.str s]]),ak 1 H Q] else some [T.aa 3 F N,T.aa 5 G P,T.aa 1 H Q]):=by kernel_rfl
theorem BQ(O:aq)(A:Bool)(M:List (List T))(t:ByteArray)(a b:Int):au aj ann O jh [af 3 A M,AV.fn 34 [] [AV.t (T.ptr [T.str t])],I a,I b] []=
 (bif decide (b < a) then lf M b λs p n=>bw (O (Key.call 34) [dq s p.1 p.2 n,AV.t (T.ptr [T.str t])] []) λc=>bif c then some [ae b] else O jh [af 3 A M,AV.fn 34 [] [AV.t (T.ptr [T.str t])],I a,I (i64.wrap (b+1))] [] else some [ae (-1)]):=by kernel_rfl
theorem F2(O:aq)(a b c d e f:Int)(A C D E F G H J K L g:Bool)(M N P Q R S U V W:List (List T))(t u:ByteArray)(y:Nat)(h:List Row)(i:List (List T×T)):au aj ann O ru [I a,Y'6,Y'7,bB A,V'8,af 1 C M,I b,I c] [bQ 1 D N E P F Q t G R 2 3,aA 4 5,ak 1 H S,ak 1 J U,ad.rows K 5 1 1 y h,aB i,cF 0,bZ d L V e f u,ak 1 g W]=
 (bif decide (c < b) then bq M c λn=>bq U n λn=>U' (bH 8 (W.length+1)) λx=>O ru [I a,Y'6,Y'7,bB A,V'8,af 1 C M,I b,I (i64.wrap (c+1))] [bQ 1 D N E P F Q t G R 2 3,aA 4 5,ak 1 H S,ak 1 J U,ad.rows K 5 1 1 y h,aB i,cF 0,bZ d L V e f u,ak 1 (g && false) (W++ [[ae n]])] else bq R a λn=>O jA [Y'6,Y'7,bB A,V'8,I (i64.wrap (n - 10)),I 0] [bQ 1 D N E P F Q t G R 2 3,aA 4 5,ak 1 H S,ak 1 J U,ad.rows K 5 1 1 y h,aB i,cF 0,bZ d L V e f u,ak 1 g W]):=by kernel_rfl
theorem NM(O:aq)(A C D E F G H J K L:Bool)(a b c d e:Int)(M N P Q R S U:List (List T))(t u:ByteArray)(y:Nat)(f:List Row)(h:List (List T×T)):au aj ann O jA [Y'6,Y'7,bB A,bB C,I a,I b] [bQ 1 D M E N F P t G Q 2 3,aA 4 5,ak 1 H R,ak 1 J S,ad.rows K 5 1 1 y f,aB h,cF 0,bZ c L U d e u]=
 (bif decide (b < a) then cM (O (Key.call 39) [bM D M E N F P,bC u] []) λn=>ir (O (Key.call 36) [I n] []) λs=>aF (t.size+s.size<=4294967296) <| aF ((t++s).size+1<=4294967296) <| ir (O (Key.call 36) [I b] []) λg=>aF ((t++s++ (ByteArray.mk #[(95:UInt8)])).size+g.size<=4294967296) <| bS (O (Key.call 38) [Y'0,I 9,bC (t++s++ (ByteArray.mk #[(95:UInt8)])++g),I 0,I 0,af 1 C []] [aA 1 2,ad.rows K 5 1 1 y f,aB h]) λn p l=>O jA [Y'6,Y'7,V'8,bB C,I a,I (i64.wrap (b+1))] [bQ 1 D M E N F P t G Q 2 3,aA 9 5,ak 1 H R,ak 1 J S,ad.dead,aB l,cF 0,bZ c L U d e u,ak 1 (A && false) [[ae n]],ad.rows p.1 5 1 1 p.2.length p.2] else aF (bh f=true) <| some [T.aC A,T.ax,T.aa 3 D M,T.aa 5 E N,T.aa 1 F P,T.str t,T.aa 1 G Q,T.ax,T.ax,bz K f,T.ax,T.aa 1 H R,T.aa 1 J S,aO h]):=by kernel_rfl
theorem On(O:aq)(A C D E F G H J K L:Bool)(M N P Q R S U V:List (List T))(a b c:Int)(t:ByteArray)(y:Nat)(e:List Row)(c7:List (List T×T)):au aj ann O rA [af 1 A M,af 1 C N,AV.fn 41 [] [Y'0,Y'1],bB D,I a,I b] [cF 2,ad.box [I c],bQ 3 E P F Q G R t H S 4 5,aA 6 7,ak 1 J U,ak 1 K V,ad.rows L 5 1 1 y e,aB c7]=
 (bif decide (b < a) then bq M b λn=>bq N b λk=>yg (O (Key.call 41) [I n,I k,Y'0,Y'1] [cF 2,ad.box [I c],bQ 3 E P F Q G R t H S 4 5,aA 6 7,ak 1 J U,ak 1 K V,ad.rows L 5 1 1 y e,aB c7]) λn m p f g s h d i j l=>O rA [af 1 A M,af 1 C N,AV.fn 41 [] [Y'0,Y'1],V'8,I a,I (i64.wrap (b+1))] [cF 2,ad.box [I m],bQ 3 p.1 p.2 f.1 f.2 g.1 g.2 s h.1 h.2 4 5,aA 9 7,ak 1 i.1 i.2,ak 1 j.1 j.2,ad.dead,aB l,ak 1 (D && false) [[ae n]],ad.rows d.1 5 1 1 d.2.length d.2] else aF (bh e=true) <| some [T.aC D,T.ax,ae c,T.ax,T.aa 3 E P,T.aa 5 F Q,T.aa 1 G R,T.str t,T.aa 1 H S,T.ax,T.ax,bz L e,T.ax,T.aa 1 J U,T.aa 1 K V,aO c7]):=by kernel_rfl
theorem FZ(O:aq)(a b c d e:Int)(A C D E F G H J K:Bool)(M N P Q R S U V:List (List T))(t u:ByteArray)(g:List (List T×T))(y:Nat)(f:List Row):au aj ann O rr [Y'6,Y'7,V'8,I a,I b] [bQ 1 A M C N D P t E Q 2 3,aA 9 5,ak 1 F R,ak 1 G S,Go.Aev.ad.dead,aB g,cF 0,bZ c H U d e u,ak 1 J V,ad.rows K 5 1 1 y f]=
 (bif decide (b < a) then U' (if b < 0 then none else some ()) λx=>bS (O (Key.call 42) [Y'0,B (i64.wrap (↑(BitVec.ofInt 64 (d.fdiv ((2:Int) ^ min b.toNat 64)) &&& BitVec.ofInt 64 (1:Int)).toNat:Int)== (1:Int))] [aA 1 2,ad.rows K 5 1 1 y f,aB g]) λn p l=>U' (bH 8 (V.length+1)) λx=>O rr [Y'6,Y'7,V'8,I a,I (i64.wrap (b+1))] [bQ 1 A M C N D P t E Q 2 3,aA 9 5,ak 1 F R,ak 1 G S,ad.dead,aB l,cF 0,bZ c H U d e u,ak 1 (J && false) (V++ [[ae n]]),ad.rows p.1 5 1 1 p.2.length p.2] else aF (bh f=true) <| some [T.aa 1 J V,T.ax,T.aa 3 A M,T.aa 5 C N,T.aa 1 D P,T.str t,T.aa 1 E Q,T.ax,T.ax,bz K f,T.ax,T.aa 1 F R,T.aa 1 G S,aO g]):=by kernel_rfl
theorem Ox(O:aq)(a:Int)(A:Bool)(y:Nat)(b:List Row)(d:List (List T×T)):au aj ann O (Key.call 43) [Y'0,I a] [aA 1 2,ad.rows A 5 1 1 y b,aB d]=
 (aF (0<=a/\a < ↑b.length) <| U' b[a.toNat]? λx=>U' (List.drop 0 x.cs).head? λx=>U' (T.int? i64 x) λn=>bif n==1 then bS (O (Key.call 42) [Y'0,B false] [aA 1 2,ad.rows A 5 1 1 y b,aB d]) λn p l=>aF (bh p.2=true) <| some [ae n,bz p.1 p.2,T.ax,aO l] else bif n==2 then bS (O (Key.call 42) [Y'0,B true] [aA 1 2,ad.rows A 5 1 1 y b,aB d]) λn p l=>aF (bh p.2=true) <| some [ae n,bz p.1 p.2,T.ax,aO l] else bif n==3 then aF (0<=a/\a < ↑b.length) <| U' b[a.toNat]? λx=>U' (cU x.n b) λp=>aF ((0:Int)<=(0:Int)/\(0:Int) < ↑p.2.length) <| U' (cU x.n b) λp=>cM (p.2[0]?) λn=>aF (bh b=true) <| some [ae n,bz A b,T.ax,aO d] else bS (O (Key.call 38) [Y'0,I 3,bC (ByteArray.mk #[]),I 0,I 0,af 1 false [[ae a]]] [aA 1 2,ad.rows A 5 1 1 y b,aB d]) λn p l=>aF (bh p.2=true) <| some [ae n,bz p.1 p.2,T.ax,aO l]):=by kernel_rfl
theorem F0(O:aq)(A C D E F G H J K:Bool)(M N P Q R S U V:List (List T))(a b:Int)(t:ByteArray)(d:List (List T×T))(y:Nat)(c8:List Row):au aj ann O s5 [Y'6,V'7,af 1 A M,I a,I b] [bQ 1 C N D P E Q t F R 2 3,aA 8 5,ak 1 G S,ak 1 H U,Go.Aev.ad.dead,aB d,cF 0,ak 1 J V,ad.rows K 5 1 1 y c8]=
 (bif decide (b < a) then bq M b λn=>bS (O (Key.call 43) [Y'0,I n] [aA 1 2,ad.rows K 5 1 1 y c8,aB d]) λn p l=>U' (bH 8 (V.length+1)) λx=>O s5 [Y'6,V'7,af 1 A M,I a,I (i64.wrap (b+1))] [bQ 1 C N D P E Q t F R 2 3,aA 8 5,ak 1 G S,ak 1 H U,ad.dead,aB l,cF 0,ak 1 (J && false) (V++ [[ae n]]),ad.rows p.1 5 1 1 p.2.length p.2] else aF (bh c8=true) <| some [T.aa 1 J V,T.ax,T.aa 3 C N,T.aa 5 D P,T.aa 1 E Q,T.str t,T.aa 1 F R,T.ax,T.ax,bz K c8,T.ax,T.aa 1 G S,T.aa 1 H U,aO d]):=by kernel_rfl
theorem Gp(O:aq)(A C D E:Bool)(M N:List (List T))(a b:Int)(y:Nat)(d:List Row)(e:List (List T×T)):au aj ann O fe [af 1 A M,af 1 C N,AV.fn 44 [Y'0] [],bB D,I a,I b] [aA 1 2,ad.rows E 5 1 1 y d,aB e]=
 (bif decide (b < a) then bq M b λn=>bq N b λf=>bS (O (Key.call 44) [Y'0,I n,I f] [aA 1 2,ad.rows E 5 1 1 y d,aB e]) λn p l=>O fe [af 1 A M,af 1 C N,AV.fn 44 [Y'0] [],V'3,I a,I (i64.wrap (b+1))] [aA 4 2,ad.dead,aB l,ak 1 (D && false) [[ae n]],ad.rows p.1 5 1 1 p.2.length p.2] else aF (bh d=true) <| some [T.aC D,bz E d,T.ax,aO e]):=by kernel_rfl
theorem Gq(O:aq)(A C D E:Bool)(M N:List (List T))(a b:Int)(y:Nat)(d:List Row)(e:List (List T×T)):au aj ann O fe [af 1 A M,af 1 C N,AV.fn 45 [Y'0] [],bB D,I a,I b] [aA 1 2,ad.rows E 5 1 1 y d,aB e]=
 (bif decide (b < a) then bq M b λn=>bq N b λf=>bS (O (Key.call 45) [Y'0,I n,I f] [aA 1 2,ad.rows E 5 1 1 y d,aB e]) λn p l=>O fe [af 1 A M,af 1 C N,AV.fn 45 [Y'0] [],V'3,I a,I (i64.wrap (b+1))] [aA 4 2,ad.dead,aB l,ak 1 (D && false) [[ae n]],ad.rows p.1 5 1 1 p.2.length p.2] else aF (bh d=true) <| some [T.aC D,bz E d,T.ax,aO e]):=by kernel_rfl
theorem Gr(O:aq)(A C D E:Bool)(M N:List (List T))(a b:Int)(y:Nat)(d:List Row)(e:List (List T×T)):au aj ann O fe [af 1 A M,af 1 C N,AV.fn 46 [Y'0] [],bB D,I a,I b] [aA 1 2,ad.rows E 5 1 1 y d,aB e]=
 (bif decide (b < a) then bq M b λn=>bq N b λf=>bS (O (Key.call 46) [Y'0,I n,I f] [aA 1 2,ad.rows E 5 1 1 y d,aB e]) λn p l=>O fe [af 1 A M,af 1 C N,AV.fn 46 [Y'0] [],V'3,I a,I (i64.wrap (b+1))] [aA 4 2,ad.dead,aB l,ak 1 (D && false) [[ae n]],ad.rows p.1 5 1 1 p.2.length p.2] else aF (bh d=true) <| some [T.aC D,bz E d,T.ax,aO e]):=by kernel_rfl
theorem By(O:aq)(A C D E:Bool)(M N:List (List T))(a b c:Int)(e:List (List T×T))(y:Nat)(c3:List Row):au aj ann O rB [Y'0,af 1 A M,af 1 C N,I a,bB D,I b,I c] [aA 3 2,Go.Aev.ad.dead,aB e,ad.rows E 5 1 1 y c3]=
 (bif decide (c < b) then bq M c λn=>bq N c λf=>bS (O (Key.call 46) [Y'0,I n,I f] [aA 1 2,ad.rows E 5 1 1 y c3,aB e]) λn p l=>bS (O (Key.call 46) [Y'0,I n,I a] [aA 1 2,ad.rows p.1 5 1 1 p.2.length p.2,aB l]) λd p l=>bif decide (i64.wrap (c+1) < ↑M.length) then bq M c λg=>bq N c λh=>bS (O (Key.call 44) [Y'0,I g,I h] [aA 1 2,ad.rows p.1 5 1 1 p.2.length p.2,aB l]) λi p l=>bS (O (Key.call 44) [Y'0,I n,I a] [aA 1 2,ad.rows p.1 5 1 1 p.2.length p.2,aB l]) λn p l=>bS (O (Key.call 45) [Y'0,I i,I n] [aA 1 2,ad.rows p.1 5 1 1 p.2.length p.2,aB l]) λn p l=>O (bY aj 47 true 4 [(0,none),(1,none),(2,none),(7,none),(8,none),(14,none),(15,none)] (3,2002)) [Y'0,af 1 A M,af 1 C N,I n,V'3,I b,I (i64.wrap (c+1))] [aA 4 2,ad.dead,aB l,ak 1 (D && false) [[ae d]],ad.rows p.1 5 1 1 p.2.length p.2] else O rB [Y'0,af 1 A M,af 1 C N,I a,V'3,I b,I (i64.wrap (c+1))] [aA 4 2,ad.dead,aB l,ak 1 (D && false) [[ae d]],ad.rows p.1 5 1 1 p.2.length p.2] else aF (bh c3=true) <| some [T.aC D,bz E c3,T.ax,aO e]):=by kernel_rfl
theorem Gy(O:aq)(A C D E:Bool)(M N P:List (List T))(a b:Int)(e:List (List T×T))(y:Nat)(c3:List Row):au aj ann O s7 [Y'0,af 1 A M,af 1 C N,af 1 D P,I a,I b] [aA 3 2,Go.Aev.ad.dead,aB e,ad.rows E 5 1 1 y c3]=
 (bif decide (b < a) then bq P b λn=>lh (O (Key.call 49) [Y'0,af 1 A M,I b] [aA 1 2,ad.rows E 5 1 1 y c3,aB e]) λp d l=>O rC [Y'0,af 1 A M,af 1 C N,I n,bB true,af 1 D P,I a,I b,af 1 p.1 p.2,I ↑p.2.length,I 0] [aA 3 2,ad.dead,aB l,ad.rows d.1 5 1 1 d.2.length d.2] else aF (bh c3=true) <| some [T.aa 1 C N,bz E c3,T.ax,aO e]):=by kernel_rfl
theorem BA(O:aq)(A C D:Bool)(M:List (List T))(a b c:Int)(y:Nat)(d:List Row)(e:List (List T×T)):au aj ann O kP [Y'0,af 1 A M,I a,bB C,I b,I c] [aA 1 2,ad.rows D 5 1 1 y d,aB e]=
 (bif decide (c < b) then bif decide (c < a) then bS (O (Key.call 42) [Y'0,B false] [aA 1 2,ad.rows D 5 1 1 y d,aB e]) λn p l=>O kP [Y'0,af 1 A M,I a,V'3,I b,I (i64.wrap (c+1))] [aA 4 2,ad.dead,aB l,ak 1 (C && false) [[ae n]],ad.rows p.1 5 1 1 p.2.length p.2] else aF ((0:Int)<=i64.wrap (c - a)/\i64.wrap (c - a) < ↑M.length) <| cM (M[(i64.wrap (c - a)).toNat]?) λn=>O kP [Y'0,af 1 A M,I a,V'3,I b,I (i64.wrap (c+1))] [aA 1 2,ad.rows D 5 1 1 y d,aB e,ak 1 (C && false) [[ae n]]] else aF (bh d=true) <| some [T.aC C,bz D d,T.ax,aO e]):=by kernel_rfl
theorem F9(O:aq)(a b:Int)(A C D E F G H:Bool)(y:Nat)(d:List Row)(M N P:List (List T)):au aj ann O xG [Y'2,Y'3,V'4,V'1,I a,I b] [ad.rows A 5 1 1 y d,ak 1 C M,eI D N 0 1,cq E F G,ak 1 H P]=
 (bif decide (b < a) then bq M b λn=>aF (0<=n/\n < ↑P.length) <| U' (jd n.toNat 0 [T.bool true] P) λl=>O xG [Y'2,Y'3,V'4,V'1,I a,I (i64.wrap (b+1))] [ad.rows A 5 1 1 y d,ak 1 C M,eI D N 0 1,cq E F G,ak 1 H l] else O ot [Y'2,Y'3,V'4,I (i64.wrap (↑P.length - (1:Int)))] [ad.rows A 5 1 1 y d,ak 1 C M,eI D N 0 1,cq E F G,ak 1 H P]):=by kernel_rfl
theorem GB(O:aq)(A C D:Bool)(M N:List (List T))(a b c:Int)(d:List (List T×T))(y:Nat)(c3:List Row):au aj ann O AE [Y'0,af 1 A M,af 1 C N,I a,I b,I c] [aA 3 2,Go.Aev.ad.dead,aB d,ad.rows D 5 1 1 y c3]=
 (bif decide (c < b) then bq M c λn=>bS (O (Key.call 43) [Y'0,I n] [aA 1 2,ad.rows D 5 1 1 y c3,aB d]) λn p l=>bq N c λe=>bS (O (Key.call 44) [Y'0,I n,I e] [aA 1 2,ad.rows p.1 5 1 1 p.2.length p.2,aB l]) λn p l=>bq M c λf=>bq N c λg=>bS (O (Key.call 51) [Y'0,I f,I g] [aA 1 2,ad.rows p.1 5 1 1 p.2.length p.2,aB l]) λh p l=>bS (O (Key.call 44) [Y'0,I h,I a] [aA 1 2,ad.rows p.1 5 1 1 p.2.length p.2,aB l]) λi p l=>bS (O (Key.call 45) [Y'0,I n,I i] [aA 1 2,ad.rows p.1 5 1 1 p.2.length p.2,aB l]) λn p l=>O (bY aj 50 true 3 [(0,none),(1,none),(2,none),(7,none),(12,none),(13,none)] (3,2002)) [Y'0,af 1 A M,af 1 C N,I n,I b,I (i64.wrap (c+1))] [aA 3 2,ad.dead,aB l,ad.rows p.1 5 1 1 p.2.length p.2] else aF (bh c3=true) <| some [ae a,bz D c3,T.ax,aO d]):=by kernel_rfl
theorem Oj(O:aq)(a b c:Int)(t:ByteArray)(A C:Bool)(M:List (List T))(y:Nat)(f:List Row)(g:List (List T×T)):au aj ann O (Key.call 38) [Y'0,I a,bC t,I b,I c,af 1 A M] [aA 1 2,ad.rows C 5 1 1 y f,aB g]=
 (ir (O (Key.call 36) [I a] []) λs=>aF (s.size+1<=4294967296) <| aF ((s++ (ByteArray.mk #[(32:UInt8)])).size+t.size<=4294967296) <| aF ((s++ (ByteArray.mk #[(32:UInt8)])++t).size+1<=4294967296) <| ir (O (Key.call 36) [I b] []) λd=>aF ((s++ (ByteArray.mk #[(32:UInt8)])++t++ (ByteArray.mk #[(32:UInt8)])).size+d.size<=4294967296) <| aF ((s++ (ByteArray.mk #[(32:UInt8)])++t++ (ByteArray.mk #[(32:UInt8)])++d).size+1<=4294967296) <| ir (O (Key.call 36) [I c] []) λe=>aF ((s++ (ByteArray.mk #[(32:UInt8)])++t++ (ByteArray.mk #[(32:UInt8)])++d++ (ByteArray.mk #[(32:UInt8)])).size+e.size<=4294967296) <| O xI [Y'0,I a,bC t,I b,I c,af 1 A M,bC (s++ (ByteArray.mk #[(32:UInt8)])++t++ (ByteArray.mk #[(32:UInt8)])++d++ (ByteArray.mk #[(32:UInt8)])++e),af 1 A M,I ↑M.length,I 0] [aA 1 2,ad.rows C 5 1 1 y f,aB g]):=by kernel_rfl
theorem Gt(O:aq)(A C D E:Bool)(M N:List (List T))(a b:Int)(y:Nat)(d:List Row)(e:List (List T×T)):au aj ann O fe [af 1 A M,af 1 C N,AV.fn 51 [Y'0] [],bB D,I a,I b] [aA 1 2,ad.rows E 5 1 1 y d,aB e]=
 (bif decide (b < a) then bq M b λn=>bq N b λf=>bS (O (Key.call 51) [Y'0,I n,I f] [aA 1 2,ad.rows E 5 1 1 y d,aB e]) λn p l=>O fe [af 1 A M,af 1 C N,AV.fn 51 [Y'0] [],V'3,I a,I (i64.wrap (b+1))] [aA 4 2,ad.dead,aB l,ak 1 (D && false) [[ae n]],ad.rows p.1 5 1 1 p.2.length p.2] else aF (bh d=true) <| some [T.aC D,bz E d,T.ax,aO e]):=by kernel_rfl
theorem Oy(O:aq)(a b:Int)(A:Bool)(y:Nat)(e:List Row)(f:List (List T×T)):au aj ann O (Key.call 44) [Y'0,I a,I b] [aA 1 2,ad.rows A 5 1 1 y e,aB f]=
 (gB (O (Key.call 79) [Y'0,I a,I 2] [aA 1 2,ad.rows A 5 1 1 y e,aB f]) λd p l=>bif d then bif d then aF (bh p.2=true) <| some [ae a,bz p.1 p.2,T.ax,aO l] else gB (O (Key.call 79) [Y'0,I a,I 1] [aA 1 2,ad.rows p.1 5 1 1 p.2.length p.2,aB l]) λd p l=>bif d then bif d then aF (bh p.2=true) <| some [ae b,bz p.1 p.2,T.ax,aO l] else bS (O (Key.call 38) [Y'0,I 4,bC (ByteArray.mk #[]),I 0,I 0,af 1 false [[ae a],[ae b]]] [aA 1 2,ad.rows p.1 5 1 1 p.2.length p.2,aB l]) λn p l=>aF (bh p.2=true) <| some [ae n,bz p.1 p.2,T.ax,aO l] else gB (O (Key.call 79) [Y'0,I b,I 2] [aA 1 2,ad.rows p.1 5 1 1 p.2.length p.2,aB l]) λd p l=>bif d then aF (bh p.2=true) <| some [ae b,bz p.1 p.2,T.ax,aO l] else bS (O (Key.call 38) [Y'0,I 4,bC (ByteArray.mk #[]),I 0,I 0,af 1 false [[ae a],[ae b]]] [aA 1 2,ad.rows p.1 5 1 1 p.2.length p.2,aB l]) λn p l=>aF (bh p.2=true) <| some [ae n,bz p.1 p.2,T.ax,aO l] else gB (O (Key.call 79) [Y'0,I b,I 1] [aA 1 2,ad.rows p.1 5 1 1 p.2.length p.2,aB l]) λd p l=>bif d then bif d then aF (bh p.2=true) <| some [ae a,bz p.1 p.2,T.ax,aO l] else gB (O (Key.call 79) [Y'0,I a,I 1] [aA 1 2,ad.rows p.1 5 1 1 p.2.length p.2,aB l]) λd p l=>bif d then bif d then aF (bh p.2=true) <| some [ae b,bz p.1 p.2,T.ax,aO l] else bS (O (Key.call 38) [Y'0,I 4,bC (ByteArray.mk #[]),I 0,I 0,af 1 false [[ae a],[ae b]]] [aA 1 2,ad.rows p.1 5 1 1 p.2.length p.2,aB l]) λn p l=>aF (bh p.2=true) <| some [ae n,bz p.1 p.2,T.ax,aO l] else gB (O (Key.call 79) [Y'0,I b,I 2] [aA 1 2,ad.rows p.1 5 1 1 p.2.length p.2,aB l]) λd p l=>bif d then aF (bh p.2=true) <| some [ae b,bz p.1 p.2,T.ax,aO l] else bS (O (Key.call 38) [Y'0,I 4,bC (ByteArray.mk #[]),I 0,I 0,af 1 false [[ae a],[ae b]]] [aA 1 2,ad.rows p.1 5 1 1 p.2.length p.2,aB l]) λn p l=>aF (bh p.2=true) <| some [ae n,bz p.1 p.2,T.ax,aO l] else bif a==b then aF (bh p.2=true) <| some [ae a,bz p.1 p.2,T.ax,aO l] else gB (O (Key.call 79) [Y'0,I a,I 1] [aA 1 2,ad.rows p.1 5 1 1 p.2.length p.2,aB l]) λd p l=>bif d then bif d then aF (bh p.2=true) <| some [ae b,bz p.1 p.2,T.ax,aO l] else bS (O (Key.call 38) [Y'0,I 4,bC (ByteArray.mk #[]),I 0,I 0,af 1 false [[ae a],[ae b]]] [aA 1 2,ad.rows p.1 5 1 1 p.2.length p.2,aB l]) λn p l=>aF (bh p.2=true) <| some [ae n,bz p.1 p.2,T.ax,aO l] else gB (O (Key.call 79) [Y'0,I b,I 2] [aA 1 2,ad.rows p.1 5 1 1 p.2.length p.2,aB l]) λd p l=>bif d then aF (bh p.2=true) <| some [ae b,bz p.1 p.2,T.ax,aO l] else bS (O (Key.call 38) [Y'0,I 4,bC (ByteArray.mk #[]),I 0,I 0,af 1 false [[ae a],[ae b]]] [aA 1 2,ad.rows p.1 5 1 1 p.2.length p.2,aB l]) λn p l=>aF (bh p.2=true) <| some [ae n,bz p.1 p.2,T.ax,aO l]):=by kernel_rfl
theorem F4(O:aq)(A C D E F G H J K L:Bool)(M N P Q R S U V W:List (List T))(a b c d e:Int)(t u:ByteArray)(y:Nat)(f:List Row)(g:List (List T×T)):au aj ann O rv [Y'0,Y'6,V'7,af 1 A M,I a,I b] [bQ 1 C N D P E Q t F R 2 3,aA 4 5,ak 1 G S,ak 1 H U,ad.rows J 5 1 1 y f,aB g,bZ c K V d e u,ak 1 L W]=
 (bif decide (b < a) then bq M b λn=>bq U n λn=>U' (bH 8 (W.length+1)) λx=>O rv [Y'0,Y'6,V'7,af 1 A M,I a,I (i64.wrap (b+1))] [bQ 1 C N D P E Q t F R 2 3,aA 4 5,ak 1 G S,ak 1 H U,ad.rows J 5 1 1 y f,aB g,bZ c K V d e u,ak 1 (L && false) (W++ [[ae n]])] else bS (O (Key.call 38) [Y'0,I c,bC u,I d,I e,af 1 L W] [aA 1 2,ad.rows J 5 1 1 y f,aB g]) λn p l=>aF (bh p.2=true) <| some [ae n,T.ax,T.aa 3 C N,T.aa 5 D P,T.aa 1 E Q,T.str t,T.aa 1 F R,T.ax,T.ax,bz p.1 p.2,T.ax,T.aa 1 G S,T.aa 1 H U,aO l]):=by kernel_rfl
theorem Og(O:aq)(t u:ByteArray)(A:Bool)(M:List (List T))(a:Int):au aj ann O (Key.call 34) [dq t A M a,AV.t (T.ptr [T.str u])] []=
 (U' (O (Key.call 35) [bC t,bC u] []) λl=>U' l.head? λx=>U' x.dY λs=>U' l.tail.head? λx=>U' x.bool? λb=>ab (some (bif b then !s.toList== (ByteArray.mk #[]).toList else false)) (if(0:Int)<=(0:Int)/\(0:Int) < ↑s.size then some () else none) λx=>ab (some (bif b then !s.toList== (ByteArray.mk #[]).toList else false)) s.data.toList[0]? λx=>ab (some (bif bif b then !s.toList== (ByteArray.mk #[]).toList else false then decide (↑x.toNat>=(48:Int)) else false)) (if(0:Int)<=(0:Int)/\(0:Int) < ↑s.size then some () else none) λd=>ab (some (bif bif b then !s.toList== (ByteArray.mk #[]).toList else false then decide (↑x.toNat>=(48:Int)) else false)) s.data.toList[0]? λc=>some [T.bool (bif bif bif b then !s.toList== (ByteArray.mk #[]).toList else false then decide (↑x.toNat>=(48:Int)) else false then decide (↑c.toNat<=(57:Int)) else false)]):=by kernel_rfl
theorem NN(O:aq)(A C D E F G H J K L:Bool)(a b c d e:Int)(M N P Q R S U V:List (List T))(t u:ByteArray)(y:Nat)(f:List Row)(h:List (List T×T)):au aj ann O jA [Y'6,Y'7,bB A,V'8,I a,I b] [bQ 1 C M D N E P t F Q 2 3,aA 4 5,ak 1 G R,ak 1 H S,ad.rows J 5 1 1 y f,aB h,cF 0,bZ c K U d e u,ak 1 L V]=
 (bif decide (b < a) then cM (O (Key.call 39) [bM C M D N E P,bC u] []) λn=>ir (O (Key.call 36) [I n] []) λs=>aF (t.size+s.size<=4294967296) <| aF ((t++s).size+1<=4294967296) <| ir (O (Key.call 36) [I b] []) λg=>aF ((t++s++ (ByteArray.mk #[(95:UInt8)])).size+g.size<=4294967296) <| bS (O (Key.call 38) [Y'0,I 9,bC (t++s++ (ByteArray.mk #[(95:UInt8)])++g),I 0,I 0,af 1 L V] [aA 1 2,ad.rows J 5 1 1 y f,aB h]) λn p l=>O jA [Y'6,Y'7,V'8,af 1 L V,I a,I (i64.wrap (b+1))] [bQ 1 C M D N E P t F Q 2 3,aA 9 5,ak 1 G R,ak 1 H S,ad.dead,aB l,cF 0,bZ c K U d e u,ak 1 (A && false) [[ae n]],ad.rows p.1 5 1 1 p.2.length p.2] else aF (bh f=true) <| some [T.aC A,T.ax,T.aa 3 C M,T.aa 5 D N,T.aa 1 E P,T.str t,T.aa 1 F Q,T.ax,T.ax,bz J f,T.ax,T.aa 1 G R,T.aa 1 H S,aO h]):=by kernel_rfl
theorem Ol(O:aq)(A C D:Bool)(M N P:List (List T))(t:ByteArray):au aj ann O (Key.call 39) [bM A M C N D P,bC t] []=
 (cM (O (Key.call 75) [af 3 A M,AV.fn 78 [] [AV.t (T.ptr [T.str t])]] []) λn=>some [ae n]):=by kernel_rfl
theorem FX(O:aq)(A C D E F G H J K L:Bool)(a b c d e:Int)(M N P Q R S U V:List (List T))(t u:ByteArray)(h:List (List T×T))(y:Nat)(f:List Row):au aj ann O jA [Y'6,Y'7,V'8,bB A,I a,I b] [bQ 1 C M D N E P t F Q 2 3,aA 9 5,ak 1 G R,ak 1 H S,Go.Aev.ad.dead,aB h,cF 0,bZ c J U d e u,ak 1 K V,ad.rows L 5 1 1 y f]=
 (bif decide (b < a) then cM (O (Key.call 39) [bM C M D N E P,bC u] []) λn=>ir (O (Key.call 36) [I n] []) λs=>aF (t.size+s.size<=4294967296) <| aF ((t++s).size+1<=4294967296) <| ir (O (Key.call 36) [I b] []) λg=>aF ((t++s++ (ByteArray.mk #[(95:UInt8)])).size+g.size<=4294967296) <| bS (O (Key.call 38) [Y'0,I 9,bC (t++s++ (ByteArray.mk #[(95:UInt8)])++g),I 0,I 0,af 1 A []] [aA 1 2,ad.rows L 5 1 1 y f,aB h]) λn p l=>U' (bH 8 (V.length+1)) λx=>O jA [Y'6,Y'7,V'8,bB A,I a,I (i64.wrap (b+1))] [bQ 1 C M D N E P t F Q 2 3,aA 9 5,ak 1 G R,ak 1 H S,ad.dead,aB l,cF 0,bZ c J U d e u,ak 1 (K && false) (V++ [[ae n]]),ad.rows p.1 5 1 1 p.2.length p.2] else aF (bh f=true) <| some [T.aa 1 K V,T.ax,T.aa 3 C M,T.aa 5 D N,T.aa 1 E P,T.str t,T.aa 1 F Q,T.ax,T.ax,bz L f,T.ax,T.aa 1 G R,T.aa 1 H S,aO h]):=by kernel_rfl
theorem Ov(O:aq)(a b c:Int)(A C D E F G H:Bool)(M N P Q R S:List (List T))(t:ByteArray)(y:Nat)(d:List Row)(c7:List (List T×T)):au aj ann O (Key.call 41) [I a,I b,Y'0,Y'1] [cF 2,ad.box [I c],bQ 3 A M C N D P t E Q 4 5,aA 6 7,ak 1 F R,ak 1 G S,ad.rows H 5 1 1 y d,aB c7]=
 (bif a==b then aF (bh d=true) <| some [ae a,T.ax,ae c,T.ax,T.aa 3 A M,T.aa 5 C N,T.aa 1 D P,T.str t,T.aa 1 E Q,T.ax,T.ax,bz H d,T.ax,T.aa 1 F R,T.aa 1 G S,aO c7] else bS (O (Key.call 38) [Y'0,I 7,bC (ByteArray.mk #[]),I 0,I 0,af 1 false [[ae c],[ae a],[ae b]]] [aA 1 2,ad.rows H 5 1 1 y d,aB c7]) λn p l=>aF (bh p.2=true) <| some [ae n,T.ax,ae c,T.ax,T.aa 3 A M,T.aa 5 C N,T.aa 1 D P,T.str t,T.aa 1 E Q,T.ax,T.ax,bz p.1 p.2,T.ax,T.aa 1 F R,T.aa 1 G S,aO l]):=by kernel_rfl
theorem Gu(O:aq)(A C D E F G H J K L:Bool)(M N P Q R S U V W:List (List T))(a b c:Int)(t:ByteArray)(c7:List (List T×T))(y:Nat)(e:List Row):au aj ann O rA [af 1 A M,af 1 C N,AV.fn 41 [] [Y'0,Y'1],V'8,I a,I b] [cF 2,ad.box [I c],bQ 3 D P E Q F R t G S 4 5,aA 9 7,ak 1 H U,ak 1 J V,Go.Aev.ad.dead,aB c7,ak 1 K W,ad.rows L 5 1 1 y e]=
 (bif decide (b < a) then bq M b λn=>bq N b λk=>yg (O (Key.call 41) [I n,I k,Y'0,Y'1] [cF 2,ad.box [I c],bQ 3 D P E Q F R t G S 4 5,aA 6 7,ak 1 H U,ak 1 J V,ad.rows L 5 1 1 y e,aB c7]) λn m p f g s h d i j l=>U' (bH 8 (W.length+1)) λx=>O rA [af 1 A M,af 1 C N,AV.fn 41 [] [Y'0,Y'1],V'8,I a,I (i64.wrap (b+1))] [cF 2,ad.box [I m],bQ 3 p.1 p.2 f.1 f.2 g.1 g.2 s h.1 h.2 4 5,aA 9 7,ak 1 i.1 i.2,ak 1 j.1 j.2,ad.dead,aB l,ak 1 (K && false) (W++ [[ae n]]),ad.rows d.1 5 1 1 d.2.length d.2] else aF (bh e=true) <| some [T.aa 1 K W,T.ax,ae c,T.ax,T.aa 3 D P,T.aa 5 E Q,T.aa 1 F R,T.str t,T.aa 1 G S,T.ax,T.ax,bz L e,T.ax,T.aa 1 H U,T.aa 1 J V,aO c7]):=by kernel_rfl
theorem Gv(O:aq)(A C D E:Bool)(M N P:List (List T))(a b:Int)(e:List (List T×T))(y:Nat)(d:List Row):au aj ann O fe [af 1 A M,af 1 C N,AV.fn 44 [Y'0] [],V'3,I a,I b] [aA 4 2,Go.Aev.ad.dead,aB e,ak 1 D P,ad.rows E 5 1 1 y d]=
 (bif decide (b < a) then bq M b λn=>bq N b λf=>bS (O (Key.call 44) [Y'0,I n,I f] [aA 1 2,ad.rows E 5 1 1 y d,aB e]) λn p l=>U' (bH 8 (P.length+1)) λx=>O fe [af 1 A M,af 1 C N,AV.fn 44 [Y'0] [],V'3,I a,I (i64.wrap (b+1))] [aA 4 2,ad.dead,aB l,ak 1 (D && false) (P++ [[ae n]]),ad.rows p.1 5 1 1 p.2.length p.2] else aF (bh d=true) <| some [T.aa 1 D P,bz E d,T.ax,aO e]):=by kernel_rfl
theorem Oz(O:aq)(a b:Int)(A:Bool)(y:Nat)(e:List Row)(f:List (List T×T)):au aj ann O (Key.call 45) [Y'0,I a,I b] [aA 1 2,ad.rows A 5 1 1 y e,aB f]=
 (gB (O (Key.call 79) [Y'0,I a,I 1] [aA 1 2,ad.rows A 5 1 1 y e,aB f]) λd p l=>bif d then bif d then aF (bh p.2=true) <| some [ae a,bz p.1 p.2,T.ax,aO l] else gB (O (Key.call 79) [Y'0,I a,I 2] [aA 1 2,ad.rows p.1 5 1 1 p.2.length p.2,aB l]) λd p l=>bif d then bif d then aF (bh p.2=true) <| some [ae b,bz p.1 p.2,T.ax,aO l] else bS (O (Key.call 38) [Y'0,I 5,bC (ByteArray.mk #[]),I 0,I 0,af 1 false [[ae a],[ae b]]] [aA 1 2,ad.rows p.1 5 1 1 p.2.length p.2,aB l]) λn p l=>aF (bh p.2=true) <| some [ae n,bz p.1 p.2,T.ax,aO l] else gB (O (Key.call 79) [Y'0,I b,I 1] [aA 1 2,ad.rows p.1 5 1 1 p.2.length p.2,aB l]) λd p l=>bif d then aF (bh p.2=true) <| some [ae b,bz p.1 p.2,T.ax,aO l] else bS (O (Key.call 38) [Y'0,I 5,bC (ByteArray.mk #[]),I 0,I 0,af 1 false [[ae a],[ae b]]] [aA 1 2,ad.rows p.1 5 1 1 p.2.length p.2,aB l]) λn p l=>aF (bh p.2=true) <| some [ae n,bz p.1 p.2,T.ax,aO l] else gB (O (Key.call 79) [Y'0,I b,I 2] [aA 1 2,ad.rows p.1 5 1 1 p.2.length p.2,aB l]) λd p l=>bif d then bif d then aF (bh p.2=true) <| some [ae a,bz p.1 p.2,T.ax,aO l] else gB (O (Key.call 79) [Y'0,I a,I 2] [aA 1 2,ad.rows p.1 5 1 1 p.2.length p.2,aB l]) λd p l=>bif d then bif d then aF (bh p.2=true) <| some [ae b,bz p.1 p.2,T.ax,aO l] else bS (O (Key.call 38) [Y'0,I 5,bC (ByteArray.mk #[]),I 0,I 0,af 1 false [[ae a],[ae b]]] [aA 1 2,ad.rows p.1 5 1 1 p.2.length p.2,aB l]) λn p l=>aF (bh p.2=true) <| some [ae n,bz p.1 p.2,T.ax,aO l] else gB (O (Key.call 79) [Y'0,I b,I 1] [aA 1 2,ad.rows p.1 5 1 1 p.2.length p.2,aB l]) λd p l=>bif d then aF (bh p.2=true) <| some [ae b,bz p.1 p.2,T.ax,aO l] else bS (O (Key.call 38) [Y'0,I 5,bC (ByteArray.mk #[]),I 0,I 0,af 1 false [[ae a],[ae b]]] [aA 1 2,ad.rows p.1 5 1 1 p.2.length p.2,aB l]) λn p l=>aF (bh p.2=true) <| some [ae n,bz p.1 p.2,T.ax,aO l] else bif a==b then aF (bh p.2=true) <| some [ae a,bz p.1 p.2,T.ax,aO l] else gB (O (Key.call 79) [Y'0,I a,I 2] [aA 1 2,ad.rows p.1 5 1 1 p.2.length p.2,aB l]) λd p l=>bif d then bif d then aF (bh p.2=true) <| some [ae b,bz p.1 p.2,T.ax,aO l] else bS (O (Key.call 38) [Y'0,I 5,bC (ByteArray.mk #[]),I 0,I 0,af 1 false [[ae a],[ae b]]] [aA 1 2,ad.rows p.1 5 1 1 p.2.length p.2,aB l]) λn p l=>aF (bh p.2=true) <| some [ae n,bz p.1 p.2,T.ax,aO l] else gB (O (Key.call 79) [Y'0,I b,I 1] [aA 1 2,ad.rows p.1 5 1 1 p.2.length p.2,aB l]) λd p l=>bif d then aF (bh p.2=true) <| some [ae b,bz p.1 p.2,T.ax,aO l] else bS (O (Key.call 38) [Y'0,I 5,bC (ByteArray.mk #[]),I 0,I 0,af 1 false [[ae a],[ae b]]] [aA 1 2,ad.rows p.1 5 1 1 p.2.length p.2,aB l]) λn p l=>aF (bh p.2=true) <| some [ae n,bz p.1 p.2,T.ax,aO l]):=by kernel_rfl
theorem Gw(O:aq)(A C D E:Bool)(M N P:List (List T))(a b:Int)(e:List (List T×T))(y:Nat)(d:List Row):au aj ann O fe [af 1 A M,af 1 C N,AV.fn 45 [Y'0] [],V'3,I a,I b] [aA 4 2,Go.Aev.ad.dead,aB e,ak 1 D P,ad.rows E 5 1 1 y d]=
 (bif decide (b < a) then bq M b λn=>bq N b λf=>bS (O (Key.call 45) [Y'0,I n,I f] [aA 1 2,ad.rows E 5 1 1 y d,aB e]) λn p l=>U' (bH 8 (P.length+1)) λx=>O fe [af 1 A M,af 1 C N,AV.fn 45 [Y'0] [],V'3,I a,I (i64.wrap (b+1))] [aA 4 2,ad.dead,aB l,ak 1 (D && false) (P++ [[ae n]]),ad.rows p.1 5 1 1 p.2.length p.2] else aF (bh d=true) <| some [T.aa 1 D P,bz E d,T.ax,aO e]):=by kernel_rfl
theorem OA(O:aq)(a b:Int)(A:Bool)(y:Nat)(d:List Row)(e:List (List T×T)):au aj ann O (Key.call 46) [Y'0,I a,I b] [aA 1 2,ad.rows A 5 1 1 y d,aB e]=
 (bS (O (Key.call 51) [Y'0,I a,I b] [aA 1 2,ad.rows A 5 1 1 y d,aB e]) λn p l=>bS (O (Key.call 43) [Y'0,I n] [aA 1 2,ad.rows p.1 5 1 1 p.2.length p.2,aB l]) λn p l=>aF (bh p.2=true) <| some [ae n,bz p.1 p.2,T.ax,aO l]):=by kernel_rfl
theorem Gx(O:aq)(A C D E:Bool)(M N P:List (List T))(a b:Int)(e:List (List T×T))(y:Nat)(d:List Row):au aj ann O fe [af 1 A M,af 1 C N,AV.fn 46 [Y'0] [],V'3,I a,I b] [aA 4 2,Go.Aev.ad.dead,aB e,ak 1 D P,ad.rows E 5 1 1 y d]=
 (bif decide (b < a) then bq M b λn=>bq N b λf=>bS (O (Key.call 46) [Y'0,I n,I f] [aA 1 2,ad.rows E 5 1 1 y d,aB e]) λn p l=>U' (bH 8 (P.length+1)) λx=>O fe [af 1 A M,af 1 C N,AV.fn 46 [Y'0] [],V'3,I a,I (i64.wrap (b+1))] [aA 4 2,ad.dead,aB l,ak 1 (D && false) (P++ [[ae n]]),ad.rows p.1 5 1 1 p.2.length p.2] else aF (bh d=true) <| some [T.aa 1 D P,bz E d,T.ax,aO e]):=by kernel_rfl
theorem Bz(O:aq)(A C D E:Bool)(M N P:List (List T))(a b c:Int)(f:List (List T×T))(y:Nat)(d:List Row):au aj ann O rB [Y'0,af 1 A M,af 1 C N,I a,V'3,I b,I c] [aA 4 2,Go.Aev.ad.dead,aB f,ak 1 D P,ad.rows E 5 1 1 y d]=
 (bif decide (c < b) then bq M c λn=>bq N c λg=>bS (O (Key.call 46) [Y'0,I n,I g] [aA 1 2,ad.rows E 5 1 1 y d,aB f]) λn p l=>bS (O (Key.call 46) [Y'0,I n,I a] [aA 1 2,ad.rows p.1 5 1 1 p.2.length p.2,aB l]) λe p l=>U' (bH 8 (P.length+1)) λx=>bif decide (i64.wrap (c+1) < ↑M.length) then bq M c λh=>bq N c λi=>bS (O (Key.call 44) [Y'0,I h,I i] [aA 1 2,ad.rows p.1 5 1 1 p.2.length p.2,aB l]) λj p l=>bS (O (Key.call 44) [Y'0,I n,I a] [aA 1 2,ad.rows p.1 5 1 1 p.2.length p.2,aB l]) λn p l=>bS (O (Key.call 45) [Y'0,I j,I n] [aA 1 2,ad.rows p.1 5 1 1 p.2.length p.2,aB l]) λn p l=>O (bY aj 47 true 4 [(0,none),(1,none),(2,none),(7,none),(8,none),(14,none),(15,none)] (3,2002)) [Y'0,af 1 A M,af 1 C N,I n,V'3,I b,I (i64.wrap (c+1))] [aA 4 2,ad.dead,aB l,ak 1 (D && false) (P++ [[ae e]]),ad.rows p.1 5 1 1 p.2.length p.2] else O rB [Y'0,af 1 A M,af 1 C N,I a,V'3,I b,I (i64.wrap (c+1))] [aA 4 2,ad.dead,aB l,ak 1 (D && false) (P++ [[ae e]]),ad.rows p.1 5 1 1 p.2.length p.2] else aF (bh d=true) <| some [T.aa 1 D P,bz E d,T.ax,aO f]):=by kernel_rfl
theorem OE(O:aq)(A C D E F G:Bool)(M N P Q:List (List T))(a b c d e:Int)(g:List (List T×T))(y:Nat)(c3:List Row):au aj ann O rC [Y'0,af 1 A M,af 1 C N,I a,bB D,af 1 E P,I b,I c,af 1 F Q,I d,I e] [aA 3 2,Go.Aev.ad.dead,aB g,ad.rows G 5 1 1 y c3]=
 (bif decide (e < d) then bq Q e λn=>bS (O (Key.call 44) [Y'0,I a,I n] [aA 1 2,ad.rows G 5 1 1 y c3,aB g]) λn p l=>O rC [Y'0,af 1 A M,af 1 C N,I a,V'3,af 1 E P,I b,I c,af 1 F Q,I d,I (i64.wrap (e+1))] [aA 4 2,ad.dead,aB l,ak 1 (D && false) [[ae n]],ad.rows p.1 5 1 1 p.2.length p.2] else lh (O (Key.call 47) [Y'0,af 1 C N,af 1 D []] [aA 1 2,ad.rows G 5 1 1 y c3,aB g]) λp f l=>O s7 [Y'0,af 1 A M,af 1 p.1 p.2,af 1 E P,I b,I (i64.wrap (c+1))] [aA 3 2,ad.dead,aB l,ad.rows f.1 5 1 1 f.2.length f.2]):=by kernel_rfl
theorem BB(O:aq)(A C D:Bool)(M N:List (List T))(a b c:Int)(e:List (List T×T))(y:Nat)(d:List Row):au aj ann O kP [Y'0,af 1 A M,I a,V'3,I b,I c] [aA 4 2,Go.Aev.ad.dead,aB e,ak 1 C N,ad.rows D 5 1 1 y d]=
 (bif decide (c < b) then bif decide (c < a) then bS (O (Key.call 42) [Y'0,B false] [aA 1 2,ad.rows D 5 1 1 y d,aB e]) λn p l=>U' (bH 8 (N.length+1)) λx=>O kP [Y'0,af 1 A M,I a,V'3,I b,I (i64.wrap (c+1))] [aA 4 2,ad.dead,aB l,ak 1 (C && false) (N++ [[ae n]]),ad.rows p.1 5 1 1 p.2.length p.2] else aF ((0:Int)<=i64.wrap (c - a)/\i64.wrap (c - a) < ↑M.length) <| cM (M[(i64.wrap (c - a)).toNat]?) λn=>U' (bH 8 (N.length+1)) λx=>O kP [Y'0,af 1 A M,I a,V'3,I b,I (i64.wrap (c+1))] [aA 4 2,ad.dead,aB e,ak 1 (C && false) (N++ [[ae n]]),ad.rows D 5 1 1 y d] else aF (bh d=true) <| some [T.aa 1 C N,bz D d,T.ax,aO e]):=by kernel_rfl
theorem GA(O:aq)(A C D:Bool)(M N:List (List T))(a b c:Int)(y:Nat)(d:List Row)(e:List (List T×T)):au aj ann O kP [Y'0,af 1 A M,I a,V'3,I b,I c] [aA 1 2,ad.rows C 5 1 1 y d,aB e,ak 1 D N]=
 (bif decide (c < b) then bif decide (c < a) then bS (O (Key.call 42) [Y'0,B false] [aA 1 2,ad.rows C 5 1 1 y d,aB e]) λn p l=>U' (bH 8 (N.length+1)) λx=>O kP [Y'0,af 1 A M,I a,V'3,I b,I (i64.wrap (c+1))] [aA 4 2,ad.dead,aB l,ak 1 (D && false) (N++ [[ae n]]),ad.rows p.1 5 1 1 p.2.length p.2] else aF ((0:Int)<=i64.wrap (c - a)/\i64.wrap (c - a) < ↑M.length) <| cM (M[(i64.wrap (c - a)).toNat]?) λn=>U' (bH 8 (N.length+1)) λx=>O kP [Y'0,af 1 A M,I a,V'3,I b,I (i64.wrap (c+1))] [aA 1 2,ad.rows C 5 1 1 y d,aB e,ak 1 (D && false) (N++ [[ae n]])] else aF (bh d=true) <| some [T.aa 1 D N,bz C d,T.ax,aO e]):=by kernel_rfl
theorem Bu(O:aq)(a:Int)(A C D E F G H:Bool)(y:Nat)(d:List Row)(M N P:List (List T)):au aj ann O ot [Y'2,Y'3,V'4,I a] [ad.rows A 5 1 1 y d,ak 1 C M,eI D N 0 1,cq E F G,ak 1 H P]=
 (bif decide (a>=0) then vI P a λb=>bif b then aF (0<=a/\a < ↑d.length) <| U' d[a.toNat]? λx=>U' (cU x.n d) λp=>O xF [Y'2,Y'3,V'4,I a,AV.row (Id.c 0) x.n,I ↑p.2.length,I 0] [ad.rows A 5 1 1 y d,ak 1 C M,eI D N 0 1,cq E F G,ak 1 H P] else O ot [Y'2,Y'3,V'4,I (i64.wrap (a - 1))] [ad.rows A 5 1 1 y d,ak 1 C M,eI D N 0 1,cq E F G,ak 1 H P] else U' (nY ↑P.length ↑P.length) λx=>O ke [Y'2,Y'3,V'4,V'5,Y'6,V'0,I ↑d.length,I 0] [ad.rows A 5 1 1 y d,ak 1 C M,eI D N 0 1,cq E F G,ak 1 H P,ak 1 false (List.replicate (↑P.length:Int).toNat [ae 0]),pY D N true true]):=by kernel_rfl
theorem OH(O:aq)(a b:Int)(A:Bool)(y:Nat)(e:List Row)(f:List (List T×T)):au aj ann O (Key.call 51) [Y'0,I a,I b] [aA 1 2,ad.rows A 5 1 1 y e,aB f]=
 (bif a==b then bS (O (Key.call 42) [Y'0,B true] [aA 1 2,ad.rows A 5 1 1 y e,aB f]) λn p l=>aF (bh p.2=true) <| some [ae n,bz p.1 p.2,T.ax,aO l] else gB (O (Key.call 79) [Y'0,I a,I 1] [aA 1 2,ad.rows A 5 1 1 y e,aB f]) λd p l=>bif d then aF (bh p.2=true) <| some [ae b,bz p.1 p.2,T.ax,aO l] else gB (O (Key.call 79) [Y'0,I b,I 1] [aA 1 2,ad.rows p.1 5 1 1 p.2.length p.2,aB l]) λd p l=>bif d then aF (bh p.2=true) <| some [ae a,bz p.1 p.2,T.ax,aO l] else gB (O (Key.call 79) [Y'0,I a,I 2] [aA 1 2,ad.rows p.1 5 1 1 p.2.length p.2,aB l]) λd p l=>bif d then bS (O (Key.call 43) [Y'0,I b] [aA 1 2,ad.rows p.1 5 1 1 p.2.length p.2,aB l]) λn p l=>aF (bh p.2=true) <| some [ae n,bz p.1 p.2,T.ax,aO l] else gB (O (Key.call 79) [Y'0,I b,I 2] [aA 1 2,ad.rows p.1 5 1 1 p.2.length p.2,aB l]) λd p l=>bif d then bS (O (Key.call 43) [Y'0,I a] [aA 1 2,ad.rows p.1 5 1 1 p.2.length p.2,aB l]) λn p l=>aF (bh p.2=true) <| some [ae n,bz p.1 p.2,T.ax,aO l] else bS (O (Key.call 38) [Y'0,I 6,bC (ByteArray.mk #[]),I 0,I 0,af 1 false [[ae a],[ae b]]] [aA 1 2,ad.rows p.1 5 1 1 p.2.length p.2,aB l]) λn p l=>aF (bh p.2=true) <| some [ae n,bz p.1 p.2,T.ax,aO l]):=by kernel_rfl
theorem Bx(O:aq)(a b c d e:Int)(t u:ByteArray)(A C D:Bool)(M N:List (List T))(y:Nat)(f:List Row)(g:List (List T×T)):au aj ann O xI [Y'0,I a,bC t,I b,I c,af 1 A M,bC u,af 1 C N,I d,I e] [aA 1 2,ad.rows D 5 1 1 y f,aB g]=
 (bif decide (e < d) then bq N e λn=>ir (O (Key.call 36) [I n] []) λs=>aF (1+s.size<=4294967296) <| aF (u.size+ ((ByteArray.mk #[(32:UInt8)])++s).size<=4294967296) <| O xI [Y'0,I a,bC t,I b,I c,af 1 A M,bC (u++ ((ByteArray.mk #[(32:UInt8)])++s)),af 1 C N,I d,I (i64.wrap (e+1))] [aA 1 2,ad.rows D 5 1 1 y f,aB g] else U' (T.int? i64 ((iw [T.str u] g).getD (ae 0))) λn=>bif (iw [T.str u] g).isSome then aF (bh f=true) <| some [ae n,bz D f,T.ax,aO g] else iI (O (Key.call 24) [af 1 A M] []) λp=>U' (bH 64 (f.length+1)) λx=>aF (bh (f++ [Row.mk y [ae a,T.ax,ae b,ae c,T.str t] (some (p.1,p.2))])=true) <| some [ae (i64.wrap ((↑(f++ [Row.mk y [ae a,T.ax,ae b,ae c,T.str t] (some (p.1,p.2))]).length:Int) - (1:Int))),bz false (f++ [Row.mk y [ae a,T.ax,ae b,ae c,T.str t] (some (p.1,p.2))]),T.ax,aO (jt [T.str u] (ae (i64.wrap ((↑(f++ [Row.mk y [ae a,T.ax,ae b,ae c,T.str t] (some (p.1,p.2))]).length:Int) - (1:Int)))) g)]):=by kernel_rfl
theorem Gn(O:aq)(A C D E:Bool)(M N P:List (List T))(a b:Int)(e:List (List T×T))(y:Nat)(d:List Row):au aj ann O fe [af 1 A M,af 1 C N,AV.fn 51 [Y'0] [],V'3,I a,I b] [aA 4 2,Go.Aev.ad.dead,aB e,ak 1 D P,ad.rows E 5 1 1 y d]=
 (bif decide (b < a) then bq M b λn=>bq N b λf=>bS (O (Key.call 51) [Y'0,I n,I f] [aA 1 2,ad.rows E 5 1 1 y d,aB e]) λn p l=>U' (bH 8 (P.length+1)) λx=>O fe [af 1 A M,af 1 C N,AV.fn 51 [Y'0] [],V'3,I a,I (i64.wrap (b+1))] [aA 4 2,ad.dead,aB l,ak 1 (D && false) (P++ [[ae n]]),ad.rows p.1 5 1 1 p.2.length p.2] else aF (bh d=true) <| some [T.aa 1 D P,bz E d,T.ax,aO e]):=by kernel_rfl
theorem Pu(O:aq)(a b:Int)(A:Bool)(y:Nat)(d:List Row)(e:List (List T×T)):au aj ann O (Key.call 79) [Y'0,I a,I b] [aA 1 2,ad.rows A 5 1 1 y d,aB e]=
 (aF (0<=a/\a < ↑d.length) <| U' d[a.toNat]? λx=>U' (List.drop 0 x.cs).head? λx=>U' (T.int? i64 x) λn=>aF (bh d=true) <| some [T.bool (n==b),bz A d,T.ax,aO e]):=by kernel_rfl
theorem Oh(O:aq)(t u:ByteArray):au aj ann O (Key.call 35) [bC t,bC u] []=
 (U' (O (Key.call 76) [bC t,bC u] []) λl=>U' l.head? λx=>U' x.dY λs=>U' l.tail.head? λx=>U' x.bool? λb=>some [T.str s,T.bool b]):=by kernel_rfl
theorem FY(O:aq)(A C D E F G H J K L:Bool)(M N P Q R S U V W:List (List T))(a b c d e:Int)(t u:ByteArray)(h:List (List T×T))(y:Nat)(f:List Row):au aj ann O jA [Y'6,Y'7,V'8,af 1 A M,I a,I b] [bQ 1 C N D P E Q t F R 2 3,aA 9 5,ak 1 G S,ak 1 H U,Go.Aev.ad.dead,aB h,cF 0,bZ c J V d e u,ak 1 K W,ad.rows L 5 1 1 y f]=
 (bif decide (b < a) then cM (O (Key.call 39) [bM C N D P E Q,bC u] []) λn=>ir (O (Key.call 36) [I n] []) λs=>aF (t.size+s.size<=4294967296) <| aF ((t++s).size+1<=4294967296) <| ir (O (Key.call 36) [I b] []) λg=>aF ((t++s++ (ByteArray.mk #[(95:UInt8)])).size+g.size<=4294967296) <| bS (O (Key.call 38) [Y'0,I 9,bC (t++s++ (ByteArray.mk #[(95:UInt8)])++g),I 0,I 0,af 1 A M] [aA 1 2,ad.rows L 5 1 1 y f,aB h]) λn p l=>U' (bH 8 (W.length+1)) λx=>O jA [Y'6,Y'7,V'8,af 1 A M,I a,I (i64.wrap (b+1))] [bQ 1 C N D P E Q t F R 2 3,aA 9 5,ak 1 G S,ak 1 H U,ad.dead,aB l,cF 0,bZ c J V d e u,ak 1 (K && false) (W++ [[ae n]]),ad.rows p.1 5 1 1 p.2.length p.2] else aF (bh f=true) <| some [T.aa 1 K W,T.ax,T.aa 3 C N,T.aa 5 D P,T.aa 1 E Q,T.str t,T.aa 1 F R,T.ax,T.ax,bz L f,T.ax,T.aa 1 G S,T.aa 1 H U,aO h]):=by kernel_rfl
theorem Pq(O:aq)(A:Bool)(M:List (List T))(t:ByteArray):au aj ann O (Key.call 75) [af 3 A M,AV.fn 78 [] [AV.t (T.ptr [T.str t])]] []=
 (O jh [af 3 A M,AV.fn 78 [] [AV.t (T.ptr [T.str t])],I ↑M.length,I 0] []):=by kernel_rfl
theorem Gz(O:aq)(A C D E F G:Bool)(M N P Q R:List (List T))(a b c d e:Int)(g:List (List T×T))(y:Nat)(h:List Row):au aj ann O rC [Y'0,af 1 A M,af 1 C N,I a,V'3,af 1 D P,I b,I c,af 1 E Q,I d,I e] [aA 4 2,Go.Aev.ad.dead,aB g,ak 1 F R,ad.rows G 5 1 1 y h]=
 (bif decide (e < d) then bq Q e λn=>bS (O (Key.call 44) [Y'0,I a,I n] [aA 1 2,ad.rows G 5 1 1 y h,aB g]) λn p l=>U' (bH 8 (R.length+1)) λx=>O rC [Y'0,af 1 A M,af 1 C N,I a,V'3,af 1 D P,I b,I c,af 1 E Q,I d,I (i64.wrap (e+1))] [aA 4 2,ad.dead,aB l,ak 1 (F && false) (R++ [[ae n]]),ad.rows p.1 5 1 1 p.2.length p.2] else lh (O (Key.call 47) [Y'0,af 1 C N,af 1 F R] [aA 1 2,ad.rows G 5 1 1 y h,aB g]) λp f l=>O s7 [Y'0,af 1 A M,af 1 p.1 p.2,af 1 D P,I b,I (i64.wrap (c+1))] [aA 3 2,ad.dead,aB l,ad.rows f.1 5 1 1 f.2.length f.2]):=by kernel_rfl
theorem F6(O:aq)(a b c:Int)(y z:Nat)(A C D E F G H:Bool)(d:List Row)(M N P:List (List T)):au aj ann O xF [Y'2,Y'3,V'4,I a,AV.row (Id.c 0) y,I b,I c] [ad.rows A 5 1 1 z d,ak 1 C M,eI D N 0 1,cq E F G,ak 1 H P]=
 (bif decide (c < b) then U' (cU y d) λp=>aF (0<=c/\c < ↑p.2.length) <| U' (cU y d) λp=>cM (p.2[c.toNat]?) λn=>aF (0<=n/\n < ↑P.length) <| U' (jd n.toNat 0 [T.bool true] P) λl=>O xF [Y'2,Y'3,V'4,I a,AV.row (Id.c 0) y,I b,I (i64.wrap (c+1))] [ad.rows A 5 1 1 z d,ak 1 C M,eI D N 0 1,cq E F G,ak 1 H l] else O ot [Y'2,Y'3,V'4,I (i64.wrap (a - 1))] [ad.rows A 5 1 1 z d,ak 1 C M,eI D N 0 1,cq E F G,ak 1 H P]):=by kernel_rfl
theorem Bs(O:aq)(a b:Int)(A C D E F G H J K L e:Bool)(y:Nat)(d:List Row)(M N P Q R:List (List T)):au aj ann O ke [Y'2,Y'3,V'4,V'5,Y'6,V'0,I a,I b] [ad.rows A 5 1 1 y d,ak 1 C M,eI D N 0 1,cq E F G,ak 1 H P,ak 1 J Q,pY K R L e]=
 (bif decide (b < a) then aF (0<=b/\b < ↑d.length) <| U' d[b.toNat]? λx=>U' x.cs.head? λi=>U' x.cs.tail.head? λo=>U' x.cs.tail.tail.head? λj=>U' x.cs.tail.tail.tail.head? λk=>U' x.cs.tail.tail.tail.tail.head? λm=>U' (T.int? i64 i) λn=>U' (T.int? i64 j) λg=>U' (T.int? i64 k) λh=>U' m.dY λs=>vI P b λf=>bif !f then O ke [Y'2,Y'3,V'4,V'5,Y'6,V'0,I a,I (i64.wrap (b+1))] [ad.rows A 5 1 1 y d,ak 1 C M,eI D N 0 1,cq E F G,ak 1 H P,ak 1 J Q,pY K R L e] else aF (0<=b/\b < ↑Q.length) <| U' (jd b.toNat 0 [ae ↑0] Q) λl=>U' (cU x.n d) λp=>O jg [Y'2,Y'3,V'4,V'5,Y'6,Y'7,V'0,I a,I b,AV.row (Id.c 0) x.n,I ↑p.2.length,I 0] [ad.rows A 5 1 1 y d,ak 1 C M,eI D N 0 1,cq E F G,ak 1 H P,ak 1 J l,pY K R L e,ad.box [I n,AV.row (Id.c 0) x.n,I g,I h,bC s]] else O il [Y'2,V'3,Y'4,V'1,I ↑M.length,I 0] [ad.rows A 5 1 1 y d,ak 1 C M,cq E F G,ak 1 J Q,pY K R L e]):=by kernel_rfl
theorem Ps(O:aq)(t u:ByteArray):au aj ann O (Key.call 76) [bC t,bC u] []=
 (bw (O (Key.call 102) [bC t,bC u] []) λb=>bif !b then some [T.str t,T.bool false] else U' (gH ↑u.size ↑t.size ↑t.size) λx=>some [T.str (t.extract (↑u.size:Int).toNat (↑t.size:Int).toNat),T.bool true]):=by kernel_rfl
theorem GP(O:aq)(A:Bool)(M:List (List T))(t:ByteArray)(a b:Int):au aj ann O jh [af 3 A M,AV.fn 78 [] [AV.t (T.ptr [T.str t])],I a,I b] []=
 (bif decide (b < a) then lf M b λs p n=>bw (O (Key.call 78) [dq s p.1 p.2 n,AV.t (T.ptr [T.str t])] []) λc=>bif c then some [ae b] else O jh [af 3 A M,AV.fn 78 [] [AV.t (T.ptr [T.str t])],I a,I (i64.wrap (b+1))] [] else some [ae (-1)]):=by kernel_rfl
theorem F7(O:aq)(a b c d e f g:Int)(y z i:Nat)(A C D E F G H J K L j:Bool)(h:List Row)(M N P Q R:List (List T))(t:ByteArray):au aj ann O jg [Y'2,Y'3,V'4,V'5,Y'6,Y'7,V'0,I a,I b,AV.row (Id.c 0) y,I c,I d] [ad.rows A 5 1 1 z h,ak 1 C M,eI D N 0 1,cq E F G,ak 1 H P,ak 1 J Q,pY K R L j,ad.box [I e,AV.row (Id.c 0) i,I f,I g,bC t]]=
 (bif decide (d < c) then U' (cU y h) λp=>aF (0<=d/\d < ↑p.2.length) <| U' (cU y h) λp=>cM (p.2[d.toNat]?) λn=>bq Q n λn=>U' (cU i h) λp=>aF (0<=d/\d < ↑p.2.length) <| U' (cU i h) λp=>U' (jd d.toNat 0 [ae n] p.2) λl=>O jg [Y'2,Y'3,V'4,V'5,Y'6,Y'7,V'0,I a,I b,AV.row (Id.c 0) y,I c,I (i64.wrap (d+1))] [ad.rows A 5 1 1 z (dG i (some (p.1,l)) h),ak 1 C M,eI D N 0 1,cq E F G,ak 1 H P,ak 1 J Q,pY K R L j,ad.box [I e,AV.row (Id.c 0) i,I f,I g,bC t]] else U' (cU i h) λp=>O ke [Y'2,Y'3,V'4,V'5,Y'6,V'0,I a,I (i64.wrap (b+1))] [ad.rows A 5 1 1 z (dG i none h),ak 1 C M,eI D N 0 1,cq E F G,ak 1 H P,ak 1 J Q,oB K R 7 j,ak 5 (L && false) [[ae e,T.aa 1 p.1 p.2,ae f,ae g,T.str t]]]):=by kernel_rfl
theorem Ga(O:aq)(a b:Int)(A C D E F G H J K:Bool)(y:Nat)(d:List Row)(M N P:List (List T)):au aj ann O il [Y'2,V'3,Y'4,V'1,I a,I b] [ad.rows A 5 1 1 y d,ak 1 C M,cq D E F,ak 1 G N,pY H P J K]=
 (bif decide (b < a) then bq M b λn=>bq N n λn=>O il [Y'2,V'3,Y'4,V'1,I a,I (i64.wrap (b+1))] [ad.rows A 5 1 1 y d,ak 1 C M,cq D E F,ak 1 G N,ad.box [af 3 H P,bB J,V'5],ak 1 (K && false) [[ae n]]] else some [T.aa 3 H P,T.aC J,T.aC K]):=by kernel_rfl
theorem Ny(O:aq)(t u:ByteArray):au aj ann O (Key.call 102) [bC t,bC u] []=
 (ab (some (decide ((↑t.size:Int)>=↑u.size))) (gH (0:Int) ↑u.size ↑t.size) λx=>some [T.bool (bif decide ((↑t.size:Int)>=↑u.size) then(t.extract 0 (↑u.size:Int).toNat).toList==u.toList else false)]):=by kernel_rfl
theorem Pt(O:aq)(t u:ByteArray)(A:Bool)(M:List (List T))(a:Int):au aj ann O (Key.call 78) [dq t A M a,AV.t (T.ptr [T.str u])] []=
 (some [T.bool (t.toList==u.toList)]):=by kernel_rfl
theorem Bt(O:aq)(a b:Int)(A C D E F G H J K L e:Bool)(y:Nat)(d:List Row)(M N P Q R S:List (List T)):au aj ann O ke [Y'2,Y'3,V'4,V'5,Y'6,V'0,I a,I b] [ad.rows A 5 1 1 y d,ak 1 C M,eI D N 0 1,cq E F G,ak 1 H P,ak 1 J Q,oB K R 7 L,ak 5 e S]=
 (bif decide (b < a) then aF (0<=b/\b < ↑d.length) <| U' d[b.toNat]? λx=>U' x.cs.head? λi=>U' x.cs.tail.head? λo=>U' x.cs.tail.tail.head? λj=>U' x.cs.tail.tail.tail.head? λk=>U' x.cs.tail.tail.tail.tail.head? λm=>U' (T.int? i64 i) λn=>U' (T.int? i64 j) λg=>U' (T.int? i64 k) λh=>U' m.dY λs=>vI P b λf=>bif !f then O ke [Y'2,Y'3,V'4,V'5,Y'6,V'0,I a,I (i64.wrap (b+1))] [ad.rows A 5 1 1 y d,ak 1 C M,eI D N 0 1,cq E F G,ak 1 H P,ak 1 J Q,oB K R 7 L,ak 5 e S] else aF (0<=b/\b < ↑Q.length) <| U' (jd b.toNat 0 [ae ↑S.length] Q) λl=>U' (cU x.n d) λp=>O jg [Y'2,Y'3,V'4,V'5,Y'6,Y'7,V'0,I a,I b,AV.row (Id.c 0) x.n,I ↑p.2.length,I 0] [ad.rows A 5 1 1 y d,ak 1 C M,eI D N 0 1,cq E F G,ak 1 H P,ak 1 J l,oB K R 8 L,ad.box [I n,AV.row (Id.c 0) x.n,I g,I h,bC s],ak 5 e S] else O il [Y'2,V'3,Y'4,V'1,I ↑M.length,I 0] [ad.rows A 5 1 1 y d,ak 1 C M,cq E F G,ak 1 J Q,oB K R 5 L,ak 5 e S]):=by kernel_rfl
theorem Gb(O:aq)(a b:Int)(A C D E F G H J K:Bool)(y:Nat)(d:List Row)(M N P Q:List (List T)):au aj ann O il [Y'2,V'3,Y'4,V'1,I a,I b] [ad.rows A 5 1 1 y d,ak 1 C M,cq D E F,ak 1 G N,ad.box [af 3 H P,bB J,V'5],ak 1 K Q]=
 (bif decide (b < a) then bq M b λn=>bq N n λn=>U' (bH 8 (Q.length+1)) λx=>O il [Y'2,V'3,Y'4,V'1,I a,I (i64.wrap (b+1))] [ad.rows A 5 1 1 y d,ak 1 C M,cq D E F,ak 1 G N,ad.box [af 3 H P,bB J,V'5],ak 1 (K && false) (Q++ [[ae n]])] else some [T.aa 3 H P,T.aC J,T.aa 1 K Q]):=by kernel_rfl
theorem F8(O:aq)(a b c d e f g:Int)(y z i:Nat)(A C D E F G H J K L j:Bool)(h:List Row)(M N P Q R S:List (List T))(t:ByteArray):au aj ann O jg [Y'2,Y'3,V'4,V'5,Y'6,Y'7,V'0,I a,I b,AV.row (Id.c 0) y,I c,I d] [ad.rows A 5 1 1 z h,ak 1 C M,eI D N 0 1,cq E F G,ak 1 H P,ak 1 J Q,oB K R 8 L,ad.box [I e,AV.row (Id.c 0) i,I f,I g,bC t],ak 5 j S]=
 (bif decide (d < c) then U' (cU y h) λp=>aF (0<=d/\d < ↑p.2.length) <| U' (cU y h) λp=>cM (p.2[d.toNat]?) λn=>bq Q n λn=>U' (cU i h) λp=>aF (0<=d/\d < ↑p.2.length) <| U' (cU i h) λp=>U' (jd d.toNat 0 [ae n] p.2) λl=>O jg [Y'2,Y'3,V'4,V'5,Y'6,Y'7,V'0,I a,I b,AV.row (Id.c 0) y,I c,I (i64.wrap (d+1))] [ad.rows A 5 1 1 z (dG i (some (p.1,l)) h),ak 1 C M,eI D N 0 1,cq E F G,ak 1 H P,ak 1 J Q,oB K R 8 L,ad.box [I e,AV.row (Id.c 0) i,I f,I g,bC t],ak 5 j S] else U' (cU i h) λp=>U' (bH 64 (S.length+1)) λx=>O ke [Y'2,Y'3,V'4,V'5,Y'6,V'0,I a,I (i64.wrap (b+1))] [ad.rows A 5 1 1 z (dG i none h),ak 1 C M,eI D N 0 1,cq E F G,ak 1 H P,ak 1 J Q,oB K R 7 L,ak 5 (j && false) (S++ [[ae e,T.aa 1 p.1 p.2,ae f,ae g,T.str t]])]):=by kernel_rfl
theorem Gc(O:aq)(a b:Int)(A C D E F G H J K:Bool)(y:Nat)(d:List Row)(M N P Q:List (List T)):au aj ann O il [Y'2,V'3,Y'4,V'1,I a,I b] [ad.rows A 5 1 1 y d,ak 1 C M,cq D E F,ak 1 G N,oB H P 5 J,ak 5 K Q]=
 (bif decide (b < a) then bq M b λn=>bq N n λn=>O il [Y'2,V'3,Y'4,V'1,I a,I (i64.wrap (b+1))] [ad.rows A 5 1 1 y d,ak 1 C M,cq D E F,ak 1 G N,eI H P 5 6,ak 5 K Q,ak 1 (J && false) [[ae n]]] else some [T.aa 3 H P,T.aa 5 K Q,T.aC J]):=by kernel_rfl
theorem Gd(O:aq)(a b:Int)(A C D E F G H J K:Bool)(y:Nat)(d:List Row)(M N P Q R:List (List T)):au aj ann O il [Y'2,V'3,Y'4,V'1,I a,I b] [ad.rows A 5 1 1 y d,ak 1 C M,cq D E F,ak 1 G N,eI H P 5 6,ak 5 J Q,ak 1 K R]=
 (bif decide (b < a) then bq M b λn=>bq N n λn=>U' (bH 8 (R.length+1)) λx=>O il [Y'2,V'3,Y'4,V'1,I a,I (i64.wrap (b+1))] [ad.rows A 5 1 1 y d,ak 1 C M,cq D E F,ak 1 G N,eI H P 5 6,ak 5 J Q,ak 1 (K && false) (R++ [[ae n]])] else some [T.aa 3 H P,T.aa 5 J Q,T.aa 1 K R]):=by kernel_rfl
end Go.Aev.Gen
