import Derived.Test.YticjdhgokemdlaaGreatMostWeakQ6
set_option linter.all false
namespace Go.Aev.Wd
open Go Go.Aev Go.Aev.Gen Go.IntKind
noncomputable abbrev wW:Key:=aS an 125 true 2 [(0,none),(3,none)] (2,1002)
noncomputable abbrev wV:Key:=aS an 125 true 2 [(0,none),(3,none)] (1,2)
noncomputable abbrev tG:Key:=aS an 91 true 3 [(0,none),(1,none),(2,none),(7,none),(28,none),(29,none),(30,none)] (1,2)
noncomputable abbrev wS:Key:=aS an 91 true 7 [(0,none),(1,none),(2,none),(7,none),(8,none),(9,none),(10,none),(28,none),(29,none),(30,none),(38,none),(39,none),(40,none)] (1,2)
noncomputable abbrev ru:Key:=aS an 126 true 6 [(0,none),(1,none),(5,none),(6,none),(20,none),(21,none),(22,none)] (0,0)
noncomputable abbrev tI:Key:=aS an 127 true 4 [(1,none),(5,none),(6,none),(13,none),(14,none),(15,none)] (0,0)
noncomputable abbrev wZ:Key:=aS an 116 true 6 [(0,none),(1,none),(5,none)] (0,0)
noncomputable abbrev wX:Key:=aS an 71 true 2 [(0,none),(11,some 0),(12,some 0)] (1,2)
noncomputable abbrev wY:Key:=aS an 71 true 5 [(0,none),(13,none),(14,none)] (1,2)
noncomputable abbrev wT:Key:=aS an 16 true 3 [(0,none),(1,none),(5,some 0),(6,none)] (0,0)
noncomputable abbrev xd:Key:=aS an 150 true 3 [(1,none),(5,none),(16,none),(17,none),(18,none)] (0,0)
noncomputable abbrev tK:Key:=aS an 151 true 6 [(0,none),(1,none),(5,none),(20,none),(21,none),(22,none)] (0,0)
noncomputable abbrev xc:Key:=aS an 149 true 4 [(0,none),(1,none),(6,none),(7,none),(8,none)] (0,0)
noncomputable abbrev w7:Key:=aS an 149 true 11 [(0,none),(1,none),(9,none)] (0,0)
noncomputable abbrev rv:Key:=aS an 149 true 17 [(9,none),(10,none),(11,some 0),(12,none),(13,none),(14,none)] (0,0)
noncomputable abbrev w9:Key:=aS an 149 true 21 [(9,none),(10,none),(11,some 0),(12,none),(13,none),(14,none),(16,none),(17,none)] (0,0)
noncomputable abbrev mB:Key:=aS an 149 true 27 [(9,none),(10,none),(11,some 0),(12,none),(13,none),(14,none),(16,none),(18,none),(19,none),(172,none),(173,none),(174,none)] (0,0)
noncomputable abbrev tJ:Key:=aS an 149 true 41 [(9,none),(10,none),(11,some 0),(12,none),(13,none),(14,none),(16,none),(18,none),(233,none),(234,none),(235,none)] (0,0)
noncomputable abbrev rq:Key:=aS an 111 true 3 [(0,none),(3,none),(4,none)] (0,0)
theorem MY(O:au)(n:Int):ay an ann O (Key.call 72) [I n] []=
 (bM (O (.call 115) [Jr 0,I n] (Y4)) λb p=>some [T.ptr [Jb b,T.aa 1 p.fst p.snd]]):=by kernel_rfl
theorem F6(O:au)(s:Bool)(y:T)(n:Int):ay an ann O (Key.call 115) [Jr 0,I n] (Y2 s y)=
 (bif decide (n < 0) then bM (O (.call 112) [Jr 0,AV.t (T.int u64 (u64.wrap (0 - u64.wrap n)))] (Y2 s y)) λb p=>some [T.aw,Jb true,T.aa 1 p.fst p.snd] else bM (O (.call 112) [Jr 0,AV.t (T.int u64 (u64.wrap n))] (Y2 s y)) λb p=>some [T.aw,Jb b,T.aa 1 p.fst p.snd]):=by kernel_rfl
theorem Nd(O:au)(s:Bool)(y:T)(n:Int):ay an ann O (Key.call 112) [Jr 0,AV.t (T.int .u64 n)] (Y2 s y)=
 (bM (O (.call 125) [Jr 0] [ab.box [B false,Jo 1],ab.sl false 1 false [[T.int u32 (u32.wrap n)],[T.int u32 (u32.wrap (n.fdiv (2 ^ 32)))]]]) λb p=>some [T.aw,Jb b,T.aa 1 p.fst p.snd]):=by kernel_rfl
theorem yp(O:au)(s e:Bool)(d:JL):ay an ann O (Key.call 125) [Jr 0] (lL s e d)=
 (O wW [Jr 0,I (d.length:Int)] (lL s e d)):=by kernel_rfl
theorem F8(O:au)(a:Int)(b d:Bool)(c:JL):ay an ann O wW [Jr 0,I a] (lL b d c)=
 (ae (some (decide (a > 0))) (if 0<=i64.wrap (a - 1)/\i64.wrap (a - 1) < (c.length:Int) then some () else none) λx=>mz (some (decide (a > 0))) c[(i64.wrap (a - 1)).toNat]? λn=>bif bif decide (a > 0) then n==0 else false then O wW [Jr 0,I (i64.wrap (a - 1))] (lL b d c) else Jg (bO 0 a (c.length:Int)) λx=>bif a==0 then some [T.aw,Jb false,T.aa 1 d (List.take (a.toNat - 0) c)] else some [T.aw,Jb b,T.aa 1 d (List.take (a.toNat - 0) c)]):=by kernel_rfl
theorem M8(O:au)(s e:Bool)(d:JL):ay an ann O (Key.call 125) [Jr 0] (Y6 s e d)=
 (O wV [Jr 0,I (d.length:Int)] (Y6 s e d)):=by kernel_rfl
theorem F9(O:au)(b:Int)(d c:Bool)(a:JL):ay an ann O wV [Jr 0,I b] (Y6 d c a)=
 (ae (some (decide (b > 0))) (if 0<=i64.wrap (b - 1)/\i64.wrap (b - 1) < (a.length:Int) then some () else none) λx=>mz (some (decide (b > 0))) a[(i64.wrap (b - 1)).toNat]? λn=>bif bif decide (b > 0) then n==0 else false then O wV [Jr 0,I (i64.wrap (b - 1))] (Y6 d c a) else Jg (bO 0 b (a.length:Int)) λx=>bif b==0 then some [T.aw,Jb false,T.aa 1 c (sub 0 b a)] else some [T.aw,Jb d,T.aa 1 c (sub 0 b a)]):=by kernel_rfl
theorem Nh(O:au)(s c b:Bool)(y:T)(a:JL):ay an ann O (Key.call 114) [Jr 0,AV.t (T.ptr [Jb c,T.aa 1 b a])] (Y2 s y)=
 (Jg (bL 4 a.length) λx=>some [T.aw,Jb c,T.aa 1 false a]):=by kernel_rfl
theorem BI(O:au)(s d a:Bool)(y:T)(c:JL):ay an ann O (Key.call 118) [Jr 0,AV.t (T.ptr [Jb d,T.aa 1 a c])] (Y2 s y)=
 (bM (O (.call 114) [Jr 0,AV.t (T.ptr [Jb d,T.aa 1 a c])] (Y2 s y)) λb p=>some [T.aw,Jb (bif !b then decide ((p.snd.length:Int) > 0) else false),T.aa 1 p.fst p.snd]):=by kernel_rfl
theorem F7(O:au)(s e a f bA:Bool)(y:T)(c d:JL):ay an ann O (Key.call 94) [Jr 0,AV.t (T.ptr [Jb e,T.aa 1 a c]),AV.t (T.ptr [Jb f,T.aa 1 bA d])] (Y2 s y)=
 (bif e==f then G4 (O (.call 126) [Jl 1 a c,Jl 1 bA d] []) λp=>bM (O (.call 125) [Jr 0] (lL e p.fst p.snd)) λb p=>some [T.aw,Jb b,T.aa 1 p.fst p.snd] else G9 (O (.call 116) [AV.t (T.ptr [Jb e,T.aa 1 a c]),AV.t (T.ptr [Jb f,T.aa 1 bA d])] []) λn=>bif decide (n>=0) then G4 (O (.call 127) [Jl 1 a c,Jl 1 bA d] []) λp=>bM (O (.call 125) [Jr 0] (lL e p.fst p.snd)) λb p=>some [T.aw,Jb b,T.aa 1 p.fst p.snd] else G4 (O (.call 127) [Jl 1 bA d,Jl 1 a c] []) λp=>bM (O (.call 125) [Jr 0] (lL f p.fst p.snd)) λb p=>some [T.aw,Jb b,T.aa 1 p.fst p.snd]):=by kernel_rfl
theorem BH(O:au)(s e c bA:Bool)(d a:JL):ay an ann O (Key.call 94) [Jr 0,Jr 0,AV.t (T.ptr [Jb c,T.aa 1 bA a])] (Y6 s e d)=
 (bif s==c then G4 (O (.call 126) [Jl 1 e d,Jl 1 bA a] []) λp=>bM (O (.call 125) [Jr 0] (lL s p.fst p.snd)) λb p=>some [T.aw,Jb b,T.aa 1 p.fst p.snd] else G9 (O (.call 116) [AV.t (T.ptr [Jb s,T.aa 1 e d]),AV.t (T.ptr [Jb c,T.aa 1 bA a])] []) λn=>bif decide (n>=0) then G4 (O (.call 127) [Jl 1 e d,Jl 1 bA a] []) λp=>bM (O (.call 125) [Jr 0] (lL s p.fst p.snd)) λb p=>some [T.aw,Jb b,T.aa 1 p.fst p.snd] else G4 (O (.call 127) [Jl 1 bA a,Jl 1 e d] []) λp=>bM (O (.call 125) [Jr 0] (lL c p.fst p.snd)) λb p=>some [T.aw,Jb b,T.aa 1 p.fst p.snd]):=by kernel_rfl
theorem MZ(O:au)(s e c bA:Bool)(d a:JL):ay an ann O (Key.call 148) [Jr 0,Jr 0,AV.t (T.ptr [Jb c,T.aa 1 bA a])] (Y6 s e d)=
 (bM (O (.call 118) [Jr 0,AV.t (T.ptr [Jb c,T.aa 1 bA a])] (Y4)) λb p=>bM (O (.call 94) [Jr 0,Jr 0,AV.t (T.ptr [Jb b,T.aa 1 p.fst p.snd])] (Y6 s e d)) λb p=>some [T.aw,Jb b,T.aa 1 p.fst p.snd]):=by kernel_rfl
theorem M0(O:au)(s d c e bA:Bool)(y:T)(a b:JL):ay an ann O (Key.call 91) [Jr 0,AV.t (T.ptr [Jb d,T.aa 1 c a]),AV.t (T.ptr [Jb e,T.aa 1 bA b])] (Y2 s y)=
 (Jg (br (i64.wrap ((a.length:Int)+ (b.length:Int))) (i64.wrap ((a.length:Int)+ (b.length:Int)))) λx=>O tG [Jr 0,AV.t (T.ptr [Jb d,T.aa 1 c a]),AV.t (T.ptr [Jb e,T.aa 1 bA b]),Jo 1,Jl 1 c a,I (a.length:Int),I 0] [ab.box [B s,AV.t y],ab.sl false 1 false (List.replicate (i64.wrap ((a.length:Int)+ (b.length:Int))).toNat [T.int u32 0])]):=by kernel_rfl
theorem F2(O:au)(e g f a k h j:Bool)(l c m q:JL)(o d:Int)(i:T):ay an ann O tG [Jr 0,AV.t (T.ptr [Jb e,T.aa 1 g l]),AV.t (T.ptr [Jb f,T.aa 1 a c]),Jo 1,Jl 1 k m,I o,I d] (tX h i j q)=
 (bif decide (d < o) then cK d m λn=>O wS [Jr 0,AV.t (T.ptr [Jb e,T.aa 1 g l]),AV.t (T.ptr [Jb f,T.aa 1 a c]),Jo 1,I d,AV.t (T.int u32 n),AV.t (T.int u64 0),Jl 1 k m,I o,I d,Jl 1 a c,I (c.length:Int),I 0] (tX h i j q) else bM (O (.call 125) [Jr 0] [ab.box [B !e==f,Jo 1],ab.sl false 1 j q]) λb p=>some [T.aw,Jb b,T.aa 1 p.fst p.snd]):=by kernel_rfl
theorem F3(O:au)(j d m e i q f p:Bool)(k b r v h:JL)(c y o s u w a:Int)(g:T):ay an ann O wS [Jr 0,AV.t (T.ptr [Jb j,T.aa 1 d k]),AV.t (T.ptr [Jb m,T.aa 1 e b]),Jo 1,I c,AV.t (T.int u32 y),AV.t (T.int u64 o),Jl 1 i r,I s,I u,Jl 1 q v,I w,I a] (tX f g p h)=
 (bif decide (a < w) then cK a v λn=>Jg (if 0<=i64.wrap (c+a)/\i64.wrap (c+a) < (h.length:Int) then some () else none) λx=>dJ h[(i64.wrap (c+a)).toNat]? λz=>Jg (if 0<=i64.wrap (c+a)/\i64.wrap (c+a) < (h.length:Int) then some () else none) λx=>Jg (bm (i64.wrap (c+a)).toNat 0 [T.int u32 (u32.wrap (u64.wrap (o+u64.wrap (u64.wrap (u64.wrap y * u64.wrap n)+u64.wrap z))))] h) λl=>O wS [Jr 0,AV.t (T.ptr [Jb j,T.aa 1 d k]),AV.t (T.ptr [Jb m,T.aa 1 e b]),Jo 1,I c,AV.t (T.int u32 y),AV.t (T.int u64 ((u64.wrap (o+u64.wrap (u64.wrap (u64.wrap y * u64.wrap n)+u64.wrap z))).fdiv (2 ^ 32))),Jl 1 i r,I s,I u,Jl 1 q v,I w,I (Jw a)] (tX f g p l) else Jg (if 0<=i64.wrap (c+ (b.length:Int))/\i64.wrap (c+ (b.length:Int)) < (h.length:Int) then some () else none) λx=>Jg (bm (i64.wrap (c+ (b.length:Int))).toNat 0 [T.int u32 (u32.wrap o)] h) λl=>O tG [Jr 0,AV.t (T.ptr [Jb j,T.aa 1 d k]),AV.t (T.ptr [Jb m,T.aa 1 e b]),Jo 1,Jl 1 i r,I s,I (Jw u)] (tX f g p l)):=by kernel_rfl
theorem rS(O:au)(s l h j bA m:Bool)(y n:T)(k i:JL):ay an ann O (Key.call 138) [Jr 0,AV.t (T.ptr [Jb l,T.aa 1 h k]),AV.t (T.ptr [Jb j,T.aa 1 bA i]),Jr 1] [ab.box [B s,AV.t y],ab.box [B m,AV.t n]]=
 (bM (O (.call 114) [Jr 0,AV.t (T.ptr [Jb j,T.aa 1 bA i])] (Y4)) λb p=>tD (O (.call 139) [Jr 0,AV.t (T.ptr [Jb l,T.aa 1 h k]),AV.t (T.ptr [Jb j,T.aa 1 bA i]),Jr 1] [ab.box [B s,AV.t y],ab.box [B m,AV.t n]]) λf a e c=>bif e then bif b then eD (O (.call 72) [I 1] []) λx=>bM (O (.call 94) [Jr 0,Jr 0,AV.t x] (Y6 f a.fst a.snd)) λg d=>bM (O (.call 148) [Jr 0,Jr 0,AV.t (T.ptr [Jb b,T.aa 1 p.fst p.snd])] (Y6 e c.fst c.snd)) λb p=>some [T.aw,T.aw,Jb g,T.aa 1 d.fst d.snd,Jb b,T.aa 1 p.fst p.snd] else eD (O (.call 72) [I 1] []) λx=>bM (O (.call 148) [Jr 0,Jr 0,AV.t x] (Y6 f a.fst a.snd)) λg d=>bM (O (.call 94) [Jr 0,Jr 0,AV.t (T.ptr [Jb b,T.aa 1 p.fst p.snd])] (Y6 e c.fst c.snd)) λb p=>some [T.aw,T.aw,Jb g,T.aa 1 d.fst d.snd,Jb b,T.aa 1 p.fst p.snd] else some [T.aw,T.aw,Jb f,T.aa 1 a.fst a.snd,Jb e,T.aa 1 c.fst c.snd]):=by kernel_rfl
theorem yv(O:au)(s f d i bA k:Bool)(y l:T)(h j:JL):ay an ann O (Key.call 139) [Jr 0,AV.t (T.ptr [Jb f,T.aa 1 d h]),AV.t (T.ptr [Jb i,T.aa 1 bA j]),Jr 1] [ab.box [B s,AV.t y],ab.box [B k,AV.t l]]=
 (G9 (O (.call 116) [AV.t (T.ptr [Jb f,T.aa 1 d h]),AV.t (T.ptr [Jb i,T.aa 1 bA j])] []) λn=>bif decide (n < 0) then bM (O (.call 114) [Jr 0,AV.t (T.ptr [Jb f,T.aa 1 d h])] (Y2 k l)) λb p=>bM (O (.call 115) [Jr 0,I 0] (Y2 s y)) λc a=>some [T.aw,T.aw,Jb c,T.aa 1 a.fst a.snd,Jb b,T.aa 1 p.fst p.snd] else bif decide ((h.length:Int) < 3) then qS (O (.call 111) [AV.t (T.ptr [Jb f,T.aa 1 d h])] []) λn=>qS (O (.call 111) [AV.t (T.ptr [Jb i,T.aa 1 bA j])] []) λg=>Jg (if g=0 then none else some ()) λx=>bM (O (.call 112) [Jr 0,AV.t (T.int u64 (u64.wrap (n.tdiv g)))] (Y2 s y)) λb p=>Jg (if g=0 then none else some ()) λx=>bM (O (.call 112) [Jr 0,AV.t (T.int u64 (n.tmod g))] (Y2 k l)) λb a=>bM (O (.call 125) [Jr 0] [ab.box [B !f==i,Jl 1 p.fst p.snd]]) λb p=>bM (O (.call 125) [Jr 0] (Y6 f a.fst a.snd)) λc e=>some [T.aw,T.aw,Jb b,T.aa 1 p.fst p.snd,Jb c,T.aa 1 e.fst e.snd] else tB (O (.call 149) [Jl 1 d h,Jl 1 bA j] []) λp a=>bM (O (.call 125) [Jr 0] [ab.box [B !f==i,Jo 1],ab.sl false 1 p.fst p.snd]) λb p=>bM (O (.call 125) [Jr 0] (lL f a.fst a.snd)) λc e=>some [T.aw,T.aw,Jb b,T.aa 1 p.fst p.snd,Jb c,T.aa 1 e.fst e.snd]):=by kernel_rfl
theorem Gd(O:au)(a b:Bool)(x y:JL):ay an ann O (Key.call 126) [Jl 1 a x,Jl 1 b y] []=
 (bif decide ((x.length:Int) < (y.length:Int)) then Jg (br (i64.wrap ((y.length:Int)+1)) (i64.wrap ((y.length:Int)+1))) λc=>O ru [Jl 1 b y,Jl 1 a x,Jo 0,AV.t (T.int u64 0),Jl 1 b y,I (y.length:Int),I 0] [ab.sl false 1 false (List.replicate (i64.wrap ((y.length:Int)+1)).toNat [T.int u32 0])] else Jg (br (i64.wrap ((x.length:Int)+1)) (i64.wrap ((x.length:Int)+1))) λc=>O ru [Jl 1 a x,Jl 1 b y,Jo 0,AV.t (T.int u64 0),Jl 1 a x,I (x.length:Int),I 0] [ab.sl false 1 false (List.replicate (i64.wrap ((x.length:Int)+1)).toNat [T.int u32 0])]):=by kernel_rfl
theorem Ge(O:au)(i j c d:Bool)(g k e b:JL)(h f a:Int):ay an ann O ru [Jl 1 i g,Jl 1 j k,Jo 0,AV.t (T.int u64 h),Jl 1 c e,I f,I a] (Y1 d b)=
 (bif decide (a < f) then cK a e λn=>bif decide (a < (k.length:Int)) then cK a k λm=>ae none (if 0<=a/\a < (b.length:Int) then some () else none) λx=>Jg (bm a.toNat 0 [T.int u32 (u32.wrap (u64.wrap (u64.wrap (h+u64.wrap n)+u64.wrap m)))] b) λl=>O ru [Jl 1 i g,Jl 1 j k,Jo 0,AV.t (T.int u64 ((u64.wrap (u64.wrap (h+u64.wrap n)+u64.wrap m)).fdiv (2 ^ 32))),Jl 1 c e,I f,I (Jw a)] (Y1 d l) else ae none (if 0<=a/\a < (b.length:Int) then some () else none) λx=>Jg (bm a.toNat 0 [T.int u32 (u32.wrap (u64.wrap (h+u64.wrap n)))] b) λl=>O ru [Jl 1 i g,Jl 1 j k,Jo 0,AV.t (T.int u64 ((u64.wrap (h+u64.wrap n)).fdiv (2 ^ 32))),Jl 1 c e,I f,I (Jw a)] (Y1 d l) else Jg (if 0<=(g.length:Int)/\(g.length:Int) < (b.length:Int) then some () else none) λx=>Jg (bm (g.length:Int).toNat 0 [T.int u32 (u32.wrap h)] b) λl=>some [T.aa 1 d l]):=by kernel_rfl
theorem Ng(O:au)(a b:Bool)(x y:JL):ay an ann O (Key.call 127) [Jl 1 a x,Jl 1 b y] []=
 (Jg (br (x.length:Int) (x.length:Int)) λc=>O tI [Jl 1 b y,Jo 0,AV.t (T.int u64 0),Jl 1 a x,I (x.length:Int),I 0] [ab.sl false 1 false (List.replicate (x.length:Int).toNat [T.int u32 0])]):=by kernel_rfl
theorem Gg(O:au)(g b c:Bool)(h d f:JL)(i e a:Int):ay an ann O tI [Jl 1 g h,Jo 0,AV.t (T.int u64 i),Jl 1 b d,I e,I a] (Y1 c f)=
 (bif decide (a < e) then cK a d λn=>bif decide (a < (h.length:Int)) then cK a h λj=>ae none (if 0<=a/\a < (f.length:Int) then some () else none) λx=>Jg (bm a.toNat 0 [T.int u32 (u32.wrap (u64.wrap (u64.wrap (u64.wrap n - i) - u64.wrap j)))] f) λl=>O tI [Jl 1 g h,Jo 0,AV.t (T.int u64 ((u64.wrap (u64.wrap (u64.wrap n - i) - u64.wrap j)).fdiv (2 ^ 63))),Jl 1 b d,I e,I (Jw a)] (Y1 c l) else ae none (if 0<=a/\a < (f.length:Int) then some () else none) λx=>Jg (bm a.toNat 0 [T.int u32 (u32.wrap (u64.wrap (u64.wrap n - i)))] f) λl=>O tI [Jl 1 g h,Jo 0,AV.t (T.int u64 ((u64.wrap (u64.wrap n - i)).fdiv (2 ^ 63))),Jl 1 b d,I e,I (Jw a)] (Y1 c l) else some [T.aa 1 c f]):=by kernel_rfl
theorem Nf(O:au)(d c e bA:Bool)(a b:JL):ay an ann O (Key.call 116) [AV.t (T.ptr [Jb d,T.aa 1 c a]),AV.t (T.ptr [Jb e,T.aa 1 bA b])] []=
 (bif !(a.length:Int)== (b.length:Int) then bif decide ((a.length:Int) < (b.length:Int)) then some [Ji (-1)] else some [Ji 1] else O wZ [AV.t (T.ptr [Jb d,T.aa 1 c a]),AV.t (T.ptr [Jb e,T.aa 1 bA b]),I (i64.wrap ((a.length:Int) - 1))] []):=by kernel_rfl
theorem Gf(O:au)(f d g e:Bool)(a b:JL)(c:Int):ay an ann O wZ [AV.t (T.ptr [Jb f,T.aa 1 d a]),AV.t (T.ptr [Jb g,T.aa 1 e b]),I c] []=
 (bif decide (c>=0) then cK c a λn=>cK c b λh=>bif !n==h then cK c a λn=>cK c b λi=>bif decide (n < i) then some [Ji (-1)] else some [Ji 1] else O wZ [AV.t (T.ptr [Jb f,T.aa 1 d a]),AV.t (T.ptr [Jb g,T.aa 1 e b]),I (i64.wrap (c - 1))] [] else some [Ji 0]):=by kernel_rfl
theorem Nk(O:au)(s c b:Bool)(y:T)(a:JL)(d:List T):ay an ann O (Key.call 114) [Jr 0,AV.t (T.ptr (Jb c::T.aa 1 b a::d))] (Y2 s y)=
 (Jg (bL 4 a.length) λx=>some [T.aw,Jb c,T.aa 1 false a]):=by kernel_rfl
theorem Ni(O:au)(s t c b:Bool)(y u:T)(a:JL):ay an ann O (Key.call 114) [Jr 0,AV.t (T.ptr [Jb c,T.aa 1 b a])] (Y8 s y t u)=
 (Jg (bL 4 a.length) λx=>some [T.aw,Jb c,T.aa 1 false a,Jb t,u]):=by kernel_rfl
theorem Nj(O:au)(s t d b:Bool)(y u:T)(a:JL):ay an ann O (Key.call 114) [AV.ref (Id.c 0) 2,AV.t (T.ptr [Jb d,T.aa 1 b a])] (Y8 s y t u)=
 (Jg (bL 4 a.length) λx=>some [T.aw,Jb s,y,Jb d,T.aa 1 false a]):=by kernel_rfl
theorem Nl(O:au)(s e:Bool)(d:JL):ay an ann O (Key.call 114) [Jr 0,Jr 0] (Y6 s e d)=
 (Jg (bL 4 d.length) λx=>some [T.aw,Jb s,T.aa 1 false d]):=by kernel_rfl
theorem M6(O:au)(s e a:Bool)(y:T)(c:JL)(d:List T):ay an ann O (Key.call 118) [Jr 0,AV.t (T.ptr (Jb e::T.aa 1 a c::d))] (Y2 s y)=
 (bM (O (.call 114) [Jr 0,AV.t (T.ptr (Jb e::T.aa 1 a c::d))] (Y2 s y)) λb p=>some [T.aw,Jb (bif !b then decide ((p.snd.length:Int) > 0) else false),T.aa 1 p.fst p.snd]):=by kernel_rfl
theorem M7(O:au)(s e:Bool)(d:JL):ay an ann O (Key.call 118) [Jr 0,Jr 0] (Y6 s e d)=
 (bM (O (.call 114) [Jr 0,Jr 0] (Y6 s e d)) λb p=>some [T.aw,Jb (bif !b then decide ((p.snd.length:Int) > 0) else false),T.aa 1 p.fst p.snd]):=by kernel_rfl
theorem Nn(O:au)(s d a:Bool)(y:T)(c:JL):ay an ann O (Key.call 110) [Jr 0,AV.t (T.ptr [Jb d,T.aa 1 a c])] (Y2 s y)=
 (bM (O (.call 114) [Jr 0,AV.t (T.ptr [Jb d,T.aa 1 a c])] (Y2 s y)) λb p=>some [T.aw,Jb false,T.aa 1 p.fst p.snd]):=by kernel_rfl
theorem Np(O:au)(c b:Bool)(a:JL)(d:List T):ay an ann O (Key.call 75) [AV.t (T.ptr (Jb c::T.aa 1 b a::d))] []=
 (bif (a.length:Int)==0 then some [Ji 0] else bif c then some [Ji (-1)] else some [Ji 1]):=by kernel_rfl
theorem yw(O:au)(s e a f bA:Bool)(y:T)(c d:JL):ay an ann O (Key.call 113) [Jr 0,AV.t (T.ptr [Jb e,T.aa 1 a c]),AV.t (T.ptr [Jb f,T.aa 1 bA d])] (Y2 s y)=
 (tD (O (.call 138) [Jr 0,AV.t (T.ptr [Jb e,T.aa 1 a c]),AV.t (T.ptr [Jb f,T.aa 1 bA d]),Jr 1] [ab.box [B false,AV.t (T.aJ true)],ab.box [B s,AV.t y]]) λb p b p=>some [T.aw,Jb b,T.aa 1 p.fst p.snd]):=by kernel_rfl
theorem Ns(O:au)(s e a f bA:Bool)(y:T)(c d:JL):ay an ann O (Key.call 117) [Jr 0,AV.t (T.ptr [Jb e,T.aa 1 a c]),AV.t (T.ptr [Jb f,T.aa 1 bA d])] (Y2 s y)=
 (tD (O (.call 139) [Jr 0,AV.t (T.ptr [Jb e,T.aa 1 a c]),AV.t (T.ptr [Jb f,T.aa 1 bA d]),Jr 1] [ab.box [B s,AV.t y],ab.box [B false,AV.t (T.aJ true)]]) λb p g h=>some [T.aw,Jb b,T.aa 1 p.fst p.snd]):=by kernel_rfl
theorem BL(O:au)(a b c bA:Bool)(d e:JL):ay an ann O (Key.call 73) [AV.t (T.ptr [Jb a,T.aa 1 b d]),AV.t (T.ptr [Jb c,T.aa 1 bA e])] []=
 (bif !a==c then bif a then some [Ji (-1)] else some [Ji 1] else bif a then G9 (O (.call 116) [AV.t (T.ptr [Jb c,T.aa 1 bA e]),AV.t (T.ptr [Jb a,T.aa 1 b d])] []) λn=>some [Ji n] else G9 (O (.call 116) [AV.t (T.ptr [Jb a,T.aa 1 b d]),AV.t (T.ptr [Jb c,T.aa 1 bA e])] []) λn=>some [Ji n]):=by kernel_rfl
theorem yq(O:au)(s g a h bA:Bool)(y:T)(e f:JL):ay an ann O (Key.call 71) [Jr 0,AV.t T.aw,AV.t T.aw,AV.t (T.ptr [Jb g,T.aa 1 a e]),AV.t (T.ptr [Jb h,T.aa 1 bA f])] (Y2 s y)=
 (bM (O (.call 110) [Jr 0,AV.t (T.ptr [Jb g,T.aa 1 a e])] (Y4)) λb p=>bM (O (.call 110) [Jr 0,AV.t (T.ptr [Jb h,T.aa 1 bA f])] (Y4)) λd c=>O wX [Jr 0,AV.t (T.ptr [Jb b,T.aa 1 p.fst p.snd]),AV.t (T.ptr [Jb d,T.aa 1 c.fst c.snd])] (Y2 s y)):=by kernel_rfl
theorem BK(O:au)(g d f a h:Bool)(e c:JL)(i:T):ay an ann O wX [Jr 0,AV.t (T.ptr [Jb g,T.aa 1 d e]),AV.t (T.ptr [Jb f,T.aa 1 a c])] (Y2 h i)=
 (G9 (O (.call 75) [AV.t (T.ptr [Jb f,T.aa 1 a c])] []) λn=>bif !n==0 then bif bif decide ((e.length:Int) < 3) then decide ((c.length:Int) < 3) else false then qS (O (.call 111) [AV.t (T.ptr [Jb g,T.aa 1 d e])] []) λn=>qS (O (.call 111) [AV.t (T.ptr [Jb f,T.aa 1 a c])] []) λj=>O wY [Jr 0,AV.t (T.int u64 n),AV.t (T.int u64 j)] (Y2 h i) else bM (O (.call 113) [Jr 0,AV.t (T.ptr [Jb g,T.aa 1 d e]),AV.t (T.ptr [Jb f,T.aa 1 a c])] (Y4)) λb p=>O wX [Jr 0,AV.t (T.ptr [Jb f,T.aa 1 a c]),AV.t (T.ptr [Jb b,T.aa 1 p.fst p.snd])] (Y2 h i) else bM (O (.call 114) [Jr 0,AV.t (T.ptr [Jb g,T.aa 1 d e])] (Y2 h i)) λb p=>some [T.aw,Jb b,T.aa 1 p.fst p.snd]):=by kernel_rfl
theorem Gb(O:au)(e a:Int)(c:Bool)(d:T):ay an ann O wY [Jr 0,AV.t (T.int u64 e),AV.t (T.int u64 a)] (Y2 c d)=
 (bif decide (a > 0) then Jg (if a=0 then none else some ()) λx=>O wY [Jr 0,AV.t (T.int u64 a),AV.t (T.int u64 (e.tmod a))] (Y2 c d) else bM (O (.call 112) [Jr 0,AV.t (T.int u64 e)] (Y2 c d)) λb p=>some [T.aw,Jb b,T.aa 1 p.fst p.snd]):=by kernel_rfl
theorem Gc(O:au)(s t o j q bA:Bool)(y u:T)(m n:JL):ay an ann O (Key.call 74) [Jr 0,AV.t (T.ptr [Jb o,T.aa 1 j m]),AV.t (T.ptr [Jb q,T.aa 1 bA n])] (Y8 s y t u)=
 (bM (O (.call 71) [Jr 0,AV.t T.aw,AV.t T.aw,AV.t (T.ptr [Jb o,T.aa 1 j m]),AV.t (T.ptr [Jb q,T.aa 1 bA n])] (Y4)) λb p=>bM (O (.call 117) [Jr 0,AV.t (T.ptr [Jb o,T.aa 1 j m]),AV.t (T.ptr [Jb b,T.aa 1 p.fst p.snd])] (Y4)) λk f=>bM (O (.call 117) [Jr 0,AV.t (T.ptr [Jb q,T.aa 1 bA n]),AV.t (T.ptr [Jb b,T.aa 1 p.fst p.snd])] (Y4)) λb p=>bif b then bM (O (.call 118) [Jr 0,Jr 0] (Y6 k f.fst f.snd)) λg a=>bM (O (.call 118) [Jr 0,Jr 0] (Y6 b p.fst p.snd)) λb p=>iU (O (.call 114) [Jr 0,AV.t (T.ptr [Jb g,T.aa 1 a.fst a.snd])] (Y8 s y t u)) λh d i e=>iU (O (.call 114) [AV.ref (Id.c 0) 2,AV.t (T.ptr [Jb b,T.aa 1 p.fst p.snd])] (En h d.fst d.snd i e.fst e.snd)) λb p r l=>some [T.aw,Jb b,T.aa 1 p.fst p.snd,Jb r,T.aa 1 l.fst l.snd] else iU (O (.call 114) [Jr 0,AV.t (T.ptr [Jb k,T.aa 1 f.fst f.snd])] (Y8 s y t u)) λg a h d=>iU (O (.call 114) [AV.ref (Id.c 0) 2,AV.t (T.ptr [Jb b,T.aa 1 p.fst p.snd])] (En g a.fst a.snd h d.fst d.snd)) λb p i e=>some [T.aw,Jb b,T.aa 1 p.fst p.snd,Jb i,T.aa 1 e.fst e.snd]):=by kernel_rfl
theorem BN(O:au)(f a g d:Bool)(c e:JL):ay an ann O (Key.call 92) [AV.t (T.ptr [Jb f,T.aa 1 a c,Jb g,T.aa 1 d e])] []=
 (bM (O (.call 114) [Jr 0,AV.t (T.ptr [Jb f,T.aa 1 a c,Jb g,T.aa 1 d e])] (Y4)) λb p=>some [T.ptr [Jb b,T.aa 1 p.fst p.snd]]):=by kernel_rfl
theorem Nq(O:au)(g e d a:Bool)(f c:JL):ay an ann O (Key.call 93) [AV.t (T.ptr [Jb g,T.aa 1 e f,Jb d,T.aa 1 a c])] []=
 (G9 (O (.call 75) [AV.t (T.ptr [Jb d,T.aa 1 a c])] []) λn=>bif n==0 then eD (O (.call 72) [I 1] []) λx=>some [x] else bM (O (.call 114) [Jr 0,AV.t (T.ptr [Jb d,T.aa 1 a c])] (Y4)) λb p=>some [T.ptr [Jb b,T.aa 1 p.fst p.snd]]):=by kernel_rfl
theorem Nc(O:au)(e a f c:Bool)(b d:JL):ay an ann O (Key.call 37) [AV.t (T.ptr [Jb e,T.aa 1 a b,Jb f,T.aa 1 c d])] []=
 (G9 (O (.call 75) [AV.t (T.ptr [Jb e,T.aa 1 a b,Jb f,T.aa 1 c d])] []) λn=>some [Ji n]):=by kernel_rfl
theorem yt(O:au)(s t k a m g l bA n h:Bool)(y u:T)(e i f j:JL):ay an ann O (Key.call 46) [Jr 0,AV.t (T.ptr [Jb k,T.aa 1 a e,Jb m,T.aa 1 g i]),AV.t (T.ptr [Jb l,T.aa 1 bA f,Jb n,T.aa 1 h j])] (Y8 s y t u)=
 (eD (O (.call 92) [AV.t (T.ptr [Jb k,T.aa 1 a e,Jb m,T.aa 1 g i])] []) λx=>eD (O (.call 92) [AV.t (T.ptr [Jb l,T.aa 1 bA f,Jb n,T.aa 1 h j])] []) λr=>bM (O (.call 91) [Jr 0,AV.t x,AV.t r] (Y4)) λb p=>eD (O (.call 93) [AV.t (T.ptr [Jb k,T.aa 1 a e,Jb m,T.aa 1 g i])] []) λx=>eD (O (.call 93) [AV.t (T.ptr [Jb l,T.aa 1 bA f,Jb n,T.aa 1 h j])] []) λv=>bM (O (.call 91) [Jr 0,AV.t x,AV.t v] (Y4)) λo c=>iU (O (.call 74) [Jr 0,AV.t (T.ptr [Jb b,T.aa 1 p.fst p.snd]),AV.t (T.ptr [Jb o,T.aa 1 c.fst c.snd])] (Y8 s y t u)) λb p q d=>some [T.aw,Jb b,T.aa 1 p.fst p.snd,Jb q,T.aa 1 d.fst d.snd]):=by kernel_rfl
theorem Na(O:au)(s t i a k e j bA l f:Bool)(y u:T)(c g d h:JL):ay an ann O (Key.call 47) [Jr 0,AV.t (T.ptr [Jb i,T.aa 1 a c,Jb k,T.aa 1 e g]),AV.t (T.ptr [Jb j,T.aa 1 bA d,Jb l,T.aa 1 f h])] (Y8 s y t u)=
 (eD (O (.call 92) [AV.t (T.ptr [Jb i,T.aa 1 a c,Jb k,T.aa 1 e g])] []) λx=>eD (O (.call 93) [AV.t (T.ptr [Jb j,T.aa 1 bA d,Jb l,T.aa 1 f h])] []) λw=>bM (O (.call 91) [Jr 0,AV.t x,AV.t w] (Y4)) λb p=>eD (O (.call 92) [AV.t (T.ptr [Jb j,T.aa 1 bA d,Jb l,T.aa 1 f h])] []) λx=>eD (O (.call 93) [AV.t (T.ptr [Jb i,T.aa 1 a c,Jb k,T.aa 1 e g])] []) λz=>bM (O (.call 91) [Jr 0,AV.t x,AV.t z] (Y4)) λq m=>bM (O (.call 94) [Jr 0,Jr 0,AV.t (T.ptr [Jb q,T.aa 1 m.fst m.snd])] (Y6 b p.fst p.snd)) λb p=>eD (O (.call 93) [AV.t (T.ptr [Jb i,T.aa 1 a c,Jb k,T.aa 1 e g])] []) λx=>eD (O (.call 93) [AV.t (T.ptr [Jb j,T.aa 1 bA d,Jb l,T.aa 1 f h])] []) λA=>bM (O (.call 91) [Jr 0,AV.t x,AV.t A] (Y4)) λr n=>iU (O (.call 74) [Jr 0,AV.t (T.ptr [Jb b,T.aa 1 p.fst p.snd]),AV.t (T.ptr [Jb r,T.aa 1 n.fst n.snd])] (Y8 s y t u)) λb p v o=>some [T.aw,Jb b,T.aa 1 p.fst p.snd,Jb v,T.aa 1 o.fst o.snd]):=by kernel_rfl
theorem Nb(O:au)(s t m a o i n bA q j:Bool)(y u:T)(g k h l:JL):ay an ann O (Key.call 48) [Jr 0,AV.t (T.ptr [Jb m,T.aa 1 a g,Jb o,T.aa 1 i k]),AV.t (T.ptr [Jb n,T.aa 1 bA h,Jb q,T.aa 1 j l])] (Y8 s y t u)=
 (iU (O (.call 95) [Jr 0,AV.t (T.ptr [Jb n,T.aa 1 bA h,Jb q,T.aa 1 j l])] (Y5)) λb p e c=>iU (O (.call 47) [Jr 0,AV.t (T.ptr [Jb m,T.aa 1 a g,Jb o,T.aa 1 i k]),AV.t (T.ptr [Jb b,T.aa 1 p.fst p.snd,Jb e,T.aa 1 c.fst c.snd])] (Y8 s y t u)) λb p f d=>some [T.aw,Jb b,T.aa 1 p.fst p.snd,Jb f,T.aa 1 d.fst d.snd]):=by kernel_rfl
theorem Nr(O:au)(s t g a h e:Bool)(y u:T)(d f:JL):ay an ann O (Key.call 95) [Jr 0,AV.t (T.ptr [Jb g,T.aa 1 a d,Jb h,T.aa 1 e f])] (Y8 s y t u)=
 (bM (O (.call 118) [Jr 0,AV.t (T.ptr [Jb g,T.aa 1 a d,Jb h,T.aa 1 e f])] (Y4)) λb p=>eD (O (.call 93) [AV.t (T.ptr [Jb g,T.aa 1 a d,Jb h,T.aa 1 e f])] []) λx=>iU (O (.call 74) [Jr 0,AV.t (T.ptr [Jb b,T.aa 1 p.fst p.snd]),AV.t x] (Y8 s y t u)) λb p i c=>some [T.aw,Jb b,T.aa 1 p.fst p.snd,Jb i,T.aa 1 c.fst c.snd]):=by kernel_rfl
theorem M3(O:au)(k a m g l bA o h:Bool)(e i f j:JL):ay an ann O (Key.call 17) [AV.t (T.ptr [Jb k,T.aa 1 a e,Jb m,T.aa 1 g i]),AV.t (T.ptr [Jb l,T.aa 1 bA f,Jb o,T.aa 1 h j])] []=
 (iU (O (.call 48) [Jr 0,AV.t (T.ptr [Jb k,T.aa 1 a e,Jb m,T.aa 1 g i]),AV.t (T.ptr [Jb l,T.aa 1 bA f,Jb o,T.aa 1 h j])] (Y5)) λb p d c=>G9 (O (.call 37) [AV.t (T.ptr [Jb b,T.aa 1 p.fst p.snd,Jb d,T.aa 1 c.fst c.snd])] []) λn=>some [Ji n]):=by kernel_rfl
theorem uy(O:au)(n m:Int):ay an ann O (Key.call 36) [I n,I m] []=
 (eD (O (.call 72) [I n] []) λx=>eD (O (.call 72) [I m] []) λd=>iU (O (.call 74) [Jr 0,AV.t x,AV.t d] (Y5)) λb p c a=>some [T.ptr [Jb b,T.aa 1 p.fst p.snd,Jb c,T.aa 1 a.fst a.snd]]):=by kernel_rfl
theorem M9(O:au)(n m:Int):ay an ann O (Key.call 18) [AV.agg [I n,I m]] []=
 (eD (O (.call 36) [I n,I m] []) λx=>some [x]):=by kernel_rfl
theorem yo(O:au)(n m:Int):ay an ann O (Key.call 34) [AV.agg [I n,I m]] []=
 (bif bif bif bif decide (m < 1) then true else decide (m > 1073741824) then true else decide (n < (-1073741824)) then true else decide (n > 1073741824) then some [Jb false] else eD (O (.call 72) [I n] []) λx=>eD (O (.call 72) [I m] []) λa=>bM (O (.call 71) [Jr 0,AV.t T.aw,AV.t T.aw,AV.t x,AV.t a] (Y4)) λb p=>eD (O (.call 72) [I 1] []) λx=>G9 (O (.call 73) [AV.t (T.ptr [Jb b,T.aa 1 p.fst p.snd]),AV.t x] []) λn=>some [Jb (n==0)]):=by kernel_rfl
theorem BG(O:au)(b a:Bool)(of n:JL):ay an ann O (Key.call 16) [Jl 1 b of,Jl 2 a n] []=
 (eD (O (.call 36) [I 0,I 1] []) λx=>O wT [Jl 1 b of,Jl 2 a n,AV.t x,I 0] []):=by kernel_rfl
theorem F5(O:au)(d e:Bool)(c h:JL)(i:T)(a:Int):ay an ann O wT [Jl 1 d c,Jl 2 e h,AV.t i,I a] []=
 (bif decide (a < (c.length:Int)) then m5 a h λn l=>eD (O (.call 18) [AV.agg [I n,I l]] []) λx=>G2 a c λn=>eD (O (.call 36) [I n,I 1] []) λm=>iU (O (.call 46) [Jr 0,AV.t x,AV.t m] (Y5)) λb p j f=>iU (O (.call 47) [Jr 0,AV.t i,AV.t (T.ptr [Jb b,T.aa 1 p.fst p.snd,Jb j,T.aa 1 f.fst f.snd])] (Y5)) λb p k g=>O wT [Jl 1 d c,Jl 2 e h,AV.t (T.ptr [Jb b,T.aa 1 p.fst p.snd,Jb k,T.aa 1 g.fst g.snd]),I (Jw a)] [] else some [i]):=by kernel_rfl
theorem Nt(O:au)(a:Bool)(x:JL)(n:Int):ay an ann O (Key.call 150) [Jl 1 a x,I n] []=
 (Jg (br (i64.wrap (i64.wrap ((x.length:Int)+i64.wrap (n.tdiv 32))+1)) (i64.wrap (i64.wrap ((x.length:Int)+i64.wrap (n.tdiv 32))+1))) λb=>O xd [I n,Jo 0,Jl 1 a x,I (x.length:Int),I 0] [ab.sl false 1 false (List.replicate (i64.wrap (i64.wrap ((x.length:Int)+i64.wrap (n.tdiv 32))+1)).toNat [T.int u32 0])]):=by kernel_rfl
theorem Gm(O:au)(b g a:Int)(e d:Bool)(f c:JL):ay an ann O xd [I b,Jo 0,Jl 1 e f,I g,I a] (Y1 d c)=
 (bif decide (a < g) then cK a f λn=>Jg (if b.tmod 32 < 0 then none else some ()) λx=>Jg (if 0<=i64.wrap (a+i64.wrap (b.tdiv 32))/\i64.wrap (a+i64.wrap (b.tdiv 32)) < (c.length:Int) then some () else none) λx=>dJ c[(i64.wrap (a+i64.wrap (b.tdiv 32))).toNat]? λh=>Jg (if 0<=i64.wrap (a+i64.wrap (b.tdiv 32))/\i64.wrap (a+i64.wrap (b.tdiv 32)) < (c.length:Int) then some () else none) λx=>Jg (bm (i64.wrap (a+i64.wrap (b.tdiv 32))).toNat 0 [T.int u32 (u32.wrap (↑(BitVec.ofInt 32 h ||| BitVec.ofInt 32 (u32.wrap (u64.wrap (u64.wrap n * 2 ^ min (b.tmod 32).toNat 64)))).toNat:Int))] c) λl=>Jg (if 0<=i64.wrap (i64.wrap (a+i64.wrap (b.tdiv 32))+1)/\i64.wrap (i64.wrap (a+i64.wrap (b.tdiv 32))+1) < (l.length:Int) then some () else none) λx=>Jg (bm (i64.wrap (i64.wrap (a+i64.wrap (b.tdiv 32))+1)).toNat 0 [T.int u32 (u32.wrap ((u64.wrap (u64.wrap n * 2 ^ min (b.tmod 32).toNat 64)).fdiv (2 ^ 32)))] l) λl=>O xd [I b,Jo 0,Jl 1 e f,I g,I (Jw a)] (Y1 d l) else some [T.aa 1 d c]):=by kernel_rfl
theorem Nu(O:au)(a:Bool)(x:JL)(n:Int):ay an ann O (Key.call 151) [Jl 1 a x,I n] []=
 (bif decide (i64.wrap (n.tdiv 32)>=(x.length:Int)) then some [T.aJ true] else Jg (bO (i64.wrap (n.tdiv 32)) (x.length:Int) (x.length:Int)) λb=>Jg (br (↑(sub (i64.wrap (n.tdiv 32)) (x.length:Int) x).length:Int) (↑(sub (i64.wrap (n.tdiv 32)) (x.length:Int) x).length:Int)) λc=>O tK [AV.t (T.aa 1 a (sub (i64.wrap (n.tdiv 32)) (x.length:Int) x)),I n,Jo 0,AV.t (T.aa 1 a (sub (i64.wrap (n.tdiv 32)) (x.length:Int) x)),I (↑(sub (i64.wrap (n.tdiv 32)) (x.length:Int) x).length:Int),I 0] [ab.sl false 1 false (List.replicate (↑(sub (i64.wrap (n.tdiv 32)) (x.length:Int) x).length:Int).toNat [T.int u32 0])]):=by kernel_rfl
theorem yx(O:au)(h c d:Bool)(g e i:JL)(b f a:Int):ay an ann O tK [Jl 1 h g,I b,Jo 0,Jl 1 c e,I f,I a] (Y1 d i)=
 (bif decide (a < f) then cK a e λn=>Jg (if b.tmod 32 < 0 then none else some ()) λx=>ae none (if 0<=a/\a < (i.length:Int) then some () else none) λx=>Jg (bm a.toNat 0 [T.int u32 (n.fdiv (2 ^ min (b.tmod 32).toNat 32))] i) λl=>bif bif decide (Jw a < (g.length:Int)) then decide (b.tmod 32 > 0) else false then cK a l λn=>Jg (if 0<=Jw a/\Jw a < (g.length:Int) then some () else none) λx=>dJ g[(Jw a).toNat]? λj=>Jg (if i64.wrap (32 - b.tmod 32) < 0 then none else some ()) λx=>ae none (if 0<=a/\a < (l.length:Int) then some () else none) λx=>Jg (bm a.toNat 0 [T.int u32 (u32.wrap (↑(BitVec.ofInt 32 n ||| BitVec.ofInt 32 (u32.wrap (j * 2 ^ min (i64.wrap (32 - b.tmod 32)).toNat 32))).toNat:Int))] l) λl=>O tK [Jl 1 h g,I b,Jo 0,Jl 1 c e,I f,I (Jw a)] (Y1 d l) else O tK [Jl 1 h g,I b,Jo 0,Jl 1 c e,I f,I (Jw a)] (Y1 d l) else some [T.aa 1 d i]):=by kernel_rfl
theorem Gh(O:au)(a b:Bool)(x y:JL):ay an ann O (Key.call 149) [Jl 1 a x,Jl 1 b y] []=
 (bif (y.length:Int)==1 then Jg (br (x.length:Int) (x.length:Int)) λc=>O xc [Jl 1 a x,Jl 1 b y,Jo 0,AV.t (T.int u64 0),I (i64.wrap ((x.length:Int) - 1))] [ab.sl false 1 false (List.replicate (x.length:Int).toNat [T.int u32 0])] else O w7 [Jl 1 a x,Jl 1 b y,I 0] []):=by kernel_rfl
theorem Gk(O:au)(f g c:Bool)(j b d:JL)(e a:Int):ay an ann O xc [Jl 1 f j,Jl 1 g b,Jo 0,AV.t (T.int u64 e),I a] (Y1 c d)=
 (bif decide (a>=0) then cK a j λn=>Jg (if(0:Int)<=0/\0 < (b.length:Int) then some () else none) λx=>dJ b[0]? λh=>Jg (if u64.wrap h=0 then none else some ()) λx=>ae none (if 0<=a/\a < (d.length:Int) then some () else none) λx=>Jg (bm a.toNat 0 [T.int u32 (u32.wrap (u64.wrap ((u64.wrap (↑(BitVec.ofInt 64 (u64.wrap (e * 2 ^ 32)) ||| BitVec.ofInt 64 (u64.wrap n)).toNat:Int)).tdiv (u64.wrap h))))] d) λl=>Jg (if(0:Int)<=0/\0 < (b.length:Int) then some () else none) λx=>dJ b[0]? λi=>Jg (if u64.wrap i=0 then none else some ()) λx=>O xc [Jl 1 f j,Jl 1 g b,Jo 0,AV.t (T.int u64 ((u64.wrap (↑(BitVec.ofInt 64 (u64.wrap (e * 2 ^ 32)) ||| BitVec.ofInt 64 (u64.wrap n)).toNat:Int)).tmod (u64.wrap i))),I (i64.wrap (a - 1))] (Y1 c l) else some [T.aa 1 c d,T.aa 1 false [[T.int u32 (u32.wrap e)]]]):=by kernel_rfl
theorem Gi(O:au)(d e:Bool)(f a:JL)(c:Int):ay an ann O w7 [Jl 1 d f,Jl 1 e a,I c] []=
 (Jg (if 0<=i64.wrap ((a.length:Int) - 1)/\i64.wrap ((a.length:Int) - 1) < (a.length:Int) then some () else none) λx=>dJ a[(i64.wrap ((a.length:Int) - 1)).toNat]? λn=>Jg (if c < 0 then none else some ()) λx=>bif (u32.wrap (n * 2 ^ min c.toNat 32)).fdiv (2 ^ 31)==0 then O w7 [Jl 1 d f,Jl 1 e a,I (Jw c)] [] else G4 (O (.call 150) [Jl 1 e a,I c] []) λp=>Jg (bO 0 (a.length:Int) (p.snd.length:Int)) λx=>G4 (O (.call 150) [Jl 1 d f,I c] []) λb=>Jg (br (b.snd.length:Int) (b.snd.length:Int)) λx=>O rv [I c,I (a.length:Int),AV.t (T.aa 1 p.fst (List.take ((a.length:Int).toNat - 0) (List.drop 0 p.snd))),Jo 0,Jo 1,I ((i64.wrap (i64.wrap ((b.snd.length:Int) - (a.length:Int)) - 1)))] [ab.sl false 1 b.fst b.snd,ab.sl false 1 false (List.replicate (b.snd.length:Int).toNat [T.int u32 0])]):=by kernel_rfl
theorem Gj(O:au)(l a b:Int)(g e f:Bool)(c d k:JL):ay an ann O rv [I l,I a,Jl 1 g c,Jo 0,Jo 1,I b] (Y3 e d f k)=
 (bif decide (b>=0) then Jg (if 0<=i64.wrap (b+a)/\i64.wrap (b+a) < (d.length:Int) then some () else none) λx=>dJ d[(i64.wrap (b+a)).toNat]? λn=>Jg (if 0<=i64.wrap (i64.wrap (b+a) - 1)/\i64.wrap (i64.wrap (b+a) - 1) < (d.length:Int) then some () else none) λx=>dJ d[(i64.wrap (i64.wrap (b+a) - 1)).toNat]? λh=>Jg (if 0<=i64.wrap (a - 1)/\i64.wrap (a - 1) < (c.length:Int) then some () else none) λx=>dJ c[(i64.wrap (a - 1)).toNat]? λi=>Jg (if u64.wrap i=0 then none else some ()) λx=>Jg (if 0<=i64.wrap (a - 1)/\i64.wrap (a - 1) < (c.length:Int) then some () else none) λx=>dJ c[(i64.wrap (a - 1)).toNat]? λj=>Jg (if u64.wrap j=0 then none else some ()) λx=>O w9 [I l,I a,Jl 1 g c,Jo 0,Jo 1,I b,AV.t (T.int u64 (u64.wrap ((u64.wrap (↑(BitVec.ofInt 64 (u64.wrap (u64.wrap n * 2 ^ 32)) ||| BitVec.ofInt 64 (u64.wrap h)).toNat:Int)).tdiv (u64.wrap i)))),AV.t (T.int u64 ((u64.wrap (↑(BitVec.ofInt 64 (u64.wrap (u64.wrap n * 2 ^ 32)) ||| BitVec.ofInt 64 (u64.wrap h)).toNat:Int)).tmod (u64.wrap j)))] (Y3 e d f k) else Jg (bO 0 a (d.length:Int)) λx=>G4 (O (.call 151) [AV.t (T.aa 1 e (List.take (a.toNat - 0) d)),I l] []) λp=>some [T.aa 1 f k,T.aa 1 p.fst p.snd]):=by kernel_rfl
theorem BO(O:au)(k a e c h:Int)(d f g:Bool)(b i j:JL):ay an ann O w9 [I k,I a,Jl 1 d b,Jo 0,Jo 1,I e,AV.t (T.int u64 c),AV.t (T.int u64 h)] (Y3 f i g j)=
 (ae (some !!c.fdiv (2 ^ 32)==0) (if 0<=i64.wrap (a - 2)/\i64.wrap (a - 2) < (b.length:Int) then some () else none) λx=>mz (some !!c.fdiv (2 ^ 32)==0) b[(i64.wrap (a - 2)).toNat]? λn=>ae (some !!c.fdiv (2 ^ 32)==0) (if 0<=i64.wrap (i64.wrap (e+a) - 2)/\i64.wrap (i64.wrap (e+a) - 2) < (i.length:Int) then some () else none) λx=>mz (some !!c.fdiv (2 ^ 32)==0) i[(i64.wrap (i64.wrap (e+a) - 2)).toNat]? λl=>bif bif !c.fdiv (2 ^ 32)==0 then true else decide (u64.wrap (c * u64.wrap n) > u64.wrap (↑(BitVec.ofInt 64 (u64.wrap (h * 2 ^ 32)) ||| BitVec.ofInt 64 (u64.wrap l)).toNat:Int)) then Jg (if 0<=i64.wrap (a - 1)/\i64.wrap (a - 1) < (b.length:Int) then some () else none) λx=>dJ b[(i64.wrap (a - 1)).toNat]? λn=>bif !(u64.wrap (h+u64.wrap n)).fdiv (2 ^ 32)==0 then O mB [I k,I a,Jl 1 d b,Jo 0,Jo 1,I e,AV.t (T.int u64 (u64.wrap (c - 1))),AV.t (T.int u64 0),AV.t (T.int u64 0),Jl 1 d b,I (b.length:Int),I 0] (Y3 f i g j) else O w9 [I k,I a,Jl 1 d b,Jo 0,Jo 1,I e,AV.t (T.int u64 (u64.wrap (c - 1))),AV.t (T.int u64 (u64.wrap (h+u64.wrap n)))] (Y3 f i g j) else O mB [I k,I a,Jl 1 d b,Jo 0,Jo 1,I e,AV.t (T.int u64 c),AV.t (T.int u64 0),AV.t (T.int u64 0),Jl 1 d b,I (b.length:Int),I 0] (Y3 f i g j)):=by kernel_rfl
theorem BP(O:au)(r c a e g i k b:Int)(d p m o:Bool)(f j h q:JL):ay an ann O mB [I r,I c,Jl 1 d f,Jo 0,Jo 1,I a,AV.t (T.int u64 e),AV.t (T.int u64 g),AV.t (T.int u64 i),Jl 1 p j,I k,I b] (Y3 m h o q)=
 (bif decide (b < k) then cK b j λn=>Jg (if 0<=i64.wrap (a+b)/\i64.wrap (a+b) < (h.length:Int) then some () else none) λx=>dJ h[(i64.wrap (a+b)).toNat]? λs=>Jg (if 0<=i64.wrap (a+b)/\i64.wrap (a+b) < (h.length:Int) then some () else none) λx=>Jg (bm (i64.wrap (a+b)).toNat 0 [T.int u32 (u32.wrap (u64.wrap (u64.wrap (u64.wrap s - u64.wrap (u32.wrap (u64.wrap (g+u64.wrap (e * u64.wrap n))))) - i)))] h) λl=>O mB [I r,I c,Jl 1 d f,Jo 0,Jo 1,I a,AV.t (T.int u64 e),AV.t (T.int u64 ((u64.wrap (g+u64.wrap (e * u64.wrap n))).fdiv (2 ^ 32))),AV.t (T.int u64 ((u64.wrap (u64.wrap (u64.wrap s - u64.wrap (u32.wrap (u64.wrap (g+u64.wrap (e * u64.wrap n))))) - i)).fdiv (2 ^ 63))),Jl 1 p j,I k,I (Jw b)] (Y3 m l o q) else Jg (if 0<=i64.wrap (a+c)/\i64.wrap (a+c) < (h.length:Int) then some () else none) λx=>dJ h[(i64.wrap (a+c)).toNat]? λn=>Jg (if 0<=i64.wrap (a+c)/\i64.wrap (a+c) < (h.length:Int) then some () else none) λx=>Jg (bm (i64.wrap (a+c)).toNat 0 [T.int u32 (u32.wrap (u64.wrap (u64.wrap (u64.wrap n - g) - i)))] h) λl=>bif (u64.wrap (u64.wrap (u64.wrap n - g) - i)).fdiv (2 ^ 63)==1 then O tJ [I r,I c,Jl 1 d f,Jo 0,Jo 1,I a,AV.t (T.int u64 (u64.wrap (e - 1))),AV.t (T.int u64 0),Jl 1 d f,I (f.length:Int),I 0] (Y3 m l o q) else ae none (if 0<=a/\a < (q.length:Int) then some () else none) λx=>Jg (bm a.toNat 0 [T.int u32 (u32.wrap e)] q) λu=>O rv [I r,I c,Jl 1 d f,Jo 0,Jo 1,I (i64.wrap (a - 1))] (Y3 m l o u)):=by kernel_rfl
theorem Gl(O:au)(r c a o i g b:Int)(e h j k:Bool)(m f d p:JL):ay an ann O tJ [I r,I c,Jl 1 e m,Jo 0,Jo 1,I a,AV.t (T.int u64 o),AV.t (T.int u64 i),Jl 1 h f,I g,I b] (Y3 j d k p)=
 (bif decide (b < g) then cK b f λn=>Jg (if 0<=i64.wrap (a+b)/\i64.wrap (a+b) < (d.length:Int) then some () else none) λx=>dJ d[(i64.wrap (a+b)).toNat]? λq=>Jg (if 0<=i64.wrap (a+b)/\i64.wrap (a+b) < (d.length:Int) then some () else none) λx=>Jg (bm (i64.wrap (a+b)).toNat 0 [T.int u32 (u32.wrap (u64.wrap (i+u64.wrap (u64.wrap q+u64.wrap n))))] d) λl=>O tJ [I r,I c,Jl 1 e m,Jo 0,Jo 1,I a,AV.t (T.int u64 o),AV.t (T.int u64 ((u64.wrap (i+u64.wrap (u64.wrap q+u64.wrap n))).fdiv (2 ^ 32))),Jl 1 h f,I g,I (Jw b)] (Y3 j l k p) else Jg (if 0<=i64.wrap (a+c)/\i64.wrap (a+c) < (d.length:Int) then some () else none) λx=>dJ d[(i64.wrap (a+c)).toNat]? λn=>Jg (if 0<=i64.wrap (a+c)/\i64.wrap (a+c) < (d.length:Int) then some () else none) λx=>Jg (bm (i64.wrap (a+c)).toNat 0 [T.int u32 (u32.wrap (n+u32.wrap i))] d) λl=>ae none (if 0<=a/\a < (p.length:Int) then some () else none) λx=>Jg (bm a.toNat 0 [T.int u32 (u32.wrap o)] p) λs=>O rv [I r,I c,Jl 1 e m,Jo 0,Jo 1,I (i64.wrap (a - 1))] (Y3 j l k s)):=by kernel_rfl
theorem BJ(O:au)(c a:Bool)(b:JL):ay an ann O (Key.call 111) [AV.t (T.ptr [Jb c,T.aa 1 a b])] []=
 (O rq [AV.t (T.ptr [Jb c,T.aa 1 a b]),AV.t (T.int u64 0),I (i64.wrap (mm false (b.length:Int) 2 - 1))] []):=by kernel_rfl
theorem Ga(O:au)(c b:Bool)(a:JL)(e d:Int):ay an ann O rq [AV.t (T.ptr [Jb c,T.aa 1 b a]),AV.t (T.int u64 e),I d] []=
 (bif decide (d>=0) then cK d a λn=>O rq [AV.t (T.ptr [Jb c,T.aa 1 b a]),AV.t (T.int u64 (u64.wrap (↑(BitVec.ofInt 64 (u64.wrap (e * 2 ^ 32)) ||| BitVec.ofInt 64 (u64.wrap n)).toNat:Int))),I (i64.wrap (d - 1))] [] else some [T.int u64 e]):=by kernel_rfl
open Go Go.Aev Go.Aev.Gen
def val:List Int->Int
 | []=>0
 | a::r=>a+4294967296 * val r
def Dg(d:List Int):Prop:= ∀a∈d,0<=a/\a < 4294967296
def ax(d:List Int):List (List T):=d.map λa=> [T.int .u32 a]
theorem aL(d:List Int):(ax d).length=d.length:=by simp [ax]
def aM(d:List Int)(i:Nat):Int:=d.getD i 0
theorem bD{d:List Int}{i:Nat}(h:i < d.length):(ax d)[((i:Nat):Int).toNat]? =some [T.int .u32 (aM d i)]:=by simp [ax,aM,Ul,h]
theorem eB:∀{d:List Int},Dg d->0<=val d
 | [],_=>XM _
 | a::d,h=>by have h1:=h a Uk;have c:=eB (d:=d) λb hb=>h b (Um _ hb);simp only [val];omega
theorem eS:∀(a b:List Int),val (a++b)=val a+4294967296 ^ a.length * val b
 | [],b=>by simp [val]
 | x::a,b=>by simp only [Uo,val,eS a b,UH,Wm,UO];rw [U0,U3];omega
def fk(d:List Int):Nat->Nat
 | 0=>0
 | k+1=>if aM d k=0 then fk d k else k+1
def bG(d:List Int):List Int:=d.take (fk d d.length)
theorem zW(d:List Int):∀k,fk d k<=k
 | 0=>UC _
 | k+1=>by
  rw [fk];split
  .have:=zW d k;omega
  .exact UC _
theorem KN{d:List Int}:∀k,k<=d.length->val (d.take (fk d k))=val (d.take k)
 | 0,_=>rfl
 | k+1,h=>by
  rw [fk];split
  .rename_i hz;rw [KN k (by omega),W6,eS];have:d[k]? =some 0:=by
    have a:k < d.length:=by omega
    simp only [aM,Ul,Up a,UK] at hz;rw [Up a,hz]
   rw [this];simp [val]
  .rfl
theorem n6(d:List Int):val (bG d)=val d:=by rw [bG,KN d.length (UC _),WK]
theorem IC(s e:Bool)(d:List Int)(g:d.length<=1000):∀(k:Nat),k<=d.length->
  Or wW [r0,I (k:Int)] [ab.box [AV.t (T.bool s),o1],ab.sl false 1 e (ax d)]=some [T.aw,tb (s && decide (fk d k≠0)),T.aa 1 e (ax (d.take (fk d k)))]
 | 0,h=>by
  refine ak ?_;rw [F8];have hi:bO 0 ((0:Nat):Int) (d.length:Int)=some ():=by unfold bO;rw [if_pos (by omega)]
  have a:¬((0:Nat):Int) > 0:=by omega
  have h1:((0:Nat):Int)=0:=rfl;simp only [ai,↓reduceIte,Int.reduceBEq,Int.reduceEq,GD,bT,a,aL,decide_false,hi];simp [fk,ax]
 | k+1,h=>by
  refine ak ?_;rw [F8];have a:((k+1:Nat):Int) > 0:=by omega
  have c:i64.wrap (((k+1:Nat):Int) - 1)= (k:Int):=by rw [wr (by omega)];omega
  have b: 0<=(k:Int)/\(k:Int) < (d.length:Int):=by omega
  have hi:bO 0 ((k+1:Nat):Int) (d.length:Int)=some ():=by unfold bO;rw [if_pos (by omega)]
  have f:¬((k+1:Nat):Int)=0:=by omega
  by_cases hz:aM d k=0
  .have:=IC s e d g k (by omega);rw [fk,if_pos hz];simp only [ai,↓reduceIte,Int.reduceBEq,Int.reduceEq,GD,a,c,b,and_self,aL,bD (show k < d.length by omega),hz,decide_true];exact this
  .rw [fk,if_neg hz];simp only [ai,↓reduceIte,Int.reduceBEq,Int.reduceEq,GD,a,c,b,and_self,aL,bD (show k < d.length by omega),hz,decide_true,hi,f];simp [ax,List.map_take]
theorem lr(s e:Bool)(d:List Int)(c:d.length<=1000):
  Or (.call 125) [r0] [ab.box [AV.t (T.bool s),o1],ab.sl false 1 e (ax d)]=some [T.aw,tb (s && decide (bG d≠[])),T.aa 1 e (ax (bG d))]:=by
 have:=IC s e d c d.length (UC _);have b:decide (bG d≠[])=decide (fk d d.length≠0):=by
  refine decide_eq_decide.2 ?_;have:=zW d d.length;unfold bG;constructor
  .intro h a;rw [a] at h;exact h rfl
  .intro h a;have:=congrArg List.length a;simp only [Vd,UX] at this;omega
 refine ak ?_;rw [yp,aL,b];exact this
theorem cD(v:Int):u32.wrap v=v % 4294967296:=by simp [IntKind.wrap,IntKind.signed,IntKind.bits]
theorem my(v:Int):u64.wrap v=v % 18446744073709551616:=by simp [IntKind.wrap,IntKind.signed,IntKind.bits]
def Can(d:List Int):Prop:= ∀k,d.length=k+1->aM d k≠0
theorem KM{d:List Int}:∀k,k<=d.length->∀j,fk d k=j+1->aM d j≠0
 | 0,_,j,h=>by cases h
 | k+1,a,j,h=>by
  rw [fk] at h;split at h
  .exact KM k (by omega) j h
  .rename_i hz;simp only [Nat.add_right_cancel_iff] at h;subst h;exact hz
theorem Mk{d:List Int}{n k:Nat}(h:k < n):aM (d.take n) k=aM d k:=by simp only [aM,Ul,WZ,if_pos h]
theorem pv(d:List Int):Can (bG d):=by
 intro k a;have c:=zW d d.length;have b:(bG d).length=fk d d.length:=by unfold bG;rw [Vd];omega
 rw [b] at a;have:=KM d.length (UC _) k a;unfold bG;rw [Mk (by omega)];exact this
theorem mX{d:List Int}(h:Dg d):Dg (bG d):=λa b=>h a (Wk b)
theorem qJ(d:List Int):(bG d).length<=d.length:=by unfold bG;rw [Vd];omega
def num(s:Bool)(d:List Int):Int:=if s=true then -val d else val d
structure cd (z:Int) (s:Bool) (d:List Int):Prop where
 dg:Dg d
 can:Can d
 sg:s=true->d≠[]
 z:num s d=z
def WI(z:Int)(x:T):Prop:= ∃s e d,x=T.ptr [tb s,T.aa 1 e (ax d)]/\cd z s d
theorem rG{d:List Int}(h:Dg d)(f:Can d)(i:d≠[]): 0 < val d:=by
 have e:=eB h;rcases Int.lt_or_eq_of_le e with h1 | h1
 .exact h1
 .exfalso;have:∀d:List Int,Dg d->val d=0->∀k,aM d k=0:=by
   intro d;induction d with
   | nil=>intro _ _ k;simp [aM]
   | cons a d j=>
    intro h hv k;have l:=h a Uk;have c:Dg d:=λb hb=>h b (Um _ hb);have:=eB c;simp only [val] at hv;cases k with
    | zero=>simp only [aM,List.getD_cons_zero];omega
    | succ k=>have:=j c (by omega) k;simpa only [aM,List.getD_cons_succ] using this
  have g:d.length= (d.length - 1)+1:=by have:=WV.2 i;omega
  exact f _ g (this d h h1.symm _)
theorem vI(s:Bool)(y:T)(n:Int)(i: 0<=n/\n < 18446744073709551616):∃e d,Or (.call 112) [r0,AV.t (T.int .u64 n)] [ab.box [AV.t (T.bool s),AV.t y]]=some [T.aw,tb false,T.aa 1 e (ax d)]/\Dg d/\Can d/\val d=n/\d.length<=2:=by
 have g:Dg [n % 4294967296,n / 4294967296]:=by intro a c;simp only [Uw,X7,or_false] at c;rcases c with rfl | rfl <;> omega
 have b:=lr false false [n % 4294967296,n / 4294967296] (by simp);refine⟨false,bG [n % 4294967296,n / 4294967296],ak ?_,mX g,pv _,by rw [n6];simp only [val];omega,by have:=qJ [n % 4294967296,n / 4294967296];simpa using this⟩;rw [Nd];have h1:n.fdiv ((2:Int) ^ 32)=n / 4294967296:=by rw [show((2:Int) ^ 32)=4294967296 from by decide];rw [Vf _ (by omega)]
 have f:n / 4294967296 % 4294967296=n / 4294967296:=by omega
 have h:ax [n % 4294967296,n / 4294967296]= [[T.int u32 (n % 4294967296)],[T.int u32 (n / 4294967296)]]:=rfl;rw [h] at b;simp only [VS] at b;simp only [h1,cD,f];simp only [ai,↓reduceIte,Int.reduceBEq,Int.reduceEq,GD,b]
theorem Dx(s:Bool)(y:T)(n:Int)(j: -9223372036854775808<=n/\n < 9223372036854775808):∃s' e d,Or (.call 115) [r0,I n] [ab.box [AV.t (T.bool s),AV.t y]]=some [T.aw,tb s',T.aa 1 e (ax d)]/\cd n s' d/\d.length<=2:=by
 by_cases i:n < 0
 .have a:u64.wrap (0 - u64.wrap n)= -n:=by rw [my,my];omega
  obtain⟨e,d,b,k2,c,f,g⟩:=vI s y (-n) (by omega);refine⟨true,e,d,ak ?_,⟨k2,c,λ_ h=> ?_,by simp only [num,if_true];omega⟩,g⟩
  .rw [F6];simp only [ai,↓reduceIte,Int.reduceBEq,Int.reduceEq,GD,i,a,b]
  .subst h;simp only [val] at f;omega
 .have a:u64.wrap n=n:=by rw [my];omega
  obtain⟨e,d,b,k2,c,f,g⟩:=vI s y n (by omega);refine⟨false,e,d,ak ?_,⟨k2,c,λh=>(by cases h),by simpa [num] using f⟩,g⟩;rw [F6];simp only [ai,↓reduceIte,Int.reduceBEq,Int.reduceEq,GD,i,a,b]
theorem qC(n:Int)(a: -9223372036854775808<=n/\n < 9223372036854775808):∃x,Or (.call 72) [I n] []=some [x]/\WI n x:=by obtain⟨s',e,d,b,k2,_⟩:=Dx false (T.aJ true) n a;refine⟨T.ptr [tb s',T.aa 1 e (ax d)],ak ?_,s',e,d,rfl,k2⟩;rw [MY];simp only [ai,↓reduceIte,Int.reduceBEq,Int.reduceEq,GD,b]
theorem pj(s:Bool)(y:T)(a e2:Bool)(d:List Int)(b:d.length<=1000):Or (.call 114) [r0,AV.t (T.ptr [tb a,T.aa 1 e2 (ax d)])] [ab.box [AV.t (T.bool s),AV.t y]]=some [T.aw,tb a,T.aa 1 false (ax d)]:=by refine ak ?_;rw [Nh];have:bL 4 (ax d).length=some ():=jw (by rw [aL];omega);simp only [ai,↓reduceIte,Int.reduceBEq,Int.reduceEq,GD,this]
theorem qD(s:Bool)(y:T)(a e2:Bool)(d:List Int)(z:Int)(c:d.length<=1000)(hz:cd z a d):∃s',Or (.call 118) [r0,AV.t (T.ptr [tb a,T.aa 1 e2 (ax d)])] [ab.box [AV.t (T.bool s),AV.t y]]=some [T.aw,tb s',T.aa 1 false (ax d)]/\cd (-z) s' d:=by
 refine⟨!a && decide ((d.length:Int) > 0),ak ?_,hz.dg,hz.can,λh=> ?_, ?_⟩
 .rw [BI];simp only [ai,↓reduceIte,Int.reduceBEq,Int.reduceEq,GD,pj s y a e2 d c,aL,dZ]
 .simp only [Un,decide_eq_true_eq] at h;intro b;subst b;simp at h
 .have:=hz.z;unfold num at this⊢;cases a with
  | true=>simp at this⊢;omega
  | false=>
   simp only [UM,if_false] at this;by_cases e:(d.length:Int) > 0
   .simp [e];omega
   .have:d= []:=UA.1 (by omega);subst this;simp [val] at *
    omega
theorem bc{v:Int}(h: 0<=v/\v < 18446744073709551616):u64.wrap v=v:=by rw [my];omega
theorem oH{d:List Int}{i:Nat}(hi:i < d.length)(v:Int):bm (i:Int).toNat 0 [T.int .u32 v] (ax d)=some (ax (d.set i v)):=by have h1:=bD hi;simp only [bm,h1];simp [bZ,ax,Xe]
abbrev lu(e:Bool)(d:List Int):AV:=AV.t (T.aa 1 e (ax d))
def du:List Int->List Int->Int->List Int
 | [],_,c=> [c]
 | a::x,[],c=>((c+a) % 4294967296)::du x [] ((c+a) / 4294967296)
 | a::x,b::y,c=>((c+a+b) % 4294967296)::du x y ((c+a+b) / 4294967296)
theorem Dg.tail{a:Int}{d:List Int}(h:Dg (a::d)):Dg d:=λb hb=>h b (Um _ hb)
theorem s9:∀{x y:List Int} {c:Int},y.length<=x.length->val (du x y c)=c+val x+val y
 | [],[],c,_=>by simp [du,val]
 | [],b::y,c,h=>by simp at h
 | a::x,[],c,h=>by have:=s9 (x:=x) (y:= []) (c:=(c+a) / 4294967296) (by simp);simp only [du,val] at this⊢;rw [this];omega
 | a::x,b::y,c,h=>by have:=s9 (x:=x) (y:=y) (c:=(c+a+b) / 4294967296) (by simpa using h);simp only [du,val] at this⊢;rw [this];omega
theorem sY:∀{x y:List Int} {c:Int},Dg x->Dg y->0<=c/\c<=1->Dg (du x y c)
 | [],_,c,_,_,f=>by intro a e;simp only [du,Uv] at e;subst e;omega
 | a::x,[],c,d,hy,f=>by
  have h1:=d a Uk;have:=sY (x:=x) (y:= []) (c:=(c+a) / 4294967296) d.tail hy (by omega);intro b hb;simp only [du] at hb;rcases Uw.1 hb with rfl | hb
  .omega
  .exact this b hb
 | a::x,b::y,c,d,hy,f=>by
  have h1:=d a Uk;have g:=hy b Uk;have:=sY (x:=x) (y:=y) (c:=(c+a+b) / 4294967296) d.tail hy.tail (by omega);intro u hu;simp only [du] at hu;rcases Uw.1 hu with rfl | hu
  .omega
  .exact this u hu
theorem sZ:∀{x y:List Int} {c:Int},(du x y c).length=x.length+1
 | [],_,c=>rfl
 | a::x,[],c=>by simp [du,sZ]
 | a::x,b::y,c=>by simp [du,sZ]
theorem nS(a:List Int)(b v:Int)(r:List Int)(i:Nat)(h:a.length=i):(a++b::r).set i v=a++v::r:=by subst h;simp
theorem fD{d:List Int}{i:Nat}{r:Int}{a:List Int}(h:d.drop i=r::a):aM d i=r:=by obtain⟨b,_,_⟩:=bq h;simp [aM,Ul,b]
theorem ig{v:Int}:v.fdiv ((2:Int) ^ 32)=v / 4294967296:=by rw [show((2:Int) ^ 32)=4294967296 from by decide,Vf _ (by omega)]
theorem IE(x y:List Int)(p D:Bool)(H:Dg x)(hy:Dg y)(O:y.length<=x.length)(P:x.length<=1000):∀(e:List Int) (i:Nat) (c:Int) (done:List Int),x.drop i=e->done.length=i->i<=x.length->0<=c/\c<=1->
  Or ru [lu p x,lu D y,o0,AV.t (T.int .u64 c),lu p x,I (x.length:Int),I (i:Int)] [ab.sl false 1 false (ax (done++List.replicate (e.length+1) 0))]=some [T.aa 1 false (ax (done++du e (y.drop i) c))]:=by
 intro e;induction e with
 | nil=>
  intro i c done h g hi F;have L:=bu h;obtain rfl:i=x.length:=by omega
  have h1:¬(x.length:Int) < (x.length:Int):=by omega
  have f: 0<=(x.length:Int)/\(x.length:Int) < ((done++List.replicate (([]:List Int).length+1) 0).length:Int):=by simp;omega
  have hs:=oH (d:=done++List.replicate (([]:List Int).length+1) 0) (i:=x.length) (by simp;omega) c;rw [show done++List.replicate (([]:List Int).length+1) 0=done++0:: [] from rfl,nS done 0 c [] x.length g] at hs;have G:u32.wrap c=c:=by rw [cD];omega
  refine ak ?_;rw [Ge];simp only [ai,↓reduceIte,Int.reduceBEq,Int.reduceEq,GD,h1,aL,f,and_self,G];rw [show done++List.replicate (([]:List Int).length+1) 0=done++0:: [] from rfl,hs];simp only [ai,↓reduceIte,Int.reduceBEq,Int.reduceEq,GD,du]
 | cons a e B=>
  intro i c done h g hi F;obtain⟨E,q,r⟩:=bq h;have h1:(i:Int) < (x.length:Int):=by omega
  have s: 0<=(i:Int):=by omega
  have N:=H a (Uj E);have o:=fD h;have n:(i:Int) < ((done++List.replicate ((a::e).length+1) 0).length:Int):=by simp;omega
  have j:∀v,bm (i:Int).toNat 0 [T.int .u32 v] (ax (done++List.replicate ((a::e).length+1) 0))=some (ax ((done++ [v])++List.replicate (e.length+1) 0)):=λv=>by rw [oH (by simp;omega),show done++List.replicate ((a::e).length+1) 0=done++0::List.replicate (e.length+1) 0 from rfl,nS done 0 v _ i g];simp
  refine ak ?_;rw [Ge];cases m:y.drop i with
  | nil=>
   have M:=bu m;have f:¬(i:Int) < (y.length:Int):=by omega
   have k:u64.wrap a=a:=bc (by omega);have l:u64.wrap (c+a)=c+a:=bc (by omega);have A:y.drop (i+1)= []:=by simp;omega
   have:=B (i+1) ((c+a) / 4294967296) (done++ [(c+a) % 4294967296]) r (by simp [g]) (by omega) (by omega);rw [A,show done++ [(c+a) % 4294967296] ++du e [] ((c+a) / 4294967296)=done++du (a::e) [] c from by simp [du]] at this;simp only [ai,↓reduceIte,Int.reduceBEq,Int.reduceEq,GD,h1,s,and_self,aL,bD q,o,f,k,l,n,cD,j,ig,next i (by omega)];exact this
  | cons b C=>
   obtain⟨J,k2,K⟩:=bq m;have hb:=hy b (Uj J);have u:=fD m;have f:(i:Int) < (y.length:Int):=by omega
   have k:u64.wrap a=a:=bc (by omega);have l:u64.wrap (c+a)=c+a:=bc (by omega);have w:u64.wrap b=b:=bc (by omega);have z:u64.wrap (c+a+b)=c+a+b:=bc (by omega);have:=B (i+1) ((c+a+b) / 4294967296) (done++ [(c+a+b) % 4294967296]) r (by simp [g]) (by omega) (by omega);rw [K,show done++ [(c+a+b) % 4294967296] ++du e C ((c+a+b) / 4294967296)=done++du (a::e) (b::C) c from by simp [du]] at this;simp only [ai,↓reduceIte,Int.reduceBEq,Int.reduceEq,GD,h1,s,and_self,aL,bD q,bD k2,o,u,f,k,l,w,z,n,cD,j,ig,next i (by omega)];exact this
theorem R6(x y:List Int)(c e:Bool)(b:Dg x)(hy:Dg y)(i:x.length<=900)(j:y.length<=900):∃d,Or (.call 126) [lu c x,lu e y] []=some [T.aa 1 false (ax d)]/\Dg d/\val d=val x+val y/\d.length<=max x.length y.length+1:=by
 by_cases h:(x.length:Int) < (y.length:Int)
 .have h1:=IE y x e c hy b (by omega) (by omega) y 0 0 [] rfl rfl (by omega) (by omega);refine⟨du y x 0,ak ?_,sY hy b (by omega),by rw [s9 (by omega)];omega,by rw [sZ];omega⟩;have g:i64.wrap ((y.length:Int)+1)= ((y.length+1:Nat):Int):=next y.length (by omega);have a:br ((y.length+1:Nat):Int) ((y.length+1:Nat):Int)=some ():=by unfold br cZ;rw [if_pos (by omega)]
  have f:ax ([] ++List.replicate (y.length+1) 0)=List.replicate (y.length+1) [T.int u32 0]:=by simp [ax]
  rw [f] at h1;rw [Gd];simp only [ai,↓reduceIte,Int.reduceBEq,Int.reduceEq,GD,aL,h,g,a,UL];exact h1
 .have h1:=IE x y c e b hy (by omega) (by omega) x 0 0 [] rfl rfl (by omega) (by omega);refine⟨du x y 0,ak ?_,sY b hy (by omega),by rw [s9 (by omega)];omega,by rw [sZ];omega⟩;have g:i64.wrap ((x.length:Int)+1)= ((x.length+1:Nat):Int):=next x.length (by omega);have a:br ((x.length+1:Nat):Int) ((x.length+1:Nat):Int)=some ():=by unfold br cZ;rw [if_pos (by omega)]
  have f:ax ([] ++List.replicate (x.length+1) 0)=List.replicate (x.length+1) [T.int u32 0]:=by simp [ax]
  rw [f] at h1;rw [Gd];simp only [ai,↓reduceIte,Int.reduceBEq,Int.reduceEq,GD,aL,h,g,a,UL];exact h1
theorem gE(n:Nat): 0 < (4294967296:Int) ^ n:=Int.pow_pos (by decide)
theorem fp:∀{d:List Int},Dg d->val d < 4294967296 ^ d.length
 | [],_=>by simp [val]
 | a::d,h=>by have h1:=h a Uk;have b:=fp h.tail;simp only [val,UH,Wm];omega
theorem Dg.take{d:List Int}(h:Dg d)(n:Nat):Dg (d.take n):=λa b=>h a (Wk b)
theorem n9{d:List Int}{k:Nat}(a:k < d.length):val (d.take (k+1))=val (d.take k)+4294967296 ^ k * aM d k:=by
 have:d.take (k+1)=d.take k++ [aM d k]:=by rw [W6,Up a];simp [aM,Ul,a]
 rw [this,eS,Vd,YL (by omega)];simp [val]
theorem Bk{d:List Int}{k:Nat}(h:Dg d)(c:Can d)(b:d.length=k+1): 4294967296 ^ k<=val d:=by
 have h1:=n9 (d:=d) (k:=k) (by omega);rw [<-b,WK] at h1;have e:=c k b;have f:=eB (h.take k);have g: 0<=aM d k:=by
  have a:k < d.length:=by omega
  have:aM d k∈d:=by simp only [aM,Ul,Up a,UK];exact Wu a
  exact(h _ this).1
 have i:(4294967296:Int) ^ k * 1<=4294967296 ^ k * aM d k:=Ur (by omega) (Vw (gE k));omega
def bz(u v:Int):Int:=if u < v then -1 else if u=v then 0 else 1
theorem Fh(u v w:Int):bz (u+w) (v+w)=bz u v:=by
 have h1:u+w < v+w↔u < v:=by omega
 have a:u+w=v+w↔u=v:=by omega
 unfold bz;simp only [h1,a]
theorem x8{a b:List Int}{k:Nat}(f:Dg a)(hb:Dg b)(c:k < a.length)(d:k < b.length)(h:aM a k < aM b k):val (a.take (k+1)) < val (b.take (k+1)):=by rw [n9 c,n9 d];have h1:=fp (f.take k);rw [Vd,YL (by omega)] at h1;have g:=eB (hb.take k);have e:(4294967296:Int) ^ k * (aM a k+1)<=4294967296 ^ k * aM b k:=Ur (by omega) (Vw (gE k));rw [UO,Xq] at e;omega
theorem IF(a b:List Int)(i h j eb:Bool)(g:Dg a)(hb:Dg b)(m:a.length=b.length)(n:a.length<=1000):∀(k:Nat) (z:Int),z= (k:Int) - 1->k<=a.length->
  Or wZ [AV.t (T.ptr [tb i,T.aa 1 h (ax a)]),AV.t (T.ptr [tb j,T.aa 1 eb (ax b)]),I z] []=some [ti (bz (val (a.take k)) (val (b.take k)))]
 | 0,z,hz,l=>by
  refine ak ?_;rw [Gf];have h1:¬z>=0:=by omega
  simp only [ai,↓reduceIte,Int.reduceBEq,Int.reduceEq,GD,h1];simp [bz]
 | k+1,z,hz,l=>by
  obtain rfl:z= (k:Int):=by omega
  have h1:(k:Int)>=0:=by omega
  have e: 0<=(k:Int)/\(k:Int) < (a.length:Int):=by omega
  have f:(k:Int) < (b.length:Int):=by omega
  have o:i64.wrap ((k:Int) - 1)= (k:Int) - 1:=wr (by omega);refine ak ?_;rw [Gf];by_cases d:aM a k=aM b k
  .have:=IF a b i h j eb g hb m n k ((k:Int) - 1) rfl (by omega);have hv:bz (val (a.take (k+1))) (val (b.take (k+1)))=bz (val (a.take k)) (val (b.take k)):=by
    rw [n9 (by omega),n9 (by omega),d,Fh]
   rw [hv];simp only [ai,↓reduceIte,Int.reduceBEq,Int.reduceEq,GD,h1,e,f,and_self,aL,bD (show k < a.length by omega),bD (show k < b.length by omega),d,o];exact this
  .by_cases c:aM a k < aM b k
   .have:=x8 g hb (show k < a.length by omega) (by omega) c;simp only [ai,↓reduceIte,Int.reduceBEq,Int.reduceEq,GD,h1,e,f,and_self,aL,bD (show k < a.length by omega),bD (show k < b.length by omega),d,c];unfold bz;rw [if_pos this]
   .have:=x8 hb g (show k < b.length by omega) (by omega) (show aM b k < aM a k by omega);simp only [ai,↓reduceIte,Int.reduceBEq,Int.reduceEq,GD,h1,e,f,and_self,aL,bD (show k < a.length by omega),bD (show k < b.length by omega),d,c];unfold bz;rw [if_neg (by omega),if_neg (by omega)]
theorem mK{a b:List Int}(c:Dg a)(hb:Dg b)(d:Can b)(h:a.length < b.length):val a < val b:=by
 have h1:=fp c;have e:=Bk (k:=b.length - 1) hb d (by omega);have f:(4294967296:Int) ^ a.length<=4294967296 ^ (b.length - 1):=by
  have:b.length - 1=a.length+ (b.length - 1 - a.length):=by omega
  rw [this,Xa];have g:(4294967296:Int) ^ a.length * 1<=4294967296 ^ a.length * 4294967296 ^ (b.length - 1 - a.length):=Ur (by have:=gE (b.length - 1 - a.length);omega) (Vw (gE _));omega
 omega
theorem vJ(a b:List Int)(h f i eb:Bool)(e:Dg a)(hb:Dg b)(j:Can a)(k:Can b)(g:a.length<=1000)(m:b.length<=1000):
  Or (.call 116) [AV.t (T.ptr [tb h,T.aa 1 f (ax a)]),AV.t (T.ptr [tb i,T.aa 1 eb (ax b)])] []=some [ti (bz (val a) (val b))]:=by
 refine ak ?_;rw [Nf];by_cases c:(a.length:Int)= (b.length:Int)
 .have:=IF a b h f i eb e hb (by omega) g a.length _ rfl (UC _);rw [WK,show b.take a.length=b from Vh (by omega)] at this;have l:i64.wrap ((a.length:Int) - 1)= (a.length:Int) - 1:=wr (by omega);simp only [aL,l];simp only [ai,↓reduceIte,Int.reduceBEq,Int.reduceEq,GD,c];rw [c] at this;exact this
 .by_cases d:(a.length:Int) < (b.length:Int)
  .have:=mK e hb k (by omega);simp only [ai,↓reduceIte,Int.reduceBEq,Int.reduceEq,GD,aL,c,d];unfold bz;rw [if_pos this]
  .have:=mK hb e j (by omega);simp only [ai,↓reduceIte,Int.reduceBEq,Int.reduceEq,GD,aL,c,d];unfold bz;rw [if_neg (by omega),if_neg (by omega)]
def cm(v:Int):Int:=if v < 0 then 1 else 0
def dL:List Int->List Int->Int->List Int
 | [],_,_=> []
 | a::x,[],c=>((a - c) % 4294967296)::dL x [] (cm (a - c))
 | a::x,b::y,c=>((a - c - b) % 4294967296)::dL x y (cm (a - c - b))
theorem zf:∀{x y:List Int} {c:Int},Dg x->Dg y->y.length<=x.length->0<=c/\c<=1->val y+c<=val x->val (dL x y c)=val x - val y - c
 | [],[],c,_,_,_,e,h=>by simp [dL,val] at h⊢;omega
 | [],b::y,c,_,_,h,_,_=>by simp at h
 | a::x,[],c,d,hy,f,e,h=>by have h1:=d a Uk;simp only [val] at h;have:=zf (x:=x) (y:= []) (c:=cm (a - c)) d.tail hy (by simp) (by unfold cm;split <;> omega) (by simp only [val];unfold cm;split <;> omega);simp only [dL,val] at this⊢;rw [this];unfold cm;split <;> omega
 | a::x,b::y,c,d,hy,f,e,h=>by have h1:=d a Uk;have g:=hy b Uk;simp only [val] at h;have:=zf (x:=x) (y:=y) (c:=cm (a - c - b)) d.tail hy.tail (by simpa using f) (by unfold cm;split <;> omega) (by unfold cm;split <;> omega);simp only [dL,val] at this⊢;rw [this];unfold cm;split <;> omega
theorem zd:∀{x y:List Int} {c:Int},Dg (dL x y c)
 | [],_,c=>by intro a d;simp [dL] at d
 | a::x,[],c=>by
  intro u hu;simp only [dL] at hu;rcases Uw.1 hu with rfl | hu
  .omega
  .exact zd u hu
 | a::x,b::y,c=>by
  intro u hu;simp only [dL] at hu;rcases Uw.1 hu with rfl | hu
  .omega
  .exact zd u hu
theorem ze:∀{x y:List Int} {c:Int},(dL x y c).length=x.length
 | [],_,c=>rfl
 | a::x,[],c=>by simp [dL,ze]
 | a::x,b::y,c=>by simp [dL,ze]
theorem oK{v:Int}(h: -1000000000000<=v/\v<=1000000000000):(u64.wrap v).fdiv ((2:Int) ^ 63)=cm v:=by rw [show((2:Int) ^ 63)=9223372036854775808 from by decide,Vf _ (by omega),my];unfold cm;split <;> omega
theorem vZ(v:Int):u32.wrap (u64.wrap v)=v % 4294967296:=by rw [cD,my];omega
theorem qN(v b:Int):u64.wrap (u64.wrap v - b)=u64.wrap (v - b):=by simp only [my];omega
theorem Qv(x y:List Int)(z A:Bool)(D:Dg x)(hy:Dg y)(K:x.length<=1000):∀(d:List Int) (i:Nat) (c:Int) (done:List Int),x.drop i=d->done.length=i->0<=c/\c<=1->
  Or tI [lu A y,o0,AV.t (T.int .u64 c),lu z x,I (x.length:Int),I (i:Int)] [ab.sl false 1 false (ax (done++List.replicate d.length 0))]=some [T.aa 1 false (ax (done++dL d (y.drop i) c))]:=by
 intro d;induction d with
 | nil=>
  intro i c done h g C;have G:=bu h;have h1:¬(i:Int) < (x.length:Int):=by omega
  refine ak ?_;rw [Gg];simp only [ai,↓reduceIte,Int.reduceBEq,Int.reduceEq,GD,h1];simp [dL]
 | cons a d u=>
  intro i c done h g C;obtain⟨B,n,o⟩:=bq h;have h1:(i:Int) < (x.length:Int):=by omega
  have p: 0<=(i:Int):=by omega
  have J:=D a (Uj B);have k:=fD h;have j:(i:Int) < ((done++List.replicate (a::d).length 0).length:Int):=by simp;omega
  have e:∀v,bm (i:Int).toNat 0 [T.int .u32 v] (ax (done++List.replicate (a::d).length 0))=some (ax ((done++ [v])++List.replicate d.length 0)):=λv=>by rw [oH (by simp;omega),show done++List.replicate (a::d).length 0=done++0::List.replicate d.length 0 from rfl,nS done 0 v _ i g];simp
  have l:u64.wrap a=a:=bc (by omega);refine ak ?_;rw [Gg];cases f:y.drop i with
  | nil=>
   have H:=bu f;have m:¬(i:Int) < (y.length:Int):=by omega
   have s:y.drop (i+1)= []:=by simp;omega
   have:=u (i+1) (cm (a - c)) (done++ [(a - c) % 4294967296]) o (by simp [g]) (by unfold cm;split <;> omega);rw [s,show done++ [(a - c) % 4294967296] ++dL d [] (cm (a - c))=done++dL (a::d) [] c from by simp [dL]] at this;simp only [ai,↓reduceIte,Int.reduceBEq,Int.reduceEq,GD,h1,p,and_self,aL,bD n,k,m,l,j,vZ,e,oK (v:=a - c) (by omega),next i (by omega)];exact this
  | cons b w=>
   obtain⟨E,k2,F⟩:=bq f;have hb:=hy b (Uj E);have q:=fD f;have m:(i:Int) < (y.length:Int):=by omega
   have r:u64.wrap b=b:=bc (by omega);have:=u (i+1) (cm (a - c - b)) (done++ [(a - c - b) % 4294967296]) o (by simp [g]) (by unfold cm;split <;> omega);rw [F,show done++ [(a - c - b) % 4294967296] ++dL d w (cm (a - c - b))=done++dL (a::d) (b::w) c from by simp [dL]] at this;simp only [ai,↓reduceIte,Int.reduceBEq,Int.reduceEq,GD,h1,p,and_self,aL,bD n,bD k2,k,q,m,l,r,qN,j,vZ,e,oK (v:=a - c - b) (by omega),next i (by omega)];exact this
theorem J0(x y:List Int)(a b:Bool)(e:Dg x)(hy:Dg y)(g:y.length<=x.length)(hv:val y<=val x)(h:x.length<=900):∃d,Or (.call 127) [lu a x,lu b y] []=some [T.aa 1 false (ax d)]/\Dg d/\val d=val x - val y/\d.length=x.length:=by
 have h1:=Qv x y a b e hy (by omega) x 0 0 [] rfl rfl (by omega);refine⟨dL x y 0,ak ?_,zd,by rw [zf e hy g (by omega) (by omega)];omega,ze⟩;have c:br (x.length:Int) (x.length:Int)=some ():=by unfold br cZ;rw [if_pos (by omega)]
 have f:ax ([] ++List.replicate x.length 0)=List.replicate x.length [T.int u32 0]:=by simp [ax]
 rw [f] at h1;rw [Ng];simp only [ai,↓reduceIte,Int.reduceBEq,Int.reduceEq,GD,aL,c,UL];exact h1
open Go Go.Aev Go.Aev.Gen
theorem SV{d:List Int}(h:bG d= []):val d=0:=by rw [<-n6,h];rfl
theorem pw{s:Bool}{d:List Int}{z:Int}(b:Dg d)(hz:num s d=z):cd z (s && decide (bG d≠[])) (bG d):=by
 refine⟨mX b,pv d,λh=> ?_, ?_⟩
 .simp only [Un,decide_eq_true_eq] at h;exact h.2
 .unfold num at hz⊢;rw [n6];by_cases a:bG d= []
  .have:=SV a;simp only [a,ne_eq,not_true_eq_false,decide_false,XZ,UM,if_false];split at hz <;> omega
  .simp only [ne_eq,a,not_false_eq_true,decide_true,Xl];exact hz
def tT(z:Int)(n:Nat)(r:Option (List T)):Prop:= ∃s e d,r=some [T.aw,tb s,T.aa 1 e (ax d)]/\cd z s d/\d.length<=n
theorem tt:(true==true)=true:=rfl
theorem tf:(true==false)=false:=rfl
theorem ft:(false==true)=false:=rfl
theorem ff:(false==false)=true:=rfl
theorem vH(c e2 e e3:Bool)(a b:List Int)(u v:Int)(f:cd u c a)(hb:cd v e b)(w:a.length<=400)(lb:b.length<=400):
  tT (u+v) (max a.length b.length+1) (Or (.call 94) [r0,r0,AV.t (T.ptr [tb e,T.aa 1 e3 (ax b)])] [ab.box [AV.t (T.bool c),AV.t (T.aa 1 e2 (ax a))]]):=by
 have m:=f.z;have hv:=hb.z;by_cases hs:c=e
 .subst hs;obtain⟨d,p,k,k2,q⟩:=R6 a b e2 e3 f.dg hb.dg (by omega) (by omega);have g:=lr c false d (by omega);refine⟨c && decide (bG d≠[]),false,bG d,ak ?_,pw (s:=c) k ?_,by have:=qJ d;omega⟩
  .rw [BH];have l:(c==c)=true:=by cases c <;> rfl
   simp only [ai,↓reduceIte,Int.reduceBEq,Int.reduceEq,GD,l,p,g]
  .unfold num at m hv⊢;split at m <;> split at hv <;> (try split) <;> first | omega | simp_all
 .have l:(c==e)=false:=by cases c <;> cases e <;> simp_all
  have n:=vJ a b c e2 e e3 f.dg hb.dg f.can hb.can (by omega) (by omega);by_cases r:val b<=val a
  .have o:b.length<=a.length:=by
    rcases Ws a.length b.length with h | h
    .have:=mK f.dg hb.dg hb.can h;omega
    .exact h
   obtain⟨d,i,k,k2,q⟩:=J0 a b e2 e3 f.dg hb.dg o r (by omega);have g:=lr c false d (by omega);have j:bz (val a) (val b)>=0:=by unfold bz;split <;> (try split) <;> omega
   refine⟨c && decide (bG d≠[]),false,bG d,ak ?_,pw (s:=c) k ?_,by have:=qJ d;omega⟩
   .rw [BH];simp only [ai,↓reduceIte,Int.reduceBEq,Int.reduceEq,GD,l,n,j,i,g]
   .unfold num at m hv⊢;cases c <;> cases e <;> simp at * <;> omega
  .have o:a.length<=b.length:=by
    rcases Ws b.length a.length with h | h
    .have:=mK hb.dg f.dg f.can h;omega
    .exact h
   obtain⟨d,i,k,k2,q⟩:=J0 b a e3 e2 hb.dg f.dg o (by omega) (by omega);have g:=lr e false d (by omega);have j:¬bz (val a) (val b)>=0:=by unfold bz;rw [if_pos (by omega)];omega
   refine⟨e && decide (bG d≠[]),false,bG d,ak ?_,pw (s:=e) k ?_,by have:=qJ d;omega⟩
   .rw [BH];simp only [ai,↓reduceIte,Int.reduceBEq,Int.reduceEq,GD,l,n,j,i,g]
   .unfold num at m hv⊢;cases c <;> cases e <;> simp at * <;> omega
theorem JT(c e2 e e3:Bool)(a b:List Int)(u v:Int)(g:cd u c a)(hb:cd v e b)(k:a.length<=400)(lb:b.length<=400):
  tT (u - v) (max a.length b.length+1) (Or (.call 148) [r0,r0,AV.t (T.ptr [tb e,T.aa 1 e3 (ax b)])] [ab.box [AV.t (T.bool c),AV.t (T.aa 1 e2 (ax a))]]):=by
 obtain⟨s',f,h⟩:=qD false (T.aJ true) e e3 b v (by omega) hb;obtain⟨l,er,d,i,k2,j⟩:=vH c e2 s' false a b u (-v) g h k lb;refine⟨l,er,d,ak ?_,by rw [Yu];exact k2,j⟩;rw [MZ];simp only [ai,↓reduceIte,Int.reduceBEq,Int.reduceEq,GD,f,i]
open Go Go.Aev Go.Aev.Gen
def gz(a:Int):List Int->List Int->Int->List Int
 | [],[],_=> []
 | [],_::r,c=>c::r
 | _::_,[],_=> []
 | b::y,o::r,c=>((c+a * b+o) % 4294967296)::gz a y r ((c+a * b+o) / 4294967296)
theorem lh{a b:Int}(c: 0<=a/\a < 4294967296)(hb: 0<=b/\b < 4294967296): 0<=a * b/\a * b<=18446744065119617025:=by have h1: 0<=a * b:=Vi c.1 hb.1;have d:a * b<=4294967295 * 4294967295:=Int.mul_le_mul (by omega) (by omega) hb.1 (by omega);omega
theorem CL{a:Int}(e: 0<=a/\a < 4294967296):∀{y o r:List Int} {c:Int},y.length=o.length->val (gz a y (o++0::r) c)=c+a * val y+val (o++0::r)
 | [],[],r,c,_=>by simp [gz,val]
 | [],o::os,r,c,h=>by simp at h
 | b::y,[],r,c,h=>by simp at h
 | b::y,o::os,r,c,h=>by
  have:=CL e (y:=y) (o:=os) (r:=r) (c:=(c+a * b+o) / 4294967296) (by simpa using h);simp only [Uo,gz,val] at this⊢;have d:a * (b+4294967296 * val y)=a * b+4294967296 * (a * val y):=by rw [UO,U3]
  rw [this,d];omega
theorem CJ{a:Int}:∀{y o:List Int} {c:Int},(gz a y o c).length=o.length
 | [],[],_=>rfl
 | [],_::r,c=>rfl
 | _::_,[],_=>rfl
 | b::y,o::r,c=>by simp [gz,CJ]
theorem CI{a:Int}(e: 0<=a/\a < 4294967296):∀{y o:List Int} {c:Int},Dg y->Dg o->0<=c/\c < 4294967296->Dg (gz a y o c)
 | [],[],_,_,_,_=>by intro u hu;simp [gz] at hu
 | [],_::r,c,_,d,f=>by
  intro u hu;simp only [gz] at hu;rcases Uw.1 hu with rfl | hu
  .exact f
  .exact d u (Um _ hu)
 | _::_,[],_,_,_,_=>by intro u hu;simp [gz] at hu
 | b::y,o::r,c,hy,d,f=>by
  have h1:=d o Uk;have g:=lh e (hy b Uk);have:=CI e (y:=y) (o:=r) (c:=(c+a * b+o) / 4294967296) hy.tail d.tail (by omega);intro u hu;simp only [gz] at hu;rcases Uw.1 hu with rfl | hu
  .omega
  .exact this u hu
theorem rJ(a:List Int)(b:Int)(r:List Int)(i:Nat)(h:a.length=i):aM (a++b::r) i=b:=by subst h;simp [aM,Ul]
theorem Qq(s:Bool)(A:T)(w e2 z e3:Bool)(x y:List Int)(a:Int)(F: 0<=a/\a < 4294967296)(hy:Dg y)(i:Nat)(hi:i<=1000)(U:y.length<=1000)(R:List T):∀(l:List Int) (j:Nat) (c:Int) (e f:List Int),y.drop j=l->j<=y.length->e.length=i+j->l.length < f.length->Dg f->0<=c/\c < 4294967296->
  Or tG [r0,AV.t (T.ptr [tb w,T.aa 1 e2 (ax x)]),AV.t (T.ptr [tb z,T.aa 1 e3 (ax y)]),o1,lu e2 x,I (x.length:Int),I ((i+1:Nat):Int)] [ab.box [AV.t (T.bool s),AV.t A],ab.sl false 1 false (ax (e++gz a l f c))]=some R->
  Or wS [r0,AV.t (T.ptr [tb w,T.aa 1 e2 (ax x)]),AV.t (T.ptr [tb z,T.aa 1 e3 (ax y)]),o1,I (i:Int),AV.t (T.int .u32 a),AV.t (T.int .u64 c),lu e2 x,I (x.length:Int),I (i:Int),lu e3 y,I (y.length:Int),I (j:Int)] [ab.box [AV.t (T.bool s),AV.t A],ab.sl false 1 false (ax (e++f))]=some R:=by
 intro l;induction l with
 | nil=>
  intro j c e f h J m hm g G k;have S:=bu h;obtain rfl:j=y.length:=by omega
  match f,hm with
  | o::r,_=>
   have h1:¬(y.length:Int) < (y.length:Int):=by omega
   have p:i64.wrap ((i:Int)+ (y.length:Int))= ((i+y.length:Nat):Int):=by rw [wr (by omega)];omega
   have n: 0<=((i+y.length:Nat):Int)/\((i+y.length:Nat):Int) < ((e++o::r).length:Int):=by simp;omega
   have hs:=oH (d:=e++o::r) (i:=i+y.length) (by simp;omega) c;rw [nS e o c r _ m] at hs;have u:u32.wrap c=c:=by rw [cD];omega
   refine ak ?_;rw [F3];simp only [ai,↓reduceIte,Int.reduceBEq,Int.reduceEq,GD,h1,aL,p,n,and_self,u,hs,next i (by omega)];exact k
 | cons b l K=>
  intro j c e f h J m hm g G k;obtain⟨B,C,D⟩:=bq h;have hb:=hy b (Uj B);have q:=fD h
  match f,hm,g,k with
  | o::r,hm,g,k=>
   have V:=g o Uk;have Q:=lh F hb;have h1:(j:Int) < (y.length:Int):=by omega
   have E: 0<=(j:Int):=by omega
   have p:i64.wrap ((i:Int)+ (j:Int))= ((i+j:Nat):Int):=by rw [wr (by omega)];omega
   have n: 0<=((i+j:Nat):Int)/\((i+j:Nat):Int) < ((e++o::r).length:Int):=by simp;omega
   have H:(ax (e++o::r))[((i+j:Nat):Int).toNat]? =some [T.int .u32 o]:=by rw [bD (by simp;omega),rJ e o r _ m]
   have hs:∀v,bm ((i+j:Nat):Int).toNat 0 [T.int .u32 v] (ax (e++o::r))=some (ax ((e++ [v])++r)):=λv=>by rw [oH (by simp;omega),nS e o v r _ m];simp
   have L:u64.wrap a=a:=bc (by omega);have M:u64.wrap b=b:=bc (by omega);have N:u64.wrap o=o:=bc (by omega);have w4:u64.wrap (a * b)=a * b:=bc (by omega);have O:u64.wrap (a * b+o)=a * b+o:=bc (by omega);have P:u64.wrap (c+ (a * b+o))=c+a * b+o:=by rw [bc (by omega)];omega
   have:=K (j+1) ((c+a * b+o) / 4294967296) (e++ [(c+a * b+o) % 4294967296]) r D (by omega) (by simp;omega) (by simpa using hm) g.tail (by omega) (by
    rw [gz] at k;rw [UR];exact k)
   refine ak ?_;rw [F3];simp only [ai,↓reduceIte,Int.reduceBEq,Int.reduceEq,GD,h1,E,and_self,aL,bD C,q,p,n,H,L,M,N,w4,O,P,cD,hs,ig,next j (by omega)];exact this
theorem CK{a:Int}:∀{y o r:List Int} {q c:Int},y.length=o.length->gz a y (o++q::r) c=gz a y (o++ [q]) c++r
 | [],[],r,q,c,_=>rfl
 | [],o::os,r,q,c,h=>by simp at h
 | b::y,[],r,q,c,h=>by simp at h
 | b::y,o::os,r,q,c,h=>by simp only [Uo,gz];rw [CK (by simpa using h)]
theorem Qp(s:Bool)(J:T)(n e2 p e3:Bool)(x y:List Int)(P:Dg x)(hy:Dg y)(W:x.length<=400)(X:y.length<=400):∀(f:List Int) (i:Nat) (e b:List Int),x.drop i=f->i<=x.length->e.length=i->b.length=y.length->Dg e->Dg b->
  ∃d,Or tG [r0,AV.t (T.ptr [tb n,T.aa 1 e2 (ax x)]),AV.t (T.ptr [tb p,T.aa 1 e3 (ax y)]),o1,lu e2 x,I (x.length:Int),I (i:Int)] [ab.box [AV.t (T.bool s),AV.t J],ab.sl false 1 false (ax (e++ (b++List.replicate f.length 0)))]=some [T.aw,tb ((!n==p) && decide (bG d≠[])),T.aa 1 false (ax (bG d))]/\
   Dg d/\d.length=x.length+y.length/\val d=val (e++b)+4294967296 ^ i * (val f * val y):=by
 intro f;induction f with
 | nil=>
  intro i e b h hi m g l j;have V:=bu h;have h1:¬(i:Int) < (x.length:Int):=by omega
  have A:(e++b).length=x.length+y.length:=by simp;omega
  have B:=lr (!n==p) false (e++b) (by omega);refine⟨e++b,ak ?_,λu hu=> ?_,A,by simp [val]⟩
  .rw [F2];simp only [UX,VW,Ve];simp only [ai,↓reduceIte,Int.reduceBEq,Int.reduceEq,GD,h1,B]
  .rcases UB.1 hu with hu | hu
   .exact l u hu
   .exact j u hu
 | cons a f Q=>
  intro i e b h hi m g l j;obtain⟨L,M,N⟩:=bq h;have z:=P a (Uj L);have D:=fD h;have h1:(i:Int) < (x.length:Int):=by omega
  have O: 0<=(i:Int):=by omega
  have C:Dg (b++ [0]):=λu hu=>by
   rcases UB.1 hu with hu | hu
   .exact j u hu
   .simp only [Uv] at hu;subst hu;omega
  have H:=CL z (y:=y) (o:=b) (r:= []) (c:=0) g.symm;have w:=CJ (a:=a) (y:=y) (o:=b++ [0]) (c:=0);have v:=CI z (y:=y) (o:=b++ [0]) (c:=0) hy C (by omega);have G:=CK (a:=a) (y:=y) (o:=b) (r:=List.replicate f.length 0) (q:=0) (c:=0) g.symm;have E:Dg (b++List.replicate (a::f).length 0):=λu hu=>by
   rcases UB.1 hu with hu | hu
   .exact j u hu
   .have:=VO hu;omega
  generalize gz a y (b++ [0]) 0=res at *
  cases res with
  | nil=>simp at w
  | cons k t=>
   simp only [UH,Vu,UX] at w;obtain⟨d,R,k2,S,U⟩:=Q (i+1) (e++ [k]) t N (by omega) (by simp [m]) (by omega) (λu hu=>by
    rcases UB.1 hu with hu | hu
    .exact l u hu
    .simp only [Uv] at hu;subst hu;exact v u Uk) v.tail
   have F:=Qq s J n e2 p e3 x y a z hy i (by omega) (by omega) _ y 0 0 e (b++List.replicate (a::f).length 0) rfl (by omega) (by omega) (by simp;omega) E (by omega) (by
    rw [show b++List.replicate (a::f).length 0=b++0::List.replicate f.length 0 from rfl,G];rw [show e++ (k::t++List.replicate f.length 0)=e++ [k] ++ (t++List.replicate f.length 0) from by simp];exact R)
   refine⟨d,ak ?_,k2,S, ?_⟩
   .rw [F2];simp only [ai,↓reduceIte,Int.reduceBEq,Int.reduceEq,GD,h1,O,and_self,aL,bD M,D];exact F
   .rw [U];have K:e++ [k] ++t=e++k::t:=by simp
    have e2:val (b++ [0])=val b:=by rw [eS];simp [val]
    have e3:(4294967296:Int) ^ i * ((a+4294967296 * val f) * val y)=4294967296 ^ i * (a * val y)+4294967296 ^ i * 4294967296 * (val f * val y):=by rw [Wv,UO];simp only [U0]
    rw [K,eS,eS,m,H,e2,Wm];simp only [val];rw [e3,Yc,UO];omega
theorem Ac:∀n:Nat,val (List.replicate n 0)=0
 | 0=>rfl
 | n+1=>by simp only [U7,val,Ac n];omega
theorem RX(s:Bool)(k:T)(e e2 f e3:Bool)(a b:List Int)(u v:Int)(h:cd u e a)(hb:cd v f b)(o:a.length<=400)(lb:b.length<=400):
  tT (u * v) (a.length+b.length) (Or (.call 91) [r0,AV.t (T.ptr [tb e,T.aa 1 e2 (ax a)]),AV.t (T.ptr [tb f,T.aa 1 e3 (ax b)])] [ab.box [AV.t (T.bool s),AV.t k]]):=by
 obtain⟨d,j,k2,p,n⟩:=Qp s k e e2 f e3 a b h.dg hb.dg o lb a 0 [] (List.replicate b.length 0) rfl (by omega) rfl (by simp) (λu c=>by cases c) (λu c=>by
  have:=VO c;omega)
 have hv:val d=val a * val b:=by rw [n,Uq,Ac];simp
 have m:i64.wrap ((a.length:Int)+ (b.length:Int))= ((b.length+a.length:Nat):Int):=by rw [wr (by omega)];omega
 have i:br ((b.length+a.length:Nat):Int) ((b.length+a.length:Nat):Int)=some ():=by unfold br cZ;rw [if_pos (by omega)]
 have l:ax ([] ++ (List.replicate b.length 0++List.replicate a.length 0))=List.replicate (b.length+a.length) [T.int u32 0]:=by rw [Uq,Xk];simp [ax]
 rw [l] at j;have c:=h.z;have g:=hb.z;refine⟨(!e==f) && decide (bG d≠[]),false,bG d,ak ?_,pw (s:= !e==f) k2 ?_,by have:=qJ d;omega⟩
 .rw [M0];simp only [aL,m];simp only [ai,↓reduceIte,Int.reduceBEq,Int.reduceEq,GD,i,UL];exact j
 .unfold num at c g⊢;rw [hv,<-c,<-g];cases e <;> cases f <;> simp [Int.mul_neg,X2]
end Go.Aev.Wd
