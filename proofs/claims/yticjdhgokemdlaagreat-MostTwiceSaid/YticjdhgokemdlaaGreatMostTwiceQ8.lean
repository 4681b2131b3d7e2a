import Derived.Test.YticjdhgokemdlaaGreatMostTwiceQ6
set_option linter.all false
namespace Go.Aev.Wd
open Go Go.Aev Go.Aev.Gen Go.IntKind
noncomputable abbrev xx:Key:=aT ao 125 true 2 [(0,none),(3,none)] (2,1002)
noncomputable abbrev xv:Key:=aT ao 125 true 2 [(0,none),(3,none)] (1,2)
noncomputable abbrev uf:Key:=aT ao 91 true 3 [(0,none),(1,none),(2,none),(7,none),(28,none),(29,none),(30,none)] (1,2)
noncomputable abbrev xt:Key:=aT ao 91 true 7 [(0,none),(1,none),(2,none),(7,none),(8,none),(9,none),(10,none),(28,none),(29,none),(30,none),(38,none),(39,none),(40,none)] (1,2)
noncomputable abbrev rV:Key:=aT ao 126 true 6 [(0,none),(1,none),(5,none),(6,none),(20,none),(21,none),(22,none)] (0,0)
noncomputable abbrev ug:Key:=aT ao 127 true 4 [(1,none),(5,none),(6,none),(13,none),(14,none),(15,none)] (0,0)
noncomputable abbrev xA:Key:=aT ao 116 true 6 [(0,none),(1,none),(5,none)] (0,0)
noncomputable abbrev xy:Key:=aT ao 71 true 2 [(0,none),(11,some 0),(12,some 0)] (1,2)
noncomputable abbrev xz:Key:=aT ao 71 true 5 [(0,none),(13,none),(14,none)] (1,2)
noncomputable abbrev Mb:Key:=aT ao 16 true 3 [(0,none),(1,none),(5,some 0),(6,none)] (0,0)
noncomputable abbrev xE:Key:=aT ao 150 true 3 [(1,none),(5,none),(16,none),(17,none),(18,none)] (0,0)
noncomputable abbrev uk:Key:=aT ao 151 true 6 [(0,none),(1,none),(5,none),(20,none),(21,none),(22,none)] (0,0)
noncomputable abbrev xD:Key:=aT ao 149 true 4 [(0,none),(1,none),(6,none),(7,none),(8,none)] (0,0)
noncomputable abbrev xB:Key:=aT ao 149 true 11 [(0,none),(1,none),(9,none)] (0,0)
noncomputable abbrev rW:Key:=aT ao 149 true 17 [(9,none),(10,none),(11,some 0),(12,none),(13,none),(14,none)] (0,0)
noncomputable abbrev xC:Key:=aT ao 149 true 21 [(9,none),(10,none),(11,some 0),(12,none),(13,none),(14,none),(16,none),(17,none)] (0,0)
noncomputable abbrev mI:Key:=aT ao 149 true 27 [(9,none),(10,none),(11,some 0),(12,none),(13,none),(14,none),(16,none),(18,none),(19,none),(172,none),(173,none),(174,none)] (0,0)
noncomputable abbrev uh:Key:=aT ao 149 true 41 [(9,none),(10,none),(11,some 0),(12,none),(13,none),(14,none),(16,none),(18,none),(233,none),(234,none),(235,none)] (0,0)
noncomputable abbrev rT:Key:=aT ao 111 true 3 [(0,none),(3,none),(4,none)] (0,0)
theorem NR(O:au)(n:Int):az ao ann O (Key.call 72) [I n] []=
 (bS (O (.call 115) [Jr 0,I n] (Y4)) λb p=>some [T.ptr [Jb b,T.aa 1 p.fst p.snd]]):=by kernel_rfl
theorem GN(O:au)(s:Bool)(y:T)(n:Int):az ao ann O (Key.call 115) [Jr 0,I n] (Y2 s y)=
 (bif decide (n < 0) then bS (O (.call 112) [Jr 0,AV.t (T.int u64 (u64.wrap (0 - u64.wrap n)))] (Y2 s y)) λb p=>some [T.aw,Jb true,T.aa 1 p.fst p.snd] else bS (O (.call 112) [Jr 0,AV.t (T.int u64 (u64.wrap n))] (Y2 s y)) λb p=>some [T.aw,Jb b,T.aa 1 p.fst p.snd]):=by kernel_rfl
theorem N5(O:au)(s:Bool)(y:T)(n:Int):az ao ann O (Key.call 112) [Jr 0,AV.t (T.int .u64 n)] (Y2 s y)=
 (bS (O (.call 125) [Jr 0] [ab.box [B false,Jo 1],ab.sl false 1 false [[T.int u32 (u32.wrap n)],[T.int u32 (u32.wrap (n.fdiv (2 ^ 32)))]]]) λb p=>some [T.aw,Jb b,T.aa 1 p.fst p.snd]):=by kernel_rfl
theorem yO(O:au)(s e:Bool)(d:JL):az ao ann O (Key.call 125) [Jr 0] (lP s e d)=
 (O xx [Jr 0,I (d.length:Int)] (lP s e d)):=by kernel_rfl
theorem GP(O:au)(a:Int)(b d:Bool)(c:JL):az ao ann O xx [Jr 0,I a] (lP b d c)=
 (ae (some (decide (a > 0))) (if 0<=i64.wrap (a - 1)/\i64.wrap (a - 1) < (c.length:Int) then some () else none) λx=>mG (some (decide (a > 0))) c[(i64.wrap (a - 1)).toNat]? λn=>bif bif decide (a > 0) then n==0 else false then O xx [Jr 0,I (i64.wrap (a - 1))] (lP b d c) else Jg (bQ 0 a (c.length:Int)) λx=>bif a==0 then some [T.aw,Jb false,T.aa 1 d (List.take (a.toNat - 0) c)] else some [T.aw,Jb b,T.aa 1 d (List.take (a.toNat - 0) c)]):=by kernel_rfl
theorem NZ(O:au)(s e:Bool)(d:JL):az ao ann O (Key.call 125) [Jr 0] (Y6 s e d)=
 (O xv [Jr 0,I (d.length:Int)] (Y6 s e d)):=by kernel_rfl
theorem GQ(O:au)(b:Int)(d c:Bool)(a:JL):az ao ann O xv [Jr 0,I b] (Y6 d c a)=
 (ae (some (decide (b > 0))) (if 0<=i64.wrap (b - 1)/\i64.wrap (b - 1) < (a.length:Int) then some () else none) λx=>mG (some (decide (b > 0))) a[(i64.wrap (b - 1)).toNat]? λn=>bif bif decide (b > 0) then n==0 else false then O xv [Jr 0,I (i64.wrap (b - 1))] (Y6 d c a) else Jg (bQ 0 b (a.length:Int)) λx=>bif b==0 then some [T.aw,Jb false,T.aa 1 c (sub 0 b a)] else some [T.aw,Jb d,T.aa 1 c (sub 0 b a)]):=by kernel_rfl
theorem N8(O:au)(s c b:Bool)(y:T)(a:JL):az ao ann O (Key.call 114) [Jr 0,AV.t (T.ptr [Jb c,T.aa 1 b a])] (Y2 s y)=
 (Jg (bu 4 a.length) λx=>some [T.aw,Jb c,T.aa 1 false a]):=by kernel_rfl
theorem B5(O:au)(s d a:Bool)(y:T)(c:JL):az ao ann O (Key.call 118) [Jr 0,AV.t (T.ptr [Jb d,T.aa 1 a c])] (Y2 s y)=
 (bS (O (.call 114) [Jr 0,AV.t (T.ptr [Jb d,T.aa 1 a c])] (Y2 s y)) λb p=>some [T.aw,Jb (bif !b then decide ((p.snd.length:Int) > 0) else false),T.aa 1 p.fst p.snd]):=by kernel_rfl
theorem GO(O:au)(s e a f bz:Bool)(y:T)(c d:JL):az ao ann O (Key.call 94) [Jr 0,AV.t (T.ptr [Jb e,T.aa 1 a c]),AV.t (T.ptr [Jb f,T.aa 1 bz d])] (Y2 s y)=
 (bif e==f then G4 (O (.call 126) [Jl 1 a c,Jl 1 bz d] []) λp=>bS (O (.call 125) [Jr 0] (lP e p.fst p.snd)) λb p=>some [T.aw,Jb b,T.aa 1 p.fst p.snd] else G9 (O (.call 116) [AV.t (T.ptr [Jb e,T.aa 1 a c]),AV.t (T.ptr [Jb f,T.aa 1 bz d])] []) λn=>bif decide (n>=0) then G4 (O (.call 127) [Jl 1 a c,Jl 1 bz d] []) λp=>bS (O (.call 125) [Jr 0] (lP e p.fst p.snd)) λb p=>some [T.aw,Jb b,T.aa 1 p.fst p.snd] else G4 (O (.call 127) [Jl 1 bz d,Jl 1 a c] []) λp=>bS (O (.call 125) [Jr 0] (lP f p.fst p.snd)) λb p=>some [T.aw,Jb b,T.aa 1 p.fst p.snd]):=by kernel_rfl
theorem B4(O:au)(s e c bz:Bool)(d a:JL):az ao ann O (Key.call 94) [Jr 0,Jr 0,AV.t (T.ptr [Jb c,T.aa 1 bz a])] (Y6 s e d)=
 (bif s==c then G4 (O (.call 126) [Jl 1 e d,Jl 1 bz a] []) λp=>bS (O (.call 125) [Jr 0] (lP s p.fst p.snd)) λb p=>some [T.aw,Jb b,T.aa 1 p.fst p.snd] else G9 (O (.call 116) [AV.t (T.ptr [Jb s,T.aa 1 e d]),AV.t (T.ptr [Jb c,T.aa 1 bz a])] []) λn=>bif decide (n>=0) then G4 (O (.call 127) [Jl 1 e d,Jl 1 bz a] []) λp=>bS (O (.call 125) [Jr 0] (lP s p.fst p.snd)) λb p=>some [T.aw,Jb b,T.aa 1 p.fst p.snd] else G4 (O (.call 127) [Jl 1 bz a,Jl 1 e d] []) λp=>bS (O (.call 125) [Jr 0] (lP c p.fst p.snd)) λb p=>some [T.aw,Jb b,T.aa 1 p.fst p.snd]):=by kernel_rfl
theorem NS(O:au)(s e c bz:Bool)(d a:JL):az ao ann O (Key.call 148) [Jr 0,Jr 0,AV.t (T.ptr [Jb c,T.aa 1 bz a])] (Y6 s e d)=
 (bS (O (.call 118) [Jr 0,AV.t (T.ptr [Jb c,T.aa 1 bz a])] (Y4)) λb p=>bS (O (.call 94) [Jr 0,Jr 0,AV.t (T.ptr [Jb b,T.aa 1 p.fst p.snd])] (Y6 s e d)) λb p=>some [T.aw,Jb b,T.aa 1 p.fst p.snd]):=by kernel_rfl
theorem NT(O:au)(s d c e bz:Bool)(y:T)(a b:JL):az ao ann O (Key.call 91) [Jr 0,AV.t (T.ptr [Jb d,T.aa 1 c a]),AV.t (T.ptr [Jb e,T.aa 1 bz b])] (Y2 s y)=
 (Jg (br (i64.wrap ((a.length:Int)+ (b.length:Int))) (i64.wrap ((a.length:Int)+ (b.length:Int)))) λx=>O uf [Jr 0,AV.t (T.ptr [Jb d,T.aa 1 c a]),AV.t (T.ptr [Jb e,T.aa 1 bz b]),Jo 1,Jl 1 c a,I (a.length:Int),I 0] [ab.box [B s,AV.t y],ab.sl false 1 false (List.replicate (i64.wrap ((a.length:Int)+ (b.length:Int))).toNat [T.int u32 0])]):=by kernel_rfl
theorem GL(O:au)(e g f a k h j:Bool)(l c m q:JL)(o d:Int)(i:T):az ao ann O uf [Jr 0,AV.t (T.ptr [Jb e,T.aa 1 g l]),AV.t (T.ptr [Jb f,T.aa 1 a c]),Jo 1,Jl 1 k m,I o,I d] (uD h i j q)=
 (bif decide (d < o) then cN d m λn=>O xt [Jr 0,AV.t (T.ptr [Jb e,T.aa 1 g l]),AV.t (T.ptr [Jb f,T.aa 1 a c]),Jo 1,I d,AV.t (T.int u32 n),AV.t (T.int u64 0),Jl 1 k m,I o,I d,Jl 1 a c,I (c.length:Int),I 0] (uD h i j q) else bS (O (.call 125) [Jr 0] [ab.box [B !e==f,Jo 1],ab.sl false 1 j q]) λb p=>some [T.aw,Jb b,T.aa 1 p.fst p.snd]):=by kernel_rfl
theorem GM(O:au)(j d m e i q f p:Bool)(k b r v h:JL)(c y o s u w a:Int)(g:T):az ao ann O xt [Jr 0,AV.t (T.ptr [Jb j,T.aa 1 d k]),AV.t (T.ptr [Jb m,T.aa 1 e b]),Jo 1,I c,AV.t (T.int u32 y),AV.t (T.int u64 o),Jl 1 i r,I s,I u,Jl 1 q v,I w,I a] (uD f g p h)=
 (bif decide (a < w) then cN a v λn=>Jg (if 0<=i64.wrap (c+a)/\i64.wrap (c+a) < (h.length:Int) then some () else none) λx=>dM h[(i64.wrap (c+a)).toNat]? λz=>Jg (if 0<=i64.wrap (c+a)/\i64.wrap (c+a) < (h.length:Int) then some () else none) λx=>Jg (bo (i64.wrap (c+a)).toNat 0 [T.int u32 (u32.wrap (u64.wrap (o+u64.wrap (u64.wrap (u64.wrap y * u64.wrap n)+u64.wrap z))))] h) λl=>O xt [Jr 0,AV.t (T.ptr [Jb j,T.aa 1 d k]),AV.t (T.ptr [Jb m,T.aa 1 e b]),Jo 1,I c,AV.t (T.int u32 y),AV.t (T.int u64 ((u64.wrap (o+u64.wrap (u64.wrap (u64.wrap y * u64.wrap n)+u64.wrap z))).fdiv (2 ^ 32))),Jl 1 i r,I s,I u,Jl 1 q v,I w,I (Jw a)] (uD f g p l) else Jg (if 0<=i64.wrap (c+ (b.length:Int))/\i64.wrap (c+ (b.length:Int)) < (h.length:Int) then some () else none) λx=>Jg (bo (i64.wrap (c+ (b.length:Int))).toNat 0 [T.int u32 (u32.wrap o)] h) λl=>O uf [Jr 0,AV.t (T.ptr [Jb j,T.aa 1 d k]),AV.t (T.ptr [Jb m,T.aa 1 e b]),Jo 1,Jl 1 i r,I s,I (Jw u)] (uD f g p l)):=by kernel_rfl
theorem sE(O:au)(s l h j bz m:Bool)(y n:T)(k i:JL):az ao ann O (Key.call 138) [Jr 0,AV.t (T.ptr [Jb l,T.aa 1 h k]),AV.t (T.ptr [Jb j,T.aa 1 bz i]),Jr 1] [ab.box [B s,AV.t y],ab.box [B m,AV.t n]]=
 (bS (O (.call 114) [Jr 0,AV.t (T.ptr [Jb j,T.aa 1 bz i])] (Y4)) λb p=>tZ (O (.call 139) [Jr 0,AV.t (T.ptr [Jb l,T.aa 1 h k]),AV.t (T.ptr [Jb j,T.aa 1 bz i]),Jr 1] [ab.box [B s,AV.t y],ab.box [B m,AV.t n]]) λf a e c=>bif e then bif b then fF (O (.call 72) [I 1] []) λx=>bS (O (.call 94) [Jr 0,Jr 0,AV.t x] (Y6 f a.fst a.snd)) λg d=>bS (O (.call 148) [Jr 0,Jr 0,AV.t (T.ptr [Jb b,T.aa 1 p.fst p.snd])] (Y6 e c.fst c.snd)) λb p=>some [T.aw,T.aw,Jb g,T.aa 1 d.fst d.snd,Jb b,T.aa 1 p.fst p.snd] else fF (O (.call 72) [I 1] []) λx=>bS (O (.call 148) [Jr 0,Jr 0,AV.t x] (Y6 f a.fst a.snd)) λg d=>bS (O (.call 94) [Jr 0,Jr 0,AV.t (T.ptr [Jb b,T.aa 1 p.fst p.snd])] (Y6 e c.fst c.snd)) λb p=>some [T.aw,T.aw,Jb g,T.aa 1 d.fst d.snd,Jb b,T.aa 1 p.fst p.snd] else some [T.aw,T.aw,Jb f,T.aa 1 a.fst a.snd,Jb e,T.aa 1 c.fst c.snd]):=by kernel_rfl
theorem yR(O:au)(s f d i bz k:Bool)(y l:T)(h j:JL):az ao ann O (Key.call 139) [Jr 0,AV.t (T.ptr [Jb f,T.aa 1 d h]),AV.t (T.ptr [Jb i,T.aa 1 bz j]),Jr 1] [ab.box [B s,AV.t y],ab.box [B k,AV.t l]]=
 (G9 (O (.call 116) [AV.t (T.ptr [Jb f,T.aa 1 d h]),AV.t (T.ptr [Jb i,T.aa 1 bz j])] []) λn=>bif decide (n < 0) then bS (O (.call 114) [Jr 0,AV.t (T.ptr [Jb f,T.aa 1 d h])] (Y2 k l)) λb p=>bS (O (.call 115) [Jr 0,I 0] (Y2 s y)) λc a=>some [T.aw,T.aw,Jb c,T.aa 1 a.fst a.snd,Jb b,T.aa 1 p.fst p.snd] else bif decide ((h.length:Int) < 3) then rI (O (.call 111) [AV.t (T.ptr [Jb f,T.aa 1 d h])] []) λn=>rI (O (.call 111) [AV.t (T.ptr [Jb i,T.aa 1 bz j])] []) λg=>Jg (if g=0 then none else some ()) λx=>bS (O (.call 112) [Jr 0,AV.t (T.int u64 (u64.wrap (n.tdiv g)))] (Y2 s y)) λb p=>Jg (if g=0 then none else some ()) λx=>bS (O (.call 112) [Jr 0,AV.t (T.int u64 (n.tmod g))] (Y2 k l)) λb a=>bS (O (.call 125) [Jr 0] [ab.box [B !f==i,Jl 1 p.fst p.snd]]) λb p=>bS (O (.call 125) [Jr 0] (Y6 f a.fst a.snd)) λc e=>some [T.aw,T.aw,Jb b,T.aa 1 p.fst p.snd,Jb c,T.aa 1 e.fst e.snd] else tX (O (.call 149) [Jl 1 d h,Jl 1 bz j] []) λp a=>bS (O (.call 125) [Jr 0] [ab.box [B !f==i,Jo 1],ab.sl false 1 p.fst p.snd]) λb p=>bS (O (.call 125) [Jr 0] (lP f a.fst a.snd)) λc e=>some [T.aw,T.aw,Jb b,T.aa 1 p.fst p.snd,Jb c,T.aa 1 e.fst e.snd]):=by kernel_rfl
theorem GW(O:au)(a b:Bool)(x y:JL):az ao ann O (Key.call 126) [Jl 1 a x,Jl 1 b y] []=
 (bif decide ((x.length:Int) < (y.length:Int)) then Jg (br (i64.wrap ((y.length:Int)+1)) (i64.wrap ((y.length:Int)+1))) λc=>O rV [Jl 1 b y,Jl 1 a x,Jo 0,AV.t (T.int u64 0),Jl 1 b y,I (y.length:Int),I 0] [ab.sl false 1 false (List.replicate (i64.wrap ((y.length:Int)+1)).toNat [T.int u32 0])] else Jg (br (i64.wrap ((x.length:Int)+1)) (i64.wrap ((x.length:Int)+1))) λc=>O rV [Jl 1 a x,Jl 1 b y,Jo 0,AV.t (T.int u64 0),Jl 1 a x,I (x.length:Int),I 0] [ab.sl false 1 false (List.replicate (i64.wrap ((x.length:Int)+1)).toNat [T.int u32 0])]):=by kernel_rfl
theorem GX(O:au)(i j c d:Bool)(g k e b:JL)(h f a:Int):az ao ann O rV [Jl 1 i g,Jl 1 j k,Jo 0,AV.t (T.int u64 h),Jl 1 c e,I f,I a] (Y1 d b)=
 (bif decide (a < f) then cN a e λn=>bif decide (a < (k.length:Int)) then cN a k λm=>ae none (if 0<=a/\a < (b.length:Int) then some () else none) λx=>Jg (bo a.toNat 0 [T.int u32 (u32.wrap (u64.wrap (u64.wrap (h+u64.wrap n)+u64.wrap m)))] b) λl=>O rV [Jl 1 i g,Jl 1 j k,Jo 0,AV.t (T.int u64 ((u64.wrap (u64.wrap (h+u64.wrap n)+u64.wrap m)).fdiv (2 ^ 32))),Jl 1 c e,I f,I (Jw a)] (Y1 d l) else ae none (if 0<=a/\a < (b.length:Int) then some () else none) λx=>Jg (bo a.toNat 0 [T.int u32 (u32.wrap (u64.wrap (h+u64.wrap n)))] b) λl=>O rV [Jl 1 i g,Jl 1 j k,Jo 0,AV.t (T.int u64 ((u64.wrap (h+u64.wrap n)).fdiv (2 ^ 32))),Jl 1 c e,I f,I (Jw a)] (Y1 d l) else Jg (if 0<=(g.length:Int)/\(g.length:Int) < (b.length:Int) then some () else none) λx=>Jg (bo (g.length:Int).toNat 0 [T.int u32 (u32.wrap h)] b) λl=>some [T.aa 1 d l]):=by kernel_rfl
theorem N7(O:au)(a b:Bool)(x y:JL):az ao ann O (Key.call 127) [Jl 1 a x,Jl 1 b y] []=
 (Jg (br (x.length:Int) (x.length:Int)) λc=>O ug [Jl 1 b y,Jo 0,AV.t (T.int u64 0),Jl 1 a x,I (x.length:Int),I 0] [ab.sl false 1 false (List.replicate (x.length:Int).toNat [T.int u32 0])]):=by kernel_rfl
theorem GZ(O:au)(g b c:Bool)(h d f:JL)(i e a:Int):az ao ann O ug [Jl 1 g h,Jo 0,AV.t (T.int u64 i),Jl 1 b d,I e,I a] (Y1 c f)=
 (bif decide (a < e) then cN a d λn=>bif decide (a < (h.length:Int)) then cN a h λj=>ae none (if 0<=a/\a < (f.length:Int) then some () else none) λx=>Jg (bo a.toNat 0 [T.int u32 (u32.wrap (u64.wrap (u64.wrap (u64.wrap n - i) - u64.wrap j)))] f) λl=>O ug [Jl 1 g h,Jo 0,AV.t (T.int u64 ((u64.wrap (u64.wrap (u64.wrap n - i) - u64.wrap j)).fdiv (2 ^ 63))),Jl 1 b d,I e,I (Jw a)] (Y1 c l) else ae none (if 0<=a/\a < (f.length:Int) then some () else none) λx=>Jg (bo a.toNat 0 [T.int u32 (u32.wrap (u64.wrap (u64.wrap n - i)))] f) λl=>O ug [Jl 1 g h,Jo 0,AV.t (T.int u64 ((u64.wrap (u64.wrap n - i)).fdiv (2 ^ 63))),Jl 1 b d,I e,I (Jw a)] (Y1 c l) else some [T.aa 1 c f]):=by kernel_rfl
theorem N6(O:au)(d c e bz:Bool)(a b:JL):az ao ann O (Key.call 116) [AV.t (T.ptr [Jb d,T.aa 1 c a]),AV.t (T.ptr [Jb e,T.aa 1 bz b])] []=
 (bif !(a.length:Int)== (b.length:Int) then bif decide ((a.length:Int) < (b.length:Int)) then some [Ji (-1)] else some [Ji 1] else O xA [AV.t (T.ptr [Jb d,T.aa 1 c a]),AV.t (T.ptr [Jb e,T.aa 1 bz b]),I (i64.wrap ((a.length:Int) - 1))] []):=by kernel_rfl
theorem GY(O:au)(f d g e:Bool)(a b:JL)(c:Int):az ao ann O xA [AV.t (T.ptr [Jb f,T.aa 1 d a]),AV.t (T.ptr [Jb g,T.aa 1 e b]),I c] []=
 (bif decide (c>=0) then cN c a λn=>cN c b λh=>bif !n==h then cN c a λn=>cN c b λi=>bif decide (n < i) then some [Ji (-1)] else some [Ji 1] else O xA [AV.t (T.ptr [Jb f,T.aa 1 d a]),AV.t (T.ptr [Jb g,T.aa 1 e b]),I (i64.wrap (c - 1))] [] else some [Ji 0]):=by kernel_rfl
theorem Ob(O:au)(s c b:Bool)(y:T)(a:JL)(d:List T):az ao ann O (Key.call 114) [Jr 0,AV.t (T.ptr (Jb c::T.aa 1 b a::d))] (Y2 s y)=
 (Jg (bu 4 a.length) λx=>some [T.aw,Jb c,T.aa 1 false a]):=by kernel_rfl
theorem N9(O:au)(s t c b:Bool)(y u:T)(a:JL):az ao ann O (Key.call 114) [Jr 0,AV.t (T.ptr [Jb c,T.aa 1 b a])] (Y8 s y t u)=
 (Jg (bu 4 a.length) λx=>some [T.aw,Jb c,T.aa 1 false a,Jb t,u]):=by kernel_rfl
theorem Oa(O:au)(s t d b:Bool)(y u:T)(a:JL):az ao ann O (Key.call 114) [AV.ref (Id.c 0) 2,AV.t (T.ptr [Jb d,T.aa 1 b a])] (Y8 s y t u)=
 (Jg (bu 4 a.length) λx=>some [T.aw,Jb s,y,Jb d,T.aa 1 false a]):=by kernel_rfl
theorem Oc(O:au)(s e:Bool)(d:JL):az ao ann O (Key.call 114) [Jr 0,Jr 0] (Y6 s e d)=
 (Jg (bu 4 d.length) λx=>some [T.aw,Jb s,T.aa 1 false d]):=by kernel_rfl
theorem NX(O:au)(s e a:Bool)(y:T)(c:JL)(d:List T):az ao ann O (Key.call 118) [Jr 0,AV.t (T.ptr (Jb e::T.aa 1 a c::d))] (Y2 s y)=
 (bS (O (.call 114) [Jr 0,AV.t (T.ptr (Jb e::T.aa 1 a c::d))] (Y2 s y)) λb p=>some [T.aw,Jb (bif !b then decide ((p.snd.length:Int) > 0) else false),T.aa 1 p.fst p.snd]):=by kernel_rfl
theorem NY(O:au)(s e:Bool)(d:JL):az ao ann O (Key.call 118) [Jr 0,Jr 0] (Y6 s e d)=
 (bS (O (.call 114) [Jr 0,Jr 0] (Y6 s e d)) λb p=>some [T.aw,Jb (bif !b then decide ((p.snd.length:Int) > 0) else false),T.aa 1 p.fst p.snd]):=by kernel_rfl
theorem Od(O:au)(s d a:Bool)(y:T)(c:JL):az ao ann O (Key.call 110) [Jr 0,AV.t (T.ptr [Jb d,T.aa 1 a c])] (Y2 s y)=
 (bS (O (.call 114) [Jr 0,AV.t (T.ptr [Jb d,T.aa 1 a c])] (Y2 s y)) λb p=>some [T.aw,Jb false,T.aa 1 p.fst p.snd]):=by kernel_rfl
theorem Oe(O:au)(c b:Bool)(a:JL)(d:List T):az ao ann O (Key.call 75) [AV.t (T.ptr (Jb c::T.aa 1 b a::d))] []=
 (bif (a.length:Int)==0 then some [Ji 0] else bif c then some [Ji (-1)] else some [Ji 1]):=by kernel_rfl
theorem yS(O:au)(s e a f bz:Bool)(y:T)(c d:JL):az ao ann O (Key.call 113) [Jr 0,AV.t (T.ptr [Jb e,T.aa 1 a c]),AV.t (T.ptr [Jb f,T.aa 1 bz d])] (Y2 s y)=
 (tZ (O (.call 138) [Jr 0,AV.t (T.ptr [Jb e,T.aa 1 a c]),AV.t (T.ptr [Jb f,T.aa 1 bz d]),Jr 1] [ab.box [B false,AV.t (T.aK true)],ab.box [B s,AV.t y]]) λb p b p=>some [T.aw,Jb b,T.aa 1 p.fst p.snd]):=by kernel_rfl
theorem Oi(O:au)(s e a f bz:Bool)(y:T)(c d:JL):az ao ann O (Key.call 117) [Jr 0,AV.t (T.ptr [Jb e,T.aa 1 a c]),AV.t (T.ptr [Jb f,T.aa 1 bz d])] (Y2 s y)=
 (tZ (O (.call 139) [Jr 0,AV.t (T.ptr [Jb e,T.aa 1 a c]),AV.t (T.ptr [Jb f,T.aa 1 bz d]),Jr 1] [ab.box [B s,AV.t y],ab.box [B false,AV.t (T.aK true)]]) λb p g h=>some [T.aw,Jb b,T.aa 1 p.fst p.snd]):=by kernel_rfl
theorem GU(O:au)(a b c bz:Bool)(d e:JL):az ao ann O (Key.call 73) [AV.t (T.ptr [Jb a,T.aa 1 b d]),AV.t (T.ptr [Jb c,T.aa 1 bz e])] []=
 (bif !a==c then bif a then some [Ji (-1)] else some [Ji 1] else bif a then G9 (O (.call 116) [AV.t (T.ptr [Jb c,T.aa 1 bz e]),AV.t (T.ptr [Jb a,T.aa 1 b d])] []) λn=>some [Ji n] else G9 (O (.call 116) [AV.t (T.ptr [Jb a,T.aa 1 b d]),AV.t (T.ptr [Jb c,T.aa 1 bz e])] []) λn=>some [Ji n]):=by kernel_rfl
theorem yP(O:au)(s g a h bz:Bool)(y:T)(e f:JL):az ao ann O (Key.call 71) [Jr 0,AV.t T.aw,AV.t T.aw,AV.t (T.ptr [Jb g,T.aa 1 a e]),AV.t (T.ptr [Jb h,T.aa 1 bz f])] (Y2 s y)=
 (bS (O (.call 110) [Jr 0,AV.t (T.ptr [Jb g,T.aa 1 a e])] (Y4)) λb p=>bS (O (.call 110) [Jr 0,AV.t (T.ptr [Jb h,T.aa 1 bz f])] (Y4)) λd c=>O xy [Jr 0,AV.t (T.ptr [Jb b,T.aa 1 p.fst p.snd]),AV.t (T.ptr [Jb d,T.aa 1 c.fst c.snd])] (Y2 s y)):=by kernel_rfl
theorem B7(O:au)(g d f a h:Bool)(e c:JL)(i:T):az ao ann O xy [Jr 0,AV.t (T.ptr [Jb g,T.aa 1 d e]),AV.t (T.ptr [Jb f,T.aa 1 a c])] (Y2 h i)=
 (G9 (O (.call 75) [AV.t (T.ptr [Jb f,T.aa 1 a c])] []) λn=>bif !n==0 then bif bif decide ((e.length:Int) < 3) then decide ((c.length:Int) < 3) else false then rI (O (.call 111) [AV.t (T.ptr [Jb g,T.aa 1 d e])] []) λn=>rI (O (.call 111) [AV.t (T.ptr [Jb f,T.aa 1 a c])] []) λj=>O xz [Jr 0,AV.t (T.int u64 n),AV.t (T.int u64 j)] (Y2 h i) else bS (O (.call 113) [Jr 0,AV.t (T.ptr [Jb g,T.aa 1 d e]),AV.t (T.ptr [Jb f,T.aa 1 a c])] (Y4)) λb p=>O xy [Jr 0,AV.t (T.ptr [Jb f,T.aa 1 a c]),AV.t (T.ptr [Jb b,T.aa 1 p.fst p.snd])] (Y2 h i) else bS (O (.call 114) [Jr 0,AV.t (T.ptr [Jb g,T.aa 1 d e])] (Y2 h i)) λb p=>some [T.aw,Jb b,T.aa 1 p.fst p.snd]):=by kernel_rfl
theorem GS(O:au)(e a:Int)(c:Bool)(d:T):az ao ann O xz [Jr 0,AV.t (T.int u64 e),AV.t (T.int u64 a)] (Y2 c d)=
 (bif decide (a > 0) then Jg (if a=0 then none else some ()) λx=>O xz [Jr 0,AV.t (T.int u64 a),AV.t (T.int u64 (e.tmod a))] (Y2 c d) else bS (O (.call 112) [Jr 0,AV.t (T.int u64 e)] (Y2 c d)) λb p=>some [T.aw,Jb b,T.aa 1 p.fst p.snd]):=by kernel_rfl
theorem GV(O:au)(s t o j q bz:Bool)(y u:T)(m n:JL):az ao ann O (Key.call 74) [Jr 0,AV.t (T.ptr [Jb o,T.aa 1 j m]),AV.t (T.ptr [Jb q,T.aa 1 bz n])] (Y8 s y t u)=
 (bS (O (.call 71) [Jr 0,AV.t T.aw,AV.t T.aw,AV.t (T.ptr [Jb o,T.aa 1 j m]),AV.t (T.ptr [Jb q,T.aa 1 bz n])] (Y4)) λb p=>bS (O (.call 117) [Jr 0,AV.t (T.ptr [Jb o,T.aa 1 j m]),AV.t (T.ptr [Jb b,T.aa 1 p.fst p.snd])] (Y4)) λk f=>bS (O (.call 117) [Jr 0,AV.t (T.ptr [Jb q,T.aa 1 bz n]),AV.t (T.ptr [Jb b,T.aa 1 p.fst p.snd])] (Y4)) λb p=>bif b then bS (O (.call 118) [Jr 0,Jr 0] (Y6 k f.fst f.snd)) λg a=>bS (O (.call 118) [Jr 0,Jr 0] (Y6 b p.fst p.snd)) λb p=>jW (O (.call 114) [Jr 0,AV.t (T.ptr [Jb g,T.aa 1 a.fst a.snd])] (Y8 s y t u)) λh d i e=>jW (O (.call 114) [AV.ref (Id.c 0) 2,AV.t (T.ptr [Jb b,T.aa 1 p.fst p.snd])] (E4 h d.fst d.snd i e.fst e.snd)) λb p r l=>some [T.aw,Jb b,T.aa 1 p.fst p.snd,Jb r,T.aa 1 l.fst l.snd] else jW (O (.call 114) [Jr 0,AV.t (T.ptr [Jb k,T.aa 1 f.fst f.snd])] (Y8 s y t u)) λg a h d=>jW (O (.call 114) [AV.ref (Id.c 0) 2,AV.t (T.ptr [Jb b,T.aa 1 p.fst p.snd])] (E4 g a.fst a.snd h d.fst d.snd)) λb p i e=>some [T.aw,Jb b,T.aa 1 p.fst p.snd,Jb i,T.aa 1 e.fst e.snd]):=by kernel_rfl
theorem Ca(O:au)(f a g d:Bool)(c e:JL):az ao ann O (Key.call 92) [AV.t (T.ptr [Jb f,T.aa 1 a c,Jb g,T.aa 1 d e])] []=
 (bS (O (.call 114) [Jr 0,AV.t (T.ptr [Jb f,T.aa 1 a c,Jb g,T.aa 1 d e])] (Y4)) λb p=>some [T.ptr [Jb b,T.aa 1 p.fst p.snd]]):=by kernel_rfl
theorem Og(O:au)(g e d a:Bool)(f c:JL):az ao ann O (Key.call 93) [AV.t (T.ptr [Jb g,T.aa 1 e f,Jb d,T.aa 1 a c])] []=
 (G9 (O (.call 75) [AV.t (T.ptr [Jb d,T.aa 1 a c])] []) λn=>bif n==0 then fF (O (.call 72) [I 1] []) λx=>some [x] else bS (O (.call 114) [Jr 0,AV.t (T.ptr [Jb d,T.aa 1 a c])] (Y4)) λb p=>some [T.ptr [Jb b,T.aa 1 p.fst p.snd]]):=by kernel_rfl
theorem N4(O:au)(e a f c:Bool)(b d:JL):az ao ann O (Key.call 37) [AV.t (T.ptr [Jb e,T.aa 1 a b,Jb f,T.aa 1 c d])] []=
 (G9 (O (.call 75) [AV.t (T.ptr [Jb e,T.aa 1 a b,Jb f,T.aa 1 c d])] []) λn=>some [Ji n]):=by kernel_rfl
theorem B8(O:au)(s t k a m g l bz n h:Bool)(y u:T)(e i f j:JL):az ao ann O (Key.call 46) [Jr 0,AV.t (T.ptr [Jb k,T.aa 1 a e,Jb m,T.aa 1 g i]),AV.t (T.ptr [Jb l,T.aa 1 bz f,Jb n,T.aa 1 h j])] (Y8 s y t u)=
 (fF (O (.call 92) [AV.t (T.ptr [Jb k,T.aa 1 a e,Jb m,T.aa 1 g i])] []) λx=>fF (O (.call 92) [AV.t (T.ptr [Jb l,T.aa 1 bz f,Jb n,T.aa 1 h j])] []) λr=>bS (O (.call 91) [Jr 0,AV.t x,AV.t r] (Y4)) λb p=>fF (O (.call 93) [AV.t (T.ptr [Jb k,T.aa 1 a e,Jb m,T.aa 1 g i])] []) λx=>fF (O (.call 93) [AV.t (T.ptr [Jb l,T.aa 1 bz f,Jb n,T.aa 1 h j])] []) λv=>bS (O (.call 91) [Jr 0,AV.t x,AV.t v] (Y4)) λo c=>jW (O (.call 74) [Jr 0,AV.t (T.ptr [Jb b,T.aa 1 p.fst p.snd]),AV.t (T.ptr [Jb o,T.aa 1 c.fst c.snd])] (Y8 s y t u)) λb p q d=>some [T.aw,Jb b,T.aa 1 p.fst p.snd,Jb q,T.aa 1 d.fst d.snd]):=by kernel_rfl
theorem N2(O:au)(s t i a k e j bz l f:Bool)(y u:T)(c g d h:JL):az ao ann O (Key.call 47) [Jr 0,AV.t (T.ptr [Jb i,T.aa 1 a c,Jb k,T.aa 1 e g]),AV.t (T.ptr [Jb j,T.aa 1 bz d,Jb l,T.aa 1 f h])] (Y8 s y t u)=
 (fF (O (.call 92) [AV.t (T.ptr [Jb i,T.aa 1 a c,Jb k,T.aa 1 e g])] []) λx=>fF (O (.call 93) [AV.t (T.ptr [Jb j,T.aa 1 bz d,Jb l,T.aa 1 f h])] []) λw=>bS (O (.call 91) [Jr 0,AV.t x,AV.t w] (Y4)) λb p=>fF (O (.call 92) [AV.t (T.ptr [Jb j,T.aa 1 bz d,Jb l,T.aa 1 f h])] []) λx=>fF (O (.call 93) [AV.t (T.ptr [Jb i,T.aa 1 a c,Jb k,T.aa 1 e g])] []) λz=>bS (O (.call 91) [Jr 0,AV.t x,AV.t z] (Y4)) λq m=>bS (O (.call 94) [Jr 0,Jr 0,AV.t (T.ptr [Jb q,T.aa 1 m.fst m.snd])] (Y6 b p.fst p.snd)) λb p=>fF (O (.call 93) [AV.t (T.ptr [Jb i,T.aa 1 a c,Jb k,T.aa 1 e g])] []) λx=>fF (O (.call 93) [AV.t (T.ptr [Jb j,T.aa 1 bz d,Jb l,T.aa 1 f h])] []) λA=>bS (O (.call 91) [Jr 0,AV.t x,AV.t A] (Y4)) λr n=>jW (O (.call 74) [Jr 0,AV.t (T.ptr [Jb b,T.aa 1 p.fst p.snd]),AV.t (T.ptr [Jb r,T.aa 1 n.fst n.snd])] (Y8 s y t u)) λb p v o=>some [T.aw,Jb b,T.aa 1 p.fst p.snd,Jb v,T.aa 1 o.fst o.snd]):=by kernel_rfl
theorem N3(O:au)(s t m a o i n bz q j:Bool)(y u:T)(g k h l:JL):az ao ann O (Key.call 48) [Jr 0,AV.t (T.ptr [Jb m,T.aa 1 a g,Jb o,T.aa 1 i k]),AV.t (T.ptr [Jb n,T.aa 1 bz h,Jb q,T.aa 1 j l])] (Y8 s y t u)=
 (jW (O (.call 95) [Jr 0,AV.t (T.ptr [Jb n,T.aa 1 bz h,Jb q,T.aa 1 j l])] (Y5)) λb p e c=>jW (O (.call 47) [Jr 0,AV.t (T.ptr [Jb m,T.aa 1 a g,Jb o,T.aa 1 i k]),AV.t (T.ptr [Jb b,T.aa 1 p.fst p.snd,Jb e,T.aa 1 c.fst c.snd])] (Y8 s y t u)) λb p f d=>some [T.aw,Jb b,T.aa 1 p.fst p.snd,Jb f,T.aa 1 d.fst d.snd]):=by kernel_rfl
theorem Oh(O:au)(s t g a h e:Bool)(y u:T)(d f:JL):az ao ann O (Key.call 95) [Jr 0,AV.t (T.ptr [Jb g,T.aa 1 a d,Jb h,T.aa 1 e f])] (Y8 s y t u)=
 (bS (O (.call 118) [Jr 0,AV.t (T.ptr [Jb g,T.aa 1 a d,Jb h,T.aa 1 e f])] (Y4)) λb p=>fF (O (.call 93) [AV.t (T.ptr [Jb g,T.aa 1 a d,Jb h,T.aa 1 e f])] []) λx=>jW (O (.call 74) [Jr 0,AV.t (T.ptr [Jb b,T.aa 1 p.fst p.snd]),AV.t x] (Y8 s y t u)) λb p i c=>some [T.aw,Jb b,T.aa 1 p.fst p.snd,Jb i,T.aa 1 c.fst c.snd]):=by kernel_rfl
theorem NU(O:au)(k a m g l bz o h:Bool)(e i f j:JL):az ao ann O (Key.call 17) [AV.t (T.ptr [Jb k,T.aa 1 a e,Jb m,T.aa 1 g i]),AV.t (T.ptr [Jb l,T.aa 1 bz f,Jb o,T.aa 1 h j])] []=
 (jW (O (.call 48) [Jr 0,AV.t (T.ptr [Jb k,T.aa 1 a e,Jb m,T.aa 1 g i]),AV.t (T.ptr [Jb l,T.aa 1 bz f,Jb o,T.aa 1 h j])] (Y5)) λb p d c=>G9 (O (.call 37) [AV.t (T.ptr [Jb b,T.aa 1 p.fst p.snd,Jb d,T.aa 1 c.fst c.snd])] []) λn=>some [Ji n]):=by kernel_rfl
theorem yN(O:au)(n m:Int):az ao ann O (Key.call 36) [I n,I m] []=
 (fF (O (.call 72) [I n] []) λx=>fF (O (.call 72) [I m] []) λd=>jW (O (.call 74) [Jr 0,AV.t x,AV.t d] (Y5)) λb p c a=>some [T.ptr [Jb b,T.aa 1 p.fst p.snd,Jb c,T.aa 1 a.fst a.snd]]):=by kernel_rfl
theorem N1(O:au)(n m:Int):az ao ann O (Key.call 18) [AV.agg [I n,I m]] []=
 (fF (O (.call 36) [I n,I m] []) λx=>some [x]):=by kernel_rfl
theorem uU(O:au)(b a:Bool)(of n:JL):az ao ann O (Key.call 16) [Jl 1 b of,Jl 2 a n] []=
 (fF (O (.call 36) [I 0,I 1] []) λx=>O Mb [Jl 1 b of,Jl 2 a n,AV.t x,I 0] []):=by kernel_rfl
theorem Oj(O:au)(a:Bool)(x:JL)(n:Int):az ao ann O (Key.call 150) [Jl 1 a x,I n] []=
 (Jg (br (i64.wrap (i64.wrap ((x.length:Int)+i64.wrap (n.tdiv 32))+1)) (i64.wrap (i64.wrap ((x.length:Int)+i64.wrap (n.tdiv 32))+1))) λb=>O xE [I n,Jo 0,Jl 1 a x,I (x.length:Int),I 0] [ab.sl false 1 false (List.replicate (i64.wrap (i64.wrap ((x.length:Int)+i64.wrap (n.tdiv 32))+1)).toNat [T.int u32 0])]):=by kernel_rfl
theorem Hf(O:au)(b g a:Int)(e d:Bool)(f c:JL):az ao ann O xE [I b,Jo 0,Jl 1 e f,I g,I a] (Y1 d c)=
 (bif decide (a < g) then cN a f λn=>Jg (if b.tmod 32 < 0 then none else some ()) λx=>Jg (if 0<=i64.wrap (a+i64.wrap (b.tdiv 32))/\i64.wrap (a+i64.wrap (b.tdiv 32)) < (c.length:Int) then some () else none) λx=>dM c[(i64.wrap (a+i64.wrap (b.tdiv 32))).toNat]? λh=>Jg (if 0<=i64.wrap (a+i64.wrap (b.tdiv 32))/\i64.wrap (a+i64.wrap (b.tdiv 32)) < (c.length:Int) then some () else none) λx=>Jg (bo (i64.wrap (a+i64.wrap (b.tdiv 32))).toNat 0 [T.int u32 (u32.wrap (↑(BitVec.ofInt 32 h ||| BitVec.ofInt 32 (u32.wrap (u64.wrap (u64.wrap n * 2 ^ min (b.tmod 32).toNat 64)))).toNat:Int))] c) λl=>Jg (if 0<=i64.wrap (i64.wrap (a+i64.wrap (b.tdiv 32))+1)/\i64.wrap (i64.wrap (a+i64.wrap (b.tdiv 32))+1) < (l.length:Int) then some () else none) λx=>Jg (bo (i64.wrap (i64.wrap (a+i64.wrap (b.tdiv 32))+1)).toNat 0 [T.int u32 (u32.wrap ((u64.wrap (u64.wrap n * 2 ^ min (b.tmod 32).toNat 64)).fdiv (2 ^ 32)))] l) λl=>O xE [I b,Jo 0,Jl 1 e f,I g,I (Jw a)] (Y1 d l) else some [T.aa 1 d c]):=by kernel_rfl
theorem Ok(O:au)(a:Bool)(x:JL)(n:Int):az ao ann O (Key.call 151) [Jl 1 a x,I n] []=
 (bif decide (i64.wrap (n.tdiv 32)>=(x.length:Int)) then some [T.aK true] else Jg (bQ (i64.wrap (n.tdiv 32)) (x.length:Int) (x.length:Int)) λb=>Jg (br (↑(sub (i64.wrap (n.tdiv 32)) (x.length:Int) x).length:Int) (↑(sub (i64.wrap (n.tdiv 32)) (x.length:Int) x).length:Int)) λc=>O uk [AV.t (T.aa 1 a (sub (i64.wrap (n.tdiv 32)) (x.length:Int) x)),I n,Jo 0,AV.t (T.aa 1 a (sub (i64.wrap (n.tdiv 32)) (x.length:Int) x)),I (↑(sub (i64.wrap (n.tdiv 32)) (x.length:Int) x).length:Int),I 0] [ab.sl false 1 false (List.replicate (↑(sub (i64.wrap (n.tdiv 32)) (x.length:Int) x).length:Int).toNat [T.int u32 0])]):=by kernel_rfl
theorem yT(O:au)(h c d:Bool)(g e i:JL)(b f a:Int):az ao ann O uk [Jl 1 h g,I b,Jo 0,Jl 1 c e,I f,I a] (Y1 d i)=
 (bif decide (a < f) then cN a e λn=>Jg (if b.tmod 32 < 0 then none else some ()) λx=>ae none (if 0<=a/\a < (i.length:Int) then some () else none) λx=>Jg (bo a.toNat 0 [T.int u32 (n.fdiv (2 ^ min (b.tmod 32).toNat 32))] i) λl=>bif bif decide (Jw a < (g.length:Int)) then decide (b.tmod 32 > 0) else false then cN a l λn=>Jg (if 0<=Jw a/\Jw a < (g.length:Int) then some () else none) λx=>dM g[(Jw a).toNat]? λj=>Jg (if i64.wrap (32 - b.tmod 32) < 0 then none else some ()) λx=>ae none (if 0<=a/\a < (l.length:Int) then some () else none) λx=>Jg (bo a.toNat 0 [T.int u32 (u32.wrap (↑(BitVec.ofInt 32 n ||| BitVec.ofInt 32 (u32.wrap (j * 2 ^ min (i64.wrap (32 - b.tmod 32)).toNat 32))).toNat:Int))] l) λl=>O uk [Jl 1 h g,I b,Jo 0,Jl 1 c e,I f,I (Jw a)] (Y1 d l) else O uk [Jl 1 h g,I b,Jo 0,Jl 1 c e,I f,I (Jw a)] (Y1 d l) else some [T.aa 1 d i]):=by kernel_rfl
theorem Ha(O:au)(a b:Bool)(x y:JL):az ao ann O (Key.call 149) [Jl 1 a x,Jl 1 b y] []=
 (bif (y.length:Int)==1 then Jg (br (x.length:Int) (x.length:Int)) λc=>O xD [Jl 1 a x,Jl 1 b y,Jo 0,AV.t (T.int u64 0),I (i64.wrap ((x.length:Int) - 1))] [ab.sl false 1 false (List.replicate (x.length:Int).toNat [T.int u32 0])] else O xB [Jl 1 a x,Jl 1 b y,I 0] []):=by kernel_rfl
theorem Hd(O:au)(f g c:Bool)(j b d:JL)(e a:Int):az ao ann O xD [Jl 1 f j,Jl 1 g b,Jo 0,AV.t (T.int u64 e),I a] (Y1 c d)=
 (bif decide (a>=0) then cN a j λn=>Jg (if(0:Int)<=0/\0 < (b.length:Int) then some () else none) λx=>dM b[0]? λh=>Jg (if u64.wrap h=0 then none else some ()) λx=>ae none (if 0<=a/\a < (d.length:Int) then some () else none) λx=>Jg (bo a.toNat 0 [T.int u32 (u32.wrap (u64.wrap ((u64.wrap (↑(BitVec.ofInt 64 (u64.wrap (e * 2 ^ 32)) ||| BitVec.ofInt 64 (u64.wrap n)).toNat:Int)).tdiv (u64.wrap h))))] d) λl=>Jg (if(0:Int)<=0/\0 < (b.length:Int) then some () else none) λx=>dM b[0]? λi=>Jg (if u64.wrap i=0 then none else some ()) λx=>O xD [Jl 1 f j,Jl 1 g b,Jo 0,AV.t (T.int u64 ((u64.wrap (↑(BitVec.ofInt 64 (u64.wrap (e * 2 ^ 32)) ||| BitVec.ofInt 64 (u64.wrap n)).toNat:Int)).tmod (u64.wrap i))),I (i64.wrap (a - 1))] (Y1 c l) else some [T.aa 1 c d,T.aa 1 false [[T.int u32 (u32.wrap e)]]]):=by kernel_rfl
theorem Hb(O:au)(d e:Bool)(f a:JL)(c:Int):az ao ann O xB [Jl 1 d f,Jl 1 e a,I c] []=
 (Jg (if 0<=i64.wrap ((a.length:Int) - 1)/\i64.wrap ((a.length:Int) - 1) < (a.length:Int) then some () else none) λx=>dM a[(i64.wrap ((a.length:Int) - 1)).toNat]? λn=>Jg (if c < 0 then none else some ()) λx=>bif (u32.wrap (n * 2 ^ min c.toNat 32)).fdiv (2 ^ 31)==0 then O xB [Jl 1 d f,Jl 1 e a,I (Jw c)] [] else G4 (O (.call 150) [Jl 1 e a,I c] []) λp=>Jg (bQ 0 (a.length:Int) (p.snd.length:Int)) λx=>G4 (O (.call 150) [Jl 1 d f,I c] []) λb=>Jg (br (b.snd.length:Int) (b.snd.length:Int)) λx=>O rW [I c,I (a.length:Int),AV.t (T.aa 1 p.fst (List.take ((a.length:Int).toNat - 0) (List.drop 0 p.snd))),Jo 0,Jo 1,I ((i64.wrap (i64.wrap ((b.snd.length:Int) - (a.length:Int)) - 1)))] [ab.sl false 1 b.fst b.snd,ab.sl false 1 false (List.replicate (b.snd.length:Int).toNat [T.int u32 0])]):=by kernel_rfl
theorem Hc(O:au)(l a b:Int)(g e f:Bool)(c d k:JL):az ao ann O rW [I l,I a,Jl 1 g c,Jo 0,Jo 1,I b] (Y3 e d f k)=
 (bif decide (b>=0) then Jg (if 0<=i64.wrap (b+a)/\i64.wrap (b+a) < (d.length:Int) then some () else none) λx=>dM d[(i64.wrap (b+a)).toNat]? λn=>Jg (if 0<=i64.wrap (i64.wrap (b+a) - 1)/\i64.wrap (i64.wrap (b+a) - 1) < (d.length:Int) then some () else none) λx=>dM d[(i64.wrap (i64.wrap (b+a) - 1)).toNat]? λh=>Jg (if 0<=i64.wrap (a - 1)/\i64.wrap (a - 1) < (c.length:Int) then some () else none) λx=>dM c[(i64.wrap (a - 1)).toNat]? λi=>Jg (if u64.wrap i=0 then none else some ()) λx=>Jg (if 0<=i64.wrap (a - 1)/\i64.wrap (a - 1) < (c.length:Int) then some () else none) λx=>dM c[(i64.wrap (a - 1)).toNat]? λj=>Jg (if u64.wrap j=0 then none else some ()) λx=>O xC [I l,I a,Jl 1 g c,Jo 0,Jo 1,I b,AV.t (T.int u64 (u64.wrap ((u64.wrap (↑(BitVec.ofInt 64 (u64.wrap (u64.wrap n * 2 ^ 32)) ||| BitVec.ofInt 64 (u64.wrap h)).toNat:Int)).tdiv (u64.wrap i)))),AV.t (T.int u64 ((u64.wrap (↑(BitVec.ofInt 64 (u64.wrap (u64.wrap n * 2 ^ 32)) ||| BitVec.ofInt 64 (u64.wrap h)).toNat:Int)).tmod (u64.wrap j)))] (Y3 e d f k) else Jg (bQ 0 a (d.length:Int)) λx=>G4 (O (.call 151) [AV.t (T.aa 1 e (List.take (a.toNat - 0) d)),I l] []) λp=>some [T.aa 1 f k,T.aa 1 p.fst p.snd]):=by kernel_rfl
theorem Cb(O:au)(k a e c h:Int)(d f g:Bool)(b i j:JL):az ao ann O xC [I k,I a,Jl 1 d b,Jo 0,Jo 1,I e,AV.t (T.int u64 c),AV.t (T.int u64 h)] (Y3 f i g j)=
 (ae (some !!c.fdiv (2 ^ 32)==0) (if 0<=i64.wrap (a - 2)/\i64.wrap (a - 2) < (b.length:Int) then some () else none) λx=>mG (some !!c.fdiv (2 ^ 32)==0) b[(i64.wrap (a - 2)).toNat]? λn=>ae (some !!c.fdiv (2 ^ 32)==0) (if 0<=i64.wrap (i64.wrap (e+a) - 2)/\i64.wrap (i64.wrap (e+a) - 2) < (i.length:Int) then some () else none) λx=>mG (some !!c.fdiv (2 ^ 32)==0) i[(i64.wrap (i64.wrap (e+a) - 2)).toNat]? λl=>bif bif !c.fdiv (2 ^ 32)==0 then true else decide (u64.wrap (c * u64.wrap n) > u64.wrap (↑(BitVec.ofInt 64 (u64.wrap (h * 2 ^ 32)) ||| BitVec.ofInt 64 (u64.wrap l)).toNat:Int)) then Jg (if 0<=i64.wrap (a - 1)/\i64.wrap (a - 1) < (b.length:Int) then some () else none) λx=>dM b[(i64.wrap (a - 1)).toNat]? λn=>bif !(u64.wrap (h+u64.wrap n)).fdiv (2 ^ 32)==0 then O mI [I k,I a,Jl 1 d b,Jo 0,Jo 1,I e,AV.t (T.int u64 (u64.wrap (c - 1))),AV.t (T.int u64 0),AV.t (T.int u64 0),Jl 1 d b,I (b.length:Int),I 0] (Y3 f i g j) else O xC [I k,I a,Jl 1 d b,Jo 0,Jo 1,I e,AV.t (T.int u64 (u64.wrap (c - 1))),AV.t (T.int u64 (u64.wrap (h+u64.wrap n)))] (Y3 f i g j) else O mI [I k,I a,Jl 1 d b,Jo 0,Jo 1,I e,AV.t (T.int u64 c),AV.t (T.int u64 0),AV.t (T.int u64 0),Jl 1 d b,I (b.length:Int),I 0] (Y3 f i g j)):=by kernel_rfl
theorem Cc(O:au)(r c a e g i k b:Int)(d p m o:Bool)(f j h q:JL):az ao ann O mI [I r,I c,Jl 1 d f,Jo 0,Jo 1,I a,AV.t (T.int u64 e),AV.t (T.int u64 g),AV.t (T.int u64 i),Jl 1 p j,I k,I b] (Y3 m h o q)=
 (bif decide (b < k) then cN b j λn=>Jg (if 0<=i64.wrap (a+b)/\i64.wrap (a+b) < (h.length:Int) then some () else none) λx=>dM h[(i64.wrap (a+b)).toNat]? λs=>Jg (if 0<=i64.wrap (a+b)/\i64.wrap (a+b) < (h.length:Int) then some () else none) λx=>Jg (bo (i64.wrap (a+b)).toNat 0 [T.int u32 (u32.wrap (u64.wrap (u64.wrap (u64.wrap s - u64.wrap (u32.wrap (u64.wrap (g+u64.wrap (e * u64.wrap n))))) - i)))] h) λl=>O mI [I r,I c,Jl 1 d f,Jo 0,Jo 1,I a,AV.t (T.int u64 e),AV.t (T.int u64 ((u64.wrap (g+u64.wrap (e * u64.wrap n))).fdiv (2 ^ 32))),AV.t (T.int u64 ((u64.wrap (u64.wrap (u64.wrap s - u64.wrap (u32.wrap (u64.wrap (g+u64.wrap (e * u64.wrap n))))) - i)).fdiv (2 ^ 63))),Jl 1 p j,I k,I (Jw b)] (Y3 m l o q) else Jg (if 0<=i64.wrap (a+c)/\i64.wrap (a+c) < (h.length:Int) then some () else none) λx=>dM h[(i64.wrap (a+c)).toNat]? λn=>Jg (if 0<=i64.wrap (a+c)/\i64.wrap (a+c) < (h.length:Int) then some () else none) λx=>Jg (bo (i64.wrap (a+c)).toNat 0 [T.int u32 (u32.wrap (u64.wrap (u64.wrap (u64.wrap n - g) - i)))] h) λl=>bif (u64.wrap (u64.wrap (u64.wrap n - g) - i)).fdiv (2 ^ 63)==1 then O uh [I r,I c,Jl 1 d f,Jo 0,Jo 1,I a,AV.t (T.int u64 (u64.wrap (e - 1))),AV.t (T.int u64 0),Jl 1 d f,I (f.length:Int),I 0] (Y3 m l o q) else ae none (if 0<=a/\a < (q.length:Int) then some () else none) λx=>Jg (bo a.toNat 0 [T.int u32 (u32.wrap e)] q) λu=>O rW [I r,I c,Jl 1 d f,Jo 0,Jo 1,I (i64.wrap (a - 1))] (Y3 m l o u)):=by kernel_rfl
theorem He(O:au)(r c a o i g b:Int)(e h j k:Bool)(m f d p:JL):az ao ann O uh [I r,I c,Jl 1 e m,Jo 0,Jo 1,I a,AV.t (T.int u64 o),AV.t (T.int u64 i),Jl 1 h f,I g,I b] (Y3 j d k p)=
 (bif decide (b < g) then cN b f λn=>Jg (if 0<=i64.wrap (a+b)/\i64.wrap (a+b) < (d.length:Int) then some () else none) λx=>dM d[(i64.wrap (a+b)).toNat]? λq=>Jg (if 0<=i64.wrap (a+b)/\i64.wrap (a+b) < (d.length:Int) then some () else none) λx=>Jg (bo (i64.wrap (a+b)).toNat 0 [T.int u32 (u32.wrap (u64.wrap (i+u64.wrap (u64.wrap q+u64.wrap n))))] d) λl=>O uh [I r,I c,Jl 1 e m,Jo 0,Jo 1,I a,AV.t (T.int u64 o),AV.t (T.int u64 ((u64.wrap (i+u64.wrap (u64.wrap q+u64.wrap n))).fdiv (2 ^ 32))),Jl 1 h f,I g,I (Jw b)] (Y3 j l k p) else Jg (if 0<=i64.wrap (a+c)/\i64.wrap (a+c) < (d.length:Int) then some () else none) λx=>dM d[(i64.wrap (a+c)).toNat]? λn=>Jg (if 0<=i64.wrap (a+c)/\i64.wrap (a+c) < (d.length:Int) then some () else none) λx=>Jg (bo (i64.wrap (a+c)).toNat 0 [T.int u32 (u32.wrap (n+u32.wrap i))] d) λl=>ae none (if 0<=a/\a < (p.length:Int) then some () else none) λx=>Jg (bo a.toNat 0 [T.int u32 (u32.wrap o)] p) λs=>O rW [I r,I c,Jl 1 e m,Jo 0,Jo 1,I (i64.wrap (a - 1))] (Y3 j l k s)):=by kernel_rfl
theorem B6(O:au)(c a:Bool)(b:JL):az ao ann O (Key.call 111) [AV.t (T.ptr [Jb c,T.aa 1 a b])] []=
 (O rT [AV.t (T.ptr [Jb c,T.aa 1 a b]),AV.t (T.int u64 0),I (i64.wrap (mm false (b.length:Int) 2 - 1))] []):=by kernel_rfl
theorem GR(O:au)(c b:Bool)(a:JL)(e d:Int):az ao ann O rT [AV.t (T.ptr [Jb c,T.aa 1 b a]),AV.t (T.int u64 e),I d] []=
 (bif decide (d>=0) then cN d a λn=>O rT [AV.t (T.ptr [Jb c,T.aa 1 b a]),AV.t (T.int u64 (u64.wrap (↑(BitVec.ofInt 64 (u64.wrap (e * 2 ^ 32)) ||| BitVec.ofInt 64 (u64.wrap n)).toNat:Int))),I (i64.wrap (d - 1))] [] else some [T.int u64 e]):=by kernel_rfl
open Go Go.Aev Go.Aev.Gen
def val:List Int->Int
 | []=>0
 | a::r=>a+4294967296 * val r
def Dg(d:List Int):Prop:= ∀a∈d,0<=a/\a < 4294967296
def ax(d:List Int):List (List T):=d.map λa=> [T.int .u32 a]
theorem aM(d:List Int):(ax d).length=d.length:=by simp [ax]
def aN(d:List Int)(i:Nat):Int:=d.getD i 0
theorem bD{d:List Int}{i:Nat}(h:i < d.length):(ax d)[((i:Nat):Int).toNat]? =some [T.int .u32 (aN d i)]:=by simp [ax,aN,U9,h]
theorem eJ:∀{d:List Int},Dg d->0<=val d
 | [],_=>Yh _
 | a::d,h=>by have h1:=h a Vb;have c:=eJ (d:=d) λb hb=>h b (Vc _ hb);simp only [val];omega
theorem eV:∀(a b:List Int),val (a++b)=val a+4294967296 ^ a.length * val b
 | [],b=>by simp [val]
 | x::a,b=>by simp only [Vf,val,eV a b,Vy,Xh,VG];rw [VT,VU];omega
def fq(d:List Int):Nat->Nat
 | 0=>0
 | k+1=>if aN d k=0 then fq d k else k+1
def bH(d:List Int):List Int:=d.take (fq d d.length)
theorem Am(d:List Int):∀k,fq d k<=k
 | 0=>Vq _
 | k+1=>by
  rw [fq];split
  .have:=Am d k;omega
  .exact Vq _
theorem LJ{d:List Int}:∀k,k<=d.length->val (d.take (fq d k))=val (d.take k)
 | 0,_=>rfl
 | k+1,h=>by
  rw [fq];split
  .rename_i hz;rw [LJ k (by omega),XM,eV];have:d[k]? =some 0:=by
    have a:k < d.length:=by omega
    simp only [aN,U9,Vd a,VD] at hz;rw [Vd a,hz]
   rw [this];simp [val]
  .rfl
theorem oq(d:List Int):val (bH d)=val d:=by rw [bH,LJ d.length (Vq _),XE]
theorem Jq(s e:Bool)(d:List Int)(g:d.length<=1000):∀(k:Nat),k<=d.length->
  Or xx [r0,I (k:Int)] [ab.box [AV.t (T.bool s),o1],ab.sl false 1 e (ax d)]=some [T.aw,tb (s && decide (fq d k≠0)),T.aa 1 e (ax (d.take (fq d k)))]
 | 0,h=>by
  refine al ?_;rw [GP];have hi:bQ 0 ((0:Nat):Int) (d.length:Int)=some ():=by unfold bQ;rw [if_pos (by omega)]
  have a:¬((0:Nat):Int) > 0:=by omega
  have h1:((0:Nat):Int)=0:=rfl;simp only [ai,↓reduceIte,Int.reduceBEq,Int.reduceEq,GD,bE,a,aM,decide_false,hi];simp [fq,ax]
 | k+1,h=>by
  refine al ?_;rw [GP];have a:((k+1:Nat):Int) > 0:=by omega
  have c:i64.wrap (((k+1:Nat):Int) - 1)= (k:Int):=by rw [wr (by omega)];omega
  have b: 0<=(k:Int)/\(k:Int) < (d.length:Int):=by omega
  have hi:bQ 0 ((k+1:Nat):Int) (d.length:Int)=some ():=by unfold bQ;rw [if_pos (by omega)]
  have f:¬((k+1:Nat):Int)=0:=by omega
  by_cases hz:aN d k=0
  .have:=Jq s e d g k (by omega);rw [fq,if_pos hz];simp only [ai,↓reduceIte,Int.reduceBEq,Int.reduceEq,GD,a,c,b,and_self,aM,bD (show k < d.length by omega),hz,decide_true];exact this
  .rw [fq,if_neg hz];simp only [ai,↓reduceIte,Int.reduceBEq,Int.reduceEq,GD,a,c,b,and_self,aM,bD (show k < d.length by omega),hz,decide_true,hi,f];simp [ax,List.map_take]
theorem lB(s e:Bool)(d:List Int)(c:d.length<=1000):
  Or (.call 125) [r0] [ab.box [AV.t (T.bool s),o1],ab.sl false 1 e (ax d)]=some [T.aw,tb (s && decide (bH d≠[])),T.aa 1 e (ax (bH d))]:=by
 have:=Jq s e d c d.length (Vq _);have b:decide (bH d≠[])=decide (fq d d.length≠0):=by
  refine decide_eq_decide.2 ?_;have:=Am d d.length;unfold bH;constructor
  .intro h a;rw [a] at h;exact h rfl
  .intro h a;have:=congrArg List.length a;simp only [Wb,VS] at this;omega
 refine al ?_;rw [yO,aM,b];exact this
theorem cF(v:Int):u32.wrap v=v % 4294967296:=by simp [IntKind.wrap,IntKind.signed,IntKind.bits]
theorem mF(v:Int):u64.wrap v=v % 18446744073709551616:=by simp [IntKind.wrap,IntKind.signed,IntKind.bits]
def Can(d:List Int):Prop:= ∀k,d.length=k+1->aN d k≠0
theorem LI{d:List Int}:∀k,k<=d.length->∀j,fq d k=j+1->aN d j≠0
 | 0,_,j,h=>by cases h
 | k+1,a,j,h=>by
  rw [fq] at h;split at h
  .exact LI k (by omega) j h
  .rename_i hz;simp only [Nat.add_right_cancel_iff] at h;subst h;exact hz
theorem Nc{d:List Int}{n k:Nat}(h:k < n):aN (d.take n) k=aN d k:=by simp only [aN,U9,XT,if_pos h]
theorem pO(d:List Int):Can (bH d):=by
 intro k a;have c:=Am d d.length;have b:(bH d).length=fq d d.length:=by unfold bH;rw [Wb];omega
 rw [b] at a;have:=LI d.length (Vq _) k a;unfold bH;rw [Nc (by omega)];exact this
theorem nf{d:List Int}(h:Dg d):Dg (bH d):=λa b=>h a (Xe b)
theorem rz(d:List Int):(bH d).length<=d.length:=by unfold bH;rw [Wb];omega
def num(s:Bool)(d:List Int):Int:=if s=true then -val d else val d
structure ch (z:Int) (s:Bool) (d:List Int):Prop where
 dg:Dg d
 can:Can d
 sg:s=true->d≠[]
 z:num s d=z
def WI(z:Int)(x:T):Prop:= ∃s e d,x=T.ptr [tb s,T.aa 1 e (ax d)]/\ch z s d
theorem sd{d:List Int}(h:Dg d)(f:Can d)(i:d≠[]): 0 < val d:=by
 have e:=eJ h;rcases Int.lt_or_eq_of_le e with h1 | h1
 .exact h1
 .exfalso;have:∀d:List Int,Dg d->val d=0->∀k,aN d k=0:=by
   intro d;induction d with
   | nil=>intro _ _ k;simp [aN]
   | cons a d j=>
    intro h hv k;have l:=h a Vb;have c:Dg d:=λb hb=>h b (Vc _ hb);have:=eJ c;simp only [val] at hv;cases k with
    | zero=>simp only [aN,List.getD_cons_zero];omega
    | succ k=>have:=j c (by omega) k;simpa only [aN,List.getD_cons_succ] using this
  have g:d.length= (d.length - 1)+1:=by have:=XO.2 i;omega
  exact f _ g (this d h h1.symm _)
theorem wo(s:Bool)(y:T)(n:Int)(i: 0<=n/\n < 18446744073709551616):∃e d,Or (.call 112) [r0,AV.t (T.int .u64 n)] [ab.box [AV.t (T.bool s),AV.t y]]=some [T.aw,tb false,T.aa 1 e (ax d)]/\Dg d/\Can d/\val d=n/\d.length<=2:=by
 have g:Dg [n % 4294967296,n / 4294967296]:=by intro a c;simp only [Vo,YW,or_false] at c;rcases c with rfl | rfl <;> omega
 have b:=lB false false [n % 4294967296,n / 4294967296] (by simp);refine⟨false,bH [n % 4294967296,n / 4294967296],al ?_,nf g,pO _,by rw [oq];simp only [val];omega,by have:=rz [n % 4294967296,n / 4294967296];simpa using this⟩;rw [N5];have h1:n.fdiv ((2:Int) ^ 32)=n / 4294967296:=by rw [show((2:Int) ^ 32)=4294967296 from by decide];rw [Wf _ (by omega)]
 have f:n / 4294967296 % 4294967296=n / 4294967296:=by omega
 have h:ax [n % 4294967296,n / 4294967296]= [[T.int u32 (n % 4294967296)],[T.int u32 (n / 4294967296)]]:=rfl;rw [h] at b;simp only [WZ] at b;simp only [h1,cF,f];simp only [ai,↓reduceIte,Int.reduceBEq,Int.reduceEq,GD,b]
theorem Eb(s:Bool)(y:T)(n:Int)(j: -9223372036854775808<=n/\n < 9223372036854775808):∃s' e d,Or (.call 115) [r0,I n] [ab.box [AV.t (T.bool s),AV.t y]]=some [T.aw,tb s',T.aa 1 e (ax d)]/\ch n s' d/\d.length<=2:=by
 by_cases i:n < 0
 .have a:u64.wrap (0 - u64.wrap n)= -n:=by rw [mF,mF];omega
  obtain⟨e,d,b,k2,c,f,g⟩:=wo s y (-n) (by omega);refine⟨true,e,d,al ?_,⟨k2,c,λ_ h=> ?_,by simp only [num,if_true];omega⟩,g⟩
  .rw [GN];simp only [ai,↓reduceIte,Int.reduceBEq,Int.reduceEq,GD,i,a,b]
  .subst h;simp only [val] at f;omega
 .have a:u64.wrap n=n:=by rw [mF];omega
  obtain⟨e,d,b,k2,c,f,g⟩:=wo s y n (by omega);refine⟨false,e,d,al ?_,⟨k2,c,λh=>(by cases h),by simpa [num] using f⟩,g⟩;rw [GN];simp only [ai,↓reduceIte,Int.reduceBEq,Int.reduceEq,GD,i,a,b]
theorem Ac(n:Int)(a: -9223372036854775808<=n/\n < 9223372036854775808):∃x,Or (.call 72) [I n] []=some [x]/\WI n x:=by obtain⟨s',e,d,b,k2,_⟩:=Eb false (T.aK true) n a;refine⟨T.ptr [tb s',T.aa 1 e (ax d)],al ?_,s',e,d,rfl,k2⟩;rw [NR];simp only [ai,↓reduceIte,Int.reduceBEq,Int.reduceEq,GD,b]
theorem pH(s:Bool)(y:T)(a e2:Bool)(d:List Int)(b:d.length<=1000):Or (.call 114) [r0,AV.t (T.ptr [tb a,T.aa 1 e2 (ax d)])] [ab.box [AV.t (T.bool s),AV.t y]]=some [T.aw,tb a,T.aa 1 false (ax d)]:=by refine al ?_;rw [N8];have:bu 4 (ax d).length=some ():=iL (by rw [aM];omega);simp only [ai,↓reduceIte,Int.reduceBEq,Int.reduceEq,GD,this]
theorem rp(s:Bool)(y:T)(a e2:Bool)(d:List Int)(z:Int)(c:d.length<=1000)(hz:ch z a d):∃s',Or (.call 118) [r0,AV.t (T.ptr [tb a,T.aa 1 e2 (ax d)])] [ab.box [AV.t (T.bool s),AV.t y]]=some [T.aw,tb s',T.aa 1 false (ax d)]/\ch (-z) s' d:=by
 refine⟨!a && decide ((d.length:Int) > 0),al ?_,hz.dg,hz.can,λh=> ?_, ?_⟩
 .rw [B5];simp only [ai,↓reduceIte,Int.reduceBEq,Int.reduceEq,GD,pH s y a e2 d c,aM,eZ]
 .simp only [Ve,decide_eq_true_eq] at h;intro b;subst b;simp at h
 .have:=hz.z;unfold num at this⊢;cases a with
  | true=>simp at this⊢;omega
  | false=>
   simp only [VF,if_false] at this;by_cases e:(d.length:Int) > 0
   .simp [e];omega
   .have:d= []:=Vt.1 (by omega);subst this;simp [val] at *
    omega
theorem bf{v:Int}(h: 0<=v/\v < 18446744073709551616):u64.wrap v=v:=by rw [mF];omega
theorem oV{d:List Int}{i:Nat}(hi:i < d.length)(v:Int):bo (i:Int).toNat 0 [T.int .u32 v] (ax d)=some (ax (d.set i v)):=by have h1:=bD hi;simp only [bo,h1];simp [cd,ax,X8]
abbrev lu(e:Bool)(d:List Int):AV:=AV.t (T.aa 1 e (ax d))
def dE:List Int->List Int->Int->List Int
 | [],_,c=> [c]
 | a::x,[],c=>((c+a) % 4294967296)::dE x [] ((c+a) / 4294967296)
 | a::x,b::y,c=>((c+a+b) % 4294967296)::dE x y ((c+a+b) / 4294967296)
theorem Dg.tail{a:Int}{d:List Int}(h:Dg (a::d)):Dg d:=λb hb=>h b (Vc _ hb)
theorem tK:∀{x y:List Int} {c:Int},y.length<=x.length->val (dE x y c)=c+val x+val y
 | [],[],c,_=>by simp [dE,val]
 | [],b::y,c,h=>by simp at h
 | a::x,[],c,h=>by have:=tK (x:=x) (y:= []) (c:=(c+a) / 4294967296) (by simp);simp only [dE,val] at this⊢;rw [this];omega
 | a::x,b::y,c,h=>by have:=tK (x:=x) (y:=y) (c:=(c+a+b) / 4294967296) (by simpa using h);simp only [dE,val] at this⊢;rw [this];omega
theorem tI:∀{x y:List Int} {c:Int},Dg x->Dg y->0<=c/\c<=1->Dg (dE x y c)
 | [],_,c,_,_,f=>by intro a e;simp only [dE,Vk] at e;subst e;omega
 | a::x,[],c,d,hy,f=>by
  have h1:=d a Vb;have:=tI (x:=x) (y:= []) (c:=(c+a) / 4294967296) d.tail hy (by omega);intro b hb;simp only [dE] at hb;rcases Vo.1 hb with rfl | hb
  .omega
  .exact this b hb
 | a::x,b::y,c,d,hy,f=>by
  have h1:=d a Vb;have g:=hy b Vb;have:=tI (x:=x) (y:=y) (c:=(c+a+b) / 4294967296) d.tail hy.tail (by omega);intro u hu;simp only [dE] at hu;rcases Vo.1 hu with rfl | hu
  .omega
  .exact this u hu
theorem tJ:∀{x y:List Int} {c:Int},(dE x y c).length=x.length+1
 | [],_,c=>rfl
 | a::x,[],c=>by simp [dE,tJ]
 | a::x,b::y,c=>by simp [dE,tJ]
theorem n9(a:List Int)(b v:Int)(r:List Int)(i:Nat)(h:a.length=i):(a++b::r).set i v=a++v::r:=by subst h;simp
theorem fI{d:List Int}{i:Nat}{r:Int}{a:List Int}(h:d.drop i=r::a):aN d i=r:=by obtain⟨b,_,_⟩:=bt h;simp [aN,U9,b]
theorem ij{v:Int}:v.fdiv ((2:Int) ^ 32)=v / 4294967296:=by rw [show((2:Int) ^ 32)=4294967296 from by decide,Wf _ (by omega)]
theorem Ju(x y:List Int)(p D:Bool)(H:Dg x)(hy:Dg y)(O:y.length<=x.length)(P:x.length<=1000):∀(e:List Int) (i:Nat) (c:Int) (done:List Int),x.drop i=e->done.length=i->i<=x.length->0<=c/\c<=1->
  Or rV [lu p x,lu D y,o0,AV.t (T.int .u64 c),lu p x,I (x.length:Int),I (i:Int)] [ab.sl false 1 false (ax (done++List.replicate (e.length+1) 0))]=some [T.aa 1 false (ax (done++dE e (y.drop i) c))]:=by
 intro e;induction e with
 | nil=>
  intro i c done h g hi F;have L:=bw h;obtain rfl:i=x.length:=by omega
  have h1:¬(x.length:Int) < (x.length:Int):=by omega
  have f: 0<=(x.length:Int)/\(x.length:Int) < ((done++List.replicate (([]:List Int).length+1) 0).length:Int):=by simp;omega
  have hs:=oV (d:=done++List.replicate (([]:List Int).length+1) 0) (i:=x.length) (by simp;omega) c;rw [show done++List.replicate (([]:List Int).length+1) 0=done++0:: [] from rfl,n9 done 0 c [] x.length g] at hs;have G:u32.wrap c=c:=by rw [cF];omega
  refine al ?_;rw [GX];simp only [ai,↓reduceIte,Int.reduceBEq,Int.reduceEq,GD,h1,aM,f,and_self,G];rw [show done++List.replicate (([]:List Int).length+1) 0=done++0:: [] from rfl,hs];simp only [ai,↓reduceIte,Int.reduceBEq,Int.reduceEq,GD,dE]
 | cons a e B=>
  intro i c done h g hi F;obtain⟨E,q,r⟩:=bt h;have h1:(i:Int) < (x.length:Int):=by omega
  have s: 0<=(i:Int):=by omega
  have N:=H a (Va E);have o:=fI h;have n:(i:Int) < ((done++List.replicate ((a::e).length+1) 0).length:Int):=by simp;omega
  have j:∀v,bo (i:Int).toNat 0 [T.int .u32 v] (ax (done++List.replicate ((a::e).length+1) 0))=some (ax ((done++ [v])++List.replicate (e.length+1) 0)):=λv=>by rw [oV (by simp;omega),show done++List.replicate ((a::e).length+1) 0=done++0::List.replicate (e.length+1) 0 from rfl,n9 done 0 v _ i g];simp
  refine al ?_;rw [GX];cases m:y.drop i with
  | nil=>
   have M:=bw m;have f:¬(i:Int) < (y.length:Int):=by omega
   have k:u64.wrap a=a:=bf (by omega);have l:u64.wrap (c+a)=c+a:=bf (by omega);have A:y.drop (i+1)= []:=by simp;omega
   have:=B (i+1) ((c+a) / 4294967296) (done++ [(c+a) % 4294967296]) r (by simp [g]) (by omega) (by omega);rw [A,show done++ [(c+a) % 4294967296] ++dE e [] ((c+a) / 4294967296)=done++dE (a::e) [] c from by simp [dE]] at this;simp only [ai,↓reduceIte,Int.reduceBEq,Int.reduceEq,GD,h1,s,and_self,aM,bD q,o,f,k,l,n,cF,j,ij,next i (by omega)];exact this
  | cons b C=>
   obtain⟨J,k2,K⟩:=bt m;have hb:=hy b (Va J);have u:=fI m;have f:(i:Int) < (y.length:Int):=by omega
   have k:u64.wrap a=a:=bf (by omega);have l:u64.wrap (c+a)=c+a:=bf (by omega);have w:u64.wrap b=b:=bf (by omega);have z:u64.wrap (c+a+b)=c+a+b:=bf (by omega);have:=B (i+1) ((c+a+b) / 4294967296) (done++ [(c+a+b) % 4294967296]) r (by simp [g]) (by omega) (by omega);rw [K,show done++ [(c+a+b) % 4294967296] ++dE e C ((c+a+b) / 4294967296)=done++dE (a::e) (b::C) c from by simp [dE]] at this;simp only [ai,↓reduceIte,Int.reduceBEq,Int.reduceEq,GD,h1,s,and_self,aM,bD q,bD k2,o,u,f,k,l,w,z,n,cF,j,ij,next i (by omega)];exact this
theorem SZ(x y:List Int)(c e:Bool)(b:Dg x)(hy:Dg y)(i:x.length<=900)(j:y.length<=900):∃d,Or (.call 126) [lu c x,lu e y] []=some [T.aa 1 false (ax d)]/\Dg d/\val d=val x+val y/\d.length<=max x.length y.length+1:=by
 by_cases h:(x.length:Int) < (y.length:Int)
 .have h1:=Ju y x e c hy b (by omega) (by omega) y 0 0 [] rfl rfl (by omega) (by omega);refine⟨dE y x 0,al ?_,tI hy b (by omega),by rw [tK (by omega)];omega,by rw [tJ];omega⟩;have g:i64.wrap ((y.length:Int)+1)= ((y.length+1:Nat):Int):=next y.length (by omega);have a:br ((y.length+1:Nat):Int) ((y.length+1:Nat):Int)=some ():=by unfold br dY;rw [if_pos (by omega)]
  have f:ax ([] ++List.replicate (y.length+1) 0)=List.replicate (y.length+1) [T.int u32 0]:=by simp [ax]
  rw [f] at h1;rw [GW];simp only [ai,↓reduceIte,Int.reduceBEq,Int.reduceEq,GD,aM,h,g,a,VE];exact h1
 .have h1:=Ju x y c e b hy (by omega) (by omega) x 0 0 [] rfl rfl (by omega) (by omega);refine⟨dE x y 0,al ?_,tI b hy (by omega),by rw [tK (by omega)];omega,by rw [tJ];omega⟩;have g:i64.wrap ((x.length:Int)+1)= ((x.length+1:Nat):Int):=next x.length (by omega);have a:br ((x.length+1:Nat):Int) ((x.length+1:Nat):Int)=some ():=by unfold br dY;rw [if_pos (by omega)]
  have f:ax ([] ++List.replicate (x.length+1) 0)=List.replicate (x.length+1) [T.int u32 0]:=by simp [ax]
  rw [f] at h1;rw [GW];simp only [ai,↓reduceIte,Int.reduceBEq,Int.reduceEq,GD,aM,h,g,a,VE];exact h1
theorem gI(n:Nat): 0 < (4294967296:Int) ^ n:=Int.pow_pos (by decide)
theorem fu:∀{d:List Int},Dg d->val d < 4294967296 ^ d.length
 | [],_=>by simp [val]
 | a::d,h=>by have h1:=h a Vb;have b:=fu h.tail;simp only [val,Vy,Xh];omega
theorem Dg.take{d:List Int}(h:Dg d)(n:Nat):Dg (d.take n):=λa b=>h a (Xe b)
theorem ow{d:List Int}{k:Nat}(a:k < d.length):val (d.take (k+1))=val (d.take k)+4294967296 ^ k * aN d k:=by
 have:d.take (k+1)=d.take k++ [aN d k]:=by rw [XM,Vd a];simp [aN,U9,a]
 rw [this,eV,Wb,ZO (by omega)];simp [val]
theorem BL{d:List Int}{k:Nat}(h:Dg d)(c:Can d)(b:d.length=k+1): 4294967296 ^ k<=val d:=by
 have h1:=ow (d:=d) (k:=k) (by omega);rw [<-b,XE] at h1;have e:=c k b;have f:=eJ (h.take k);have g: 0<=aN d k:=by
  have a:k < d.length:=by omega
  have:aN d k∈d:=by simp only [aN,U9,Vd a,VD];exact WT a
  exact(h _ this).1
 have i:(4294967296:Int) ^ k * 1<=4294967296 ^ k * aN d k:=Vh (by omega) (Wu (gI k));omega
def cf(u v:Int):Int:=if u < v then -1 else if u=v then 0 else 1
theorem FX(u v w:Int):cf (u+w) (v+w)=cf u v:=by
 have h1:u+w < v+w↔u < v:=by omega
 have a:u+w=v+w↔u=v:=by omega
 unfold cf;simp only [h1,a]
theorem yz{a b:List Int}{k:Nat}(f:Dg a)(hb:Dg b)(c:k < a.length)(d:k < b.length)(h:aN a k < aN b k):val (a.take (k+1)) < val (b.take (k+1)):=by rw [ow c,ow d];have h1:=fu (f.take k);rw [Wb,ZO (by omega)] at h1;have g:=eJ (hb.take k);have e:(4294967296:Int) ^ k * (aN a k+1)<=4294967296 ^ k * aN b k:=Vh (by omega) (Wu (gI k));rw [VG,Yi] at e;omega
theorem Jv(a b:List Int)(i h j eb:Bool)(g:Dg a)(hb:Dg b)(m:a.length=b.length)(n:a.length<=1000):∀(k:Nat) (z:Int),z= (k:Int) - 1->k<=a.length->
  Or xA [AV.t (T.ptr [tb i,T.aa 1 h (ax a)]),AV.t (T.ptr [tb j,T.aa 1 eb (ax b)]),I z] []=some [ti (cf (val (a.take k)) (val (b.take k)))]
 | 0,z,hz,l=>by
  refine al ?_;rw [GY];have h1:¬z>=0:=by omega
  simp only [ai,↓reduceIte,Int.reduceBEq,Int.reduceEq,GD,h1];simp [cf]
 | k+1,z,hz,l=>by
  obtain rfl:z= (k:Int):=by omega
  have h1:(k:Int)>=0:=by omega
  have e: 0<=(k:Int)/\(k:Int) < (a.length:Int):=by omega
  have f:(k:Int) < (b.length:Int):=by omega
  have o:i64.wrap ((k:Int) - 1)= (k:Int) - 1:=wr (by omega);refine al ?_;rw [GY];by_cases d:aN a k=aN b k
  .have:=Jv a b i h j eb g hb m n k ((k:Int) - 1) rfl (by omega);have hv:cf (val (a.take (k+1))) (val (b.take (k+1)))=cf (val (a.take k)) (val (b.take k)):=by
    rw [ow (by omega),ow (by omega),d,FX]
   rw [hv];simp only [ai,↓reduceIte,Int.reduceBEq,Int.reduceEq,GD,h1,e,f,and_self,aM,bD (show k < a.length by omega),bD (show k < b.length by omega),d,o];exact this
  .by_cases c:aN a k < aN b k
   .have:=yz g hb (show k < a.length by omega) (by omega) c;simp only [ai,↓reduceIte,Int.reduceBEq,Int.reduceEq,GD,h1,e,f,and_self,aM,bD (show k < a.length by omega),bD (show k < b.length by omega),d,c];unfold cf;rw [if_pos this]
   .have:=yz hb g (show k < b.length by omega) (by omega) (show aN b k < aN a k by omega);simp only [ai,↓reduceIte,Int.reduceBEq,Int.reduceEq,GD,h1,e,f,and_self,aM,bD (show k < a.length by omega),bD (show k < b.length by omega),d,c];unfold cf;rw [if_neg (by omega),if_neg (by omega)]
theorem mU{a b:List Int}(c:Dg a)(hb:Dg b)(d:Can b)(h:a.length < b.length):val a < val b:=by
 have h1:=fu c;have e:=BL (k:=b.length - 1) hb d (by omega);have f:(4294967296:Int) ^ a.length<=4294967296 ^ (b.length - 1):=by
  have:b.length - 1=a.length+ (b.length - 1 - a.length):=by omega
  rw [this,X4];have g:(4294967296:Int) ^ a.length * 1<=4294967296 ^ a.length * 4294967296 ^ (b.length - 1 - a.length):=Vh (by have:=gI (b.length - 1 - a.length);omega) (Wu (gI _));omega
 omega
theorem Ec(a b:List Int)(h f i eb:Bool)(e:Dg a)(hb:Dg b)(j:Can a)(k:Can b)(g:a.length<=1000)(m:b.length<=1000):
  Or (.call 116) [AV.t (T.ptr [tb h,T.aa 1 f (ax a)]),AV.t (T.ptr [tb i,T.aa 1 eb (ax b)])] []=some [ti (cf (val a) (val b))]:=by
 refine al ?_;rw [N6];by_cases c:(a.length:Int)= (b.length:Int)
 .have:=Jv a b h f i eb e hb (by omega) g a.length _ rfl (Vq _);rw [XE,show b.take a.length=b from V9 (by omega)] at this;have l:i64.wrap ((a.length:Int) - 1)= (a.length:Int) - 1:=wr (by omega);simp only [aM,l];simp only [ai,↓reduceIte,Int.reduceBEq,Int.reduceEq,GD,c];rw [c] at this;exact this
 .by_cases d:(a.length:Int) < (b.length:Int)
  .have:=mU e hb k (by omega);simp only [ai,↓reduceIte,Int.reduceBEq,Int.reduceEq,GD,aM,c,d];unfold cf;rw [if_pos this]
  .have:=mU hb e j (by omega);simp only [ai,↓reduceIte,Int.reduceBEq,Int.reduceEq,GD,aM,c,d];unfold cf;rw [if_neg (by omega),if_neg (by omega)]
def ct(v:Int):Int:=if v < 0 then 1 else 0
def dN:List Int->List Int->Int->List Int
 | [],_,_=> []
 | a::x,[],c=>((a - c) % 4294967296)::dN x [] (ct (a - c))
 | a::x,b::y,c=>((a - c - b) % 4294967296)::dN x y (ct (a - c - b))
theorem zy:∀{x y:List Int} {c:Int},Dg x->Dg y->y.length<=x.length->0<=c/\c<=1->val y+c<=val x->val (dN x y c)=val x - val y - c
 | [],[],c,_,_,_,e,h=>by simp [dN,val] at h⊢;omega
 | [],b::y,c,_,_,h,_,_=>by simp at h
 | a::x,[],c,d,hy,f,e,h=>by have h1:=d a Vb;simp only [val] at h;have:=zy (x:=x) (y:= []) (c:=ct (a - c)) d.tail hy (by simp) (by unfold ct;split <;> omega) (by simp only [val];unfold ct;split <;> omega);simp only [dN,val] at this⊢;rw [this];unfold ct;split <;> omega
 | a::x,b::y,c,d,hy,f,e,h=>by have h1:=d a Vb;have g:=hy b Vb;simp only [val] at h;have:=zy (x:=x) (y:=y) (c:=ct (a - c - b)) d.tail hy.tail (by simpa using f) (by unfold ct;split <;> omega) (by unfold ct;split <;> omega);simp only [dN,val] at this⊢;rw [this];unfold ct;split <;> omega
theorem zw:∀{x y:List Int} {c:Int},Dg (dN x y c)
 | [],_,c=>by intro a d;simp [dN] at d
 | a::x,[],c=>by
  intro u hu;simp only [dN] at hu;rcases Vo.1 hu with rfl | hu
  .omega
  .exact zw u hu
 | a::x,b::y,c=>by
  intro u hu;simp only [dN] at hu;rcases Vo.1 hu with rfl | hu
  .omega
  .exact zw u hu
theorem zx:∀{x y:List Int} {c:Int},(dN x y c).length=x.length
 | [],_,c=>rfl
 | a::x,[],c=>by simp [dN,zx]
 | a::x,b::y,c=>by simp [dN,zx]
theorem oZ{v:Int}(h: -1000000000000<=v/\v<=1000000000000):(u64.wrap v).fdiv ((2:Int) ^ 63)=ct v:=by rw [show((2:Int) ^ 63)=9223372036854775808 from by decide,Wf _ (by omega),mF];unfold ct;split <;> omega
theorem wQ(v:Int):u32.wrap (u64.wrap v)=v % 4294967296:=by rw [cF,mF];omega
theorem rC(v b:Int):u64.wrap (u64.wrap v - b)=u64.wrap (v - b):=by simp only [mF];omega
theorem Rr(x y:List Int)(z A:Bool)(D:Dg x)(hy:Dg y)(K:x.length<=1000):∀(d:List Int) (i:Nat) (c:Int) (done:List Int),x.drop i=d->done.length=i->0<=c/\c<=1->
  Or ug [lu A y,o0,AV.t (T.int .u64 c),lu z x,I (x.length:Int),I (i:Int)] [ab.sl false 1 false (ax (done++List.replicate d.length 0))]=some [T.aa 1 false (ax (done++dN d (y.drop i) c))]:=by
 intro d;induction d with
 | nil=>
  intro i c done h g C;have G:=bw h;have h1:¬(i:Int) < (x.length:Int):=by omega
  refine al ?_;rw [GZ];simp only [ai,↓reduceIte,Int.reduceBEq,Int.reduceEq,GD,h1];simp [dN]
 | cons a d u=>
  intro i c done h g C;obtain⟨B,n,o⟩:=bt h;have h1:(i:Int) < (x.length:Int):=by omega
  have p: 0<=(i:Int):=by omega
  have J:=D a (Va B);have k:=fI h;have j:(i:Int) < ((done++List.replicate (a::d).length 0).length:Int):=by simp;omega
  have e:∀v,bo (i:Int).toNat 0 [T.int .u32 v] (ax (done++List.replicate (a::d).length 0))=some (ax ((done++ [v])++List.replicate d.length 0)):=λv=>by rw [oV (by simp;omega),show done++List.replicate (a::d).length 0=done++0::List.replicate d.length 0 from rfl,n9 done 0 v _ i g];simp
  have l:u64.wrap a=a:=bf (by omega);refine al ?_;rw [GZ];cases f:y.drop i with
  | nil=>
   have H:=bw f;have m:¬(i:Int) < (y.length:Int):=by omega
   have s:y.drop (i+1)= []:=by simp;omega
   have:=u (i+1) (ct (a - c)) (done++ [(a - c) % 4294967296]) o (by simp [g]) (by unfold ct;split <;> omega);rw [s,show done++ [(a - c) % 4294967296] ++dN d [] (ct (a - c))=done++dN (a::d) [] c from by simp [dN]] at this;simp only [ai,↓reduceIte,Int.reduceBEq,Int.reduceEq,GD,h1,p,and_self,aM,bD n,k,m,l,j,wQ,e,oZ (v:=a - c) (by omega),next i (by omega)];exact this
  | cons b w=>
   obtain⟨E,k2,F⟩:=bt f;have hb:=hy b (Va E);have q:=fI f;have m:(i:Int) < (y.length:Int):=by omega
   have r:u64.wrap b=b:=bf (by omega);have:=u (i+1) (ct (a - c - b)) (done++ [(a - c - b) % 4294967296]) o (by simp [g]) (by unfold ct;split <;> omega);rw [F,show done++ [(a - c - b) % 4294967296] ++dN d w (ct (a - c - b))=done++dN (a::d) (b::w) c from by simp [dN]] at this;simp only [ai,↓reduceIte,Int.reduceBEq,Int.reduceEq,GD,h1,p,and_self,aM,bD n,bD k2,k,q,m,l,r,rC,j,wQ,e,oZ (v:=a - c - b) (by omega),next i (by omega)];exact this
theorem KP(x y:List Int)(a b:Bool)(e:Dg x)(hy:Dg y)(g:y.length<=x.length)(hv:val y<=val x)(h:x.length<=900):∃d,Or (.call 127) [lu a x,lu b y] []=some [T.aa 1 false (ax d)]/\Dg d/\val d=val x - val y/\d.length=x.length:=by
 have h1:=Rr x y a b e hy (by omega) x 0 0 [] rfl rfl (by omega);refine⟨dN x y 0,al ?_,zw,by rw [zy e hy g (by omega) (by omega)];omega,zx⟩;have c:br (x.length:Int) (x.length:Int)=some ():=by unfold br dY;rw [if_pos (by omega)]
 have f:ax ([] ++List.replicate x.length 0)=List.replicate x.length [T.int u32 0]:=by simp [ax]
 rw [f] at h1;rw [N7];simp only [ai,↓reduceIte,Int.reduceBEq,Int.reduceEq,GD,aM,c,VE];exact h1
open Go Go.Aev Go.Aev.Gen
theorem TS{d:List Int}(h:bH d= []):val d=0:=by rw [<-oq,h];rfl
theorem pP{s:Bool}{d:List Int}{z:Int}(b:Dg d)(hz:num s d=z):ch z (s && decide (bH d≠[])) (bH d):=by
 refine⟨nf b,pO d,λh=> ?_, ?_⟩
 .simp only [Ve,decide_eq_true_eq] at h;exact h.2
 .unfold num at hz⊢;rw [oq];by_cases a:bH d= []
  .have:=TS a;simp only [a,ne_eq,not_true_eq_false,decide_false,YN,VF,if_false];split at hz <;> omega
  .simp only [ne_eq,a,not_false_eq_true,decide_true,Yb];exact hz
def uz(z:Int)(n:Nat)(r:Option (List T)):Prop:= ∃s e d,r=some [T.aw,tb s,T.aa 1 e (ax d)]/\ch z s d/\d.length<=n
theorem tt:(true==true)=true:=rfl
theorem wm(c e2 e e3:Bool)(a b:List Int)(u v:Int)(f:ch u c a)(hb:ch v e b)(w:a.length<=400)(lb:b.length<=400):
  uz (u+v) (max a.length b.length+1) (Or (.call 94) [r0,r0,AV.t (T.ptr [tb e,T.aa 1 e3 (ax b)])] [ab.box [AV.t (T.bool c),AV.t (T.aa 1 e2 (ax a))]]):=by
 have m:=f.z;have hv:=hb.z;by_cases hs:c=e
 .subst hs;obtain⟨d,p,k,k2,q⟩:=SZ a b e2 e3 f.dg hb.dg (by omega) (by omega);have g:=lB c false d (by omega);refine⟨c && decide (bH d≠[]),false,bH d,al ?_,pP (s:=c) k ?_,by have:=rz d;omega⟩
  .rw [B4];have l:(c==c)=true:=by cases c <;> rfl
   simp only [ai,↓reduceIte,Int.reduceBEq,Int.reduceEq,GD,l,p,g]
  .unfold num at m hv⊢;split at m <;> split at hv <;> (try split) <;> first | omega | simp_all
 .have l:(c==e)=false:=by cases c <;> cases e <;> simp_all
  have n:=Ec a b c e2 e e3 f.dg hb.dg f.can hb.can (by omega) (by omega);by_cases r:val b<=val a
  .have o:b.length<=a.length:=by
    rcases Xr a.length b.length with h | h
    .have:=mU f.dg hb.dg hb.can h;omega
    .exact h
   obtain⟨d,i,k,k2,q⟩:=KP a b e2 e3 f.dg hb.dg o r (by omega);have g:=lB c false d (by omega);have j:cf (val a) (val b)>=0:=by unfold cf;split <;> (try split) <;> omega
   refine⟨c && decide (bH d≠[]),false,bH d,al ?_,pP (s:=c) k ?_,by have:=rz d;omega⟩
   .rw [B4];simp only [ai,↓reduceIte,Int.reduceBEq,Int.reduceEq,GD,l,n,j,i,g]
   .unfold num at m hv⊢;cases c <;> cases e <;> simp at * <;> omega
  .have o:a.length<=b.length:=by
    rcases Xr b.length a.length with h | h
    .have:=mU hb.dg f.dg f.can h;omega
    .exact h
   obtain⟨d,i,k,k2,q⟩:=KP b a e3 e2 hb.dg f.dg o (by omega) (by omega);have g:=lB e false d (by omega);have j:¬cf (val a) (val b)>=0:=by unfold cf;rw [if_pos (by omega)];omega
   refine⟨e && decide (bH d≠[]),false,bH d,al ?_,pP (s:=e) k ?_,by have:=rz d;omega⟩
   .rw [B4];simp only [ai,↓reduceIte,Int.reduceBEq,Int.reduceEq,GD,l,n,j,i,g]
   .unfold num at m hv⊢;cases c <;> cases e <;> simp at * <;> omega
theorem KJ(c e2 e e3:Bool)(a b:List Int)(u v:Int)(g:ch u c a)(hb:ch v e b)(k:a.length<=400)(lb:b.length<=400):
  uz (u - v) (max a.length b.length+1) (Or (.call 148) [r0,r0,AV.t (T.ptr [tb e,T.aa 1 e3 (ax b)])] [ab.box [AV.t (T.bool c),AV.t (T.aa 1 e2 (ax a))]]):=by
 obtain⟨s',f,h⟩:=rp false (T.aK true) e e3 b v (by omega) hb;obtain⟨l,er,d,i,k2,j⟩:=wm c e2 s' false a b u (-v) g h k lb;refine⟨l,er,d,al ?_,by rw [Zv];exact k2,j⟩;rw [NS];simp only [ai,↓reduceIte,Int.reduceBEq,Int.reduceEq,GD,f,i]
open Go Go.Aev Go.Aev.Gen
def gE(a:Int):List Int->List Int->Int->List Int
 | [],[],_=> []
 | [],_::r,c=>c::r
 | _::_,[],_=> []
 | b::y,o::r,c=>((c+a * b+o) % 4294967296)::gE a y r ((c+a * b+o) / 4294967296)
theorem lk{a b:Int}(c: 0<=a/\a < 4294967296)(hb: 0<=b/\b < 4294967296): 0<=a * b/\a * b<=18446744065119617025:=by have h1: 0<=a * b:=Wh c.1 hb.1;have d:a * b<=4294967295 * 4294967295:=Int.mul_le_mul (by omega) (by omega) hb.1 (by omega);omega
theorem Di{a:Int}(e: 0<=a/\a < 4294967296):∀{y o r:List Int} {c:Int},y.length=o.length->val (gE a y (o++0::r) c)=c+a * val y+val (o++0::r)
 | [],[],r,c,_=>by simp [gE,val]
 | [],o::os,r,c,h=>by simp at h
 | b::y,[],r,c,h=>by simp at h
 | b::y,o::os,r,c,h=>by
  have:=Di e (y:=y) (o:=os) (r:=r) (c:=(c+a * b+o) / 4294967296) (by simpa using h);simp only [Vf,gE,val] at this⊢;have d:a * (b+4294967296 * val y)=a * b+4294967296 * (a * val y):=by rw [VG,VU]
  rw [this,d];omega
theorem Df{a:Int}:∀{y o:List Int} {c:Int},(gE a y o c).length=o.length
 | [],[],_=>rfl
 | [],_::r,c=>rfl
 | _::_,[],_=>rfl
 | b::y,o::r,c=>by simp [gE,Df]
theorem De{a:Int}(e: 0<=a/\a < 4294967296):∀{y o:List Int} {c:Int},Dg y->Dg o->0<=c/\c < 4294967296->Dg (gE a y o c)
 | [],[],_,_,_,_=>by intro u hu;simp [gE] at hu
 | [],_::r,c,_,d,f=>by
  intro u hu;simp only [gE] at hu;rcases Vo.1 hu with rfl | hu
  .exact f
  .exact d u (Vc _ hu)
 | _::_,[],_,_,_,_=>by intro u hu;simp [gE] at hu
 | b::y,o::r,c,hy,d,f=>by
  have h1:=d o Vb;have g:=lk e (hy b Vb);have:=De e (y:=y) (o:=r) (c:=(c+a * b+o) / 4294967296) hy.tail d.tail (by omega);intro u hu;simp only [gE] at hu;rcases Vo.1 hu with rfl | hu
  .omega
  .exact this u hu
theorem sv(a:List Int)(b:Int)(r:List Int)(i:Nat)(h:a.length=i):aN (a++b::r) i=b:=by subst h;simp [aN,U9]
theorem Rn(s:Bool)(A:T)(w e2 z e3:Bool)(x y:List Int)(a:Int)(F: 0<=a/\a < 4294967296)(hy:Dg y)(i:Nat)(hi:i<=1000)(U:y.length<=1000)(R:List T):∀(l:List Int) (j:Nat) (c:Int) (e f:List Int),y.drop j=l->j<=y.length->e.length=i+j->l.length < f.length->Dg f->0<=c/\c < 4294967296->
  Or uf [r0,AV.t (T.ptr [tb w,T.aa 1 e2 (ax x)]),AV.t (T.ptr [tb z,T.aa 1 e3 (ax y)]),o1,lu e2 x,I (x.length:Int),I ((i+1:Nat):Int)] [ab.box [AV.t (T.bool s),AV.t A],ab.sl false 1 false (ax (e++gE a l f c))]=some R->
  Or xt [r0,AV.t (T.ptr [tb w,T.aa 1 e2 (ax x)]),AV.t (T.ptr [tb z,T.aa 1 e3 (ax y)]),o1,I (i:Int),AV.t (T.int .u32 a),AV.t (T.int .u64 c),lu e2 x,I (x.length:Int),I (i:Int),lu e3 y,I (y.length:Int),I (j:Int)] [ab.box [AV.t (T.bool s),AV.t A],ab.sl false 1 false (ax (e++f))]=some R:=by
 intro l;induction l with
 | nil=>
  intro j c e f h J m hm g G k;have S:=bw h;obtain rfl:j=y.length:=by omega
  match f,hm with
  | o::r,_=>
   have h1:¬(y.length:Int) < (y.length:Int):=by omega
   have p:i64.wrap ((i:Int)+ (y.length:Int))= ((i+y.length:Nat):Int):=by rw [wr (by omega)];omega
   have n: 0<=((i+y.length:Nat):Int)/\((i+y.length:Nat):Int) < ((e++o::r).length:Int):=by simp;omega
   have hs:=oV (d:=e++o::r) (i:=i+y.length) (by simp;omega) c;rw [n9 e o c r _ m] at hs;have u:u32.wrap c=c:=by rw [cF];omega
   refine al ?_;rw [GM];simp only [ai,↓reduceIte,Int.reduceBEq,Int.reduceEq,GD,h1,aM,p,n,and_self,u,hs,next i (by omega)];exact k
 | cons b l K=>
  intro j c e f h J m hm g G k;obtain⟨B,C,D⟩:=bt h;have hb:=hy b (Va B);have q:=fI h
  match f,hm,g,k with
  | o::r,hm,g,k=>
   have V:=g o Vb;have Q:=lk F hb;have h1:(j:Int) < (y.length:Int):=by omega
   have E: 0<=(j:Int):=by omega
   have p:i64.wrap ((i:Int)+ (j:Int))= ((i+j:Nat):Int):=by rw [wr (by omega)];omega
   have n: 0<=((i+j:Nat):Int)/\((i+j:Nat):Int) < ((e++o::r).length:Int):=by simp;omega
   have H:(ax (e++o::r))[((i+j:Nat):Int).toNat]? =some [T.int .u32 o]:=by rw [bD (by simp;omega),sv e o r _ m]
   have hs:∀v,bo ((i+j:Nat):Int).toNat 0 [T.int .u32 v] (ax (e++o::r))=some (ax ((e++ [v])++r)):=λv=>by rw [oV (by simp;omega),n9 e o v r _ m];simp
   have L:u64.wrap a=a:=bf (by omega);have M:u64.wrap b=b:=bf (by omega);have N:u64.wrap o=o:=bf (by omega);have w4:u64.wrap (a * b)=a * b:=bf (by omega);have O:u64.wrap (a * b+o)=a * b+o:=bf (by omega);have P:u64.wrap (c+ (a * b+o))=c+a * b+o:=by rw [bf (by omega)];omega
   have:=K (j+1) ((c+a * b+o) / 4294967296) (e++ [(c+a * b+o) % 4294967296]) r D (by omega) (by simp;omega) (by simpa using hm) g.tail (by omega) (by
    rw [gE] at k;rw [VJ];exact k)
   refine al ?_;rw [GM];simp only [ai,↓reduceIte,Int.reduceBEq,Int.reduceEq,GD,h1,E,and_self,aM,bD C,q,p,n,H,L,M,N,w4,O,P,cF,hs,ij,next j (by omega)];exact this
theorem Dh{a:Int}:∀{y o r:List Int} {q c:Int},y.length=o.length->gE a y (o++q::r) c=gE a y (o++ [q]) c++r
 | [],[],r,q,c,_=>rfl
 | [],o::os,r,q,c,h=>by simp at h
 | b::y,[],r,q,c,h=>by simp at h
 | b::y,o::os,r,q,c,h=>by simp only [Vf,gE];rw [Dh (by simpa using h)]
theorem Rm(s:Bool)(J:T)(n e2 p e3:Bool)(x y:List Int)(P:Dg x)(hy:Dg y)(W:x.length<=400)(X:y.length<=400):∀(f:List Int) (i:Nat) (e b:List Int),x.drop i=f->i<=x.length->e.length=i->b.length=y.length->Dg e->Dg b->
  ∃d,Or uf [r0,AV.t (T.ptr [tb n,T.aa 1 e2 (ax x)]),AV.t (T.ptr [tb p,T.aa 1 e3 (ax y)]),o1,lu e2 x,I (x.length:Int),I (i:Int)] [ab.box [AV.t (T.bool s),AV.t J],ab.sl false 1 false (ax (e++ (b++List.replicate f.length 0)))]=some [T.aw,tb ((!n==p) && decide (bH d≠[])),T.aa 1 false (ax (bH d))]/\
   Dg d/\d.length=x.length+y.length/\val d=val (e++b)+4294967296 ^ i * (val f * val y):=by
 intro f;induction f with
 | nil=>
  intro i e b h hi m g l j;have V:=bw h;have h1:¬(i:Int) < (x.length:Int):=by omega
  have A:(e++b).length=x.length+y.length:=by simp;omega
  have B:=lB (!n==p) false (e++b) (by omega);refine⟨e++b,al ?_,λu hu=> ?_,A,by simp [val]⟩
  .rw [GL];simp only [VS,WW,We];simp only [ai,↓reduceIte,Int.reduceBEq,Int.reduceEq,GD,h1,B]
  .rcases Vr.1 hu with hu | hu
   .exact l u hu
   .exact j u hu
 | cons a f Q=>
  intro i e b h hi m g l j;obtain⟨L,M,N⟩:=bt h;have z:=P a (Va L);have D:=fI h;have h1:(i:Int) < (x.length:Int):=by omega
  have O: 0<=(i:Int):=by omega
  have C:Dg (b++ [0]):=λu hu=>by
   rcases Vr.1 hu with hu | hu
   .exact j u hu
   .simp only [Vk] at hu;subst hu;omega
  have H:=Di z (y:=y) (o:=b) (r:= []) (c:=0) g.symm;have w:=Df (a:=a) (y:=y) (o:=b++ [0]) (c:=0);have v:=De z (y:=y) (o:=b++ [0]) (c:=0) hy C (by omega);have G:=Dh (a:=a) (y:=y) (o:=b) (r:=List.replicate f.length 0) (q:=0) (c:=0) g.symm;have E:Dg (b++List.replicate (a::f).length 0):=λu hu=>by
   rcases Vr.1 hu with hu | hu
   .exact j u hu
   .have:=WD hu;omega
  generalize gE a y (b++ [0]) 0=res at *
  cases res with
  | nil=>simp at w
  | cons k t=>
   simp only [Vy,Ws,VS] at w;obtain⟨d,R,k2,S,U⟩:=Q (i+1) (e++ [k]) t N (by omega) (by simp [m]) (by omega) (λu hu=>by
    rcases Vr.1 hu with hu | hu
    .exact l u hu
    .simp only [Vk] at hu;subst hu;exact v u Vb) v.tail
   have F:=Rn s J n e2 p e3 x y a z hy i (by omega) (by omega) _ y 0 0 e (b++List.replicate (a::f).length 0) rfl (by omega) (by omega) (by simp;omega) E (by omega) (by
    rw [show b++List.replicate (a::f).length 0=b++0::List.replicate f.length 0 from rfl,G];rw [show e++ (k::t++List.replicate f.length 0)=e++ [k] ++ (t++List.replicate f.length 0) from by simp];exact R)
   refine⟨d,al ?_,k2,S, ?_⟩
   .rw [GL];simp only [ai,↓reduceIte,Int.reduceBEq,Int.reduceEq,GD,h1,O,and_self,aM,bD M,D];exact F
   .rw [U];have K:e++ [k] ++t=e++k::t:=by simp
    have e2:val (b++ [0])=val b:=by rw [eV];simp [val]
    have e3:(4294967296:Int) ^ i * ((a+4294967296 * val f) * val y)=4294967296 ^ i * (a * val y)+4294967296 ^ i * 4294967296 * (val f * val y):=by rw [Xs,VG];simp only [VT]
    rw [K,eV,eV,m,H,e2,Xh];simp only [val];rw [e3,Zb,VG];omega
theorem AB:∀n:Nat,val (List.replicate n 0)=0
 | 0=>rfl
 | n+1=>by simp only [VX,val,AB n];omega
theorem SU(s:Bool)(k:T)(e e2 f e3:Bool)(a b:List Int)(u v:Int)(h:ch u e a)(hb:ch v f b)(o:a.length<=400)(lb:b.length<=400):
  uz (u * v) (a.length+b.length) (Or (.call 91) [r0,AV.t (T.ptr [tb e,T.aa 1 e2 (ax a)]),AV.t (T.ptr [tb f,T.aa 1 e3 (ax b)])] [ab.box [AV.t (T.bool s),AV.t k]]):=by
 obtain⟨d,j,k2,p,n⟩:=Rm s k e e2 f e3 a b h.dg hb.dg o lb a 0 [] (List.replicate b.length 0) rfl (by omega) rfl (by simp) (λu c=>by cases c) (λu c=>by
  have:=WD c;omega)
 have hv:val d=val a * val b:=by rw [n,Vg,AB];simp
 have m:i64.wrap ((a.length:Int)+ (b.length:Int))= ((b.length+a.length:Nat):Int):=by rw [wr (by omega)];omega
 have i:br ((b.length+a.length:Nat):Int) ((b.length+a.length:Nat):Int)=some ():=by unfold br dY;rw [if_pos (by omega)]
 have l:ax ([] ++ (List.replicate b.length 0++List.replicate a.length 0))=List.replicate (b.length+a.length) [T.int u32 0]:=by rw [Vg,Ya];simp [ax]
 rw [l] at j;have c:=h.z;have g:=hb.z;refine⟨(!e==f) && decide (bH d≠[]),false,bH d,al ?_,pP (s:= !e==f) k2 ?_,by have:=rz d;omega⟩
 .rw [NT];simp only [aM,m];simp only [ai,↓reduceIte,Int.reduceBEq,Int.reduceEq,GD,i,VE];exact j
 .unfold num at c g⊢;rw [hv,<-c,<-g];cases e <;> cases f <;> simp [Int.mul_neg,YR]
end Go.Aev.Wd
