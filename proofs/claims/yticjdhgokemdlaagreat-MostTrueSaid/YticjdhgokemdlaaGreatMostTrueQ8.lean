import Derived.Test.YticjdhgokemdlaaGreatMostTrueQ6
set_option linter.all false
namespace Go.Aev.Wd
open Go Go.Aev Go.Aev.Gen Go.IntKind
noncomputable abbrev xE:Key:=aQ an 125 true 2 [(0,none),(3,none)] (2,1002)
noncomputable abbrev xD:Key:=aQ an 125 true 2 [(0,none),(3,none)] (1,2)
noncomputable abbrev tS:Key:=aQ an 91 true 3 [(0,none),(1,none),(2,none),(7,none),(28,none),(29,none),(30,none)] (1,2)
noncomputable abbrev xA:Key:=aQ an 91 true 7 [(0,none),(1,none),(2,none),(7,none),(8,none),(9,none),(10,none),(28,none),(29,none),(30,none),(38,none),(39,none),(40,none)] (1,2)
noncomputable abbrev rH:Key:=aQ an 126 true 6 [(0,none),(1,none),(5,none),(6,none),(20,none),(21,none),(22,none)] (0,0)
noncomputable abbrev tU:Key:=aQ an 127 true 4 [(1,none),(5,none),(6,none),(13,none),(14,none),(15,none)] (0,0)
noncomputable abbrev xH:Key:=aQ an 116 true 6 [(0,none),(1,none),(5,none)] (0,0)
noncomputable abbrev xF:Key:=aQ an 71 true 2 [(0,none),(11,some 0),(12,some 0)] (1,2)
noncomputable abbrev xG:Key:=aQ an 71 true 5 [(0,none),(13,none),(14,none)] (1,2)
noncomputable abbrev xB:Key:=aQ an 16 true 3 [(0,none),(1,none),(5,some 0),(6,none)] (0,0)
noncomputable abbrev xL:Key:=aQ an 150 true 3 [(1,none),(5,none),(16,none),(17,none),(18,none)] (0,0)
noncomputable abbrev tW:Key:=aQ an 151 true 6 [(0,none),(1,none),(5,none),(20,none),(21,none),(22,none)] (0,0)
noncomputable abbrev xK:Key:=aQ an 149 true 4 [(0,none),(1,none),(6,none),(7,none),(8,none)] (0,0)
noncomputable abbrev xI:Key:=aQ an 149 true 11 [(0,none),(1,none),(9,none)] (0,0)
noncomputable abbrev rI:Key:=aQ an 149 true 17 [(9,none),(10,none),(11,some 0),(12,none),(13,none),(14,none)] (0,0)
noncomputable abbrev xJ:Key:=aQ an 149 true 21 [(9,none),(10,none),(11,some 0),(12,none),(13,none),(14,none),(16,none),(17,none)] (0,0)
noncomputable abbrev mG:Key:=aQ an 149 true 27 [(9,none),(10,none),(11,some 0),(12,none),(13,none),(14,none),(16,none),(18,none),(19,none),(172,none),(173,none),(174,none)] (0,0)
noncomputable abbrev tV:Key:=aQ an 149 true 41 [(9,none),(10,none),(11,some 0),(12,none),(13,none),(14,none),(16,none),(18,none),(233,none),(234,none),(235,none)] (0,0)
noncomputable abbrev rF:Key:=aQ an 111 true 3 [(0,none),(3,none),(4,none)] (0,0)
theorem NR(O:ar)(n:Int):aw an ann O (Key.call 72) [I n] []=
 (bQ (O (.call 115) [Jr 0,I n] (Y4)) λb p=>some [T.ptr [Jb b,T.aa 1 p.fst p.snd]]):=by kernel_rfl
theorem GH(O:ar)(s:Bool)(y:T)(n:Int):aw an ann O (Key.call 115) [Jr 0,I n] (Y2 s y)=
 (bif decide (n < 0) then bQ (O (.call 112) [Jr 0,AV.t (T.int u64 (u64.wrap (0 - u64.wrap n)))] (Y2 s y)) λb p=>some [T.ax,Jb true,T.aa 1 p.fst p.snd] else bQ (O (.call 112) [Jr 0,AV.t (T.int u64 (u64.wrap n))] (Y2 s y)) λb p=>some [T.ax,Jb b,T.aa 1 p.fst p.snd]):=by kernel_rfl
theorem N5(O:ar)(s:Bool)(y:T)(n:Int):aw an ann O (Key.call 112) [Jr 0,AV.t (T.int .u64 n)] (Y2 s y)=
 (bQ (O (.call 125) [Jr 0] [ab.box [B false,Jo 1],ab.sl false 1 false [[T.int u32 (u32.wrap n)],[T.int u32 (u32.wrap (n.fdiv (2 ^ 32)))]]]) λb p=>some [T.ax,Jb b,T.aa 1 p.fst p.snd]):=by kernel_rfl
theorem yZ(O:ar)(s e:Bool)(d:JL):aw an ann O (Key.call 125) [Jr 0] (lP s e d)=
 (O xE [Jr 0,I (d.length:Int)] (lP s e d)):=by kernel_rfl
theorem GJ(O:ar)(a:Int)(b d:Bool)(c:JL):aw an ann O xE [Jr 0,I a] (lP b d c)=
 (ae (some (decide (a > 0))) (if 0<=i64.wrap (a - 1)/\i64.wrap (a - 1) < (c.length:Int) then some () else none) λx=>mF (some (decide (a > 0))) c[(i64.wrap (a - 1)).toNat]? λn=>bif bif decide (a > 0) then n==0 else false then O xE [Jr 0,I (i64.wrap (a - 1))] (lP b d c) else Jg (bO 0 a (c.length:Int)) λx=>bif a==0 then some [T.ax,Jb false,T.aa 1 d (List.take (a.toNat - 0) c)] else some [T.ax,Jb b,T.aa 1 d (List.take (a.toNat - 0) c)]):=by kernel_rfl
theorem NZ(O:ar)(s e:Bool)(d:JL):aw an ann O (Key.call 125) [Jr 0] (Y6 s e d)=
 (O xD [Jr 0,I (d.length:Int)] (Y6 s e d)):=by kernel_rfl
theorem GL(O:ar)(b:Int)(d c:Bool)(a:JL):aw an ann O xD [Jr 0,I b] (Y6 d c a)=
 (ae (some (decide (b > 0))) (if 0<=i64.wrap (b - 1)/\i64.wrap (b - 1) < (a.length:Int) then some () else none) λx=>mF (some (decide (b > 0))) a[(i64.wrap (b - 1)).toNat]? λn=>bif bif decide (b > 0) then n==0 else false then O xD [Jr 0,I (i64.wrap (b - 1))] (Y6 d c a) else Jg (bO 0 b (a.length:Int)) λx=>bif b==0 then some [T.ax,Jb false,T.aa 1 c (sub 0 b a)] else some [T.ax,Jb d,T.aa 1 c (sub 0 b a)]):=by kernel_rfl
theorem N8(O:ar)(s c b:Bool)(y:T)(a:JL):aw an ann O (Key.call 114) [Jr 0,AV.t (T.ptr [Jb c,T.aa 1 b a])] (Y2 s y)=
 (Jg (bM 4 a.length) λx=>some [T.ax,Jb c,T.aa 1 false a]):=by kernel_rfl
theorem Cq(O:ar)(s d a:Bool)(y:T)(c:JL):aw an ann O (Key.call 118) [Jr 0,AV.t (T.ptr [Jb d,T.aa 1 a c])] (Y2 s y)=
 (bQ (O (.call 114) [Jr 0,AV.t (T.ptr [Jb d,T.aa 1 a c])] (Y2 s y)) λb p=>some [T.ax,Jb (bif !b then decide ((p.snd.length:Int) > 0) else false),T.aa 1 p.fst p.snd]):=by kernel_rfl
theorem GI(O:ar)(s e a f bB:Bool)(y:T)(c d:JL):aw an ann O (Key.call 94) [Jr 0,AV.t (T.ptr [Jb e,T.aa 1 a c]),AV.t (T.ptr [Jb f,T.aa 1 bB d])] (Y2 s y)=
 (bif e==f then G4 (O (.call 126) [Jl 1 a c,Jl 1 bB d] []) λp=>bQ (O (.call 125) [Jr 0] (lP e p.fst p.snd)) λb p=>some [T.ax,Jb b,T.aa 1 p.fst p.snd] else G9 (O (.call 116) [AV.t (T.ptr [Jb e,T.aa 1 a c]),AV.t (T.ptr [Jb f,T.aa 1 bB d])] []) λn=>bif decide (n>=0) then G4 (O (.call 127) [Jl 1 a c,Jl 1 bB d] []) λp=>bQ (O (.call 125) [Jr 0] (lP e p.fst p.snd)) λb p=>some [T.ax,Jb b,T.aa 1 p.fst p.snd] else G4 (O (.call 127) [Jl 1 bB d,Jl 1 a c] []) λp=>bQ (O (.call 125) [Jr 0] (lP f p.fst p.snd)) λb p=>some [T.ax,Jb b,T.aa 1 p.fst p.snd]):=by kernel_rfl
theorem Cp(O:ar)(s e c bB:Bool)(d a:JL):aw an ann O (Key.call 94) [Jr 0,Jr 0,AV.t (T.ptr [Jb c,T.aa 1 bB a])] (Y6 s e d)=
 (bif s==c then G4 (O (.call 126) [Jl 1 e d,Jl 1 bB a] []) λp=>bQ (O (.call 125) [Jr 0] (lP s p.fst p.snd)) λb p=>some [T.ax,Jb b,T.aa 1 p.fst p.snd] else G9 (O (.call 116) [AV.t (T.ptr [Jb s,T.aa 1 e d]),AV.t (T.ptr [Jb c,T.aa 1 bB a])] []) λn=>bif decide (n>=0) then G4 (O (.call 127) [Jl 1 e d,Jl 1 bB a] []) λp=>bQ (O (.call 125) [Jr 0] (lP s p.fst p.snd)) λb p=>some [T.ax,Jb b,T.aa 1 p.fst p.snd] else G4 (O (.call 127) [Jl 1 bB a,Jl 1 e d] []) λp=>bQ (O (.call 125) [Jr 0] (lP c p.fst p.snd)) λb p=>some [T.ax,Jb b,T.aa 1 p.fst p.snd]):=by kernel_rfl
theorem NS(O:ar)(s e c bB:Bool)(d a:JL):aw an ann O (Key.call 148) [Jr 0,Jr 0,AV.t (T.ptr [Jb c,T.aa 1 bB a])] (Y6 s e d)=
 (bQ (O (.call 118) [Jr 0,AV.t (T.ptr [Jb c,T.aa 1 bB a])] (Y4)) λb p=>bQ (O (.call 94) [Jr 0,Jr 0,AV.t (T.ptr [Jb b,T.aa 1 p.fst p.snd])] (Y6 s e d)) λb p=>some [T.ax,Jb b,T.aa 1 p.fst p.snd]):=by kernel_rfl
theorem NT(O:ar)(s d c e bB:Bool)(y:T)(a b:JL):aw an ann O (Key.call 91) [Jr 0,AV.t (T.ptr [Jb d,T.aa 1 c a]),AV.t (T.ptr [Jb e,T.aa 1 bB b])] (Y2 s y)=
 (Jg (bu (i64.wrap ((a.length:Int)+ (b.length:Int))) (i64.wrap ((a.length:Int)+ (b.length:Int)))) λx=>O tS [Jr 0,AV.t (T.ptr [Jb d,T.aa 1 c a]),AV.t (T.ptr [Jb e,T.aa 1 bB b]),Jo 1,Jl 1 c a,I (a.length:Int),I 0] [ab.box [B s,AV.t y],ab.sl false 1 false (List.replicate (i64.wrap ((a.length:Int)+ (b.length:Int))).toNat [T.int u32 0])]):=by kernel_rfl
theorem GB(O:ar)(e g f a k h j:Bool)(l c m q:JL)(o d:Int)(i:T):aw an ann O tS [Jr 0,AV.t (T.ptr [Jb e,T.aa 1 g l]),AV.t (T.ptr [Jb f,T.aa 1 a c]),Jo 1,Jl 1 k m,I o,I d] (uu h i j q)=
 (bif decide (d < o) then cQ d m λn=>O xA [Jr 0,AV.t (T.ptr [Jb e,T.aa 1 g l]),AV.t (T.ptr [Jb f,T.aa 1 a c]),Jo 1,I d,AV.t (T.int u32 n),AV.t (T.int u64 0),Jl 1 k m,I o,I d,Jl 1 a c,I (c.length:Int),I 0] (uu h i j q) else bQ (O (.call 125) [Jr 0] [ab.box [B !e==f,Jo 1],ab.sl false 1 j q]) λb p=>some [T.ax,Jb b,T.aa 1 p.fst p.snd]):=by kernel_rfl
theorem GC(O:ar)(j d m e i q f p:Bool)(k b r v h:JL)(c y o s u w a:Int)(g:T):aw an ann O xA [Jr 0,AV.t (T.ptr [Jb j,T.aa 1 d k]),AV.t (T.ptr [Jb m,T.aa 1 e b]),Jo 1,I c,AV.t (T.int u32 y),AV.t (T.int u64 o),Jl 1 i r,I s,I u,Jl 1 q v,I w,I a] (uu f g p h)=
 (bif decide (a < w) then cQ a v λn=>Jg (if 0<=i64.wrap (c+a)/\i64.wrap (c+a) < (h.length:Int) then some () else none) λx=>dS h[(i64.wrap (c+a)).toNat]? λz=>Jg (if 0<=i64.wrap (c+a)/\i64.wrap (c+a) < (h.length:Int) then some () else none) λx=>Jg (bp (i64.wrap (c+a)).toNat 0 [T.int u32 (u32.wrap (u64.wrap (o+u64.wrap (u64.wrap (u64.wrap y * u64.wrap n)+u64.wrap z))))] h) λl=>O xA [Jr 0,AV.t (T.ptr [Jb j,T.aa 1 d k]),AV.t (T.ptr [Jb m,T.aa 1 e b]),Jo 1,I c,AV.t (T.int u32 y),AV.t (T.int u64 ((u64.wrap (o+u64.wrap (u64.wrap (u64.wrap y * u64.wrap n)+u64.wrap z))).fdiv (2 ^ 32))),Jl 1 i r,I s,I u,Jl 1 q v,I w,I (Jw a)] (uu f g p l) else Jg (if 0<=i64.wrap (c+ (b.length:Int))/\i64.wrap (c+ (b.length:Int)) < (h.length:Int) then some () else none) λx=>Jg (bp (i64.wrap (c+ (b.length:Int))).toNat 0 [T.int u32 (u32.wrap o)] h) λl=>O tS [Jr 0,AV.t (T.ptr [Jb j,T.aa 1 d k]),AV.t (T.ptr [Jb m,T.aa 1 e b]),Jo 1,Jl 1 i r,I s,I (Jw u)] (uu f g p l)):=by kernel_rfl
theorem r8(O:ar)(s l h j bB m:Bool)(y n:T)(k i:JL):aw an ann O (Key.call 138) [Jr 0,AV.t (T.ptr [Jb l,T.aa 1 h k]),AV.t (T.ptr [Jb j,T.aa 1 bB i]),Jr 1] [ab.box [B s,AV.t y],ab.box [B m,AV.t n]]=
 (bQ (O (.call 114) [Jr 0,AV.t (T.ptr [Jb j,T.aa 1 bB i])] (Y4)) λb p=>tO (O (.call 139) [Jr 0,AV.t (T.ptr [Jb l,T.aa 1 h k]),AV.t (T.ptr [Jb j,T.aa 1 bB i]),Jr 1] [ab.box [B s,AV.t y],ab.box [B m,AV.t n]]) λf a e c=>bif e then bif b then bX (O (.call 72) [I 1] []) λx=>bQ (O (.call 94) [Jr 0,Jr 0,AV.t x] (Y6 f a.fst a.snd)) λg d=>bQ (O (.call 148) [Jr 0,Jr 0,AV.t (T.ptr [Jb b,T.aa 1 p.fst p.snd])] (Y6 e c.fst c.snd)) λb p=>some [T.ax,T.ax,Jb g,T.aa 1 d.fst d.snd,Jb b,T.aa 1 p.fst p.snd] else bX (O (.call 72) [I 1] []) λx=>bQ (O (.call 148) [Jr 0,Jr 0,AV.t x] (Y6 f a.fst a.snd)) λg d=>bQ (O (.call 94) [Jr 0,Jr 0,AV.t (T.ptr [Jb b,T.aa 1 p.fst p.snd])] (Y6 e c.fst c.snd)) λb p=>some [T.ax,T.ax,Jb g,T.aa 1 d.fst d.snd,Jb b,T.aa 1 p.fst p.snd] else some [T.ax,T.ax,Jb f,T.aa 1 a.fst a.snd,Jb e,T.aa 1 c.fst c.snd]):=by kernel_rfl
theorem y8(O:ar)(s f d i bB k:Bool)(y l:T)(h j:JL):aw an ann O (Key.call 139) [Jr 0,AV.t (T.ptr [Jb f,T.aa 1 d h]),AV.t (T.ptr [Jb i,T.aa 1 bB j]),Jr 1] [ab.box [B s,AV.t y],ab.box [B k,AV.t l]]=
 (G9 (O (.call 116) [AV.t (T.ptr [Jb f,T.aa 1 d h]),AV.t (T.ptr [Jb i,T.aa 1 bB j])] []) λn=>bif decide (n < 0) then bQ (O (.call 114) [Jr 0,AV.t (T.ptr [Jb f,T.aa 1 d h])] (Y2 k l)) λb p=>bQ (O (.call 115) [Jr 0,I 0] (Y2 s y)) λc a=>some [T.ax,T.ax,Jb c,T.aa 1 a.fst a.snd,Jb b,T.aa 1 p.fst p.snd] else bif decide ((h.length:Int) < 3) then rp (O (.call 111) [AV.t (T.ptr [Jb f,T.aa 1 d h])] []) λn=>rp (O (.call 111) [AV.t (T.ptr [Jb i,T.aa 1 bB j])] []) λg=>Jg (if g=0 then none else some ()) λx=>bQ (O (.call 112) [Jr 0,AV.t (T.int u64 (u64.wrap (n.tdiv g)))] (Y2 s y)) λb p=>Jg (if g=0 then none else some ()) λx=>bQ (O (.call 112) [Jr 0,AV.t (T.int u64 (n.tmod g))] (Y2 k l)) λb a=>bQ (O (.call 125) [Jr 0] [ab.box [B !f==i,Jl 1 p.fst p.snd]]) λb p=>bQ (O (.call 125) [Jr 0] (Y6 f a.fst a.snd)) λc e=>some [T.ax,T.ax,Jb b,T.aa 1 p.fst p.snd,Jb c,T.aa 1 e.fst e.snd] else tL (O (.call 149) [Jl 1 d h,Jl 1 bB j] []) λp a=>bQ (O (.call 125) [Jr 0] [ab.box [B !f==i,Jo 1],ab.sl false 1 p.fst p.snd]) λb p=>bQ (O (.call 125) [Jr 0] (lP f a.fst a.snd)) λc e=>some [T.ax,T.ax,Jb b,T.aa 1 p.fst p.snd,Jb c,T.aa 1 e.fst e.snd]):=by kernel_rfl
theorem GP(O:ar)(a b:Bool)(x y:JL):aw an ann O (Key.call 126) [Jl 1 a x,Jl 1 b y] []=
 (bif decide ((x.length:Int) < (y.length:Int)) then Jg (bu (i64.wrap ((y.length:Int)+1)) (i64.wrap ((y.length:Int)+1))) λc=>O rH [Jl 1 b y,Jl 1 a x,Jo 0,AV.t (T.int u64 0),Jl 1 b y,I (y.length:Int),I 0] [ab.sl false 1 false (List.replicate (i64.wrap ((y.length:Int)+1)).toNat [T.int u32 0])] else Jg (bu (i64.wrap ((x.length:Int)+1)) (i64.wrap ((x.length:Int)+1))) λc=>O rH [Jl 1 a x,Jl 1 b y,Jo 0,AV.t (T.int u64 0),Jl 1 a x,I (x.length:Int),I 0] [ab.sl false 1 false (List.replicate (i64.wrap ((x.length:Int)+1)).toNat [T.int u32 0])]):=by kernel_rfl
theorem GQ(O:ar)(i j c d:Bool)(g k e b:JL)(h f a:Int):aw an ann O rH [Jl 1 i g,Jl 1 j k,Jo 0,AV.t (T.int u64 h),Jl 1 c e,I f,I a] (Y1 d b)=
 (bif decide (a < f) then cQ a e λn=>bif decide (a < (k.length:Int)) then cQ a k λm=>ae none (if 0<=a/\a < (b.length:Int) then some () else none) λx=>Jg (bp a.toNat 0 [T.int u32 (u32.wrap (u64.wrap (u64.wrap (h+u64.wrap n)+u64.wrap m)))] b) λl=>O rH [Jl 1 i g,Jl 1 j k,Jo 0,AV.t (T.int u64 ((u64.wrap (u64.wrap (h+u64.wrap n)+u64.wrap m)).fdiv (2 ^ 32))),Jl 1 c e,I f,I (Jw a)] (Y1 d l) else ae none (if 0<=a/\a < (b.length:Int) then some () else none) λx=>Jg (bp a.toNat 0 [T.int u32 (u32.wrap (u64.wrap (h+u64.wrap n)))] b) λl=>O rH [Jl 1 i g,Jl 1 j k,Jo 0,AV.t (T.int u64 ((u64.wrap (h+u64.wrap n)).fdiv (2 ^ 32))),Jl 1 c e,I f,I (Jw a)] (Y1 d l) else Jg (if 0<=(g.length:Int)/\(g.length:Int) < (b.length:Int) then some () else none) λx=>Jg (bp (g.length:Int).toNat 0 [T.int u32 (u32.wrap h)] b) λl=>some [T.aa 1 d l]):=by kernel_rfl
theorem N7(O:ar)(a b:Bool)(x y:JL):aw an ann O (Key.call 127) [Jl 1 a x,Jl 1 b y] []=
 (Jg (bu (x.length:Int) (x.length:Int)) λc=>O tU [Jl 1 b y,Jo 0,AV.t (T.int u64 0),Jl 1 a x,I (x.length:Int),I 0] [ab.sl false 1 false (List.replicate (x.length:Int).toNat [T.int u32 0])]):=by kernel_rfl
theorem GS(O:ar)(g b c:Bool)(h d f:JL)(i e a:Int):aw an ann O tU [Jl 1 g h,Jo 0,AV.t (T.int u64 i),Jl 1 b d,I e,I a] (Y1 c f)=
 (bif decide (a < e) then cQ a d λn=>bif decide (a < (h.length:Int)) then cQ a h λj=>ae none (if 0<=a/\a < (f.length:Int) then some () else none) λx=>Jg (bp a.toNat 0 [T.int u32 (u32.wrap (u64.wrap (u64.wrap (u64.wrap n - i) - u64.wrap j)))] f) λl=>O tU [Jl 1 g h,Jo 0,AV.t (T.int u64 ((u64.wrap (u64.wrap (u64.wrap n - i) - u64.wrap j)).fdiv (2 ^ 63))),Jl 1 b d,I e,I (Jw a)] (Y1 c l) else ae none (if 0<=a/\a < (f.length:Int) then some () else none) λx=>Jg (bp a.toNat 0 [T.int u32 (u32.wrap (u64.wrap (u64.wrap n - i)))] f) λl=>O tU [Jl 1 g h,Jo 0,AV.t (T.int u64 ((u64.wrap (u64.wrap n - i)).fdiv (2 ^ 63))),Jl 1 b d,I e,I (Jw a)] (Y1 c l) else some [T.aa 1 c f]):=by kernel_rfl
theorem N6(O:ar)(d c e bB:Bool)(a b:JL):aw an ann O (Key.call 116) [AV.t (T.ptr [Jb d,T.aa 1 c a]),AV.t (T.ptr [Jb e,T.aa 1 bB b])] []=
 (bif !(a.length:Int)== (b.length:Int) then bif decide ((a.length:Int) < (b.length:Int)) then some [Ji (-1)] else some [Ji 1] else O xH [AV.t (T.ptr [Jb d,T.aa 1 c a]),AV.t (T.ptr [Jb e,T.aa 1 bB b]),I (i64.wrap ((a.length:Int) - 1))] []):=by kernel_rfl
theorem GR(O:ar)(f d g e:Bool)(a b:JL)(c:Int):aw an ann O xH [AV.t (T.ptr [Jb f,T.aa 1 d a]),AV.t (T.ptr [Jb g,T.aa 1 e b]),I c] []=
 (bif decide (c>=0) then cQ c a λn=>cQ c b λh=>bif !n==h then cQ c a λn=>cQ c b λi=>bif decide (n < i) then some [Ji (-1)] else some [Ji 1] else O xH [AV.t (T.ptr [Jb f,T.aa 1 d a]),AV.t (T.ptr [Jb g,T.aa 1 e b]),I (i64.wrap (c - 1))] [] else some [Ji 0]):=by kernel_rfl
theorem Ob(O:ar)(s c b:Bool)(y:T)(a:JL)(d:List T):aw an ann O (Key.call 114) [Jr 0,AV.t (T.ptr (Jb c::T.aa 1 b a::d))] (Y2 s y)=
 (Jg (bM 4 a.length) λx=>some [T.ax,Jb c,T.aa 1 false a]):=by kernel_rfl
theorem N9(O:ar)(s t c b:Bool)(y u:T)(a:JL):aw an ann O (Key.call 114) [Jr 0,AV.t (T.ptr [Jb c,T.aa 1 b a])] (Y8 s y t u)=
 (Jg (bM 4 a.length) λx=>some [T.ax,Jb c,T.aa 1 false a,Jb t,u]):=by kernel_rfl
theorem Oa(O:ar)(s t d b:Bool)(y u:T)(a:JL):aw an ann O (Key.call 114) [AV.ref (Id.c 0) 2,AV.t (T.ptr [Jb d,T.aa 1 b a])] (Y8 s y t u)=
 (Jg (bM 4 a.length) λx=>some [T.ax,Jb s,y,Jb d,T.aa 1 false a]):=by kernel_rfl
theorem Oc(O:ar)(s e:Bool)(d:JL):aw an ann O (Key.call 114) [Jr 0,Jr 0] (Y6 s e d)=
 (Jg (bM 4 d.length) λx=>some [T.ax,Jb s,T.aa 1 false d]):=by kernel_rfl
theorem NX(O:ar)(s e a:Bool)(y:T)(c:JL)(d:List T):aw an ann O (Key.call 118) [Jr 0,AV.t (T.ptr (Jb e::T.aa 1 a c::d))] (Y2 s y)=
 (bQ (O (.call 114) [Jr 0,AV.t (T.ptr (Jb e::T.aa 1 a c::d))] (Y2 s y)) λb p=>some [T.ax,Jb (bif !b then decide ((p.snd.length:Int) > 0) else false),T.aa 1 p.fst p.snd]):=by kernel_rfl
theorem NY(O:ar)(s e:Bool)(d:JL):aw an ann O (Key.call 118) [Jr 0,Jr 0] (Y6 s e d)=
 (bQ (O (.call 114) [Jr 0,Jr 0] (Y6 s e d)) λb p=>some [T.ax,Jb (bif !b then decide ((p.snd.length:Int) > 0) else false),T.aa 1 p.fst p.snd]):=by kernel_rfl
theorem Od(O:ar)(s d a:Bool)(y:T)(c:JL):aw an ann O (Key.call 110) [Jr 0,AV.t (T.ptr [Jb d,T.aa 1 a c])] (Y2 s y)=
 (bQ (O (.call 114) [Jr 0,AV.t (T.ptr [Jb d,T.aa 1 a c])] (Y2 s y)) λb p=>some [T.ax,Jb false,T.aa 1 p.fst p.snd]):=by kernel_rfl
theorem Oe(O:ar)(c b:Bool)(a:JL)(d:List T):aw an ann O (Key.call 75) [AV.t (T.ptr (Jb c::T.aa 1 b a::d))] []=
 (bif (a.length:Int)==0 then some [Ji 0] else bif c then some [Ji (-1)] else some [Ji 1]):=by kernel_rfl
theorem y9(O:ar)(s e a f bB:Bool)(y:T)(c d:JL):aw an ann O (Key.call 113) [Jr 0,AV.t (T.ptr [Jb e,T.aa 1 a c]),AV.t (T.ptr [Jb f,T.aa 1 bB d])] (Y2 s y)=
 (tO (O (.call 138) [Jr 0,AV.t (T.ptr [Jb e,T.aa 1 a c]),AV.t (T.ptr [Jb f,T.aa 1 bB d]),Jr 1] [ab.box [B false,AV.t (T.aJ true)],ab.box [B s,AV.t y]]) λb p b p=>some [T.ax,Jb b,T.aa 1 p.fst p.snd]):=by kernel_rfl
theorem Oi(O:ar)(s e a f bB:Bool)(y:T)(c d:JL):aw an ann O (Key.call 117) [Jr 0,AV.t (T.ptr [Jb e,T.aa 1 a c]),AV.t (T.ptr [Jb f,T.aa 1 bB d])] (Y2 s y)=
 (tO (O (.call 139) [Jr 0,AV.t (T.ptr [Jb e,T.aa 1 a c]),AV.t (T.ptr [Jb f,T.aa 1 bB d]),Jr 1] [ab.box [B s,AV.t y],ab.box [B false,AV.t (T.aJ true)]]) λb p g h=>some [T.ax,Jb b,T.aa 1 p.fst p.snd]):=by kernel_rfl
theorem Ct(O:ar)(a b c bB:Bool)(d e:JL):aw an ann O (Key.call 73) [AV.t (T.ptr [Jb a,T.aa 1 b d]),AV.t (T.ptr [Jb c,T.aa 1 bB e])] []=
 (bif !a==c then bif a then some [Ji (-1)] else some [Ji 1] else bif a then G9 (O (.call 116) [AV.t (T.ptr [Jb c,T.aa 1 bB e]),AV.t (T.ptr [Jb a,T.aa 1 b d])] []) λn=>some [Ji n] else G9 (O (.call 116) [AV.t (T.ptr [Jb a,T.aa 1 b d]),AV.t (T.ptr [Jb c,T.aa 1 bB e])] []) λn=>some [Ji n]):=by kernel_rfl
theorem y5(O:ar)(s g a h bB:Bool)(y:T)(e f:JL):aw an ann O (Key.call 71) [Jr 0,AV.t T.ax,AV.t T.ax,AV.t (T.ptr [Jb g,T.aa 1 a e]),AV.t (T.ptr [Jb h,T.aa 1 bB f])] (Y2 s y)=
 (bQ (O (.call 110) [Jr 0,AV.t (T.ptr [Jb g,T.aa 1 a e])] (Y4)) λb p=>bQ (O (.call 110) [Jr 0,AV.t (T.ptr [Jb h,T.aa 1 bB f])] (Y4)) λd c=>O xF [Jr 0,AV.t (T.ptr [Jb b,T.aa 1 p.fst p.snd]),AV.t (T.ptr [Jb d,T.aa 1 c.fst c.snd])] (Y2 s y)):=by kernel_rfl
theorem Cs(O:ar)(g d f a h:Bool)(e c:JL)(i:T):aw an ann O xF [Jr 0,AV.t (T.ptr [Jb g,T.aa 1 d e]),AV.t (T.ptr [Jb f,T.aa 1 a c])] (Y2 h i)=
 (G9 (O (.call 75) [AV.t (T.ptr [Jb f,T.aa 1 a c])] []) λn=>bif !n==0 then bif bif decide ((e.length:Int) < 3) then decide ((c.length:Int) < 3) else false then rp (O (.call 111) [AV.t (T.ptr [Jb g,T.aa 1 d e])] []) λn=>rp (O (.call 111) [AV.t (T.ptr [Jb f,T.aa 1 a c])] []) λj=>O xG [Jr 0,AV.t (T.int u64 n),AV.t (T.int u64 j)] (Y2 h i) else bQ (O (.call 113) [Jr 0,AV.t (T.ptr [Jb g,T.aa 1 d e]),AV.t (T.ptr [Jb f,T.aa 1 a c])] (Y4)) λb p=>O xF [Jr 0,AV.t (T.ptr [Jb f,T.aa 1 a c]),AV.t (T.ptr [Jb b,T.aa 1 p.fst p.snd])] (Y2 h i) else bQ (O (.call 114) [Jr 0,AV.t (T.ptr [Jb g,T.aa 1 d e])] (Y2 h i)) λb p=>some [T.ax,Jb b,T.aa 1 p.fst p.snd]):=by kernel_rfl
theorem GN(O:ar)(e a:Int)(c:Bool)(d:T):aw an ann O xG [Jr 0,AV.t (T.int u64 e),AV.t (T.int u64 a)] (Y2 c d)=
 (bif decide (a > 0) then Jg (if a=0 then none else some ()) λx=>O xG [Jr 0,AV.t (T.int u64 a),AV.t (T.int u64 (e.tmod a))] (Y2 c d) else bQ (O (.call 112) [Jr 0,AV.t (T.int u64 e)] (Y2 c d)) λb p=>some [T.ax,Jb b,T.aa 1 p.fst p.snd]):=by kernel_rfl
theorem GO(O:ar)(s t o j q bB:Bool)(y u:T)(m n:JL):aw an ann O (Key.call 74) [Jr 0,AV.t (T.ptr [Jb o,T.aa 1 j m]),AV.t (T.ptr [Jb q,T.aa 1 bB n])] (Y8 s y t u)=
 (bQ (O (.call 71) [Jr 0,AV.t T.ax,AV.t T.ax,AV.t (T.ptr [Jb o,T.aa 1 j m]),AV.t (T.ptr [Jb q,T.aa 1 bB n])] (Y4)) λb p=>bQ (O (.call 117) [Jr 0,AV.t (T.ptr [Jb o,T.aa 1 j m]),AV.t (T.ptr [Jb b,T.aa 1 p.fst p.snd])] (Y4)) λk f=>bQ (O (.call 117) [Jr 0,AV.t (T.ptr [Jb q,T.aa 1 bB n]),AV.t (T.ptr [Jb b,T.aa 1 p.fst p.snd])] (Y4)) λb p=>bif b then bQ (O (.call 118) [Jr 0,Jr 0] (Y6 k f.fst f.snd)) λg a=>bQ (O (.call 118) [Jr 0,Jr 0] (Y6 b p.fst p.snd)) λb p=>eT (O (.call 114) [Jr 0,AV.t (T.ptr [Jb g,T.aa 1 a.fst a.snd])] (Y8 s y t u)) λh d i e=>eT (O (.call 114) [AV.ref (Id.c 0) 2,AV.t (T.ptr [Jb b,T.aa 1 p.fst p.snd])] (nr h d.fst d.snd i e.fst e.snd)) λb p r l=>some [T.ax,Jb b,T.aa 1 p.fst p.snd,Jb r,T.aa 1 l.fst l.snd] else eT (O (.call 114) [Jr 0,AV.t (T.ptr [Jb k,T.aa 1 f.fst f.snd])] (Y8 s y t u)) λg a h d=>eT (O (.call 114) [AV.ref (Id.c 0) 2,AV.t (T.ptr [Jb b,T.aa 1 p.fst p.snd])] (nr g a.fst a.snd h d.fst d.snd)) λb p i e=>some [T.ax,Jb b,T.aa 1 p.fst p.snd,Jb i,T.aa 1 e.fst e.snd]):=by kernel_rfl
theorem Cv(O:ar)(f a g d:Bool)(c e:JL):aw an ann O (Key.call 92) [AV.t (T.ptr [Jb f,T.aa 1 a c,Jb g,T.aa 1 d e])] []=
 (bQ (O (.call 114) [Jr 0,AV.t (T.ptr [Jb f,T.aa 1 a c,Jb g,T.aa 1 d e])] (Y4)) λb p=>some [T.ptr [Jb b,T.aa 1 p.fst p.snd]]):=by kernel_rfl
theorem Og(O:ar)(g e d a:Bool)(f c:JL):aw an ann O (Key.call 93) [AV.t (T.ptr [Jb g,T.aa 1 e f,Jb d,T.aa 1 a c])] []=
 (G9 (O (.call 75) [AV.t (T.ptr [Jb d,T.aa 1 a c])] []) λn=>bif n==0 then bX (O (.call 72) [I 1] []) λx=>some [x] else bQ (O (.call 114) [Jr 0,AV.t (T.ptr [Jb d,T.aa 1 a c])] (Y4)) λb p=>some [T.ptr [Jb b,T.aa 1 p.fst p.snd]]):=by kernel_rfl
theorem N4(O:ar)(e a f c:Bool)(b d:JL):aw an ann O (Key.call 37) [AV.t (T.ptr [Jb e,T.aa 1 a b,Jb f,T.aa 1 c d])] []=
 (G9 (O (.call 75) [AV.t (T.ptr [Jb e,T.aa 1 a b,Jb f,T.aa 1 c d])] []) λn=>some [Ji n]):=by kernel_rfl
theorem y6(O:ar)(s t k a m g l bB n h:Bool)(y u:T)(e i f j:JL):aw an ann O (Key.call 46) [Jr 0,AV.t (T.ptr [Jb k,T.aa 1 a e,Jb m,T.aa 1 g i]),AV.t (T.ptr [Jb l,T.aa 1 bB f,Jb n,T.aa 1 h j])] (Y8 s y t u)=
 (bX (O (.call 92) [AV.t (T.ptr [Jb k,T.aa 1 a e,Jb m,T.aa 1 g i])] []) λx=>bX (O (.call 92) [AV.t (T.ptr [Jb l,T.aa 1 bB f,Jb n,T.aa 1 h j])] []) λr=>bQ (O (.call 91) [Jr 0,AV.t x,AV.t r] (Y4)) λb p=>bX (O (.call 93) [AV.t (T.ptr [Jb k,T.aa 1 a e,Jb m,T.aa 1 g i])] []) λx=>bX (O (.call 93) [AV.t (T.ptr [Jb l,T.aa 1 bB f,Jb n,T.aa 1 h j])] []) λv=>bQ (O (.call 91) [Jr 0,AV.t x,AV.t v] (Y4)) λo c=>eT (O (.call 74) [Jr 0,AV.t (T.ptr [Jb b,T.aa 1 p.fst p.snd]),AV.t (T.ptr [Jb o,T.aa 1 c.fst c.snd])] (Y8 s y t u)) λb p q d=>some [T.ax,Jb b,T.aa 1 p.fst p.snd,Jb q,T.aa 1 d.fst d.snd]):=by kernel_rfl
theorem N2(O:ar)(s t i a k e j bB l f:Bool)(y u:T)(c g d h:JL):aw an ann O (Key.call 47) [Jr 0,AV.t (T.ptr [Jb i,T.aa 1 a c,Jb k,T.aa 1 e g]),AV.t (T.ptr [Jb j,T.aa 1 bB d,Jb l,T.aa 1 f h])] (Y8 s y t u)=
 (bX (O (.call 92) [AV.t (T.ptr [Jb i,T.aa 1 a c,Jb k,T.aa 1 e g])] []) λx=>bX (O (.call 93) [AV.t (T.ptr [Jb j,T.aa 1 bB d,Jb l,T.aa 1 f h])] []) λw=>bQ (O (.call 91) [Jr 0,AV.t x,AV.t w] (Y4)) λb p=>bX (O (.call 92) [AV.t (T.ptr [Jb j,T.aa 1 bB d,Jb l,T.aa 1 f h])] []) λx=>bX (O (.call 93) [AV.t (T.ptr [Jb i,T.aa 1 a c,Jb k,T.aa 1 e g])] []) λz=>bQ (O (.call 91) [Jr 0,AV.t x,AV.t z] (Y4)) λq m=>bQ (O (.call 94) [Jr 0,Jr 0,AV.t (T.ptr [Jb q,T.aa 1 m.fst m.snd])] (Y6 b p.fst p.snd)) λb p=>bX (O (.call 93) [AV.t (T.ptr [Jb i,T.aa 1 a c,Jb k,T.aa 1 e g])] []) λx=>bX (O (.call 93) [AV.t (T.ptr [Jb j,T.aa 1 bB d,Jb l,T.aa 1 f h])] []) λA=>bQ (O (.call 91) [Jr 0,AV.t x,AV.t A] (Y4)) λr n=>eT (O (.call 74) [Jr 0,AV.t (T.ptr [Jb b,T.aa 1 p.fst p.snd]),AV.t (T.ptr [Jb r,T.aa 1 n.fst n.snd])] (Y8 s y t u)) λb p v o=>some [T.ax,Jb b,T.aa 1 p.fst p.snd,Jb v,T.aa 1 o.fst o.snd]):=by kernel_rfl
theorem N3(O:ar)(s t m a o i n bB q j:Bool)(y u:T)(g k h l:JL):aw an ann O (Key.call 48) [Jr 0,AV.t (T.ptr [Jb m,T.aa 1 a g,Jb o,T.aa 1 i k]),AV.t (T.ptr [Jb n,T.aa 1 bB h,Jb q,T.aa 1 j l])] (Y8 s y t u)=
 (eT (O (.call 95) [Jr 0,AV.t (T.ptr [Jb n,T.aa 1 bB h,Jb q,T.aa 1 j l])] (Y5)) λb p e c=>eT (O (.call 47) [Jr 0,AV.t (T.ptr [Jb m,T.aa 1 a g,Jb o,T.aa 1 i k]),AV.t (T.ptr [Jb b,T.aa 1 p.fst p.snd,Jb e,T.aa 1 c.fst c.snd])] (Y8 s y t u)) λb p f d=>some [T.ax,Jb b,T.aa 1 p.fst p.snd,Jb f,T.aa 1 d.fst d.snd]):=by kernel_rfl
theorem Oh(O:ar)(s t g a h e:Bool)(y u:T)(d f:JL):aw an ann O (Key.call 95) [Jr 0,AV.t (T.ptr [Jb g,T.aa 1 a d,Jb h,T.aa 1 e f])] (Y8 s y t u)=
 (bQ (O (.call 118) [Jr 0,AV.t (T.ptr [Jb g,T.aa 1 a d,Jb h,T.aa 1 e f])] (Y4)) λb p=>bX (O (.call 93) [AV.t (T.ptr [Jb g,T.aa 1 a d,Jb h,T.aa 1 e f])] []) λx=>eT (O (.call 74) [Jr 0,AV.t (T.ptr [Jb b,T.aa 1 p.fst p.snd]),AV.t x] (Y8 s y t u)) λb p i c=>some [T.ax,Jb b,T.aa 1 p.fst p.snd,Jb i,T.aa 1 c.fst c.snd]):=by kernel_rfl
theorem NU(O:ar)(k a m g l bB o h:Bool)(e i f j:JL):aw an ann O (Key.call 17) [AV.t (T.ptr [Jb k,T.aa 1 a e,Jb m,T.aa 1 g i]),AV.t (T.ptr [Jb l,T.aa 1 bB f,Jb o,T.aa 1 h j])] []=
 (eT (O (.call 48) [Jr 0,AV.t (T.ptr [Jb k,T.aa 1 a e,Jb m,T.aa 1 g i]),AV.t (T.ptr [Jb l,T.aa 1 bB f,Jb o,T.aa 1 h j])] (Y5)) λb p d c=>G9 (O (.call 37) [AV.t (T.ptr [Jb b,T.aa 1 p.fst p.snd,Jb d,T.aa 1 c.fst c.snd])] []) λn=>some [Ji n]):=by kernel_rfl
theorem uO(O:ar)(n m:Int):aw an ann O (Key.call 36) [I n,I m] []=
 (bX (O (.call 72) [I n] []) λx=>bX (O (.call 72) [I m] []) λd=>eT (O (.call 74) [Jr 0,AV.t x,AV.t d] (Y5)) λb p c a=>some [T.ptr [Jb b,T.aa 1 p.fst p.snd,Jb c,T.aa 1 a.fst a.snd]]):=by kernel_rfl
theorem N1(O:ar)(n m:Int):aw an ann O (Key.call 18) [AV.agg [I n,I m]] []=
 (bX (O (.call 36) [I n,I m] []) λx=>some [x]):=by kernel_rfl
theorem yY(O:ar)(n m:Int):aw an ann O (Key.call 34) [AV.agg [I n,I m]] []=
 (bif bif bif bif decide (m < 1) then true else decide (m > 1073741824) then true else decide (n < (-1073741824)) then true else decide (n > 1073741824) then some [Jb false] else bX (O (.call 72) [I n] []) λx=>bX (O (.call 72) [I m] []) λa=>bQ (O (.call 71) [Jr 0,AV.t T.ax,AV.t T.ax,AV.t x,AV.t a] (Y4)) λb p=>bX (O (.call 72) [I 1] []) λx=>G9 (O (.call 73) [AV.t (T.ptr [Jb b,T.aa 1 p.fst p.snd]),AV.t x] []) λn=>some [Jb (n==0)]):=by kernel_rfl
theorem Co(O:ar)(b a:Bool)(of n:JL):aw an ann O (Key.call 16) [Jl 1 b of,Jl 2 a n] []=
 (bX (O (.call 36) [I 0,I 1] []) λx=>O xB [Jl 1 b of,Jl 2 a n,AV.t x,I 0] []):=by kernel_rfl
theorem GG(O:ar)(d e:Bool)(c h:JL)(i:T)(a:Int):aw an ann O xB [Jl 1 d c,Jl 2 e h,AV.t i,I a] []=
 (bif decide (a < (c.length:Int)) then jF a h λn l=>bX (O (.call 18) [AV.agg [I n,I l]] []) λx=>G2 a c λn=>bX (O (.call 36) [I n,I 1] []) λm=>eT (O (.call 46) [Jr 0,AV.t x,AV.t m] (Y5)) λb p j f=>eT (O (.call 47) [Jr 0,AV.t i,AV.t (T.ptr [Jb b,T.aa 1 p.fst p.snd,Jb j,T.aa 1 f.fst f.snd])] (Y5)) λb p k g=>O xB [Jl 1 d c,Jl 2 e h,AV.t (T.ptr [Jb b,T.aa 1 p.fst p.snd,Jb k,T.aa 1 g.fst g.snd]),I (Jw a)] [] else some [i]):=by kernel_rfl
theorem Oj(O:ar)(a:Bool)(x:JL)(n:Int):aw an ann O (Key.call 150) [Jl 1 a x,I n] []=
 (Jg (bu (i64.wrap (i64.wrap ((x.length:Int)+i64.wrap (n.tdiv 32))+1)) (i64.wrap (i64.wrap ((x.length:Int)+i64.wrap (n.tdiv 32))+1))) λb=>O xL [I n,Jo 0,Jl 1 a x,I (x.length:Int),I 0] [ab.sl false 1 false (List.replicate (i64.wrap (i64.wrap ((x.length:Int)+i64.wrap (n.tdiv 32))+1)).toNat [T.int u32 0])]):=by kernel_rfl
theorem GZ(O:ar)(b g a:Int)(e d:Bool)(f c:JL):aw an ann O xL [I b,Jo 0,Jl 1 e f,I g,I a] (Y1 d c)=
 (bif decide (a < g) then cQ a f λn=>Jg (if b.tmod 32 < 0 then none else some ()) λx=>Jg (if 0<=i64.wrap (a+i64.wrap (b.tdiv 32))/\i64.wrap (a+i64.wrap (b.tdiv 32)) < (c.length:Int) then some () else none) λx=>dS c[(i64.wrap (a+i64.wrap (b.tdiv 32))).toNat]? λh=>Jg (if 0<=i64.wrap (a+i64.wrap (b.tdiv 32))/\i64.wrap (a+i64.wrap (b.tdiv 32)) < (c.length:Int) then some () else none) λx=>Jg (bp (i64.wrap (a+i64.wrap (b.tdiv 32))).toNat 0 [T.int u32 (u32.wrap (↑(BitVec.ofInt 32 h ||| BitVec.ofInt 32 (u32.wrap (u64.wrap (u64.wrap n * 2 ^ min (b.tmod 32).toNat 64)))).toNat:Int))] c) λl=>Jg (if 0<=i64.wrap (i64.wrap (a+i64.wrap (b.tdiv 32))+1)/\i64.wrap (i64.wrap (a+i64.wrap (b.tdiv 32))+1) < (l.length:Int) then some () else none) λx=>Jg (bp (i64.wrap (i64.wrap (a+i64.wrap (b.tdiv 32))+1)).toNat 0 [T.int u32 (u32.wrap ((u64.wrap (u64.wrap n * 2 ^ min (b.tmod 32).toNat 64)).fdiv (2 ^ 32)))] l) λl=>O xL [I b,Jo 0,Jl 1 e f,I g,I (Jw a)] (Y1 d l) else some [T.aa 1 d c]):=by kernel_rfl
theorem Ok(O:ar)(a:Bool)(x:JL)(n:Int):aw an ann O (Key.call 151) [Jl 1 a x,I n] []=
 (bif decide (i64.wrap (n.tdiv 32)>=(x.length:Int)) then some [T.aJ true] else Jg (bO (i64.wrap (n.tdiv 32)) (x.length:Int) (x.length:Int)) λb=>Jg (bu (↑(sub (i64.wrap (n.tdiv 32)) (x.length:Int) x).length:Int) (↑(sub (i64.wrap (n.tdiv 32)) (x.length:Int) x).length:Int)) λc=>O tW [AV.t (T.aa 1 a (sub (i64.wrap (n.tdiv 32)) (x.length:Int) x)),I n,Jo 0,AV.t (T.aa 1 a (sub (i64.wrap (n.tdiv 32)) (x.length:Int) x)),I (↑(sub (i64.wrap (n.tdiv 32)) (x.length:Int) x).length:Int),I 0] [ab.sl false 1 false (List.replicate (↑(sub (i64.wrap (n.tdiv 32)) (x.length:Int) x).length:Int).toNat [T.int u32 0])]):=by kernel_rfl
theorem zd(O:ar)(h c d:Bool)(g e i:JL)(b f a:Int):aw an ann O tW [Jl 1 h g,I b,Jo 0,Jl 1 c e,I f,I a] (Y1 d i)=
 (bif decide (a < f) then cQ a e λn=>Jg (if b.tmod 32 < 0 then none else some ()) λx=>ae none (if 0<=a/\a < (i.length:Int) then some () else none) λx=>Jg (bp a.toNat 0 [T.int u32 (n.fdiv (2 ^ min (b.tmod 32).toNat 32))] i) λl=>bif bif decide (Jw a < (g.length:Int)) then decide (b.tmod 32 > 0) else false then cQ a l λn=>Jg (if 0<=Jw a/\Jw a < (g.length:Int) then some () else none) λx=>dS g[(Jw a).toNat]? λj=>Jg (if i64.wrap (32 - b.tmod 32) < 0 then none else some ()) λx=>ae none (if 0<=a/\a < (l.length:Int) then some () else none) λx=>Jg (bp a.toNat 0 [T.int u32 (u32.wrap (↑(BitVec.ofInt 32 n ||| BitVec.ofInt 32 (u32.wrap (j * 2 ^ min (i64.wrap (32 - b.tmod 32)).toNat 32))).toNat:Int))] l) λl=>O tW [Jl 1 h g,I b,Jo 0,Jl 1 c e,I f,I (Jw a)] (Y1 d l) else O tW [Jl 1 h g,I b,Jo 0,Jl 1 c e,I f,I (Jw a)] (Y1 d l) else some [T.aa 1 d i]):=by kernel_rfl
theorem GU(O:ar)(a b:Bool)(x y:JL):aw an ann O (Key.call 149) [Jl 1 a x,Jl 1 b y] []=
 (bif (y.length:Int)==1 then Jg (bu (x.length:Int) (x.length:Int)) λc=>O xK [Jl 1 a x,Jl 1 b y,Jo 0,AV.t (T.int u64 0),I (i64.wrap ((x.length:Int) - 1))] [ab.sl false 1 false (List.replicate (x.length:Int).toNat [T.int u32 0])] else O xI [Jl 1 a x,Jl 1 b y,I 0] []):=by kernel_rfl
theorem GX(O:ar)(f g c:Bool)(j b d:JL)(e a:Int):aw an ann O xK [Jl 1 f j,Jl 1 g b,Jo 0,AV.t (T.int u64 e),I a] (Y1 c d)=
 (bif decide (a>=0) then cQ a j λn=>Jg (if(0:Int)<=0/\0 < (b.length:Int) then some () else none) λx=>dS b[0]? λh=>Jg (if u64.wrap h=0 then none else some ()) λx=>ae none (if 0<=a/\a < (d.length:Int) then some () else none) λx=>Jg (bp a.toNat 0 [T.int u32 (u32.wrap (u64.wrap ((u64.wrap (↑(BitVec.ofInt 64 (u64.wrap (e * 2 ^ 32)) ||| BitVec.ofInt 64 (u64.wrap n)).toNat:Int)).tdiv (u64.wrap h))))] d) λl=>Jg (if(0:Int)<=0/\0 < (b.length:Int) then some () else none) λx=>dS b[0]? λi=>Jg (if u64.wrap i=0 then none else some ()) λx=>O xK [Jl 1 f j,Jl 1 g b,Jo 0,AV.t (T.int u64 ((u64.wrap (↑(BitVec.ofInt 64 (u64.wrap (e * 2 ^ 32)) ||| BitVec.ofInt 64 (u64.wrap n)).toNat:Int)).tmod (u64.wrap i))),I (i64.wrap (a - 1))] (Y1 c l) else some [T.aa 1 c d,T.aa 1 false [[T.int u32 (u32.wrap e)]]]):=by kernel_rfl
theorem GV(O:ar)(d e:Bool)(f a:JL)(c:Int):aw an ann O xI [Jl 1 d f,Jl 1 e a,I c] []=
 (Jg (if 0<=i64.wrap ((a.length:Int) - 1)/\i64.wrap ((a.length:Int) - 1) < (a.length:Int) then some () else none) λx=>dS a[(i64.wrap ((a.length:Int) - 1)).toNat]? λn=>Jg (if c < 0 then none else some ()) λx=>bif (u32.wrap (n * 2 ^ min c.toNat 32)).fdiv (2 ^ 31)==0 then O xI [Jl 1 d f,Jl 1 e a,I (Jw c)] [] else G4 (O (.call 150) [Jl 1 e a,I c] []) λp=>Jg (bO 0 (a.length:Int) (p.snd.length:Int)) λx=>G4 (O (.call 150) [Jl 1 d f,I c] []) λb=>Jg (bu (b.snd.length:Int) (b.snd.length:Int)) λx=>O rI [I c,I (a.length:Int),AV.t (T.aa 1 p.fst (List.take ((a.length:Int).toNat - 0) (List.drop 0 p.snd))),Jo 0,Jo 1,I ((i64.wrap (i64.wrap ((b.snd.length:Int) - (a.length:Int)) - 1)))] [ab.sl false 1 b.fst b.snd,ab.sl false 1 false (List.replicate (b.snd.length:Int).toNat [T.int u32 0])]):=by kernel_rfl
theorem GW(O:ar)(l a b:Int)(g e f:Bool)(c d k:JL):aw an ann O rI [I l,I a,Jl 1 g c,Jo 0,Jo 1,I b] (Y3 e d f k)=
 (bif decide (b>=0) then Jg (if 0<=i64.wrap (b+a)/\i64.wrap (b+a) < (d.length:Int) then some () else none) λx=>dS d[(i64.wrap (b+a)).toNat]? λn=>Jg (if 0<=i64.wrap (i64.wrap (b+a) - 1)/\i64.wrap (i64.wrap (b+a) - 1) < (d.length:Int) then some () else none) λx=>dS d[(i64.wrap (i64.wrap (b+a) - 1)).toNat]? λh=>Jg (if 0<=i64.wrap (a - 1)/\i64.wrap (a - 1) < (c.length:Int) then some () else none) λx=>dS c[(i64.wrap (a - 1)).toNat]? λi=>Jg (if u64.wrap i=0 then none else some ()) λx=>Jg (if 0<=i64.wrap (a - 1)/\i64.wrap (a - 1) < (c.length:Int) then some () else none) λx=>dS c[(i64.wrap (a - 1)).toNat]? λj=>Jg (if u64.wrap j=0 then none else some ()) λx=>O xJ [I l,I a,Jl 1 g c,Jo 0,Jo 1,I b,AV.t (T.int u64 (u64.wrap ((u64.wrap (↑(BitVec.ofInt 64 (u64.wrap (u64.wrap n * 2 ^ 32)) ||| BitVec.ofInt 64 (u64.wrap h)).toNat:Int)).tdiv (u64.wrap i)))),AV.t (T.int u64 ((u64.wrap (↑(BitVec.ofInt 64 (u64.wrap (u64.wrap n * 2 ^ 32)) ||| BitVec.ofInt 64 (u64.wrap h)).toNat:Int)).tmod (u64.wrap j)))] (Y3 e d f k) else Jg (bO 0 a (d.length:Int)) λx=>G4 (O (.call 151) [AV.t (T.aa 1 e (List.take (a.toNat - 0) d)),I l] []) λp=>some [T.aa 1 f k,T.aa 1 p.fst p.snd]):=by kernel_rfl
theorem Cw(O:ar)(k a e c h:Int)(d f g:Bool)(b i j:JL):aw an ann O xJ [I k,I a,Jl 1 d b,Jo 0,Jo 1,I e,AV.t (T.int u64 c),AV.t (T.int u64 h)] (Y3 f i g j)=
 (ae (some !!c.fdiv (2 ^ 32)==0) (if 0<=i64.wrap (a - 2)/\i64.wrap (a - 2) < (b.length:Int) then some () else none) λx=>mF (some !!c.fdiv (2 ^ 32)==0) b[(i64.wrap (a - 2)).toNat]? λn=>ae (some !!c.fdiv (2 ^ 32)==0) (if 0<=i64.wrap (i64.wrap (e+a) - 2)/\i64.wrap (i64.wrap (e+a) - 2) < (i.length:Int) then some () else none) λx=>mF (some !!c.fdiv (2 ^ 32)==0) i[(i64.wrap (i64.wrap (e+a) - 2)).toNat]? λl=>bif bif !c.fdiv (2 ^ 32)==0 then true else decide (u64.wrap (c * u64.wrap n) > u64.wrap (↑(BitVec.ofInt 64 (u64.wrap (h * 2 ^ 32)) ||| BitVec.ofInt 64 (u64.wrap l)).toNat:Int)) then Jg (if 0<=i64.wrap (a - 1)/\i64.wrap (a - 1) < (b.length:Int) then some () else none) λx=>dS b[(i64.wrap (a - 1)).toNat]? λn=>bif !(u64.wrap (h+u64.wrap n)).fdiv (2 ^ 32)==0 then O mG [I k,I a,Jl 1 d b,Jo 0,Jo 1,I e,AV.t (T.int u64 (u64.wrap (c - 1))),AV.t (T.int u64 0),AV.t (T.int u64 0),Jl 1 d b,I (b.length:Int),I 0] (Y3 f i g j) else O xJ [I k,I a,Jl 1 d b,Jo 0,Jo 1,I e,AV.t (T.int u64 (u64.wrap (c - 1))),AV.t (T.int u64 (u64.wrap (h+u64.wrap n)))] (Y3 f i g j) else O mG [I k,I a,Jl 1 d b,Jo 0,Jo 1,I e,AV.t (T.int u64 c),AV.t (T.int u64 0),AV.t (T.int u64 0),Jl 1 d b,I (b.length:Int),I 0] (Y3 f i g j)):=by kernel_rfl
theorem Cx(O:ar)(r c a e g i k b:Int)(d p m o:Bool)(f j h q:JL):aw an ann O mG [I r,I c,Jl 1 d f,Jo 0,Jo 1,I a,AV.t (T.int u64 e),AV.t (T.int u64 g),AV.t (T.int u64 i),Jl 1 p j,I k,I b] (Y3 m h o q)=
 (bif decide (b < k) then cQ b j λn=>Jg (if 0<=i64.wrap (a+b)/\i64.wrap (a+b) < (h.length:Int) then some () else none) λx=>dS h[(i64.wrap (a+b)).toNat]? λs=>Jg (if 0<=i64.wrap (a+b)/\i64.wrap (a+b) < (h.length:Int) then some () else none) λx=>Jg (bp (i64.wrap (a+b)).toNat 0 [T.int u32 (u32.wrap (u64.wrap (u64.wrap (u64.wrap s - u64.wrap (u32.wrap (u64.wrap (g+u64.wrap (e * u64.wrap n))))) - i)))] h) λl=>O mG [I r,I c,Jl 1 d f,Jo 0,Jo 1,I a,AV.t (T.int u64 e),AV.t (T.int u64 ((u64.wrap (g+u64.wrap (e * u64.wrap n))).fdiv (2 ^ 32))),AV.t (T.int u64 ((u64.wrap (u64.wrap (u64.wrap s - u64.wrap (u32.wrap (u64.wrap (g+u64.wrap (e * u64.wrap n))))) - i)).fdiv (2 ^ 63))),Jl 1 p j,I k,I (Jw b)] (Y3 m l o q) else Jg (if 0<=i64.wrap (a+c)/\i64.wrap (a+c) < (h.length:Int) then some () else none) λx=>dS h[(i64.wrap (a+c)).toNat]? λn=>Jg (if 0<=i64.wrap (a+c)/\i64.wrap (a+c) < (h.length:Int) then some () else none) λx=>Jg (bp (i64.wrap (a+c)).toNat 0 [T.int u32 (u32.wrap (u64.wrap (u64.wrap (u64.wrap n - g) - i)))] h) λl=>bif (u64.wrap (u64.wrap (u64.wrap n - g) - i)).fdiv (2 ^ 63)==1 then O tV [I r,I c,Jl 1 d f,Jo 0,Jo 1,I a,AV.t (T.int u64 (u64.wrap (e - 1))),AV.t (T.int u64 0),Jl 1 d f,I (f.length:Int),I 0] (Y3 m l o q) else ae none (if 0<=a/\a < (q.length:Int) then some () else none) λx=>Jg (bp a.toNat 0 [T.int u32 (u32.wrap e)] q) λu=>O rI [I r,I c,Jl 1 d f,Jo 0,Jo 1,I (i64.wrap (a - 1))] (Y3 m l o u)):=by kernel_rfl
theorem GY(O:ar)(r c a o i g b:Int)(e h j k:Bool)(m f d p:JL):aw an ann O tV [I r,I c,Jl 1 e m,Jo 0,Jo 1,I a,AV.t (T.int u64 o),AV.t (T.int u64 i),Jl 1 h f,I g,I b] (Y3 j d k p)=
 (bif decide (b < g) then cQ b f λn=>Jg (if 0<=i64.wrap (a+b)/\i64.wrap (a+b) < (d.length:Int) then some () else none) λx=>dS d[(i64.wrap (a+b)).toNat]? λq=>Jg (if 0<=i64.wrap (a+b)/\i64.wrap (a+b) < (d.length:Int) then some () else none) λx=>Jg (bp (i64.wrap (a+b)).toNat 0 [T.int u32 (u32.wrap (u64.wrap (i+u64.wrap (u64.wrap q+u64.wrap n))))] d) λl=>O tV [I r,I c,Jl 1 e m,Jo 0,Jo 1,I a,AV.t (T.int u64 o),AV.t (T.int u64 ((u64.wrap (i+u64.wrap (u64.wrap q+u64.wrap n))).fdiv (2 ^ 32))),Jl 1 h f,I g,I (Jw b)] (Y3 j l k p) else Jg (if 0<=i64.wrap (a+c)/\i64.wrap (a+c) < (d.length:Int) then some () else none) λx=>dS d[(i64.wrap (a+c)).toNat]? λn=>Jg (if 0<=i64.wrap (a+c)/\i64.wrap (a+c) < (d.length:Int) then some () else none) λx=>Jg (bp (i64.wrap (a+c)).toNat 0 [T.int u32 (u32.wrap (n+u32.wrap i))] d) λl=>ae none (if 0<=a/\a < (p.length:Int) then some () else none) λx=>Jg (bp a.toNat 0 [T.int u32 (u32.wrap o)] p) λs=>O rI [I r,I c,Jl 1 e m,Jo 0,Jo 1,I (i64.wrap (a - 1))] (Y3 j l k s)):=by kernel_rfl
theorem Cr(O:ar)(c a:Bool)(b:JL):aw an ann O (Key.call 111) [AV.t (T.ptr [Jb c,T.aa 1 a b])] []=
 (O rF [AV.t (T.ptr [Jb c,T.aa 1 a b]),AV.t (T.int u64 0),I (i64.wrap (mm false (b.length:Int) 2 - 1))] []):=by kernel_rfl
theorem GM(O:ar)(c b:Bool)(a:JL)(e d:Int):aw an ann O rF [AV.t (T.ptr [Jb c,T.aa 1 b a]),AV.t (T.int u64 e),I d] []=
 (bif decide (d>=0) then cQ d a λn=>O rF [AV.t (T.ptr [Jb c,T.aa 1 b a]),AV.t (T.int u64 (u64.wrap (↑(BitVec.ofInt 64 (u64.wrap (e * 2 ^ 32)) ||| BitVec.ofInt 64 (u64.wrap n)).toNat:Int))),I (i64.wrap (d - 1))] [] else some [T.int u64 e]):=by kernel_rfl
open Go Go.Aev Go.Aev.Gen
def val:List Int->Int
 | []=>0
 | a::r=>a+4294967296 * val r
def Dg(d:List Int):Prop:= ∀a∈d,0<=a/\a < 4294967296
def ay(d:List Int):List (List T):=d.map λa=> [T.int .u32 a]
theorem aL(d:List Int):(ay d).length=d.length:=by simp [ay]
def aN(d:List Int)(i:Nat):Int:=d.getD i 0
theorem bE{d:List Int}{i:Nat}(h:i < d.length):(ay d)[((i:Nat):Int).toNat]? =some [T.int .u32 (aN d i)]:=by simp [ay,aN,h]
theorem eQ:∀{d:List Int},Dg d->0<=val d
 | [],_=>Yx _
 | a::d,h=>by have h1:=h a U9;have c:=eQ (d:=d) λb hb=>h b (Va _ hb);simp only [val];omega
theorem fc:∀(a b:List Int),val (a++b)=val a+4294967296 ^ a.length * val b
 | [],b=>by simp [val]
 | x::a,b=>by simp only [Vc,val,fc a b,Vw,Xd,VF];rw [VQ,VT];omega
def fF(d:List Int):Nat->Nat
 | 0=>0
 | k+1=>if aN d k=0 then fF d k else k+1
def bI(d:List Int):List Int:=d.take (fF d d.length)
theorem AL(d:List Int):∀k,fF d k<=k
 | 0=>Vs _
 | k+1=>by
  rw [fF];split
  .have:=AL d k;omega
  .exact Vs _
theorem Ls{d:List Int}:∀k,k<=d.length->val (d.take (fF d k))=val (d.take k)
 | 0,_=>rfl
 | k+1,h=>by
  rw [fF];split
  .rename_i hz;rw [Ls k (by omega),XE,fc];have:d[k]? =some 0:=by
    have a:k < d.length:=by omega
    simp only [aN,U7,Vb a,Vx] at hz;rw [Vb a,hz]
   rw [this];simp [val]
  .rfl
theorem oq(d:List Int):val (bI d)=val d:=by rw [bI,Ls d.length (Vs _),Xv]
theorem Jm(s e:Bool)(d:List Int)(g:d.length<=1000):∀(k:Nat),k<=d.length->
  Or xE [r0,I (k:Int)] [ab.box [AV.t (T.bool s),o1],ab.sl false 1 e (ay d)]=some [T.ax,tb (s && decide (fF d k≠0)),T.aa 1 e (ay (d.take (fF d k)))]
 | 0,h=>by
  refine aj ?_;rw [GJ];have hi:bO 0 ((0:Nat):Int) (d.length:Int)=some ():=by unfold bO;rw [if_pos (by omega)]
  have a:¬((0:Nat):Int) > 0:=by omega
  have h1:((0:Nat):Int)=0:=rfl;simp only [ai,GD,bL,a,aL,decide_false,hi];simp [fF,ay]
 | k+1,h=>by
  refine aj ?_;rw [GJ];have a:((k+1:Nat):Int) > 0:=by omega
  have c:i64.wrap (((k+1:Nat):Int) - 1)= (k:Int):=by rw [wr (by omega)];omega
  have b: 0<=(k:Int)/\(k:Int) < (d.length:Int):=by omega
  have hi:bO 0 ((k+1:Nat):Int) (d.length:Int)=some ():=by unfold bO;rw [if_pos (by omega)]
  have f:¬((k+1:Nat):Int)=0:=by omega
  by_cases hz:aN d k=0
  .have:=Jm s e d g k (by omega);rw [fF,if_pos hz];simp only [ai,↓reduceIte,GD,a,c,b,and_self,aL,bE (show k < d.length by omega),hz,decide_true];exact this
  .rw [fF,if_neg hz];simp only [ai,↓reduceIte,GD,a,c,b,and_self,aL,bE (show k < d.length by omega),hz,decide_true,hi,f];simp [ay,List.map_take]
theorem lC(s e:Bool)(d:List Int)(c:d.length<=1000):
  Or (.call 125) [r0] [ab.box [AV.t (T.bool s),o1],ab.sl false 1 e (ay d)]=some [T.ax,tb (s && decide (bI d≠[])),T.aa 1 e (ay (bI d))]:=by
 have:=Jm s e d c d.length (Vs _);have b:decide (bI d≠[])=decide (fF d d.length≠0):=by
  refine decide_eq_decide.2 ?_;have:=AL d d.length;unfold bI;constructor
  .intro h a;rw [a] at h;exact h rfl
  .intro h a;have:=congrArg List.length a;simp only [V7,VL] at this;omega
 refine aj ?_;rw [yZ,aL,b];exact this
theorem cJ(v:Int):u32.wrap v=v % 4294967296:=by simp [IntKind.wrap,IntKind.signed,IntKind.bits]
theorem mE(v:Int):u64.wrap v=v % 18446744073709551616:=by simp [IntKind.wrap,IntKind.signed,IntKind.bits]
def Can(d:List Int):Prop:= ∀k,d.length=k+1->aN d k≠0
theorem Lr{d:List Int}:∀k,k<=d.length->∀j,fF d k=j+1->aN d j≠0
 | 0,_,j,h=>by cases h
 | k+1,a,j,h=>by
  rw [fF] at h;split at h
  .exact Lr k (by omega) j h
  .rename_i hz;simp only [Nat.add_right_cancel_iff] at h;subst h;exact hz
theorem M9{d:List Int}{n k:Nat}(h:k < n):aN (d.take n) k=aN d k:=by simp only [aN,U7,XN,if_pos h]
theorem pC(d:List Int):Can (bI d):=by
 intro k a;have c:=AL d d.length;have b:(bI d).length=fF d d.length:=by unfold bI;rw [V7];omega
 rw [b] at a;have:=Lr d.length (Vs _) k a;unfold bI;rw [M9 (by omega)];exact this
theorem m9{d:List Int}(h:Dg d):Dg (bI d):=λa b=>h a (WZ b)
theorem qU(d:List Int):(bI d).length<=d.length:=by unfold bI;rw [V7];omega
def num(s:Bool)(d:List Int):Int:=if s=true then -val d else val d
structure ch (z:Int) (s:Bool) (d:List Int):Prop where
 dg:Dg d
 can:Can d
 sg:s=true->d≠[]
 z:num s d=z
def WI(z:Int)(x:T):Prop:= ∃s e d,x=T.ptr [tb s,T.aa 1 e (ay d)]/\ch z s d
theorem rQ{d:List Int}(h:Dg d)(f:Can d)(i:d≠[]): 0 < val d:=by
 have e:=eQ h;rcases Int.lt_or_eq_of_le e with h1 | h1
 .exact h1
 .exfalso;have:∀d:List Int,Dg d->val d=0->∀k,aN d k=0:=by
   intro d;induction d with
   | nil=>intro _ _ k;simp [aN]
   | cons a d j=>
    intro h hv k;have l:=h a U9;have c:Dg d:=λb hb=>h b (Va _ hb);have:=eQ c;simp only [val] at hv;cases k with
    | zero=>simp only [aN,List.getD_cons_zero];omega
    | succ k=>have:=j c (by omega) k;simpa only [aN,List.getD_cons_succ] using this
  have g:d.length= (d.length - 1)+1:=by have:=XG.2 i;omega
  exact f _ g (this d h h1.symm _)
theorem wm(s:Bool)(y:T)(n:Int)(i: 0<=n/\n < 18446744073709551616):∃e d,Or (.call 112) [r0,AV.t (T.int .u64 n)] [ab.box [AV.t (T.bool s),AV.t y]]=some [T.ax,tb false,T.aa 1 e (ay d)]/\Dg d/\Can d/\val d=n/\d.length<=2:=by
 have g:Dg [n % 4294967296,n / 4294967296]:=by intro a c;simp only [Vk,YT,or_false] at c;rcases c with rfl | rfl <;> omega
 have b:=lC false false [n % 4294967296,n / 4294967296] (by simp);refine⟨false,bI [n % 4294967296,n / 4294967296],aj ?_,m9 g,pC _,by rw [oq];simp only [val];omega,by have:=qU [n % 4294967296,n / 4294967296];simpa using this⟩;rw [N5];have h1:n.fdiv ((2:Int) ^ 32)=n / 4294967296:=by rw [show((2:Int) ^ 32)=4294967296 from by decide];rw [Wb _ (by omega)]
 have f:n / 4294967296 % 4294967296=n / 4294967296:=by omega
 have h:ay [n % 4294967296,n / 4294967296]= [[T.int u32 (n % 4294967296)],[T.int u32 (n / 4294967296)]]:=rfl;rw [h] at b;simp only [Wm] at b;simp only [h1,cJ,f];simp only [ai,GD,b]
theorem Ek(s:Bool)(y:T)(n:Int)(j: -9223372036854775808<=n/\n < 9223372036854775808):∃s' e d,Or (.call 115) [r0,I n] [ab.box [AV.t (T.bool s),AV.t y]]=some [T.ax,tb s',T.aa 1 e (ay d)]/\ch n s' d/\d.length<=2:=by
 by_cases i:n < 0
 .have a:u64.wrap (0 - u64.wrap n)= -n:=by rw [mE,mE];omega
  obtain⟨e,d,b,k2,c,f,g⟩:=wm s y (-n) (by omega);refine⟨true,e,d,aj ?_,⟨k2,c,λ_ h=> ?_,by simp only [num,if_true];omega⟩,g⟩
  .rw [GH];simp only [ai,↓reduceIte,GD,i,a,b]
  .subst h;simp only [val] at f;omega
 .have a:u64.wrap n=n:=by rw [mE];omega
  obtain⟨e,d,b,k2,c,f,g⟩:=wm s y n (by omega);refine⟨false,e,d,aj ?_,⟨k2,c,λh=>(by cases h),by simpa [num] using f⟩,g⟩;rw [GH];simp only [ai,↓reduceIte,GD,i,a,b]
theorem qN(n:Int)(a: -9223372036854775808<=n/\n < 9223372036854775808):∃x,Or (.call 72) [I n] []=some [x]/\WI n x:=by obtain⟨s',e,d,b,k2,_⟩:=Ek false (T.aJ true) n a;refine⟨T.ptr [tb s',T.aa 1 e (ay d)],aj ?_,s',e,d,rfl,k2⟩;rw [NR];simp only [ai,GD,b]
theorem pv(s:Bool)(y:T)(a e2:Bool)(d:List Int)(b:d.length<=1000):Or (.call 114) [r0,AV.t (T.ptr [tb a,T.aa 1 e2 (ay d)])] [ab.box [AV.t (T.bool s),AV.t y]]=some [T.ax,tb a,T.aa 1 false (ay d)]:=by refine aj ?_;rw [N8];have:bM 4 (ay d).length=some ():=jb (by rw [aL];omega);simp only [GD,this]
theorem qO(s:Bool)(y:T)(a e2:Bool)(d:List Int)(z:Int)(c:d.length<=1000)(hz:ch z a d):∃s',Or (.call 118) [r0,AV.t (T.ptr [tb a,T.aa 1 e2 (ay d)])] [ab.box [AV.t (T.bool s),AV.t y]]=some [T.ax,tb s',T.aa 1 false (ay d)]/\ch (-z) s' d:=by
 refine⟨!a && decide ((d.length:Int) > 0),aj ?_,hz.dg,hz.can,λh=> ?_, ?_⟩
 .rw [Cq];simp only [ai,GD,pv s y a e2 d c,aL,eI]
 .simp only [Vd,decide_eq_true_eq] at h;intro b;subst b;simp at h
 .have:=hz.z;unfold num at this⊢;cases a with
  | true=>simp at this⊢;omega
  | false=>
   simp only [VD,if_false] at this;by_cases e:(d.length:Int) > 0
   .simp [];omega
   .have:d= []:=Vq.1 (by omega);subst this;simp [val] at *
    omega
theorem be{v:Int}(h: 0<=v/\v < 18446744073709551616):u64.wrap v=v:=by rw [mE];omega
theorem oO{d:List Int}{i:Nat}(hi:i < d.length)(v:Int):bp (i:Int).toNat 0 [T.int .u32 v] (ay d)=some (ay (d.set i v)):=by have h1:=bE hi;simp only [bp,h1];simp [cg,ay]
abbrev lu(e:Bool)(d:List Int):AV:=AV.t (T.aa 1 e (ay d))
def dF:List Int->List Int->Int->List Int
 | [],_,c=> [c]
 | a::x,[],c=>((c+a) % 4294967296)::dF x [] ((c+a) / 4294967296)
 | a::x,b::y,c=>((c+a+b) % 4294967296)::dF x y ((c+a+b) / 4294967296)
theorem Dg.tail{a:Int}{d:List Int}(h:Dg (a::d)):Dg d:=λb hb=>h b (Va _ hb)
theorem tz:∀{x y:List Int} {c:Int},y.length<=x.length->val (dF x y c)=c+val x+val y
 | [],[],c,_=>by simp [dF,val]
 | [],b::y,c,h=>by simp at h
 | a::x,[],c,h=>by have:=tz (x:=x) (y:= []) (c:=(c+a) / 4294967296) (by simp);simp only [dF,val] at this⊢;rw [this];omega
 | a::x,b::y,c,h=>by have:=tz (x:=x) (y:=y) (c:=(c+a+b) / 4294967296) (by simpa using h);simp only [dF,val] at this⊢;rw [this];omega
theorem tu:∀{x y:List Int} {c:Int},Dg x->Dg y->0<=c/\c<=1->Dg (dF x y c)
 | [],_,c,_,_,f=>by intro a e;simp only [dF,Vj] at e;subst e;omega
 | a::x,[],c,d,hy,f=>by
  have h1:=d a U9;have:=tu (x:=x) (y:= []) (c:=(c+a) / 4294967296) d.tail hy (by omega);intro b hb;simp only [dF] at hb;rcases Vk.1 hb with rfl | hb
  .omega
  .exact this b hb
 | a::x,b::y,c,d,hy,f=>by
  have h1:=d a U9;have g:=hy b U9;have:=tu (x:=x) (y:=y) (c:=(c+a+b) / 4294967296) d.tail hy.tail (by omega);intro u hu;simp only [dF] at hu;rcases Vk.1 hu with rfl | hu
  .omega
  .exact this u hu
theorem tw:∀{x y:List Int} {c:Int},(dF x y c).length=x.length+1
 | [],_,c=>rfl
 | a::x,[],c=>by simp [dF,tw]
 | a::x,b::y,c=>by simp [dF,tw]
theorem n9(a:List Int)(b v:Int)(r:List Int)(i:Nat)(h:a.length=i):(a++b::r).set i v=a++v::r:=by subst h;simp
theorem fU{d:List Int}{i:Nat}{r:Int}{a:List Int}(h:d.drop i=r::a):aN d i=r:=by obtain⟨b,_,_⟩:=bh h;simp [aN,b]
theorem ix{v:Int}:v.fdiv ((2:Int) ^ 32)=v / 4294967296:=by rw [show((2:Int) ^ 32)=4294967296 from by decide,Wb _ (by omega)]
theorem Jp(x y:List Int)(p D:Bool)(H:Dg x)(hy:Dg y)(O:y.length<=x.length)(P:x.length<=1000):∀(e:List Int) (i:Nat) (c:Int) (done:List Int),x.drop i=e->done.length=i->i<=x.length->0<=c/\c<=1->
  Or rH [lu p x,lu D y,o0,AV.t (T.int .u64 c),lu p x,I (x.length:Int),I (i:Int)] [ab.sl false 1 false (ay (done++List.replicate (e.length+1) 0))]=some [T.aa 1 false (ay (done++dF e (y.drop i) c))]:=by
 intro e;induction e with
 | nil=>
  intro i c done h g hi F;have L:=bm h;obtain rfl:i=x.length:=by omega
  have h1:¬(x.length:Int) < (x.length:Int):=by omega
  have f: 0<=(x.length:Int)/\(x.length:Int) < ((done++List.replicate (([]:List Int).length+1) 0).length:Int):=by simp;omega
  have hs:=oO (d:=done++List.replicate (([]:List Int).length+1) 0) (i:=x.length) (by simp;omega) c;rw [show done++List.replicate (([]:List Int).length+1) 0=done++0:: [] from rfl,n9 done 0 c [] x.length g] at hs;have G:u32.wrap c=c:=by rw [cJ];omega
  refine aj ?_;rw [GQ];simp only [ai,↓reduceIte,GD,h1,aL,f,and_self,G];rw [show done++List.replicate (([]:List Int).length+1) 0=done++0:: [] from rfl,hs];simp only [GD,dF]
 | cons a e B=>
  intro i c done h g hi F;obtain⟨E,q,r⟩:=bh h;have h1:(i:Int) < (x.length:Int):=by omega
  have s: 0<=(i:Int):=by omega
  have N:=H a (U8 E);have o:=fU h;have n:(i:Int) < ((done++List.replicate ((a::e).length+1) 0).length:Int):=by simp;omega
  have j:∀v,bp (i:Int).toNat 0 [T.int .u32 v] (ay (done++List.replicate ((a::e).length+1) 0))=some (ay ((done++ [v])++List.replicate (e.length+1) 0)):=λv=>by rw [oO (by simp;omega),show done++List.replicate ((a::e).length+1) 0=done++0::List.replicate (e.length+1) 0 from rfl,n9 done 0 v _ i g];simp
  refine aj ?_;rw [GQ];cases m:y.drop i with
  | nil=>
   have M:=bm m;have f:¬(i:Int) < (y.length:Int):=by omega
   have k:u64.wrap a=a:=be (by omega);have l:u64.wrap (c+a)=c+a:=be (by omega);have A:y.drop (i+1)= []:=by simp;omega
   have:=B (i+1) ((c+a) / 4294967296) (done++ [(c+a) % 4294967296]) r (by simp [g]) (by omega) (by omega);rw [A,show done++ [(c+a) % 4294967296] ++dF e [] ((c+a) / 4294967296)=done++dF (a::e) [] c from by simp [dF]] at this;simp only [ai,↓reduceIte,GD,h1,s,and_self,aL,bE q,o,f,k,l,n,cJ,j,ix,next i (by omega)];exact this
  | cons b C=>
   obtain⟨J,k2,K⟩:=bh m;have hb:=hy b (U8 J);have u:=fU m;have f:(i:Int) < (y.length:Int):=by omega
   have k:u64.wrap a=a:=be (by omega);have l:u64.wrap (c+a)=c+a:=be (by omega);have w:u64.wrap b=b:=be (by omega);have z:u64.wrap (c+a+b)=c+a+b:=be (by omega);have:=B (i+1) ((c+a+b) / 4294967296) (done++ [(c+a+b) % 4294967296]) r (by simp [g]) (by omega) (by omega);rw [K,show done++ [(c+a+b) % 4294967296] ++dF e C ((c+a+b) / 4294967296)=done++dF (a::e) (b::C) c from by simp [dF]] at this;simp only [ai,↓reduceIte,GD,h1,s,and_self,aL,bE q,bE k2,o,u,f,k,l,w,z,n,cJ,j,ix,next i (by omega)];exact this
theorem SR(x y:List Int)(c e:Bool)(b:Dg x)(hy:Dg y)(i:x.length<=900)(j:y.length<=900):∃d,Or (.call 126) [lu c x,lu e y] []=some [T.aa 1 false (ay d)]/\Dg d/\val d=val x+val y/\d.length<=max x.length y.length+1:=by
 by_cases h:(x.length:Int) < (y.length:Int)
 .have h1:=Jp y x e c hy b (by omega) (by omega) y 0 0 [] rfl rfl (by omega) (by omega);refine⟨dF y x 0,aj ?_,tu hy b (by omega),by rw [tz (by omega)];omega,by rw [tw];omega⟩;have g:i64.wrap ((y.length:Int)+1)= ((y.length+1:Nat):Int):=next y.length (by omega);have a:bu ((y.length+1:Nat):Int) ((y.length+1:Nat):Int)=some ():=by unfold bu du;rw [if_pos (by omega)]
  have f:ay ([] ++List.replicate (y.length+1) 0)=List.replicate (y.length+1) [T.int u32 0]:=by simp [ay]
  rw [f] at h1;rw [GP];simp only [ai,↓reduceIte,GD,aL,h,g,a,VA];exact h1
 .have h1:=Jp x y c e b hy (by omega) (by omega) x 0 0 [] rfl rfl (by omega) (by omega);refine⟨dF x y 0,aj ?_,tu b hy (by omega),by rw [tz (by omega)];omega,by rw [tw];omega⟩;have g:i64.wrap ((x.length:Int)+1)= ((x.length+1:Nat):Int):=next x.length (by omega);have a:bu ((x.length+1:Nat):Int) ((x.length+1:Nat):Int)=some ():=by unfold bu du;rw [if_pos (by omega)]
  have f:ay ([] ++List.replicate (x.length+1) 0)=List.replicate (x.length+1) [T.int u32 0]:=by simp [ay]
  rw [f] at h1;rw [GP];simp only [ai,↓reduceIte,GD,aL,h,g,a,VA];exact h1
theorem gO(n:Nat): 0 < (4294967296:Int) ^ n:=Int.pow_pos (by decide)
theorem fH:∀{d:List Int},Dg d->val d < 4294967296 ^ d.length
 | [],_=>by simp [val]
 | a::d,h=>by have h1:=h a U9;have b:=fH h.tail;simp only [val,Vw,Xd];omega
theorem Dg.take{d:List Int}(h:Dg d)(n:Nat):Dg (d.take n):=λa b=>h a (WZ b)
theorem ou{d:List Int}{k:Nat}(a:k < d.length):val (d.take (k+1))=val (d.take k)+4294967296 ^ k * aN d k:=by
 have:d.take (k+1)=d.take k++ [aN d k]:=by rw [XE,Vb a];simp [aN,a]
 rw [this,fc,V7,ZH (by omega)];simp [val]
theorem BY{d:List Int}{k:Nat}(h:Dg d)(c:Can d)(b:d.length=k+1): 4294967296 ^ k<=val d:=by
 have h1:=ou (d:=d) (k:=k) (by omega);rw [<-b,Xv] at h1;have e:=c k b;have f:=eQ (h.take k);have g: 0<=aN d k:=by
  have a:k < d.length:=by omega
  have:aN d k∈d:=by simp only [aN,U7,Vb a,Vx];exact W2 a
  exact(h _ this).1
 have i:(4294967296:Int) ^ k * 1<=4294967296 ^ k * aN d k:=Vg (by omega) (Wu (gO k));omega
def bA(u v:Int):Int:=if u < v then -1 else if u=v then 0 else 1
theorem FV(u v w:Int):bA (u+w) (v+w)=bA u v:=by
 have h1:u+w < v+w↔u < v:=by omega
 have a:u+w=v+w↔u=v:=by omega
 unfold bA;simp only [h1,a]
theorem yM{a b:List Int}{k:Nat}(f:Dg a)(hb:Dg b)(c:k < a.length)(d:k < b.length)(h:aN a k < aN b k):val (a.take (k+1)) < val (b.take (k+1)):=by rw [ou c,ou d];have h1:=fH (f.take k);rw [V7,ZH (by omega)] at h1;have g:=eQ (hb.take k);have e:(4294967296:Int) ^ k * (aN a k+1)<=4294967296 ^ k * aN b k:=Vg (by omega) (Wu (gO k));rw [VF,Yd] at e;omega
theorem Jq(a b:List Int)(i h j eb:Bool)(g:Dg a)(hb:Dg b)(m:a.length=b.length)(n:a.length<=1000):∀(k:Nat) (z:Int),z= (k:Int) - 1->k<=a.length->
  Or xH [AV.t (T.ptr [tb i,T.aa 1 h (ay a)]),AV.t (T.ptr [tb j,T.aa 1 eb (ay b)]),I z] []=some [ti (bA (val (a.take k)) (val (b.take k)))]
 | 0,z,hz,l=>by
  refine aj ?_;rw [GR];have h1:¬z>=0:=by omega
  simp only [ai,↓reduceIte,GD,h1];simp [bA]
 | k+1,z,hz,l=>by
  obtain rfl:z= (k:Int):=by omega
  have h1:(k:Int)>=0:=by omega
  have e: 0<=(k:Int)/\(k:Int) < (a.length:Int):=by omega
  have f:(k:Int) < (b.length:Int):=by omega
  have o:i64.wrap ((k:Int) - 1)= (k:Int) - 1:=wr (by omega);refine aj ?_;rw [GR];by_cases d:aN a k=aN b k
  .have:=Jq a b i h j eb g hb m n k ((k:Int) - 1) rfl (by omega);have hv:bA (val (a.take (k+1))) (val (b.take (k+1)))=bA (val (a.take k)) (val (b.take k)):=by
    rw [ou (by omega),ou (by omega),d,FV]
   rw [hv];simp only [ai,↓reduceIte,GD,h1,e,f,and_self,aL,bE (show k < a.length by omega),bE (show k < b.length by omega),d,o];exact this
  .by_cases c:aN a k < aN b k
   .have:=yM g hb (show k < a.length by omega) (by omega) c;simp only [ai,↓reduceIte,GD,h1,e,f,and_self,aL,bE (show k < a.length by omega),bE (show k < b.length by omega),d,c];unfold bA;rw [if_pos this]
   .have:=yM hb g (show k < b.length by omega) (by omega) (show aN b k < aN a k by omega);simp only [ai,↓reduceIte,GD,h1,e,f,and_self,aL,bE (show k < a.length by omega),bE (show k < b.length by omega),d,c];unfold bA;rw [if_neg (by omega),if_neg (by omega)]
theorem mQ{a b:List Int}(c:Dg a)(hb:Dg b)(d:Can b)(h:a.length < b.length):val a < val b:=by
 have h1:=fH c;have e:=BY (k:=b.length - 1) hb d (by omega);have f:(4294967296:Int) ^ a.length<=4294967296 ^ (b.length - 1):=by
  have:b.length - 1=a.length+ (b.length - 1 - a.length):=by omega
  rw [this,XZ];have g:(4294967296:Int) ^ a.length * 1<=4294967296 ^ a.length * 4294967296 ^ (b.length - 1 - a.length):=Vg (by have:=gO (b.length - 1 - a.length);omega) (Wu (gO _));omega
 omega
theorem wo(a b:List Int)(h f i eb:Bool)(e:Dg a)(hb:Dg b)(j:Can a)(k:Can b)(g:a.length<=1000)(m:b.length<=1000):
  Or (.call 116) [AV.t (T.ptr [tb h,T.aa 1 f (ay a)]),AV.t (T.ptr [tb i,T.aa 1 eb (ay b)])] []=some [ti (bA (val a) (val b))]:=by
 refine aj ?_;rw [N6];by_cases c:(a.length:Int)= (b.length:Int)
 .have:=Jq a b h f i eb e hb (by omega) g a.length _ rfl (Vs _);rw [Xv,show b.take a.length=b from We (by omega)] at this;have l:i64.wrap ((a.length:Int) - 1)= (a.length:Int) - 1:=wr (by omega);simp only [aL,l];simp only [ai,c];rw [c] at this;exact this
 .by_cases d:(a.length:Int) < (b.length:Int)
  .have:=mQ e hb k (by omega);simp only [ai,↓reduceIte,aL,c,d];unfold bA;rw [if_pos this]
  .have:=mQ hb e j (by omega);simp only [ai,↓reduceIte,aL,c,d];unfold bA;rw [if_neg (by omega),if_neg (by omega)]
def cA(v:Int):Int:=if v < 0 then 1 else 0
def ee:List Int->List Int->Int->List Int
 | [],_,_=> []
 | a::x,[],c=>((a - c) % 4294967296)::ee x [] (cA (a - c))
 | a::x,b::y,c=>((a - c - b) % 4294967296)::ee x y (cA (a - c - b))
theorem zU:∀{x y:List Int} {c:Int},Dg x->Dg y->y.length<=x.length->0<=c/\c<=1->val y+c<=val x->val (ee x y c)=val x - val y - c
 | [],[],c,_,_,_,e,h=>by simp [ee,val] at h⊢;omega
 | [],b::y,c,_,_,h,_,_=>by simp at h
 | a::x,[],c,d,hy,f,e,h=>by have h1:=d a U9;simp only [val] at h;have:=zU (x:=x) (y:= []) (c:=cA (a - c)) d.tail hy (by simp) (by unfold cA;split <;> omega) (by simp only [val];unfold cA;split <;> omega);simp only [ee,val] at this⊢;rw [this];unfold cA;split <;> omega
 | a::x,b::y,c,d,hy,f,e,h=>by have h1:=d a U9;have g:=hy b U9;simp only [val] at h;have:=zU (x:=x) (y:=y) (c:=cA (a - c - b)) d.tail hy.tail (by simpa using f) (by unfold cA;split <;> omega) (by unfold cA;split <;> omega);simp only [ee,val] at this⊢;rw [this];unfold cA;split <;> omega
theorem zS:∀{x y:List Int} {c:Int},Dg (ee x y c)
 | [],_,c=>by intro a d;simp [ee] at d
 | a::x,[],c=>by
  intro u hu;simp only [ee] at hu;rcases Vk.1 hu with rfl | hu
  .omega
  .exact zS u hu
 | a::x,b::y,c=>by
  intro u hu;simp only [ee] at hu;rcases Vk.1 hu with rfl | hu
  .omega
  .exact zS u hu
theorem zT:∀{x y:List Int} {c:Int},(ee x y c).length=x.length
 | [],_,c=>rfl
 | a::x,[],c=>by simp [ee,zT]
 | a::x,b::y,c=>by simp [ee,zT]
theorem oR{v:Int}(h: -1000000000000<=v/\v<=1000000000000):(u64.wrap v).fdiv ((2:Int) ^ 63)=cA v:=by rw [show((2:Int) ^ 63)=9223372036854775808 from by decide,Wb _ (by omega),mE];unfold cA;split <;> omega
theorem wN(v:Int):u32.wrap (u64.wrap v)=v % 4294967296:=by rw [cJ,mE];omega
theorem qZ(v b:Int):u64.wrap (u64.wrap v - b)=u64.wrap (v - b):=by simp only [mE];omega
theorem Rj(x y:List Int)(z A:Bool)(D:Dg x)(hy:Dg y)(K:x.length<=1000):∀(d:List Int) (i:Nat) (c:Int) (done:List Int),x.drop i=d->done.length=i->0<=c/\c<=1->
  Or tU [lu A y,o0,AV.t (T.int .u64 c),lu z x,I (x.length:Int),I (i:Int)] [ab.sl false 1 false (ay (done++List.replicate d.length 0))]=some [T.aa 1 false (ay (done++ee d (y.drop i) c))]:=by
 intro d;induction d with
 | nil=>
  intro i c done h g C;have G:=bm h;have h1:¬(i:Int) < (x.length:Int):=by omega
  refine aj ?_;rw [GS];simp only [ai,↓reduceIte,GD,h1];simp [ee]
 | cons a d u=>
  intro i c done h g C;obtain⟨B,n,o⟩:=bh h;have h1:(i:Int) < (x.length:Int):=by omega
  have p: 0<=(i:Int):=by omega
  have J:=D a (U8 B);have k:=fU h;have j:(i:Int) < ((done++List.replicate (a::d).length 0).length:Int):=by simp;omega
  have e:∀v,bp (i:Int).toNat 0 [T.int .u32 v] (ay (done++List.replicate (a::d).length 0))=some (ay ((done++ [v])++List.replicate d.length 0)):=λv=>by rw [oO (by simp;omega),show done++List.replicate (a::d).length 0=done++0::List.replicate d.length 0 from rfl,n9 done 0 v _ i g];simp
  have l:u64.wrap a=a:=be (by omega);refine aj ?_;rw [GS];cases f:y.drop i with
  | nil=>
   have H:=bm f;have m:¬(i:Int) < (y.length:Int):=by omega
   have s:y.drop (i+1)= []:=by simp;omega
   have:=u (i+1) (cA (a - c)) (done++ [(a - c) % 4294967296]) o (by simp [g]) (by unfold cA;split <;> omega);rw [s,show done++ [(a - c) % 4294967296] ++ee d [] (cA (a - c))=done++ee (a::d) [] c from by simp [ee]] at this;simp only [ai,↓reduceIte,GD,h1,p,and_self,aL,bE n,k,m,l,j,wN,e,oR (v:=a - c) (by omega),next i (by omega)];exact this
  | cons b w=>
   obtain⟨E,k2,F⟩:=bh f;have hb:=hy b (U8 E);have q:=fU f;have m:(i:Int) < (y.length:Int):=by omega
   have r:u64.wrap b=b:=be (by omega);have:=u (i+1) (cA (a - c - b)) (done++ [(a - c - b) % 4294967296]) o (by simp [g]) (by unfold cA;split <;> omega);rw [F,show done++ [(a - c - b) % 4294967296] ++ee d w (cA (a - c - b))=done++ee (a::d) (b::w) c from by simp [ee]] at this;simp only [ai,↓reduceIte,GD,h1,p,and_self,aL,bE n,bE k2,k,q,m,r,qZ,j,wN,e,oR (v:=a - c - b) (by omega),next i (by omega)];exact this
theorem KD(x y:List Int)(a b:Bool)(e:Dg x)(hy:Dg y)(g:y.length<=x.length)(hv:val y<=val x)(h:x.length<=900):∃d,Or (.call 127) [lu a x,lu b y] []=some [T.aa 1 false (ay d)]/\Dg d/\val d=val x - val y/\d.length=x.length:=by
 have h1:=Rj x y a b e hy (by omega) x 0 0 [] rfl rfl (by omega);refine⟨ee x y 0,aj ?_,zS,by rw [zU e hy g (by omega) (by omega)];omega,zT⟩;have c:bu (x.length:Int) (x.length:Int)=some ():=by unfold bu du;rw [if_pos (by omega)]
 have f:ay ([] ++List.replicate x.length 0)=List.replicate x.length [T.int u32 0]:=by simp [ay]
 rw [f] at h1;rw [N7];simp only [GD,aL,c,VA];exact h1
open Go Go.Aev Go.Aev.Gen
theorem TN{d:List Int}(h:bI d= []):val d=0:=by rw [<-oq,h];rfl
theorem pD{s:Bool}{d:List Int}{z:Int}(b:Dg d)(hz:num s d=z):ch z (s && decide (bI d≠[])) (bI d):=by
 refine⟨m9 b,pC d,λh=> ?_, ?_⟩
 .simp only [Vd,decide_eq_true_eq] at h;exact h.2
 .unfold num at hz⊢;rw [oq];by_cases a:bI d= []
  .have:=TN a;simp only [a,ne_eq,not_true_eq_false,decide_false,YK,VD,if_false];split at hz <;> omega
  .simp only [ne_eq,a,not_false_eq_true,decide_true,XU];exact hz
def um(z:Int)(n:Nat)(r:Option (List T)):Prop:= ∃s e d,r=some [T.ax,tb s,T.aa 1 e (ay d)]/\ch z s d/\d.length<=n
theorem tt:(true==true)=true:=rfl
theorem tf:(true==false)=false:=rfl
theorem ft:(false==true)=false:=rfl
theorem ff:(false==false)=true:=rfl
theorem wh(c e2 e e3:Bool)(a b:List Int)(u v:Int)(f:ch u c a)(hb:ch v e b)(w:a.length<=400)(lb:b.length<=400):
  um (u+v) (max a.length b.length+1) (Or (.call 94) [r0,r0,AV.t (T.ptr [tb e,T.aa 1 e3 (ay b)])] [ab.box [AV.t (T.bool c),AV.t (T.aa 1 e2 (ay a))]]):=by
 have m:=f.z;have hv:=hb.z;by_cases hs:c=e
 .subst hs;obtain⟨d,p,k,k2,q⟩:=SR a b e2 e3 f.dg hb.dg (by omega) (by omega);have g:=lC c false d (by omega);refine⟨c && decide (bI d≠[]),false,bI d,aj ?_,pD (s:=c) k ?_,by have:=qU d;omega⟩
  .rw [Cp];have l:(c==c)=true:=by cases c <;> rfl
   simp only [ai,GD,p,g]
  .unfold num at m hv⊢;split at m <;> split at hv <;> (try split) <;> first | omega | simp_all
 .have l:(c==e)=false:=by cases c <;> cases e <;> simp_all
  have n:=wo a b c e2 e e3 f.dg hb.dg f.can hb.can (by omega) (by omega);by_cases r:val b<=val a
  .have o:b.length<=a.length:=by
    rcases Xk a.length b.length with h | h
    .have:=mQ f.dg hb.dg hb.can h;omega
    .exact h
   obtain⟨d,i,k,k2,q⟩:=KD a b e2 e3 f.dg hb.dg o r (by omega);have g:=lC c false d (by omega);have j:bA (val a) (val b)>=0:=by unfold bA;split <;> (try split) <;> omega
   refine⟨c && decide (bI d≠[]),false,bI d,aj ?_,pD (s:=c) k ?_,by have:=qU d;omega⟩
   .rw [Cp];simp only [ai,↓reduceIte,GD,l,n,j,i,g]
   .unfold num at m hv⊢;cases c <;> cases e <;> simp at * <;> omega
  .have o:a.length<=b.length:=by
    rcases Xk b.length a.length with h | h
    .have:=mQ hb.dg f.dg f.can h;omega
    .exact h
   obtain⟨d,i,k,k2,q⟩:=KD b a e3 e2 hb.dg f.dg o (by omega) (by omega);have g:=lC e false d (by omega);have j:¬bA (val a) (val b)>=0:=by unfold bA;rw [if_pos (by omega)];omega
   refine⟨e && decide (bI d≠[]),false,bI d,aj ?_,pD (s:=e) k ?_,by have:=qU d;omega⟩
   .rw [Cp];simp only [ai,↓reduceIte,GD,l,n,j,i,g]
   .unfold num at m hv⊢;cases c <;> cases e <;> simp at * <;> omega
theorem Kx(c e2 e e3:Bool)(a b:List Int)(u v:Int)(g:ch u c a)(hb:ch v e b)(k:a.length<=400)(lb:b.length<=400):
  um (u - v) (max a.length b.length+1) (Or (.call 148) [r0,r0,AV.t (T.ptr [tb e,T.aa 1 e3 (ay b)])] [ab.box [AV.t (T.bool c),AV.t (T.aa 1 e2 (ay a))]]):=by
 obtain⟨s',f,h⟩:=qO false (T.aJ true) e e3 b v (by omega) hb;obtain⟨l,er,d,i,k2,j⟩:=wh c e2 s' false a b u (-v) g h k lb;refine⟨l,er,d,aj ?_,by rw [Zp];exact k2,j⟩;rw [NS];simp only [ai,GD,f,i]
open Go Go.Aev Go.Aev.Gen
def gK(a:Int):List Int->List Int->Int->List Int
 | [],[],_=> []
 | [],_::r,c=>c::r
 | _::_,[],_=> []
 | b::y,o::r,c=>((c+a * b+o) % 4294967296)::gK a y r ((c+a * b+o) / 4294967296)
theorem lk{a b:Int}(c: 0<=a/\a < 4294967296)(hb: 0<=b/\b < 4294967296): 0<=a * b/\a * b<=18446744065119617025:=by have h1: 0<=a * b:=Wg c.1 hb.1;have d:a * b<=4294967295 * 4294967295:=Int.mul_le_mul (by omega) (by omega) hb.1 (by omega);omega
theorem Dx{a:Int}(e: 0<=a/\a < 4294967296):∀{y o r:List Int} {c:Int},y.length=o.length->val (gK a y (o++0::r) c)=c+a * val y+val (o++0::r)
 | [],[],r,c,_=>by simp [gK,val]
 | [],o::os,r,c,h=>by simp at h
 | b::y,[],r,c,h=>by simp at h
 | b::y,o::os,r,c,h=>by
  have:=Dx e (y:=y) (o:=os) (r:=r) (c:=(c+a * b+o) / 4294967296) (by simpa using h);simp only [Vc,gK,val] at this⊢;have d:a * (b+4294967296 * val y)=a * b+4294967296 * (a * val y):=by rw [VF,VT]
  rw [this,d];omega
theorem Dv{a:Int}:∀{y o:List Int} {c:Int},(gK a y o c).length=o.length
 | [],[],_=>rfl
 | [],_::r,c=>rfl
 | _::_,[],_=>rfl
 | b::y,o::r,c=>by simp [gK,Dv]
theorem Du{a:Int}(e: 0<=a/\a < 4294967296):∀{y o:List Int} {c:Int},Dg y->Dg o->0<=c/\c < 4294967296->Dg (gK a y o c)
 | [],[],_,_,_,_=>by intro u hu;simp [gK] at hu
 | [],_::r,c,_,d,f=>by
  intro u hu;simp only [gK] at hu;rcases Vk.1 hu with rfl | hu
  .exact f
  .exact d u (Va _ hu)
 | _::_,[],_,_,_,_=>by intro u hu;simp [gK] at hu
 | b::y,o::r,c,hy,d,f=>by
  have h1:=d o U9;have g:=lk e (hy b U9);have:=Du e (y:=y) (o:=r) (c:=(c+a * b+o) / 4294967296) hy.tail d.tail (by omega);intro u hu;simp only [gK] at hu;rcases Vk.1 hu with rfl | hu
  .omega
  .exact this u hu
theorem rT(a:List Int)(b:Int)(r:List Int)(i:Nat)(h:a.length=i):aN (a++b::r) i=b:=by subst h;simp [aN]
theorem Rd(s:Bool)(A:T)(w e2 z e3:Bool)(x y:List Int)(a:Int)(F: 0<=a/\a < 4294967296)(hy:Dg y)(i:Nat)(hi:i<=1000)(U:y.length<=1000)(R:List T):∀(l:List Int) (j:Nat) (c:Int) (e f:List Int),y.drop j=l->j<=y.length->e.length=i+j->l.length < f.length->Dg f->0<=c/\c < 4294967296->
  Or tS [r0,AV.t (T.ptr [tb w,T.aa 1 e2 (ay x)]),AV.t (T.ptr [tb z,T.aa 1 e3 (ay y)]),o1,lu e2 x,I (x.length:Int),I ((i+1:Nat):Int)] [ab.box [AV.t (T.bool s),AV.t A],ab.sl false 1 false (ay (e++gK a l f c))]=some R->
  Or xA [r0,AV.t (T.ptr [tb w,T.aa 1 e2 (ay x)]),AV.t (T.ptr [tb z,T.aa 1 e3 (ay y)]),o1,I (i:Int),AV.t (T.int .u32 a),AV.t (T.int .u64 c),lu e2 x,I (x.length:Int),I (i:Int),lu e3 y,I (y.length:Int),I (j:Int)] [ab.box [AV.t (T.bool s),AV.t A],ab.sl false 1 false (ay (e++f))]=some R:=by
 intro l;induction l with
 | nil=>
  intro j c e f h J m hm g G k;have S:=bm h;obtain rfl:j=y.length:=by omega
  match f,hm with
  | o::r,_=>
   have h1:¬(y.length:Int) < (y.length:Int):=by omega
   have p:i64.wrap ((i:Int)+ (y.length:Int))= ((i+y.length:Nat):Int):=by rw [wr (by omega)];omega
   have n: 0<=((i+y.length:Nat):Int)/\((i+y.length:Nat):Int) < ((e++o::r).length:Int):=by simp;omega
   have hs:=oO (d:=e++o::r) (i:=i+y.length) (by simp;omega) c;rw [n9 e o c r _ m] at hs;have u:u32.wrap c=c:=by rw [cJ];omega
   refine aj ?_;rw [GC];simp only [ai,↓reduceIte,GD,h1,aL,p,n,and_self,u,hs,next i (by omega)];exact k
 | cons b l K=>
  intro j c e f h J m hm g G k;obtain⟨B,C,D⟩:=bh h;have hb:=hy b (U8 B);have q:=fU h
  match f,hm,g,k with
  | o::r,hm,g,k=>
   have V:=g o U9;have Q:=lk F hb;have h1:(j:Int) < (y.length:Int):=by omega
   have E: 0<=(j:Int):=by omega
   have p:i64.wrap ((i:Int)+ (j:Int))= ((i+j:Nat):Int):=by rw [wr (by omega)];omega
   have n: 0<=((i+j:Nat):Int)/\((i+j:Nat):Int) < ((e++o::r).length:Int):=by simp;omega
   have H:(ay (e++o::r))[((i+j:Nat):Int).toNat]? =some [T.int .u32 o]:=by rw [bE (by simp;omega),rT e o r _ m]
   have hs:∀v,bp ((i+j:Nat):Int).toNat 0 [T.int .u32 v] (ay (e++o::r))=some (ay ((e++ [v])++r)):=λv=>by rw [oO (by simp;omega),n9 e o v r _ m];simp
   have L:u64.wrap a=a:=be (by omega);have M:u64.wrap b=b:=be (by omega);have N:u64.wrap o=o:=be (by omega);have w4:u64.wrap (a * b)=a * b:=be (by omega);have O:u64.wrap (a * b+o)=a * b+o:=be (by omega);have P:u64.wrap (c+ (a * b+o))=c+a * b+o:=by rw [be (by omega)];omega
   have:=K (j+1) ((c+a * b+o) / 4294967296) (e++ [(c+a * b+o) % 4294967296]) r D (by omega) (by simp;omega) (by simpa using hm) g.tail (by omega) (by
    rw [gK] at k;rw [VI];exact k)
   refine aj ?_;rw [GC];simp only [ai,↓reduceIte,GD,h1,E,and_self,aL,bE C,q,p,n,H,L,M,N,w4,O,P,cJ,hs,ix,next j (by omega)];exact this
theorem Dw{a:Int}:∀{y o r:List Int} {q c:Int},y.length=o.length->gK a y (o++q::r) c=gK a y (o++ [q]) c++r
 | [],[],r,q,c,_=>rfl
 | [],o::os,r,q,c,h=>by simp at h
 | b::y,[],r,q,c,h=>by simp at h
 | b::y,o::os,r,q,c,h=>by simp only [Vc,gK];rw [Dw (by simpa using h)]
theorem Rc(s:Bool)(J:T)(n e2 p e3:Bool)(x y:List Int)(P:Dg x)(hy:Dg y)(W:x.length<=400)(X:y.length<=400):∀(f:List Int) (i:Nat) (e b:List Int),x.drop i=f->i<=x.length->e.length=i->b.length=y.length->Dg e->Dg b->
  ∃d,Or tS [r0,AV.t (T.ptr [tb n,T.aa 1 e2 (ay x)]),AV.t (T.ptr [tb p,T.aa 1 e3 (ay y)]),o1,lu e2 x,I (x.length:Int),I (i:Int)] [ab.box [AV.t (T.bool s),AV.t J],ab.sl false 1 false (ay (e++ (b++List.replicate f.length 0)))]=some [T.ax,tb ((!n==p) && decide (bI d≠[])),T.aa 1 false (ay (bI d))]/\
   Dg d/\d.length=x.length+y.length/\val d=val (e++b)+4294967296 ^ i * (val f * val y):=by
 intro f;induction f with
 | nil=>
  intro i e b h hi m g l j;have V:=bm h;have h1:¬(i:Int) < (x.length:Int):=by omega
  have A:(e++b).length=x.length+y.length:=by simp;omega
  have B:=lC (!n==p) false (e++b) (by omega);refine⟨e++b,aj ?_,λu hu=> ?_,A,by simp [val]⟩
  .rw [GB];simp only [VL,WV,V9];simp only [ai,↓reduceIte,GD,h1,B]
  .rcases Vr.1 hu with hu | hu
   .exact l u hu
   .exact j u hu
 | cons a f Q=>
  intro i e b h hi m g l j;obtain⟨L,M,N⟩:=bh h;have z:=P a (U8 L);have D:=fU h;have h1:(i:Int) < (x.length:Int):=by omega
  have O: 0<=(i:Int):=by omega
  have C:Dg (b++ [0]):=λu hu=>by
   rcases Vr.1 hu with hu | hu
   .exact j u hu
   .simp only [Vj] at hu;subst hu;omega
  have H:=Dx z (y:=y) (o:=b) (r:= []) (c:=0) g.symm;have w:=Dv (a:=a) (y:=y) (o:=b++ [0]) (c:=0);have v:=Du z (y:=y) (o:=b++ [0]) (c:=0) hy C (by omega);have G:=Dw (a:=a) (y:=y) (o:=b) (r:=List.replicate f.length 0) (q:=0) (c:=0) g.symm;have E:Dg (b++List.replicate (a::f).length 0):=λu hu=>by
   rcases Vr.1 hu with hu | hu
   .exact j u hu
   .have:=WN hu;omega
  generalize gK a y (b++ [0]) 0=res at *
  cases res with
  | nil=>simp at w
  | cons k t=>
   simp only [Vw,Wr,VL] at w;obtain⟨d,R,k2,S,U⟩:=Q (i+1) (e++ [k]) t N (by omega) (by simp [m]) (by omega) (λu hu=>by
    rcases Vr.1 hu with hu | hu
    .exact l u hu
    .simp only [Vj] at hu;subst hu;exact v u U9) v.tail
   have F:=Rd s J n e2 p e3 x y a z hy i (by omega) (by omega) _ y 0 0 e (b++List.replicate (a::f).length 0) rfl (by omega) (by omega) (by simp;omega) E (by omega) (by
    rw [show b++List.replicate (a::f).length 0=b++0::List.replicate f.length 0 from rfl,G];rw [show e++ (k::t++List.replicate f.length 0)=e++ [k] ++ (t++List.replicate f.length 0) from by simp];exact R)
   refine⟨d,aj ?_,k2,S, ?_⟩
   .rw [GB];simp only [ai,↓reduceIte,GD,h1,O,and_self,aL,bE M,D];exact F
   .rw [U];have K:e++ [k] ++t=e++k::t:=by simp
    have e2:val (b++ [0])=val b:=by rw [fc];simp [val]
    have e3:(4294967296:Int) ^ i * ((a+4294967296 * val f) * val y)=4294967296 ^ i * (a * val y)+4294967296 ^ i * 4294967296 * (val f * val y):=by rw [Xl,VF];simp only [VQ]
    rw [K,fc,fc,m,H,e2,Xd];simp only [val];rw [e3,YY,VF];omega
theorem AW:∀n:Nat,val (List.replicate n 0)=0
 | 0=>rfl
 | n+1=>by simp only [VX,val,AW n];omega
theorem SI(s:Bool)(k:T)(e e2 f e3:Bool)(a b:List Int)(u v:Int)(h:ch u e a)(hb:ch v f b)(o:a.length<=400)(lb:b.length<=400):
  um (u * v) (a.length+b.length) (Or (.call 91) [r0,AV.t (T.ptr [tb e,T.aa 1 e2 (ay a)]),AV.t (T.ptr [tb f,T.aa 1 e3 (ay b)])] [ab.box [AV.t (T.bool s),AV.t k]]):=by
 obtain⟨d,j,k2,p,n⟩:=Rc s k e e2 f e3 a b h.dg hb.dg o lb a 0 [] (List.replicate b.length 0) rfl (by omega) rfl (by simp) (λu c=>by cases c) (λu c=>by
  have:=WN c;omega)
 have hv:val d=val a * val b:=by rw [n,Ve,AW];simp
 have m:i64.wrap ((a.length:Int)+ (b.length:Int))= ((b.length+a.length:Nat):Int):=by rw [wr (by omega)];omega
 have i:bu ((b.length+a.length:Nat):Int) ((b.length+a.length:Nat):Int)=some ():=by unfold bu du;rw [if_pos (by omega)]
 have l:ay ([] ++ (List.replicate b.length 0++List.replicate a.length 0))=List.replicate (b.length+a.length) [T.int u32 0]:=by rw [Ve,X8];simp [ay]
 rw [l] at j;have c:=h.z;have g:=hb.z;refine⟨(!e==f) && decide (bI d≠[]),false,bI d,aj ?_,pD (s:= !e==f) k2 ?_,by have:=qU d;omega⟩
 .rw [NT];simp only [aL,m];simp only [GD,i,VA];exact j
 .unfold num at c g⊢;rw [hv,<-c,<-g];cases e <;> cases f <;> simp [Int.mul_neg,YO]
end Go.Aev.Wd
