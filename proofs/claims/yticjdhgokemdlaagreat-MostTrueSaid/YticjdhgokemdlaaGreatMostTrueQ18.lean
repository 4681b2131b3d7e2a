import Derived.Test.YticjdhgokemdlaaGreatMostTrueQ6
import Derived.Test.YticjdhgokemdlaaGreatMostTrueQ17
set_option linter.all false
namespace Go.Aev.Wd.Lg
open Go Go.Aev Go.Aev.Gen
noncomputable abbrev yl:Key:=aQ an 9 true 10 [(2,none),(3,none),(9,none),(11,some 3),(32,none),(33,none),(34,none)] (0,0)
noncomputable abbrev tX:Key:=aQ an 10 true 8 [(4,none),(5,none),(12,none),(14,none),(15,none)] (0,0)
noncomputable abbrev pP:Key:=aQ an 20 true 3 [(0,none),(1,none),(2,none),(6,none),(7,none),(8,none)] (0,0)
noncomputable abbrev xT:Key:=aQ an 10 true 12 [(5,none),(12,none),(14,none),(16,none)] (0,0)
noncomputable abbrev pO:Key:=aQ an 20 true 10 [(2,none),(6,none),(7,none),(9,none)] (0,0)
noncomputable abbrev xU:Key:=aQ an 11 true 5 [(0,none),(1,none),(2,none),(5,none),(13,none),(14,none)] (0,0)
noncomputable abbrev xu:Key:=aQ an 15 true 2 [(0,none),(1,none),(5,none)] (0,0)
noncomputable abbrev tY:Key:=aQ an 11 true 10 [(0,none),(1,none),(2,none),(5,none),(13,none),(15,none)] (0,0)
noncomputable abbrev tT:Key:=aQ an 44 true 3 [(1,none),(4,none),(5,none),(6,none)] (0,0)
noncomputable abbrev np:Key:=aQ an 35 true 3 [(0,none),(1,none),(2,none),(3,none),(9,none),(10,none)] (0,0)
noncomputable abbrev xV:Key:=aQ an 12 true 2 [(0,none),(1,none),(2,none),(7,none)] (0,0)
noncomputable abbrev LX:Key:=aQ an 3 true 9 [(0,none),(1,none),(2,none),(4,none),(5,none),(9,none),(14,none),(15,none),(16,none),(17,none),(18,none),(19,some 2),(20,none)] (0,0)
theorem zo(O:ar)(er eg ep:Bool)(r g p:JL)(n:Int):aw an ann O (Key.call 9) [Jl 3 er r,I n,Jl 1 eg g,Jl 2 ep p] []=
 (G0 (O (.call 24) [Jl 3 er r,I n,Jl 1 eg g] []) λa c=>bif !a==0 then some [Jb false,Ji a,Ji c] else bif !(p.length:Int)==n then some [Jb false,Ji 9,Ji 0] else G3 (O (.call 25) [Jl 2 ep p] []) λb=>bif b then some [Jb false,Ji 5,Ji 0] else O yl [Jl 1 eg g,Jl 2 ep p,Jr 0,Jo 1,Jl 3 er r,I (r.length:Int),I 0] [ab.box [I 0,I 0],ab.sl false 3 true []]):=by kernel_rfl
theorem CP(O:ar)(h a i g:Bool)(o m j l:JL)(k c d f:Int):aw an ann O yl [Jl 1 h o,Jl 2 a m,Jr 0,Jo 1,Jl 3 i j,I k,I c] [ab.box [I d,I f],ab.sl false 3 g l]=
 (bif decide (c < k) then G1 c j λp n u=>Jg (bM 40 (l.length+ [[T.aa 1 p.fst p.snd,Ji n,Ji 0]].length)) λx=>O yl [Jl 1 h o,Jl 2 a m,Jr 0,Jo 1,Jl 3 i j,I k,I (Jw c)] [ab.box [I d,I f],ab.sl false 3 (g && false) (l++ [[T.aa 1 p.fst p.snd,Ji n,Ji 0]])] else G3 (O (.call 26) [Jl 3 g l,Jl 2 a m] []) λb=>G6 (some b) (bR (some b) (O (.call 28) [Jl 2 a m] [])) λp=>G7 (some b) (bR (some b) (O (.call 27) [Jl 1 h o,Jl 4 p.fst p.snd] [])) λq s r t=>G8 (some b) (bR (some b) (O (.call 33) [Ja q s r t] [])) λn=>some [Jb (bif b then decide (n > 0) else false),Ji 0,Ji 0]):=by kernel_rfl
theorem CA(O:ar)(er eg ep et:Bool)(r g p t:JL)(n vn c:Int):aw an ann O (Key.call 10) [Jl 3 er r,I n,Jl 1 eg g,AV.agg [I vn,I c],Jl 2 ep p,Jl 2 et t] []=
 (G0 (O (.call 20) [Jl 3 er r,I n,Jl 1 eg g] []) λa d=>bif bif a==0 then bif !(p.length:Int)==n then true else !(t.length:Int)== (r.length:Int) else false then G0 (O (.call 21) [I 9,I 0] []) λn f=>bif !n==0 then some [Ji n,Ji f] else G3 (O (.call 34) [AV.agg [I vn,I c]] []) λb=>O tX [Jl 2 ep p,Jl 2 et t,Jr 0,B b,I 0] [ab.box [I 0,I 0]] else bif !a==0 then some [Ji a,Ji d] else G3 (O (.call 34) [AV.agg [I vn,I c]] []) λb=>O tX [Jl 2 ep p,Jl 2 et t,Jr 0,B b,I 0] [ab.box [I 0,I 0]]):=by kernel_rfl
theorem Hs(O:ar)(a b:Bool)(c f:JL)(d:Int):aw an ann O (Key.call 20) [Jl 3 a c,I d,Jl 1 b f] []=
 (G0 (O (.call 49) [Jl 3 a c,I d] []) λn g=>O pP [Jl 3 a c,I d,Jl 1 b f,Jr 0,Jr 1,I 0] [ab.box [I 0,I 0],ab.box [I n,I g]]):=by kernel_rfl
theorem CB(O:ar)(i g a:Bool)(h j:JL)(f c d:Int):aw an ann O tX [Jl 2 i h,Jl 2 g j,Jr 0,B a,I f] (Y9 c d)=
 (bif decide (f < (h.length:Int)) then w9 (some a) f h λn k=>G5 (some a) (bR (some a) (O (.call 34) [AV.agg [I n,I k]] [])) λb=>O tX [Jl 2 i h,Jl 2 g j,Jr 0,B (bif a then b else false),I (Jw f)] (Y9 c d) else O xT [Jl 2 g j,Jr 0,B a,I 0] (Y9 c d)):=by kernel_rfl
theorem zl(O:ar)(i d:Bool)(k g:JL)(l h a b c f:Int):aw an ann O pP [Jl 3 i k,I l,Jl 1 d g,Jr 0,Jr 1,I h] (Y7 a b c f)=
 (bif bif decide (h < (k.length:Int)) then c==0 else false then tP h k λn=>bif n==2 then G0 (O (.call 21) [I 4,I h] []) λn j=>O pP [Jl 3 i k,I l,Jl 1 d g,Jr 0,Jr 1,I (Jw h)] (Y7 a b n j) else O pP [Jl 3 i k,I l,Jl 1 d g,Jr 0,Jr 1,I (Jw h)] (Y7 a b c f) else bif bif c==0 then decide ((g.length:Int) > l) else false then G0 (O (.call 21) [I 9,I 0] []) λn j=>O pO [Jl 1 d g,Jr 0,Jr 1,I 0] (Y7 a b n j) else O pO [Jl 1 d g,Jr 0,Jr 1,I 0] (Y7 a b c f)):=by kernel_rfl
theorem zj(O:ar)(i a:Bool)(h:JL)(c d f:Int):aw an ann O xT [Jl 2 i h,Jr 0,B a,I c] (Y9 d f)=
 (bif decide (c < (h.length:Int)) then w9 (some a) c h λn g=>G5 (some a) (bR (some a) (O (.call 34) [AV.agg [I n,I g]] [])) λb=>O xT [Jl 2 i h,Jr 0,B (bif a then b else false),I (Jw c)] (Y9 d f) else bif !a then G0 (O (.call 21) [I 5,I 0] []) λn g=>some [Ji n,Ji g] else some [Ji 0,Ji 0]):=by kernel_rfl
theorem uS(O:ar)(h:Bool)(i:JL)(g c d a f:Int):aw an ann O pO [Jl 1 h i,Jr 0,Jr 1,I g] (Y7 c d a f)=
 (bif bif decide (g < (i.length:Int)) then a==0 else false then G2 g i λn=>G3 (O (.call 50) [I n] []) λb=>bif !b then G0 (O (.call 21) [I 5,I g] []) λn j=>O pO [Jl 1 h i,Jr 0,Jr 1,I (Jw g)] (Y7 c d n j) else O pO [Jl 1 h i,Jr 0,Jr 1,I (Jw g)] (Y7 c d a f) else some [Ji a,Ji f]):=by kernel_rfl
theorem CC(O:ar)(er eg ep et:Bool)(r g p t:JL)(n vn c:Int):aw an ann O (Key.call 11) [Jl 3 er r,I n,Jl 1 eg g,AV.agg [I vn,I c],Jl 2 ep p,Jl 2 et t] []=
 (bX (O (.call 18) [AV.agg [I vn,I c]] []) λx=>G3 (O (.call 15) [Jl 3 er r,Jl 2 ep p] []) λb=>Bi (some !!b) (bR (some !!b) (O (.call 16) [Jl 1 eg g,Jl 2 ep p] [])) λd=>G8 (some !!b) (bR (some !!b) (O (.call 17) [AV.t d,AV.t x] [])) λa=>bif bif !b then true else !a==0 then some [Jb false] else O xU [Jl 3 er r,I n,Jl 1 eg g,Jl 2 et t,AV.t x,I 0] []):=by kernel_rfl
theorem NG(O:ar)(a b:Bool)(c d:JL):aw an ann O (Key.call 15) [Jl 3 a c,Jl 2 b d] []=
 (O xu [Jl 3 a c,Jl 2 b d,I 0] []):=by kernel_rfl
theorem zk(O:ar)(b c d:Bool)(f j h:JL)(i a:Int)(g:T):aw an ann O xU [Jl 3 b f,I i,Jl 1 c j,Jl 2 d h,AV.t g,I a] []=
 (bif decide (a < (f.length:Int)) then tP a f λn=>nk (some (n==1)) a h λk=>bif bif n==1 then decide (k < 0) else false then some [Jb false] else O xU [Jl 3 b f,I i,Jl 1 c j,Jl 2 d h,AV.t g,I (Jw a)] [] else O tY [Jl 3 b f,I i,Jl 1 c j,Jl 2 d h,AV.t g,I 0] []):=by kernel_rfl
theorem Gw(O:ar)(g a:Bool)(c f:JL)(d:Int):aw an ann O xu [Jl 3 g c,Jl 2 a f,I d] []=
 (bif decide (d < (c.length:Int)) then G1 d c λp n h=>G0 (O (.call 44) [AV.agg [Jl 1 p.fst p.snd,I n,I h],Jl 2 a f] []) λn k=>Bj (some !!n==0) d c λp i j=>G5 (some !!n==0) (bR (some !!n==0) (O (.call 45) [AV.agg [Jl 1 p.fst p.snd,I i,I j],Jl 2 a f] [])) λb=>bif bif !n==0 then true else !b then some [Jb false] else O xu [Jl 3 g c,Jl 2 a f,I (Jw d)] [] else some [Jb true]):=by kernel_rfl
theorem uQ(O:ar)(b i c:Bool)(g j h:JL)(d a:Int)(f:T):aw an ann O tY [Jl 3 b g,I d,Jl 1 i j,Jl 2 c h,AV.t f,I a] []=
 (bif decide (a < d) then bif decide (a < (j.length:Int)) then G2 a j λn=>bX (O (.call 35) [Jl 3 b g,I d,Jl 2 c h,I a] []) λx=>bX (O (.call 36) [I n,I 1] []) λk=>G9 (O (.call 17) [AV.t x,AV.t k] []) λn=>bif !n==0 then some [Jb false] else O tY [Jl 3 b g,I d,Jl 1 i j,Jl 2 c h,AV.t f,I (Jw a)] [] else bX (O (.call 35) [Jl 3 b g,I d,Jl 2 c h,I a] []) λx=>bX (O (.call 36) [I 0,I 1] []) λk=>G9 (O (.call 17) [AV.t x,AV.t k] []) λn=>bif !n==0 then some [Jb false] else O tY [Jl 3 b g,I d,Jl 1 i j,Jl 2 c h,AV.t f,I (Jw a)] [] else bX (O (.call 35) [Jl 3 b g,I d,Jl 2 c h,I d] []) λx=>G9 (O (.call 17) [AV.t x,AV.t f] []) λn=>some [Jb (n==0)]):=by kernel_rfl
theorem yY(O:ar)(a f:Bool)(b g:JL)(c d:Int):aw an ann O (Key.call 44) [AV.agg [Jl 1 a b,I c,I d],Jl 2 f g] []=
 (G0 (O (.call 90) [AV.agg [Jl 1 a b,I c,I d],I (g.length:Int)] []) λn h=>O tT [Jl 2 f g,Jr 0,Jr 1,I 0] [ab.box [I 0,I 0],ab.box [I n,I h]]):=by kernel_rfl
theorem Co(O:ar)(b f:Bool)(c g:JL)(a d:Int):aw an ann O (Key.call 45) [AV.agg [Jl 1 b c,I a,I d],Jl 2 f g] []=
 (bX (O (.call 16) [Jl 1 b c,Jl 2 f g] []) λx=>bX (O (.call 36) [I d,I 1] []) λh=>G9 (O (.call 17) [AV.t x,AV.t h] []) λn=>some [Jb (bif bif decide (n < 0) then !a==3 else false then true else bif n==0 then !a==2 else false)]):=by kernel_rfl
theorem OU(O:ar)(a b:Bool)(c f:JL)(d g:Int):aw an ann O (Key.call 35) [Jl 3 a c,I d,Jl 2 b f,I g] []=
 (bX (O (.call 36) [I 0,I 1] []) λx=>O np [Jl 3 a c,I d,Jl 2 b f,I g,AV.t x,I 0] []):=by kernel_rfl
theorem GF(O:ar)(h:Bool)(i:JL)(g c d a f:Int):aw an ann O tT [Jl 2 h i,Jr 0,Jr 1,I g] (Y7 c d a f)=
 (bif bif decide (g < (i.length:Int)) then a==0 else false then jF g i λn j=>G3 (O (.call 34) [AV.agg [I n,I j]] []) λb=>bif !b then G0 (O (.call 21) [I 5,I g] []) λn k=>O tT [Jl 2 h i,Jr 0,Jr 1,I (Jw g)] (Y7 c d n k) else O tT [Jl 2 h i,Jr 0,Jr 1,I (Jw g)] (Y7 c d a f) else some [Ji a,Ji f]):=by kernel_rfl
theorem Hy(O:ar)(m o:Bool)(j l:JL)(r f a:Int)(s:T):aw an ann O np [Jl 3 m j,I r,Jl 2 o l,I f,AV.t s,I a] []=
 (bif decide (a < (j.length:Int)) then xc a j λn=>bif decide (f < r) then pK a j λp=>bif decide (f < (p.snd.length:Int)) then pK a j λp=>Jg (if 0<=f/\f < (p.snd.length:Int) then some () else none) λx=>G9 p.snd[f.toNat]? λn=>jF a l λi q=>bX (O (.call 18) [AV.agg [I i,I q]] []) λx=>bX (O (.call 36) [I n,I 1] []) λk=>eT (O (.call 46) [Jr 0,AV.t x,AV.t k] (Y5)) λb p g c=>eT (O (.call 47) [Jr 0,AV.t s,AV.t (T.ptr [Jb b,T.aa 1 p.fst p.snd,Jb g,T.aa 1 c.fst c.snd])] (Y5)) λb p h d=>O (aQ an 35 true 3 [(0,none),(1,none),(2,none),(3,none),(9,none),(10,none)] (0,0)) [Jl 3 m j,I r,Jl 2 o l,I f,Jr 0,I (Jw a)] (nr b p.fst p.snd h d.fst d.snd) else jF a l λn i=>bX (O (.call 18) [AV.agg [I n,I i]] []) λx=>bX (O (.call 36) [I 0,I 1] []) λk=>eT (O (.call 46) [Jr 0,AV.t x,AV.t k] (Y5)) λb p g c=>eT (O (.call 47) [Jr 0,AV.t s,AV.t (T.ptr [Jb b,T.aa 1 p.fst p.snd,Jb g,T.aa 1 c.fst c.snd])] (Y5)) λb p h d=>O np [Jl 3 m j,I r,Jl 2 o l,I f,Jr 0,I (Jw a)] (nr b p.fst p.snd h d.fst d.snd) else jF a l λi q=>bX (O (.call 18) [AV.agg [I i,I q]] []) λx=>bX (O (.call 36) [I n,I 1] []) λk=>eT (O (.call 46) [Jr 0,AV.t x,AV.t k] (Y5)) λb p g c=>eT (O (.call 47) [Jr 0,AV.t s,AV.t (T.ptr [Jb b,T.aa 1 p.fst p.snd,Jb g,T.aa 1 c.fst c.snd])] (Y5)) λb p h d=>O np [Jl 3 m j,I r,Jl 2 o l,I f,Jr 0,I (Jw a)] (nr b p.fst p.snd h d.fst d.snd) else some [s]):=by kernel_rfl
theorem Hz(O:ar)(w y h c j d:Bool)(r u i k:JL)(A l a:Int):aw an ann O np [Jl 3 w r,I A,Jl 2 y u,I l,Jr 0,I a] (nr h c i j d k)=
 (bif decide (a < (r.length:Int)) then xc a r λn=>bif decide (l < A) then pK a r λp=>bif decide (l < (p.snd.length:Int)) then pK a r λp=>Jg (if 0<=l/\l < (p.snd.length:Int) then some () else none) λx=>G9 p.snd[l.toNat]? λn=>jF a u λq z=>bX (O (.call 18) [AV.agg [I q,I z]] []) λx=>bX (O (.call 36) [I n,I 1] []) λs=>eT (O (.call 46) [Jr 0,AV.t x,AV.t s] (Y5)) λb p m f=>eT (O (.call 47) [Jr 0,AV.t (T.ptr [Jb h,T.aa 1 c i,Jb j,T.aa 1 d k]),AV.t (T.ptr [Jb b,T.aa 1 p.fst p.snd,Jb m,T.aa 1 f.fst f.snd])] (Y5)) λb p o g=>O (aQ an 35 true 3 [(0,none),(1,none),(2,none),(3,none),(9,none),(10,none)] (0,0)) [Jl 3 w r,I A,Jl 2 y u,I l,Jr 0,I (Jw a)] (nr b p.fst p.snd o g.fst g.snd) else jF a u λn q=>bX (O (.call 18) [AV.agg [I n,I q]] []) λx=>bX (O (.call 36) [I 0,I 1] []) λs=>eT (O (.call 46) [Jr 0,AV.t x,AV.t s] (Y5)) λb p m f=>eT (O (.call 47) [Jr 0,AV.t (T.ptr [Jb h,T.aa 1 c i,Jb j,T.aa 1 d k]),AV.t (T.ptr [Jb b,T.aa 1 p.fst p.snd,Jb m,T.aa 1 f.fst f.snd])] (Y5)) λb p o g=>O np [Jl 3 w r,I A,Jl 2 y u,I l,Jr 0,I (Jw a)] (nr b p.fst p.snd o g.fst g.snd) else jF a u λq z=>bX (O (.call 18) [AV.agg [I q,I z]] []) λx=>bX (O (.call 36) [I n,I 1] []) λs=>eT (O (.call 46) [Jr 0,AV.t x,AV.t s] (Y5)) λb p m f=>eT (O (.call 47) [Jr 0,AV.t (T.ptr [Jb h,T.aa 1 c i,Jb j,T.aa 1 d k]),AV.t (T.ptr [Jb b,T.aa 1 p.fst p.snd,Jb m,T.aa 1 f.fst f.snd])] (Y5)) λb p o g=>O np [Jl 3 w r,I A,Jl 2 y u,I l,Jr 0,I (Jw a)] (nr b p.fst p.snd o g.fst g.snd) else some [T.ptr [Jb h,T.aa 1 c i,Jb j,T.aa 1 d k]]):=by kernel_rfl
theorem OL(O:ar)(er eg ep:Bool)(r g p:JL):aw an ann O (Key.call 12) [Jl 3 er r,Jl 1 eg g,Jl 2 ep p] []=
 (O xV [Jl 3 er r,Jl 1 eg g,Jl 2 ep p,I 0] []):=by kernel_rfl
theorem uR(O:ar)(g b a:Bool)(c h f:JL)(d:Int):aw an ann O xV [Jl 3 g c,Jl 1 b h,Jl 2 a f,I d] []=
 (bif decide (d < (c.length:Int)) then pK d c λp=>bX (O (.call 16) [Jl 1 p.fst p.snd,Jl 2 a f] []) λx=>G9 (O (.call 37) [AV.t x] []) λn=>Bk (some (bif !decide (n > 0) then decide (n < 0) else false)) d c λi=>bif bif decide (n > 0) then true else bif decide (n < 0) then i==3 else false then some [Jb false] else O xV [Jl 3 g c,Jl 1 b h,Jl 2 a f,I (Jw d)] [] else bX (O (.call 16) [Jl 1 b h,Jl 2 a f] []) λx=>G9 (O (.call 37) [AV.t x] []) λn=>some [Jb (decide (n > 0))]):=by kernel_rfl
theorem bB(O:ar)(er eg ep et:Bool)(r g p t:JL)(n vn a:Int):aw an ann O (Key.call 3) [Jl 3 er r,I n,Jl 1 eg g,AV.agg [I vn,I a],Jl 2 ep p,Jl 2 et t] []=
 (G3 (O (.call 7) [] []) λb=>bif !b then some [Jb false] else pI (O (.call 8) [Jl 3 er r,I n,Jl 1 eg g,AV.agg [I vn,I a],Jl 2 ep p,Jl 2 et t] []) λb d f=>pI (O (.call 9) [Jl 3 er r,I n,Jl 1 eg g,Jl 2 ep p] []) λc h i=>G0 (O (.call 10) [Jl 3 er r,I n,Jl 1 eg g,AV.agg [I vn,I a],Jl 2 ep p,Jl 2 et t] []) λj k=>O LX [Jl 3 er r,I n,Jl 1 eg g,Jl 2 ep p,Jl 2 et t,Jr 0,B b,Jr 1,B c,Jr 2,Jr 3,Jo 4,I 0] [ab.box [I vn,I a],ab.box [I d,I f],ab.box [I h,I i],ab.box [I j,I k],ab.sl false 2 true []]):=by kernel_rfl
end Go.Aev.Wd.Lg
namespace Go.Aev.Gen
open Go Go.Aev
structure ei (n:Nat) (r:R):Prop where
 e:r.e=true->r.of= []
 kd:r.kd=1\/r.kd=2\/r.kd=3
 len:r.of.length<=n
 of:Bd 1000000 r.of
 tv: -1000000<=r.tv/\r.tv<=1000000
theorem FR:∀{l:List Int} {i:Nat},(jM l i).1=0->∀x∈l, -1000000<=x/\x<=1000000
 | [],_,_,x,a=>by cases a
 | y::l,i,h,x,a=>by
  rw [jM] at h;split at h
  .rename_i hy;rcases Vk.1 a with rfl | a
   .exact hy
   .exact FR h x a
  .simp at h
theorem ML{n:Nat}{r:R}(a:r.e=true->r.of= [])(h:(jN n r).1=0):ei n r:=by
 unfold jN at h;split at h
 .simp at h
 .rename_i c;split at h
  .simp at h
  .have:=FR h;exact⟨a,by omega,by omega,λx b=>this x (Vo _ b),this r.tv (by simp)⟩
theorem FT{n:Nat}:∀{rows:List R} {i:Nat},(∀r∈rows,r.e=true->r.of= [])->(kk n rows i).1=0->∀r∈rows,ei n r
 | [],_,_,_,r,a=>by cases a
 | q::rows,i,c,h,r,a=>by
  rw [kk] at h;split at h
  .rename_i b;rcases Vk.1 a with rfl | a
   .exact ML (c _ U9) b
   .exact FT (λr a=>c r (Va _ a)) h r a
  .rename_i b;exact absurd h b
def fT(n:Int)(rows:List R):Int×Int:=if n < 0\/n > 12 then(3, -1) else nA n.toNat rows
theorem Kv(rows:List R)(e:Bool)(n:Int)(a:∀r∈rows,r.e=true->r.of= []):Or (.call 52) [LR e rows,I n] []=fl (fT n rows):=by
 unfold fT;by_cases h:n < 0\/n > 12
 .rw [if_pos h];refine aj ?_;rw [Gy];simp only [fu,<-Wf];simp only [ai,↓reduceIte,h]
 .rw [if_neg h];have:=SH rows n.toNat e (by omega) a;rw [Int.toNat_of_nonneg (by omega)] at this;exact this
theorem SY(rows:List R)(e:Bool)(n:Int):Or (.call 49) [LR e rows,I n] []=fl (fT n rows):=by
 unfold fT;by_cases h:n < 0\/n > 12
 .rw [if_pos h];refine aj ?_;rw [e7];simp only [fu,<-Wf];simp only [ai,↓reduceIte,GD,h,s8]
 .rw [if_neg h];have:=SZ rows n.toNat e (by omega);rw [Int.toNat_of_nonneg (by omega)] at this;exact this
theorem B1{n:Int}{rows:List R}(a:∀r∈rows,r.e=true->r.of= [])(h:(fT n rows).1=0): 0<=n/\n<=12/\rows.length<=40/\∀r∈rows,ei n.toNat r:=by
 unfold fT at h;split at h
 .simp at h
 .unfold nA at h;split at h
  .simp at h
  .exact⟨by omega,by omega,by omega,FT a h⟩
end Go.Aev.Gen
namespace Go.Aev.Wd.Lg
open Go Go.Aev Go.Aev.Gen Go.Aev.Wd
abbrev qT(r:R):List Int×Int×Int:=(r.of,r.kd,r.tv)
theorem p5(c:Int):Rat.divInt c 1= (c:Rat):=W1 (c:Rat)
theorem KN(x:Fr):Or (.call 34) [AV.agg [I x.1,I x.2]] []=some [tb (decide (bf x))]:=by
 obtain⟨b,h1,a⟩:=P0 x.1 x.2;rw [h1];have:b=decide (bf x):=by rw [ZI,a,decide_eq_true_iff];rfl
 rw [this]
theorem Re(e:Bool)(l:List Fr)(o:l.length<=100)(j:∀x∈l,bf x):∀(a:List Fr) (i:Nat),l.drop i=a->Or tT [LN e l,r0,AV.ref (Id.c 1) 0,I (i:Int)] [ab.box [I 0,I 0],ab.box [I 0,I 0]]=some [ti 0,ti 0]:=by
 intro a;induction a with
 | nil=>
  intro i h;have h1:¬(i:Int) < (l.length:Int):=by have:=bm h;omega
  refine aj ?_;rw [GF];simp only [ai,GD,h1,cm,decide_false]
 | cons x a k=>
  intro i h;obtain⟨b,m,f⟩:=bh h;have h1:(i:Int) < (l.length:Int):=by omega
  have g: 0<=(i:Int):=by omega
  have d:=KN x;rw [decide_eq_true (j x (U8 b))] at d;refine aj ?_;rw [GF];simp only [ai,↓reduceIte,GD,h1,g,and_self,cm,fi b,d,decide_true,next i (by omega)];exact k (i+1) f
theorem SJ(r:R)(e:Bool)(l:List Fr)(d:l.length<=12)(ok:ei l.length r)(a:∀x∈l,bf x):Or (.call 44) [AV.agg [aa r.e r.of,I r.kd,I r.tv],LN e l] []=some [ti 0,ti 0]:=by
 have b:=Ku r l.length d;have c:jN l.length r= (0,0):=by
  have h1:=ok.kd;have g:=ok.len;unfold jN;rw [if_neg (by omega),if_neg (by omega)];have:∀(m:List Int) (i:Nat),(∀x∈m, -1000000<=x/\x<=1000000)->jM m i= (0,0):=by
   intro m;induction m with
   | nil=>intro i _;rfl
   | cons y m f=>intro i h;rw [jM,if_pos (h y U9)];exact f _ λx a=>h x (Va _ a)
  refine this _ 0 λx a=> ?_;rcases Vr.1 a with a | a
  .exact ok.of x a
  .rw [Vj.1 a];exact ok.tv
 rw [c] at b;refine aj ?_;rw [yY];simp only [ai,GD,cm,b];exact Re e l (by omega) a l 0 rfl
def oV(r:List Int×Int×Int)(l:List Fr):Bool:=decide ((fE r.1 l 0 < (r.2.2:Rat)/\r.2.1≠3)\/(fE r.1 l 0= (r.2.2:Rat)/\r.2.1≠2))
theorem SK(r:R)(e:Bool)(l:List Fr)(z:l.length<=12)(ok:ei l.length r)(p:∀x∈l,bf x):Or (.call 45) [AV.agg [aa r.e r.of,I r.kd,I r.tv],LN e l] []=some [tb (oV (qT r) l)]:=by have o:=ok.len;obtain⟨y,s,t,u⟩:=Ay r.e e r.of l ok.of (λx h=>(p x h).b) ok.len (by omega);have w:=ok.tv;obtain⟨b,f,g⟩:=nJ r.tv 1 (by unfold Sm;omega) (by unfold Sm;omega) (by omega);have d:Rat.divInt r.tv 1= (r.tv:Rat):=p5 _;have q:=uD (m:=51 * r.of.length) (k:=20) t g u (QB.divInt (by omega) (by omega) (by omega)) (by omega);have c:=MP (fE r.of l 0) (Rat.divInt r.tv 1);have a:=oN (fE r.of l 0) (Rat.divInt r.tv 1);rw [d] at c a;refine aj ?_;rw [Co];simp only [ai,GD,s,f,q,d];unfold oV;congr 2;congr 1;simp only [c,a];by_cases i:fE r.of l 0 < (r.tv:Rat) <;> by_cases j:fE r.of l 0= (r.tv:Rat) <;> simp [i,j,kg]
theorem Q8(er:Bool)(b:List R)(e:Bool)(l:List Fr)(g:l.length<=12)(ok:∀r∈b,ei l.length r)(j:∀x∈l,bf x)(q:b.length<=40):∀(a:List R) (i:Nat),b.drop i=a->Or xu [LR er b,LN e l,I (i:Int)] []=some [tb (a.all λr=>oV (qT r) l)]:=by
 intro a;induction a with
 | nil=>
  intro i h;have h1:¬(i:Int) < (b.length:Int):=by have:=bm h;omega
  refine aj ?_;rw [Gw];simp only [ai,↓reduceIte,GD,h1,bq];rfl
 | cons r a o=>
  intro i h;obtain⟨c,p,m⟩:=bh h;have h1:(i:Int) < (b.length:Int):=by omega
  have f: 0<=(i:Int):=by omega
  have k:=SJ r e l g (ok r (U8 c)) j;have d:=SK r e l g (ok r (U8 c)) j;refine aj ?_;rw [Gw];cases hb:oV (qT r) l with
  | false=>rw [hb] at d;simp only [ai,↓reduceIte,GD,h1,f,and_self,bq,cV c,k,d];simp [hb]
  | true=>rw [hb] at d;simp only [ai,↓reduceIte,GD,h1,f,and_self,bq,cV c,k,d,next i (by omega),o (i+1) m];simp [hb]
theorem SF(er:Bool)(a:List R)(e:Bool)(l:List Fr)(c:l.length<=12)(ok:∀r∈a,ei l.length r)(d:∀x∈l,bf x)(b:a.length<=40):Or (.call 15) [LR er a,LN e l] []=some [tb (a.all λr=>oV (qT r) l)]:=by refine aj ?_;rw [NG];exact Q8 er a e l c ok d b a 0 rfl
open Go Go.Aev Go.Aev.Gen Go.Aev.Wd Go.Aev.Tb
def eN:List R->Nat->Int×Int
 | [],_=>(0,0)
 | r::a,i=>if r.kd=2 then(4,(i:Int)) else eN a (i+1)
def cY:List Int->Nat->Int×Int
 | [],_=>(0,0)
 | x::xs,i=>if -1000000<=x/\x<=1000000 then cY xs (i+1) else(5,(i:Int))
def ez(n:Int)(rows:List R)(gl:List Int):Int×Int:=
 if(fT n rows).1≠0 then fT n rows else if(eN rows 0).1≠0 then eN rows 0 else if(gl.length:Int) > n then(9,0) else cY gl 0
theorem IK:∀{rows:List R} {i:Nat},(eN rows i).1=0->∀r∈rows,r.kd≠2
 | [],_,_,r,a=>by cases a
 | q::rows,i,h,r,a=>by
  rw [eN] at h;split at h
  .simp at h
  .rename_i b;rcases Vk.1 a with rfl | a
   .exact b
   .exact IK h r a
theorem Is:∀{gl:List Int} {i:Nat},(cY gl i).1=0->∀c∈gl, -1000000<=c/\c<=1000000
 | [],_,_,r,a=>by cases a
 | q::rows,i,h,r,a=>by
  rw [cY] at h;split at h
  .rename_i b;rcases Vk.1 a with rfl | a
   .exact b
   .exact Is h r a
  .simp at h
theorem zH:∀(gl:List Int) (i:Nat),(cY gl i).1=0->cY gl i= (0,0)
 | [],_,_=>rfl
 | q::rows,i,h=>by
  rw [cY] at h⊢;split
  .rename_i a;rw [if_pos a] at h;exact zH rows _ h
  .rename_i a;rw [if_neg a] at h;simp at h
theorem Uq(er:Bool)(rows:List R)(p:rows.length<=1000):∀(a:List R) (i:Nat),rows.drop i=a->
  Or oI [LR er rows,AV.fn 54 [] [],I (rows.length:Int),I (i:Int)] []=some [ti (if(eN a i).1=0 then -1 else(eN a i).2)]:=by
 intro a;induction a with
 | nil=>
  intro i h;have h1:¬(i:Int) < (rows.length:Int):=by have:=bm h;omega
  refine aj ?_;rw [CJ];simp only [ai,↓reduceIte,GD,h1,eN]
 | cons r a m=>
  intro i h;obtain⟨g,o,l⟩:=bh h;have h1:(i:Int) < (rows.length:Int):=by omega
  have j: 0<=(i:Int):=by omega
  have f:Or (.call 54) [AV.agg [aa r.e r.of,I r.kd,I r.tv]] []=some [tb (r.kd==2)]:=aj (by rw [Pa]);have:=m (i+1) l;by_cases b:r.kd=2
  .have d:eN (r::a) i= (4,(i:Int)):=by rw [eN,if_pos b]
   have k:¬(4:Int)=0:=by decide
   have c:(r.kd==2)=true:=by simpa using b
   rw [d];rw [c] at f;refine aj ?_;rw [CJ];simp only [ai,↓reduceIte,GD,h1,j,and_self,bq,cV g,f,k]
  .have d:eN (r::a) i=eN a (i+1):=by rw [eN,if_neg b]
   have c:(r.kd==2)=false:=by simpa using b
   rw [d];refine aj ?_;rw [CJ];simp only [ai,↓reduceIte,GD,h1,j,and_self,bq,cV g,f,c,next i (by omega)];exact this
theorem Ur(el:Bool)(gl:List Int)(q:gl.length<=1000):∀(c:List Int) (i:Nat),gl.drop i=c->
  Or xh [aa el gl,AV.fn 56 [] [],I (gl.length:Int),I (i:Int)] []=some [ti (if(cY c i).1=0 then -1 else(cY c i).2)]:=by
 intro c;induction c with
 | nil=>
  intro i h;have h1:¬(i:Int) < (gl.length:Int):=by have:=bm h;omega
  refine aj ?_;rw [Cj];simp only [ai,↓reduceIte,GD,h1,cY]
 | cons r c o=>
  intro i h;obtain⟨g,p,m⟩:=bh h;have h1:(i:Int) < (gl.length:Int):=by omega
  have j: 0<=(i:Int):=by omega
  have:=o (i+1) m;by_cases l: -1000000<=r/\r<=1000000
  .have f:Or (.call 56) [I r] []=some [tb false]:=aj (by
    rw [HG];have a:¬r < -1000000:=by omega
    have b:¬r > 1000000:=by omega
    simp only [a,b,decide_false,yG])
   have d:cY (r::c) i=cY c (i+1):=by rw [cY,if_pos l]
   rw [d];refine aj ?_;rw [Cj];simp only [ai,↓reduceIte,GD,h1,j,and_self,bT,gy g,f,next i (by omega)];exact this
  .have f:Or (.call 56) [I r] []=some [tb true]:=aj (by
    rw [HG];by_cases a:r < -1000000
    .simp only [a,decide_true,uF]
    .have b:r > 1000000:=by omega
     simp only [a,b,decide_true,decide_false,yG])
   have d:cY (r::c) i= (5,(i:Int)):=by rw [cY,if_neg l]
   have k:¬(5:Int)=0:=by decide
   rw [d];refine aj ?_;rw [Cj];simp only [ai,↓reduceIte,GD,h1,j,and_self,bT,gy g,f,k]
theorem Qk(rows:List R):∀(i:Nat),(eN rows i).1=0\/((eN rows i).1=4/\(i:Int)<=(eN rows i).2):=by
 induction rows with
 | nil=>intro i;exact .inl rfl
 | cons r rows a=>
  intro i;rw [eN];split
  .exact .inr ⟨rfl,Yx _⟩
  .rcases a (i+1) with h | ⟨h,b⟩
   .exact .inl h
   .exact .inr ⟨h,by omega⟩
theorem P8(gl:List Int):∀(i:Nat),(cY gl i).1=0\/((cY gl i).1=5/\(i:Int)<=(cY gl i).2):=by
 induction gl with
 | nil=>intro i;exact .inl rfl
 | cons r rows a=>
  intro i;rw [cY];split
  .rcases a (i+1) with h | ⟨h,b⟩
   .exact .inl h
   .exact .inr ⟨h,by omega⟩
  .exact .inr ⟨rfl,Yx _⟩
theorem MK{n:Int}{rows:List R}(h:(fT n rows).1=0):fT n rows= (0,0):=by
 unfold fT at h⊢;split
 .rename_i b;rw [if_pos b] at h;simp at h
 .rename_i b;rw [if_neg b] at h;unfold nA at h⊢;split
  .rename_i c;rw [if_pos c] at h;simp at h
  .rename_i c;rw [if_neg c] at h;have d:∀(l:List R) (i:Nat),(kk n.toNat l i).1=0->kk n.toNat l i= (0,0):=by
    intro l;induction l with
    | nil=>intro i _;rfl
    | cons r l f=>
     intro i h;rw [kk] at h⊢;split
     .rename_i a;rw [if_pos a] at h;exact f _ h
     .rename_i a;rw [if_neg a] at h;exact absurd h a
   exact d _ _ h
theorem EL(rows:List R)(er el:Bool)(n:Int)(gl:List Int)(k:∀r∈rows,r.e=true->r.of= []):Or (.call 24) [LR er rows,I n,aa el gl] []=fl (ez n rows gl):=by
 have c:=Kv rows er n k;unfold ez;by_cases h1:(fT n rows).1=0
 .have o:=B1 k h1;rw [if_neg (by omega)];have k2:Or (.call 53) [LR er rows,AV.fn 54 [] []] []=_:=aj (by rw [O8,bq];exact Uq er rows (by omega) rows 0 rfl);rcases Qk rows 0 with g | ⟨g,l⟩
  .rw [if_pos g] at k2;have b:¬(-1:Int)>=0:=by decide
   by_cases a:(gl.length:Int) > n
   .rw [if_neg (by omega),if_pos a];refine aj ?_;rw [uT];simp only [ai,↓reduceIte,GD,c,h1,k2,b,bT,a]
   .have f:Or (.call 55) [aa el gl,AV.fn 56 [] []] []=_:=aj (by rw [Nr,bT];exact Ur el gl (by omega) gl 0 rfl);rw [if_neg (by omega),if_neg a];rcases P8 gl 0 with d | ⟨d,m⟩
    .rw [if_pos d] at f;rw [zH _ _ d];refine aj ?_;rw [uT];simp only [ai,↓reduceIte,GD,c,h1,k2,b,bT,a,f]
    .rw [if_neg (by omega)] at f;have j:(cY gl 0).2>=0:=by omega
     have h:cY gl 0= (5,(cY gl 0).2):=Ys d rfl;refine aj ?_;rw [uT,h];simp only [ai,↓reduceIte,GD,c,h1,k2,b,bT,a,f,j]
  .rw [if_neg (by omega)] at k2;have i:(eN rows 0).2>=0:=by omega
   have h:eN rows 0= (4,(eN rows 0).2):=Ys g rfl;rw [if_pos (by omega)];refine aj ?_;rw [uT,h];simp only [ai,↓reduceIte,GD,c,h1,k2,i]
 .rw [if_pos h1];refine aj ?_;rw [uT];simp only [ai,↓reduceIte,GD,c,h1]
theorem pX{n:Int}{rows:List R}{gl:List Int}(j:∀r∈rows,r.e=true->r.of= [])(h:(ez n rows gl).1=0):
  ez n rows gl= (0,0)/\0<=n/\n<=12/\rows.length<=40/\(∀r∈rows,ei n.toNat r)/\(∀r∈rows,r.kd≠2)/\(gl.length:Int)<=n/\∀c∈gl, -1000000<=c/\c<=1000000:=by
 unfold ez at h⊢;by_cases h1:(fT n rows).1=0
 .rw [if_neg (by omega)] at h⊢;obtain⟨d,f,g,i⟩:=B1 j h1;by_cases a:(eN rows 0).1=0
  .rw [if_neg (by omega)] at h⊢;by_cases b:(gl.length:Int) > n
   .rw [if_pos b] at h;simp at h
   .rw [if_neg b] at h⊢;exact⟨zH _ _ h,d,f,g,i,IK a,by omega,Is h⟩
  .rw [if_pos a] at h;exact absurd h a
 .rw [if_pos h1] at h;exact absurd h h1
def fN(x:Fr):Nm:=some (aP x)
theorem Ah{x:Fr}(h:im x):Or (.call 30) [AV.agg [I x.1,I x.2]] []=some (NL (fN x)):=TH x.1 x.2 (by unfold im at h;omega) (by unfold im at h;omega) (by unfold im at h;omega)
theorem sf{x:Fr}(h:im x):QN 30 (fN x):=sB h.1 h.2
theorem Us(x:Fr):Or (.call 58) [AV.agg [I x.1,I x.2]] []=some [tb (!decide (bf x))]:=by
 have k:=Ej x;refine aj ?_;rw [Pc];by_cases h:bf x
 .rw [if_pos h] at k;simp only [ai,GD,k,h,decide_true]
  try rfl
 .rw [if_neg h] at k;simp only [ai,Int.reduceBEq,GD,k,h,decide_false]
  try rfl
theorem UG(e:Bool)(l:List Fr)(p:l.length<=1000):∀(a:List Fr) (i:Nat),l.drop i=a->∃z:Int,Or yk [LN e l,AV.fn 58 [] [],I (l.length:Int),I (i:Int)] []=some [ti z]/\(decide (z>=0)= !(a.all λx=>decide (bf x))):=by
 intro a;induction a with
 | nil=>
  intro i h;have h1:¬(i:Int) < (l.length:Int):=by have:=bm h;omega
  refine⟨-1,aj ?_,by simp⟩;rw [CO];simp only [ai,↓reduceIte,GD,h1]
 | cons x a j=>
  intro i h;obtain⟨d,o,g⟩:=bh h;have h1:(i:Int) < (l.length:Int):=by omega
  have f: 0<=(i:Int):=by omega
  have c:=Us x;by_cases b:bf x
  .rw [decide_eq_true b] at c;obtain⟨z,k,m⟩:=j (i+1) g;refine⟨z,aj ?_,by rw [m];simp [b]⟩;rw [CO];simp only [ai,↓reduceIte,GD,h1,f,and_self,cm,fi d,c,next i (by omega)];exact k
  .rw [decide_eq_false b] at c;refine⟨(i:Int),aj ?_,by simp [b]⟩;rw [CO];simp only [ai,↓reduceIte,GD,h1,f,and_self,cm,fi d,c]
theorem AP(e:Bool)(l:List Fr)(a:l.length<=1000):Or (.call 25) [LN e l] []=some [tb (!(l.all λx=>decide (bf x)))]:=by obtain⟨z,c,d⟩:=UG e l a l 0 rfl;have b:Or (.call 97) [LN e l,AV.fn 58 [] []] []=some [ti z]:=aj (by rw [Pw,cm];exact c);have k2:Or (.call 57) [LN e l,AV.fn 58 [] []] []=some [tb (decide (z>=0))]:=aj (by rw [Pb];simp only [ai,GD,b]);refine aj ?_;rw [OP];simp only [ai,GD,k2,d]
theorem T3(e:Bool)(l:List Fr)(u:l.length<=1000)(p:∀x∈l,im x):∀(b a:List Fr) (i:Nat),l.drop i=b->a.length=i->a++b=l->
  Or xZ [AV.own (Id.c 0),LN e l,I (l.length:Int),I (i:Int)] [ab.sl false 4 (decide (a= [])) (aS (a.map fN))]=some [T.aa 4 (decide (l= [])) (aS (l.map fN))]:=by
 intro b;induction b with
 | nil=>
  intro a i h o d;have h1:¬(i:Int) < (l.length:Int):=by have:=bm h;omega
  rw [V9] at d;subst d;refine aj ?_;rw [Hv];simp only [ai,↓reduceIte,GD,h1]
 | cons x b q=>
  intro a i h o d;obtain⟨f,t,j⟩:=bh h;have h1:(i:Int) < (l.length:Int):=by omega
  have k: 0<=(i:Int):=by omega
  have r:=Ah (p x (U8 f));have s:bM 48 ((aS (a.map fN)).length+ [[tb (decide ((nv (fN x)).num < 0)),T.str (bJ (dz (nv (fN x)).num)),tb (nc (fN x)),T.str (nd (fN x))]].length)=some ():=jb (by rw [bH];simp;omega);have:=q (a++ [x]) (i+1) j (by simp;omega) (by simpa using d);have g:decide (a++ [x]= [])=false:=by simp
  have m:aS (a.map fN)++ [[tb (decide ((nv (fN x)).num < 0)),T.str (bJ (dz (nv (fN x)).num)),tb (nc (fN x)),T.str (nd (fN x))]]=aS ((a++ [x]).map fN):=by rw [OE,Cy,W0];rfl
  rw [g] at this;refine aj ?_;rw [Hv];simp only [ai,↓reduceIte,GD,h1,k,and_self,cm,fi f,r,s,m,next i (by omega)];exact this
theorem EO(e:Bool)(l:List Fr)(a:l.length<=1000)(b:∀x∈l,im x):Or (.call 28) [LN e l] []=some [T.aa 4 (decide (l= [])) (aS (l.map fN))]:=by have:=T3 e l a b l [] 0 rfl rfl rfl;refine aj ?_;rw [OS,cm];exact this
def bo:List Int->List Rat->Rat
 | c::of,x::xs=>(c:Rat) * x+bo of xs
 | _,_=>0
theorem uK(xs:List Rat):bo [] xs=0:=by cases xs <;> rfl
theorem T2(eg e:Bool)(gl:List Int)(a:List Nm)(D:∀c∈gl, -1000000<=c/\c<=1000000)(M:gl.length<=a.length)(N:gl.length<=100){m:Nat}(E:∀x∈a,QN m x)(z:Nm):
  ∀(b:List Int) (i:Nat) (d:Nm) (k:Nat),gl.drop i=b->QN k d->k+ (m+21) * b.length<=6300->
  ∃y,Or xY [AV.t (T.aa 4 e (aS a)),r0,AV.ref (Id.c 1) 0,aa eg gl,I (gl.length:Int),I (i:Int)] [iv z,iv d]=some (NL y)/\nv y=nv d+bo b ((a.drop i).map nv)/\QN (k+ (m+21) * b.length) y:=by
 intro b;induction b with
 | nil=>
  intro i d k h g q;have h1:¬(i:Int) < (gl.length:Int):=by have:=bm h;omega
  refine⟨d,aj ?_,by rw [uK];grind,g.mono (by omega)⟩;rw [Hu];simp only [ai,↓reduceIte,GD,h1]
 | cons c b F=>
  intro i d k h g q;obtain⟨p,L,w⟩:=bh h;rw [Vw,YR,Yw] at q;have h1:(i:Int) < (gl.length:Int):=by omega
  have A: 0<=(i:Int):=by omega
  have B:(i:Int) < (a.length:Int):=by omega
  have K:=D c (U8 p);have r:=gh c (by omega);have j:QN 20 (iN c):=eM (by omega);have f:=gL (l:=a) (i:=i) (by omega);have o:=E _ (U8 f);have u:=lB j o (by omega);have s:=mW (x:=d) (y:=tm (iN c) (aq a i)) g (j.mul o) (by omega);obtain⟨y,G,H,J⟩:=F (i+1) (pl d (tm (iN c) (aq a i))) (k+ (m+21)) w ((g.add (j.mul o)).mono (by omega)) (by omega);have C:(a.drop i).map nv=nv (aq a i):: (a.drop (i+1)).map nv:=by
   have:a.drop i=aq a i::a.drop (i+1):=by rw [W4 (by omega)];congr 1;rw [Vb (by omega)] at f;exact V5 f
   rw [this];rfl
  refine⟨y,aj ?_, ?_,by rw [Vw,YR,Yw];exact J.mono (by omega)⟩
  .rw [Hu];simp only [ai,↓reduceIte,GD,h1,A,B,and_self,bT,gy p,r,bH,cE f,u,s,next i (by omega)];exact G
  .rw [H,C,bo];show nv d+ (c:Rat) * nv (aq a i)+ _=_;grind
theorem EM(eg e:Bool)(gl:List Int)(a:List Nm)(b:∀c∈gl, -1000000<=c/\c<=1000000)(d:gl.length<=a.length)(f:gl.length<=12){m:Nat}(g:∀x∈a,QN m x)(hm:m<=400):
  ∃y,Or (.call 27) [aa eg gl,AV.t (T.aa 4 e (aS a))] []=some (NL y)/\nv y=bo gl (a.map nv)/\QN 6000 y:=by
 have hb:(m+21) * gl.length<=(m+21) * 12:=Nat.mul_le_mul_left _ f;obtain⟨y,h,i,j⟩:=T2 eg e gl a b d (by omega) g none gl 0 none 0 rfl (iC 0) (by omega);refine⟨y,aj ?_,by rw [i,vK,Yi];grind,j.mono (by omega)⟩;rw [OR,bT];exact h
theorem TU(er e:Bool)(of:List Int)(l:List Fr)(hb:∀c∈of, -1000000<=c/\c<=1000000)(C:∀x∈l,im x)(K:of.length<=l.length)(L:of.length<=12)(z:Nm):
  ∀(a:List Int) (i:Nat) (b:Nm) (k:Nat),of.drop i=a->QN k b->k+51 * a.length<=6300->
  ∃y,Or Bm [LN e l,r0,AV.ref (Id.c 1) 0,aa er of,I (of.length:Int),I (i:Int)] [iv z,iv b]=some (NL y)/\nv y=nv b+bo a ((l.drop i).map aP)/\QN (k+51 * a.length) y:=by
 intro a;induction a with
 | nil=>
  intro i b k h f p;have h1:¬(i:Int) < (of.length:Int):=by have:=bm h;omega
  refine⟨b,aj ?_,by rw [uK];grind,f.mono (by omega)⟩;rw [Hq];simp only [ai,↓reduceIte,GD,h1]
 | cons c a D=>
  intro i b k h f p;obtain⟨o,J,u⟩:=bh h;rw [Vw,YR,Yw] at p;have h1:(i:Int) < (of.length:Int):=by omega
  have w: 0<=(i:Int):=by omega
  have A:(i:Int) < (l.length:Int):=by omega
  have H:=hb c (U8 o);have r:=gh c (by omega);have j:QN 20 (iN c):=eM (by omega);obtain⟨x,d⟩:∃x,l[i]? =some x:=⟨_,Vb (by omega)⟩;have g:=C x (U8 d);have q:=Ah g;have m:=sf g;have t:=lB j m (by omega);have s:=mW (x:=b) (y:=tm (iN c) (fN x)) f (j.mul m) (by omega);obtain⟨y,E,F,G⟩:=D (i+1) (pl b (tm (iN c) (fN x))) (k+51) u ((f.add (j.mul m)).mono (by omega)) (by omega);have B:(l.drop i).map aP=aP x:: (l.drop (i+1)).map aP:=by
   have:l.drop i=x::l.drop (i+1):=by rw [W4 (by omega)];congr 1;rw [Vb (by omega)] at d;exact V5 d
   rw [this];rfl
  refine⟨y,aj ?_, ?_,by rw [Vw,YR,Yw];exact G.mono (by omega)⟩
  .rw [Hq];simp only [ai,↓reduceIte,GD,h1,w,A,and_self,bT,gy o,r,cm,fi d,q,t,s,next i (by omega)];exact E
  .rw [F,B,bo];show nv b+ (c:Rat) * aP x+ _=_;grind
theorem UF(r:R)(n:Nat)(d:n<=12)(ok:ei n r):Or (.call 96) [AV.agg [aa r.e r.of,I r.kd,I r.tv],I (n:Int)] []=some [ti 0,ti 0]:=by
 have b:=Kw r n d ok.e;have c:jN n r= (0,0):=by
  have h1:=ok.kd;have g:=ok.len;unfold jN;rw [if_neg (by omega),if_neg (by omega)];have:∀(m:List Int) (i:Nat),(∀x∈m, -1000000<=x/\x<=1000000)->jM m i= (0,0):=by
   intro m;induction m with
   | nil=>intro i _;rfl
   | cons y m f=>intro i h;rw [jM,if_pos (h y U9)];exact f _ λx a=>h x (Va _ a)
  refine this _ 0 λx a=> ?_;rcases Vr.1 a with a | a
  .exact ok.of x a
  .rw [Vj.1 a];exact ok.tv
 rw [c] at b;exact b
theorem TT(e:Bool)(l:List Fr)(m:l.length<=100)(g:∀x∈l,bf x):∀(a:List Fr) (i:Nat),l.drop i=a->Or xS [r0,LN e l,I (l.length:Int),I (i:Int)] [ab.box [I 0,I 0]]=some [ti 0,ti 0]:=by
 intro a;induction a with
 | nil=>
  intro i h;have h1:¬(i:Int) < (l.length:Int):=by have:=bm h;omega
  refine aj ?_;rw [Hp];simp only [ai,↓reduceIte,GD,h1]
 | cons x a j=>
  intro i h;obtain⟨b,k,d⟩:=bh h;have h1:(i:Int) < (l.length:Int):=by omega
  have f: 0<=(i:Int):=by omega
  have c:=Ej x;rw [if_pos (g x (U8 b))] at c;refine aj ?_;rw [Hp];simp only [ai,↓reduceIte,GD,h1,f,and_self,cm,fi b,c,next i (by omega)];exact j (i+1) d
def gz(r:R)(q:Rat):Bool:=if r.kd=1 then decide (q<=(r.tv:Rat)) else if r.kd=2 then decide (q < (r.tv:Rat)) else decide (q= (r.tv:Rat))
theorem Uu(r:R)(e:Bool)(l:List Fr)(B:l.length<=12)(ok:ei l.length r)(p:∀x∈l,bf x):
  Or (.call 62) [AV.agg [aa r.e r.of,I r.kd,I r.tv],LN e l] []=some [tb (gz r (bo r.of (l.map aP))),ti 0,ti 0]:=by
 have q:=UF r l.length B ok;have i:=TT e l (by omega) p l 0 rfl;have a:Or (.call 100) [AV.agg [aa r.e r.of,I r.kd,I r.tv],LN e l] []=some [ti 0,ti 0]:=by refine aj ?_;rw [OH];simp only [ai,↓reduceIte,GD,cm,q];exact i
 have A:=ok.len;have F:=ok.tv;obtain⟨y,C,D,E⟩:=TU r.e e r.of l ok.of (λx h=>(p x h).b) ok.len (by omega) none r.of 0 none 0 rfl (iC 0) (by omega);have c:Or (.call 101) [AV.agg [aa r.e r.of,I r.kd,I r.tv],LN e l] []=some (NL y):=aj (by rw [OI,bT];exact C);have f:=gh r.tv (by omega);have d:=oh (x:=y) (y:=iN r.tv) (m:=0+51 * r.of.length) (k:=20) E (eM (by omega)) (by omega);have hy:nv y=bo r.of (l.map aP):=by rw [D,vK,Yi];grind
 have hv:nv (iN r.tv)= (r.tv:Rat):=rfl;rw [hy,hv] at d;have s:=uE (bo r.of (l.map aP)) (r.tv:Rat);have t:=ko (bo r.of (l.map aP)) (r.tv:Rat);have o:=B4 (bo r.of (l.map aP)) (r.tv:Rat);have u:decide (cq (bo r.of (l.map aP)) (r.tv:Rat)<=0)=decide (bo r.of (l.map aP)<=(r.tv:Rat)):=by refine decide_eq_decide.2 ⟨λh=>ZO.1 λj=>by have:=o.2 j;omega,λh=>Int.not_lt.1 λj=>by have:=o.1 j;grind⟩
 have w:decide (cq (bo r.of (l.map aP)) (r.tv:Rat) < 0)=decide (bo r.of (l.map aP) < (r.tv:Rat)):=decide_eq_decide.2 s;have z:(cq (bo r.of (l.map aP)) (r.tv:Rat)==0)=decide (bo r.of (l.map aP)= (r.tv:Rat)):=by rw [kg];exact decide_eq_decide.2 t
 unfold gz;by_cases h1:r.kd=1
 .rw [if_pos h1];refine aj ?_;rw [CL];simp only [ai,↓reduceIte,GD,a,c,f,d];rw [if_pos h1,u]
 .by_cases g:r.kd=2
  .rw [if_neg h1,if_pos g];refine aj ?_;rw [CL];simp only [ai,↓reduceIte,GD,a,c,f,d];rw [if_neg h1,if_pos g,w]
  .rw [if_neg h1,if_neg g];refine aj ?_;rw [CL];simp only [ai,↓reduceIte,GD,a,c,f,d];rw [if_neg h1,if_neg g,z]
theorem Ut(er:Bool)(rows:List R)(e:Bool)(l:List Fr)(j:l.length<=12)(ok:∀r∈rows,ei l.length r)(k:∀x∈l,bf x)(s:rows.length<=40):
  ∀(a:List R) (i:Nat),rows.drop i=a->∃z:Int,Or oI [LR er rows,AV.fn 61 [] [AV.t (T.ptr [T.aa 2 e (fW l)])],I (rows.length:Int),I (i:Int)] []=some [ti z]/\(decide (z>=0)= !(a.all λr=>gz r (bo r.of (l.map aP)))):=by
 intro a;induction a with
 | nil=>
  intro i h;have h1:¬(i:Int) < (rows.length:Int):=by have:=bm h;omega
  refine⟨-1,aj ?_,by simp⟩;rw [CK];simp only [ai,↓reduceIte,GD,h1]
 | cons r a m=>
  intro i h;obtain⟨c,q,g⟩:=bh h;have h1:(i:Int) < (rows.length:Int):=by omega
  have d: 0<=(i:Int):=by omega
  have f:=Uu r e l j (ok r (U8 c)) k;have b:Or (.call 61) [AV.agg [aa r.e r.of,I r.kd,I r.tv],AV.t (T.ptr [T.aa 2 e (fW l)])] []=some [tb (!(gz r (bo r.of (l.map aP))))]:=aj (by rw [Pf];simp only [ai,GD,f]);cases hb:gz r (bo r.of (l.map aP))
  .rw [hb] at b;refine⟨(i:Int),aj ?_,by simp [hb]⟩;rw [CK];simp only [ai,↓reduceIte,GD,h1,d,and_self,bq,cV c,b]
  .rw [hb] at b;obtain⟨z,o,p⟩:=m (i+1) g;refine⟨z,aj ?_,by rw [p];simp [hb]⟩;rw [CK];simp only [ai,↓reduceIte,GD,h1,d,and_self,bq,cV c,b,next i (by omega)];exact o
theorem Ly(er:Bool)(rows:List R)(e:Bool)(l:List Fr)(b:l.length<=12)(ok:∀r∈rows,ei l.length r)(c:∀x∈l,bf x)(a:rows.length<=40):
  Or (.call 26) [LR er rows,LN e l] []=some [tb (rows.all λr=>gz r (bo r.of (l.map aP)))]:=by
 obtain⟨z,f,g⟩:=Ut er rows e l b ok c a rows 0 rfl;have d:Or (.call 53) [LR er rows,AV.fn 61 [] [AV.t (T.ptr [T.aa 2 e (fW l)])]] []=some [ti z]:=aj (by rw [O9,bq];exact f);have k2:Or (.call 60) [LR er rows,AV.fn 61 [] [AV.t (T.ptr [T.aa 2 e (fW l)])]] []=some [tb (decide (z>=0))]:=aj (by rw [Pe];simp only [ai,GD,d]);refine aj ?_;rw [OQ];simp only [ai,GD,k2,g,Bool.not_not]
open Go Go.Aev Go.Aev.Gen Go.Aev.Wd Go.Aev.Tb
def gY(t:Nm):List Int->List Nm->List Nm
 | c::cs,g::a=>pl g (tm (iN c) t)::gY t cs a
 | _,a=>a
def gx:List R->List Nm->List Nm×Nm->List Nm×Nm
 | r::a,x::xs,p=>gx a xs (gY x r.of p.1,pl p.2 (tm (iN r.tv) x))
 | _,_,p=>p
theorem BD(t:Nm):∀(c:List Int) (g:List Nm),(gY t c g).length=g.length
 | [],_=>by simp [gY]
 | _::_,[]=>by simp [gY]
 | c::cs,g::a=>by simp [gY,BD t cs a]
theorem E8{m k:Nat}{t:Nm}(f:QN k t):∀(c:List Int) (g:List Nm),(∀x∈c, -1000000<=x/\x<=1000000)->(∀x∈g,QN m x)->∀x∈gY t c g,QN (m+ (20+k)+1) x
 | [],g,_,b=>by intro x a;simp [gY] at a;exact(b x a).mono (by omega)
 | _::_,[],_,_=>by intro x a;simp [gY] at a
 | c::cs,g::i,d,b=>by
  intro x a;rw [gY] at a;have l:=d c U9;have j:QN 20 (iN c):=eM (by omega);rcases Vk.1 a with rfl | a
  .exact(b g U9).add (j.mul f)
  .exact E8 f cs i (λx h=>d x (Va _ h)) (λx h=>b x (Va _ h)) x a
theorem E9(t:Nm):∀(c:List Int) (g:List Nm) (k:Nat),k < g.length->nv (aq (gY t c g) k)=nv (aq g k)+ ((c.getD k 0:Int):Rat) * nv t
 | [],g,k,_=>by show nv (aq g k)=nv (aq g k)+ ((0:Int):Rat) * nv t;have:((0:Int):Rat)=0:=rfl;rw [this];grind
 | _::_,[],k,h=>by simp at h
 | c::cs,g::a,0,_=>rfl
 | c::cs,g::a,k+1,h=>E9 t cs a k (by simpa using h)
section
variable (er e:Bool) (rows:List R) (ts:List Nm) {n:Nat}
theorem T5{mt mg:Nat}(Z:n<=12)(hm:rows.length<=40)(V:rows.length<=ts.length)(O:∀x∈ts,QN mt x){i:Nat}(hi:i < rows.length)(ok:ei n (bc rows i))(s:(bc rows i).kd≠2)(z:Nm){to:Nm}(L:QN mg to)
  (hs:mg+ (20+mt)+1<=6300) {res:List T} {D:List Nm}
  (C:Or x7 [AV.t (T.aa 4 e (aS ts)),r0,AV.own (Id.c 1),AV.ref (Id.c 2) 0,B false,LR er rows,I (rows.length:Int),I ((i+1:Nat):Int)] [iv z,ab.sl false 4 false (aS D),iv (pl to (tm (iN (bc rows i).tv) (aq ts i)))]=some res):
  ∀(d:List Int) (a b:List Nm) (j:Nat),(bc rows i).of.drop j=d->b.length=j->d.length<=a.length->(∀y∈a,QN mg y)->b++gY (aq ts i) d a=D->
  Or Bn [AV.t (T.aa 4 e (aS ts)),r0,AV.own (Id.c 1),AV.ref (Id.c 2) 0,B false,I (i:Int),AV.ref (Id.c 3) 0,LR er rows,I (rows.length:Int),I (i:Int),aa (bc rows i).e (bc rows i).of,I ((bc rows i).of.length:Int),I (j:Int)]
   [iv z,ab.sl false 4 false (aS (b++a)),iv to,ab.box [aa (bc rows i).e (bc rows i).of,I (bc rows i).kd,I (bc rows i).tv]]=some res:=by
 have f:=gL (l:=ts) (i:=i) (by omega);have q:=O _ (U8 f);have r: 0<=(i:Int)/\(i:Int) < (ts.length:Int):=by omega
 have W:=ok.len;intro d;induction d with
 | nil=>
  intro a b j h w A hy p;have h1:¬(j:Int) < ((bc rows i).of.length:Int):=by have:=bm h;omega
  have F:gY (aq ts i) [] a=a:=rfl;rw [F] at p;have X:=ok.tv;have g:=gh (bc rows i).tv (by omega);have o:QN 20 (iN (bc rows i).tv):=eM (by omega);have m:=lB o q (by omega);have k:=mW (x:=to) (y:=tm (iN (bc rows i).tv) (aq ts i)) L (o.mul q) hs;have K:((bc rows i).kd==2)=false:=by simpa using s
  rw [p];refine aj ?_;rw [Hx];simp only [bL,ai,↓reduceIte,GD,h1,g,r,and_self,bH,cE f,m,k,K,next i (by omega)];exact C
 | cons c d Q=>
  intro a b j h w A hy p;obtain⟨E,Y,N⟩:=bh h;cases a with
  | nil=>simp at A
  | cons y a=>
   have h1:(j:Int) < ((bc rows i).of.length:Int):=by omega
   have H: 0<=(j:Int):=by omega
   have J:(j:Int) < ((b++y::a).length:Int):=by simp;omega
   have G:(b++y::a)[j]? =some y:=by rw [Wo (by omega),w,XQ];rfl
   have U:=ok.of c (U8 E);have g:=gh c (by omega);have o:QN 20 (iN c):=eM (by omega);have S:=hy y U9;have m:=lB o q (by omega);have k:=mW (x:=y) (y:=tm (iN c) (aq ts i)) S (o.mul q) hs;have M:=kz (l:=b++y::a) (i:=j) (by omega) (pl y (tm (iN c) (aq ts i)));rw [qQ _ _ _ _ _ w] at M;have:=Q a (b++ [pl y (tm (iN c) (aq ts i))]) (j+1) N (by simp;omega) (by simpa using A) (λu P=>hy u (Va _ P)) (by rw [<-p];simp [gY]);simp only [VI,Vc,Ve] at this;refine aj ?_;rw [Hx];simp only [ai,↓reduceIte,GD,h1,H,J,r,and_self,bT,gy E,bH,cE G,cE f,g,m,k,M,next j (by omega)];exact this
theorem T6{mt:Nat}(L:n<=12)(hm:rows.length<=40)(S:rows.length=ts.length)(A:∀x∈ts,QN mt x)(ok:∀r∈rows,ei n r)(w:∀r∈rows,r.kd≠2)(z:Nm):
  ∀(a:List R) (xs:List Nm) (i mg:Nat) (c:List Nm) (to:Nm),rows.drop i=a->ts.drop i=xs->c.length=n->(∀y∈c,QN mg y)->QN mg to->mg+ (mt+21) * a.length<=6300->
  Or x7 [AV.t (T.aa 4 e (aS ts)),r0,AV.own (Id.c 1),AV.ref (Id.c 2) 0,B false,LR er rows,I (rows.length:Int),I (i:Int)] [iv z,ab.sl false 4 false (aS c),iv to]=
   some (T.aa 4 false (aS (gx a xs (c,to)).1):: (NL (gx a xs (c,to)).2++ [tb false]))/\
  (∀y∈(gx a xs (c,to)).1,QN (mg+ (mt+21) * a.length) y)/\QN (mg+ (mt+21) * a.length) (gx a xs (c,to)).2/\(gx a xs (c,to)).1.length=n:=by
 intro a;induction a with
 | nil=>
  intro xs i mg c to h p o d f hs;have h1:¬(i:Int) < (rows.length:Int):=by have:=bm h;omega
  have s:gx [] xs (c,to)= (c,to):=rfl;rw [s];refine⟨aj ?_,λy hy=>(d y hy).mono (by omega),f.mono (by omega),o⟩;rw [Hw];simp only [ai,↓reduceIte,GD,h1];rfl
 | cons r a M=>
  intro xs i mg c to h p o d f hs;obtain⟨m,V,H⟩:=bh h;rw [Vw,YR,Yw] at hs⊢;cases xs with
  | nil=>have:=bm p;omega
  | cons x xs=>
   obtain⟨D,x2,Q⟩:=bh p;have h1:(i:Int) < (rows.length:Int):=by omega
   have J: 0<=(i:Int):=by omega
   have b:bc rows i=r:=by have:=pq (rows:=rows) (i:=i) (by omega);rw [m] at this;exact(V5 this).symm
   have k:aq ts i=x:=by have:=gL (l:=ts) (i:=i) (by omega);rw [D] at this;exact(V5 this).symm
   have j:=U8 m;have g:=ok r j;have C:=A x (U8 D);have U:=g.tv;have P:QN 20 (iN r.tv):=eM (by omega);have N:∀y∈gY x r.of c,QN (mg+ (mt+21)) y:=λy hy=>(E8 C r.of c g.of d y hy).mono (by omega);have O:QN (mg+ (mt+21)) (pl to (tm (iN r.tv) x)):=(f.add (P.mul C)).mono (by omega);obtain⟨q,E,F,G⟩:=M xs (i+1) (mg+ (mt+21)) (gY x r.of c) (pl to (tm (iN r.tv) x)) H Q (by rw [BD];exact o) N O (by omega);have u:gx (r::a) (x::xs) (c,to)=gx a xs (gY x r.of c,pl to (tm (iN r.tv) x)):=rfl;rw [u];refine⟨aj ?_,λy hy=>(E y hy).mono (by omega),F.mono (by omega),G⟩;have K:=g.len;rw [<-b,<-k] at q;have:=T5 er e rows ts (n:=n) L hm (by omega) A (i:=i) (by omega) (by rw [b];exact g) (by rw [b];exact w r j) z f (mg:=mg) (by omega) q (bc rows i).of c [] 0 rfl rfl (by rw [b];omega) d rfl;rw [b,k] at this;simp only [Ve] at this;rw [Hw];simp only [ai,↓reduceIte,GD,h1,J,and_self,bq,cV m,bT];exact this
theorem T4{mt:Nat}(j:n<=12)(hm:rows.length<=40)(b:rows.length=ts.length)(l:∀x∈ts,QN mt x)(ok:∀r∈rows,ei n r)(a:∀r∈rows,r.kd≠2)(hs:mt<=130):
  Or (.call 31) [LR er rows,I (n:Int),AV.t (T.aa 4 e (aS ts))] []=
   some (T.aa 4 false (aS (gx rows ts (List.replicate n none,none)).1):: (NL (gx rows ts (List.replicate n none,none)).2++ [tb false]))/\
  (∀y∈(gx rows ts (List.replicate n none,none)).1,QN 6100 y)/\QN 6100 (gx rows ts (List.replicate n none,none)).2/\(gx rows ts (List.replicate n none,none)).1.length=n:=by
 have hb:(mt+21) * rows.length<=(130+21) * 40:=YI (by omega) hm;obtain⟨f,g,h,i⟩:=T6 er e rows ts (n:=n) j hm b l ok a none rows ts 0 0 (List.replicate n none) none rfl rfl (by simp) (λy hy=>by rw [WN hy];exact iC _) (iC _) (by omega);have c:=qy (k:=n) (by omega);have d:((n:Nat):Int).toNat=n:=by omega
 refine⟨aj ?_,λy hy=>(g y hy).mono (by omega),h.mono (by omega),i⟩;rw [OT];simp only [GD,c,d,r9,bq];exact f
end
def hH:List R->List Rat->Nat->Rat
 | r::a,t::ts,k=>((r.of.getD k 0:Int):Rat) * t+hH a ts k
 | _,_,_=>0
def iR:List R->List Rat->Rat
 | r::a,t::ts=>(r.tv:Rat) * t+iR a ts
 | _,_=>0
theorem FN:∀(a:List R) (xs:List Nm) (c:List Nm) (to:Nm) (k:Nat),k < c.length->nv (aq (gx a xs (c,to)).1 k)=nv (aq c k)+hH a (xs.map nv) k
 | [],xs,c,to,k,_=>by
  have:hH [] (xs.map nv) k=0:=by cases xs <;> rfl
  rw [this];show nv (aq c k)=_;grind
 | r::a,[],c,to,k,_=>by show nv (aq c k)=nv (aq c k)+0;grind
 | r::a,x::xs,c,to,k,h=>by have b:gx (r::a) (x::xs) (c,to)=gx a xs (gY x r.of c,pl to (tm (iN r.tv) x)):=rfl;rw [b,FN a xs _ _ k (by rw [BD];exact h),E9 _ _ _ _ h,VN,hH];grind
theorem FO:∀(a:List R) (xs:List Nm) (c:List Nm) (to:Nm),nv (gx a xs (c,to)).2=nv to+iR a (xs.map nv)
 | [],xs,c,to=>by
  have:iR [] (xs.map nv)=0:=by cases xs <;> rfl
  rw [this];show nv to=_;grind
 | r::a,[],c,to=>by show nv to=nv to+0;grind
 | r::a,x::xs,c,to=>by have b:gx (r::a) (x::xs) (c,to)=gx a xs (gY x r.of c,pl to (tm (iN r.tv) x)):=rfl;rw [b,FO a xs,VN,iR];show nv to+ (r.tv:Rat) * nv x+ _=_;grind
def gg:List R->List Fr->Bool
 | r::a,t::ts=> !(decide (r.kd=1) && decide (t.1 < 0)) && gg a ts
 | _,_=>true
def mu(n:Nat)(rows:List R)(gl:List Int)(v:Fr)(point times:List Fr):Bool:=
 (rows.all λr=>gz r (bo r.of (point.map aP))) && decide (bo gl (point.map aP)=aP v) && gg rows times &&
  ((List.range n).all λk=>decide (hH rows (times.map aP) k= ((gl.getD k 0:Int):Rat))) && decide (iR rows (times.map aP)=aP v)
def ik(n:Int)(rows:List R)(gl:List Int)(v:Fr)(point times:List Fr):Int×Int:=
 if(ez n rows gl).1≠0 then ez n rows gl else if(point.length:Int)≠n\/times.length≠rows.length then(9,0) else
 if(decide (bf v) && (point.all λx=>decide (bf x)) && (times.all λx=>decide (bf x)))=true then(0,0) else(5,0)
section
variable {n:Nat} (rows:List R) (er eg ep et:Bool) (gl:List Int) (v:Fr) (point times:List Fr)
theorem UD(hv:bf v)(S:n<=12)(O:gl.length<=n)(C:∀c∈gl, -1000000<=c/\c<=1000000)(a:List Nm)(to:Nm)(Q:a.length=n)(B:∀y∈a,QN 6100 y)(E:QN 6100 to):
  ∀(xs:List Nm) (k:Nat),a.drop k=xs->(∀y,Or ug [aa eg gl,r0,AV.ref (Id.c 1) 0,AV.ref (Id.c 2) 0,AV.t (T.aa 4 false (aS a)),I (n:Int),I (k:Int)] [ab.box [I v.1,I v.2],ab.box [I 0,I 0],iv to]=y->
   y=some [tb (((List.range' k (n - k)).all λj=>decide (nv (aq a j)= ((gl.getD j 0:Int):Rat))) && decide (nv to=aP v)),ti 0,ti 0]):=by
 intro xs;induction xs with
 | nil=>
  intro k h y hy;have N:=bm h;have h1:¬(k:Int) < (n:Int):=by omega
  have G:=Ah hv.b;have g:=oh (x:=to) (y:=fN v) (m:=6100) (k:=30) E (sf hv.b) (by omega);have J:(cq (nv to) (nv (fN v))==0)=decide (nv to=aP v):=by rw [kg];exact decide_eq_decide.2 (ko _ _)
  have A:n - k=0:=by omega
  rw [<-hy,A];refine aj ?_;rw [uW];simp only [ai,↓reduceIte,GD,h1,G,g,J,List.range'_zero,YW]
 | cons x xs L=>
  intro k h y hy;obtain⟨r,P,K⟩:=bh h;have h1:(k:Int) < (n:Int):=by omega
  have s: 0<=(k:Int):=by omega
  have q:(k:Int) < (a.length:Int):=by omega
  have F:aq a k=x:=by have:=gL (l:=a) (i:=k) (by omega);rw [r] at this;exact(V5 this).symm
  have u:=gh 0 (by omega);have A:List.range' k (n - k)=k::List.range' (k+1) (n - (k+1)):=by rw [show n - k= (n - (k+1))+1 by omega,XH]
  have w:=L (k+1) K _ rfl;have H:=B x (U8 r);rw [<-hy,A,WK,F];by_cases D:k < gl.length
  .have f:(k:Int) < (gl.length:Int):=by omega
   have p:gl[k]? =some (gl.getD k 0):=by rw [U7,Vb D];rfl
   have M:=C _ (U8 p);have z:=gh (gl.getD k 0) (by omega);have g:=oh (x:=x) (y:=iN (gl.getD k 0)) (m:=6100) (k:=20) H (eM (by omega)) (by omega);by_cases o:nv x= ((gl.getD k 0:Int):Rat)
   .have d:cq (nv x) (nv (iN (gl.getD k 0)))=0:=(ko _ _).2 o;rw [decide_eq_true o,Wa];refine aj ?_;rw [uW];simp only [ai,↓reduceIte,GD,h1,s,q,f,and_self,bH,cE r,u,bT,gy p,z,g,d,next k (by omega)];exact w
   .have d:¬cq (nv x) (nv (iN (gl.getD k 0)))=0:=λh=>o ((ko _ _).1 h);rw [decide_eq_false o,Wm,Wm];refine aj ?_;rw [uW];simp only [ai,↓reduceIte,GD,h1,s,q,f,and_self,bH,cE r,u,bT,gy p,z,g,d]
  .have f:¬(k:Int) < (gl.length:Int):=by omega
   have p:gl.getD k 0=0:=by rw [U7,V8 (by omega)];rfl
   have g:=oh (x:=x) (y:=iN 0) (m:=6100) (k:=20) H (eM (by decide)) (by omega);rw [p];by_cases o:nv x= ((0:Int):Rat)
   .have d:cq (nv x) (nv (iN 0))=0:=(ko _ _).2 o;rw [decide_eq_true o,Wa];refine aj ?_;rw [uW];simp only [ai,↓reduceIte,GD,h1,s,q,f,and_self,bH,cE r,u,bT,g,d,next k (by omega)];exact w
   .have d:¬cq (nv x) (nv (iN 0))=0:=λh=>o ((ko _ _).1 h);rw [decide_eq_false o,Wm,Wm];refine aj ?_;rw [uW];simp only [ai,↓reduceIte,GD,h1,s,q,f,and_self,bH,cE r,u,bT,g,d]
theorem UE(hv:bf v)(M:n<=12)(hm:rows.length<=40)(ok:∀r∈rows,ei n r)(L:∀r∈rows,r.kd≠2)(K:gl.length<=n)(J:∀c∈gl, -1000000<=c/\c<=1000000)(U:times.length=rows.length)(s:∀x∈times,bf x):
  ∀(d:List R) (ts:List Fr) (i:Nat),rows.drop i=d->times.drop i=ts->
  Or yh [LR er rows,I (n:Int),aa eg gl,LN et times,r0,AV.ref (Id.c 1) 0,LR er rows,I (rows.length:Int),I (i:Int)] [ab.box [I v.1,I v.2],ab.box [I 0,I 0]]=
   some [tb (gg d ts && ((List.range n).all λk=>decide (hH rows (times.map aP) k= ((gl.getD k 0:Int):Rat))) && decide (iR rows (times.map aP)=aP v)),ti 0,ti 0]:=by
 intro d;induction d with
 | nil=>
  intro ts i h E;have h1:¬(i:Int) < (rows.length:Int):=by have:=bm h;omega
  have o:gg [] ts=true:=by cases ts <;> rfl
  have O:=EO et times (by omega) (λx F=>(s x F).b);have g:(times.map fN).map nv=times.map aP:=by rw [X4];rfl
  obtain⟨q,q1,P,G⟩:=T4 er (decide (times= [])) rows (times.map fN) (n:=n) (mt:=30) M hm (by simp;omega) (λx F=>by
   obtain⟨y,hy,rfl⟩:=VJ.1 F;exact sf (s y hy).b) ok L (by omega)
  have u:=λk (a:k < n)=>FN rows (times.map fN) (List.replicate n none) none k (by simpa using a);have w:=FO rows (times.map fN) (List.replicate n none) none;rw [g] at w;generalize gx rows (times.map fN) (List.replicate n none,none)=m at q q1 P G u w;have:=UD (n:=n) eg gl v hv M K J m.1 m.2 G q1 P m.1 0 rfl _ rfl;have D:((List.range' 0 (n - 0)).all λj=>decide (nv (aq m.1 j)= ((gl.getD j 0:Int):Rat)))= ((List.range n).all λk=>decide (hH rows (times.map aP) k= ((gl.getD k 0:Int):Rat))):=by
   rw [Ws,<-XW,ZI,Vt,Vt];refine forall_congr' λk=> ?_;constructor
   .intro A a;have:=u k (Xw.1 a);have hz:nv (aq (List.replicate n (none:Nm)) k)=0:=by
     unfold aq;rw [U7,Xa];split <;> rfl
    rw [hz,g,X6] at this;rw [<-this];exact A a
   .intro A a;have:=u k (Xw.1 a);have hz:nv (aq (List.replicate n (none:Nm)) k)=0:=by
     unfold aq;rw [U7,Xa];split <;> rfl
    rw [hz,g,X6] at this;rw [this];exact A a
  have N:nv m.2=iR rows (times.map aP):=by rw [w,vK,X6]
  rw [D,N] at this;rw [o,Wa];simp only [Vc,Ve] at q;refine aj ?_;rw [zn];simp only [ai,↓reduceIte,GD,h1,O,q,bH,G];exact this
 | cons r d S=>
  intro ts i h E;obtain⟨z,V,Q⟩:=bh h;cases ts with
  | nil=>have:=bm E;omega
  | cons t ts=>
   obtain⟨H,W,T⟩:=bh E;have h1:(i:Int) < (rows.length:Int):=by omega
   have B: 0<=(i:Int):=by omega
   have C:(i:Int) < (times.length:Int):=by omega
   have p:=S ts (i+1) Q T;have o:gg (r::d) (t::ts)= (!(decide (r.kd=1) && decide (t.1 < 0)) && gg d ts):=rfl;rw [o];by_cases a:r.kd=1
   .have l:(r.kd==1)=true:=by simpa using a
    by_cases f:t.1 < 0
    .refine aj ?_;rw [zn];simp only [ai,↓reduceIte,GD,h1,B,C,and_self,bq,cV z,cm,fi H,f,decide_true];simp [a]
    .have e:(!(decide (r.kd=1) && decide (t.1 < 0)) && gg d ts)=gg d ts:=by simp [a,f]
     rw [e];refine aj ?_;rw [zn];simp only [ai,↓reduceIte,GD,h1,B,C,and_self,bq,cV z,cm,fi H,f,decide_false,next i (by omega)];split
     .exact p
     .exact p
   .have l:(r.kd==1)=false:=by simpa using a
    have e:(!(decide (r.kd=1) && decide (t.1 < 0)) && gg d ts)=gg d ts:=by simp [a]
    rw [e];refine aj ?_;rw [zn];simp only [ai,↓reduceIte,GD,h1,B,C,and_self,bq,cV z,a,cm,fi H,next i (by omega)];exact p
end
open Go Go.Aev Go.Aev.Gen Go.Aev.Wd Go.Aev.Tb
abbrev Av(v:Fr):AV:=AV.agg [I v.1,I v.2]
set_option maxRecDepth 10000 in
theorem u8(rows:List R)(er eg ep et:Bool)(n:Int)(gl:List Int)(v:Fr)(point times:List Fr)(P:∀r∈rows,r.e=true->r.of= []):
  Or (.call 8) [LR er rows,I n,aa eg gl,Av v,LN ep point,LN et times] []=
   some (if(ik n rows gl v point times).1=0 then [tb (mu n.toNat rows gl v point times),ti 0,ti 0] else [tb false,ti (ik n rows gl v point times).1,ti (ik n rows gl v point times).2]):=by
 have a:=EL rows er eg n gl P;by_cases h1:(ez n rows gl).1=0
 .obtain⟨_,Y,Z,J,F,V,a6,K⟩:=pX P h1;obtain⟨n,rfl⟩:∃m:Nat,n= (m:Int):=⟨n.toNat,by omega⟩;simp only [VA] at F;by_cases L:(point.length:Int)≠(n:Int)\/times.length≠rows.length
  .have s:ik (n:Int) rows gl v point times= (9,0):=by unfold ik;rw [if_neg (by omega),if_pos L]
   have hb:(if(point.length:Int)= (n:Int) then !((times.length:Int)== (rows.length:Int)) else true)=true:=by
    by_cases M:(point.length:Int)= (n:Int)
    .rw [if_pos M];have:¬(times.length:Int)= (rows.length:Int):=by omega
     simpa using this
    .rw [if_neg M]
   rw [s];refine aj ?_;rw [oQ];simp only [ai,↓reduceIte,Int.reduceEq,GD,a,h1,cm,bq,hb]
   try rfl
  .have W:point.length=n:=by omega
   have Q:times.length=rows.length:=by omega
   have hb:(if(point.length:Int)= (n:Int) then !((times.length:Int)== (rows.length:Int)) else true)=false:=by
    rw [if_pos (by omega)];have:(times.length:Int)= (rows.length:Int):=by omega
    simpa using this
   have c:Or (.call 25) [AV.t (T.aa 2 false [[ti v.1,ti v.2]])] []=some [tb (!([v].all λx=>decide (bf x)))]:=AP false [v] (by simp);have g:=AP ep point (by omega);have j:=AP et times (by omega);have w:([v].all λx=>decide (bf x))=decide (bf v):=by simp
   rw [w] at c;have s:ik (n:Int) rows gl v point times=if(decide (bf v) && (point.all λx=>decide (bf x)) && (times.all λx=>decide (bf x)))=true then(0,0) else(5,0):=by unfold ik;rw [if_neg (by omega),if_neg L]
   rw [s];cases p:decide (bf v)
   .rw [p] at c;refine aj ?_;rw [oQ];simp only [bL,ai,↓reduceIte,GD,a,h1,cm,bq,hb,c]
    try rfl
   .rw [p] at c;cases l:point.all λx=>decide (bf x)
    .rw [l] at g;refine aj ?_;rw [oQ];simp only [bL,ai,↓reduceIte,GD,a,h1,cm,bq,hb,c,g]
     try rfl
    .rw [l] at g;cases o:times.all λx=>decide (bf x)
     .rw [o] at j;refine aj ?_;rw [oQ];simp only [ai,↓reduceIte,GD,a,h1,cm,bq,hb,c,g,j]
      try rfl
     .rw [o] at j;have hv:bf v:=of_decide_eq_true p;have q:∀x∈point,bf x:=λx f=>of_decide_eq_true (Vt.1 l x f);have S:∀x∈times,bf x:=λx f=>of_decide_eq_true (Vt.1 o x f);have d:=Ly er rows ep point (by omega) (by rw [W];exact F) q J;have C:=EO ep point (by omega) (λx f=>(q x f).b);obtain⟨y,U,H,X⟩:=EM eg (decide (point= [])) gl (point.map fN) K (by simp;omega) (by omega) (m:=30) (λx f=>by
       obtain⟨z,hz,rfl⟩:=VJ.1 f;exact sf (q z hz).b) (by omega)
      have G:(point.map fN).map nv=point.map aP:=by rw [X4];rfl
      rw [G] at H;have E:=Ah hv.b;have D:=oh (x:=y) (y:=fN v) (m:=6000) (k:=30) X (sf hv.b) (by omega);have A:=UE (n:=n) rows er eg et gl v times hv (by omega) J F V (by omega) K Q S rows times 0 rfl rfl;have B:mu n rows gl v point times= ((rows.all λr=>gz r (bo r.of (point.map aP))) && (decide (bo gl (point.map aP)=aP v) && (gg rows times && ((List.range n).all λk=>decide (hH rows (times.map aP) k= ((gl.getD k 0:Int):Rat))) && decide (iR rows (times.map aP)=aP v)))):=by unfold mu;simp only [ZL]
      simp only [Bool.and_self,if_true];rw [VA,B];cases N:rows.all λr=>gz r (bo r.of (point.map aP))
      .rw [N] at d;refine aj ?_;rw [oQ];simp only [bL,ai,↓reduceIte,GD,a,h1,cm,bq,hb,c,g,j,d]
      .rw [N] at d;by_cases u:bo gl (point.map aP)=aP v
       .have i:cq (nv y) (nv (fN v))=0:=(ko _ _).2 (by rw [H];exact u);rw [decide_eq_true u,Wa,Wa];refine aj ?_;rw [oQ];simp only [ai,↓reduceIte,GD,a,h1,cm,bq,hb,c,g,j,d,C,U,E,D,i];exact A
       .have i:¬cq (nv y) (nv (fN v))=0:=λh=>u (by rw [<-H];exact(ko _ _).1 h);have O:(!(cq (nv y) (nv (fN v))==0))=true:=by simpa using i
        rw [decide_eq_false u,Wa,Wm];refine aj ?_;rw [oQ];simp only [ai,↓reduceIte,GD,a,h1,cm,bq,hb,c,g,j,d,C,U,E,D,i]
 .have s:ik n rows gl v point times=ez n rows gl:=by unfold ik;rw [if_pos h1]
  rw [s,if_neg h1];refine aj ?_;rw [oQ];simp only [ai,↓reduceIte,GD,a,h1]
def lM(r:R):R:={r with tv:=0}
def m8(n:Int)(rows:List R)(gl:List Int)(point:List Fr):Int×Int:=
 if(ez n rows gl).1≠0 then ez n rows gl else if(point.length:Int)≠n then(9,0) else if(point.all λx=>decide (bf x))=true then(0,0) else(5,0)
def nW(rows:List R)(gl:List Int)(point:List Fr):Bool:=((rows.map lM).all λr=>gz r (bo r.of (point.map aP))) && decide (0 < bo gl (point.map aP))
theorem Oz(a b:List R):dK a++dK b=dK (a++b):=by simp [dK]
theorem UH(rows:List R)(er eg ep:Bool)(n:Nat)(gl:List Int)(point:List Fr)(Q:n<=12)(hm:rows.length<=40)(ok:∀r∈rows,ei n r)(N:gl.length<=n)(u:∀c∈gl, -1000000<=c/\c<=1000000)(G:point.length=n)(g:∀x∈point,bf x):
  ∀(d a:List R) (i:Nat),rows.drop i=d->a.length=i->a++d=rows->
  Or yl [aa eg gl,LN ep point,r0,AV.own (Id.c 1),LR er rows,I (rows.length:Int),I (i:Int)] [ab.box [I 0,I 0],ab.sl false 3 (decide (a= [])) (dK (a.map lM))]=some [tb (nW rows gl point),ti 0,ti 0]:=by
 intro d;induction d with
 | nil=>
  intro a i h F j;have h1:¬(i:Int) < (rows.length:Int):=by have:=bm h;omega
  rw [V9] at j;subst j;have f:=Ly (decide (a= [])) (a.map lM) ep point (by omega) (λr J=>by
   obtain⟨q,H,rfl⟩:=VJ.1 J;have o:=ok q H;rw [G];exact⟨o.e,o.kd,o.len,o.of,by show -1000000<=(0:Int)/\(0:Int)<=1000000;omega⟩) g (by simpa using hm)
  have w:=EO ep point (by omega) (λx s=>(g x s).b);obtain⟨y,M,A,S⟩:=EM eg (decide (point= [])) gl (point.map fN) u (by simp;omega) (by omega) (m:=30) (λx s=>by
   obtain⟨z,hz,rfl⟩:=VJ.1 s;exact sf (g z hz).b) (by omega)
  have l:(point.map fN).map nv=point.map aP:=by rw [X4];rfl
  rw [l] at A;have ks:=lK y;have p:decide ((nv y).num.sign > 0)=decide (0 < bo gl (point.map aP)):=by
   rw [A];refine decide_eq_decide.2 ?_;have h1:=o7 (-(bo gl (point.map aP)));rcases px (bo gl (point.map aP)) with e | e | e
   .rw [e];refine⟨λ_=> ?_,λ_=>by decide⟩;have O:¬bo gl (point.map aP) < 0:=λh=>by have:=(o7 _).2 h;rw [e] at this;exact absurd this (by decide)
    have k:bo gl (point.map aP)≠0:=λh=>by have:=(gm _).2 h;rw [e] at this;exact absurd this (by decide)
    grind
   .rw [e];refine⟨λh=>absurd h (by decide),λh=> ?_⟩;have:=(o7 (bo gl (point.map aP))).1 (by rw [e];decide);exact absurd h (by grind)
   .rw [e];refine⟨λh=>absurd h (by decide),λh=> ?_⟩;have:=(gm (bo gl (point.map aP))).1 e;rw [this] at h;exact absurd h (by grind)
  unfold nW;rw [<-p];cases t:(a.map lM).all λr=>gz r (bo r.of (point.map aP))
  .rw [t] at f;refine aj ?_;rw [CP];simp only [bL,ai,↓reduceIte,GD,h1,f]
  .rw [t] at f;refine aj ?_;rw [CP];simp only [ai,↓reduceIte,GD,h1,f,w,M,ks]
 | cons r d K=>
  intro a i h F j;obtain⟨B,P,C⟩:=bh h;have h1:(i:Int) < (rows.length:Int):=by omega
  have D: 0<=(i:Int):=by omega
  have L:bM 40 ((a.map lM).length+ [[T.aa 1 r.e (enc r.of),ti r.kd,ti 0]].length)=some ():=jb (by simp;omega);have E:dK (a.map lM)++ [[T.aa 1 r.e (enc r.of),ti r.kd,ti 0]]=dK ((a++ [r]).map lM):=by rw [W0,<-Oz];rfl
  have:=K (a++ [r]) (i+1) C (by simp;omega) (by simpa using j);have k:decide (a++ [r]= [])=false:=by simp
  rw [k] at this;refine aj ?_;rw [CP];simp only [ai,↓reduceIte,GD,h1,D,and_self,bq,cV B,L,E,next i (by omega)];exact this
theorem u9(rows:List R)(er eg ep:Bool)(n:Int)(gl:List Int)(point:List Fr)(j:∀r∈rows,r.e=true->r.of= []):
  Or (.call 9) [LR er rows,I n,aa eg gl,LN ep point] []=
   some (if(m8 n rows gl point).1=0 then [tb (nW rows gl point),ti 0,ti 0] else [tb false,ti (m8 n rows gl point).1,ti (m8 n rows gl point).2]):=by
 have b:=EL rows er eg n gl j;by_cases h1:(ez n rows gl).1=0
 .obtain⟨_,p,q,k,h,s,t,l⟩:=pX j h1;obtain⟨n,rfl⟩:∃m:Nat,n= (m:Int):=⟨n.toNat,by omega⟩;simp only [VA] at h;by_cases g:(point.length:Int)≠(n:Int)
  .have a:¬(point.length:Int)= (n:Int):=g;have d:m8 (n:Int) rows gl point= (9,0):=by unfold m8;rw [if_neg (by omega),if_pos g]
   rw [d];refine aj ?_;rw [zo];simp only [ai,↓reduceIte,Int.reduceEq,GD,b,h1,cm,a]
   try rfl
  .have a:(point.length:Int)= (n:Int):=by omega
   have f:=AP ep point (by omega);have d:m8 (n:Int) rows gl point=if(point.all λx=>decide (bf x))=true then(0,0) else(5,0):=by unfold m8;rw [if_neg (by omega),if_neg g]
   rw [d];cases c:point.all λx=>decide (bf x)
   .rw [c] at f;refine aj ?_;rw [zo];simp only [ai,↓reduceIte,GD,b,h1,cm,a,f]
    try rfl
   .rw [c] at f;have i:∀x∈point,bf x:=λx o=>of_decide_eq_true (Vt.1 c x o);have:=UH rows er eg ep n gl point (by omega) k h (by omega) l (by omega) i rows [] 0 rfl rfl rfl;simp only [if_true];refine aj ?_;rw [zo];simp only [ai,↓reduceIte,GD,b,h1,cm,a,f,bq];exact this
 .have d:m8 n rows gl point=ez n rows gl:=by unfold m8;rw [if_pos h1]
  rw [d,if_neg h1];refine aj ?_;rw [zo];simp only [ai,↓reduceIte,GD,b,h1]
def b8(x:Nm):Fr:=if de (nv x)=true then((nv x).num,((nv x).den:Int)) else(0,0)
theorem JT{m:Nat}{x:Nm}(b:QN m x)(h:m<=6300):Or (.call 43) [EN x] []=some [ti (b8 x).1,ti (b8 x).2,tb (de (nv x))]:=by
 have:=Li b h;unfold b8;cases a:de (nv x)
 .rw [a] at this;exact this
 .rw [a] at this;exact this
theorem Ud(e:Bool)(l:List Nm)(A:l.length<=1000){m:Nat}(s:∀x∈l,QN m x)(hm:m<=6300):∀(d a:List Nm) (i:Nat) (b:Bool),l.drop i=d->a.length=i->a++d=l->b=a.all (λx=>de (nv x))->
  Or x9 [AV.own (Id.c 0),B b,AV.t (T.aa 4 e (aS l)),I (l.length:Int),I (i:Int)] [ab.sl false 2 (decide (a= [])) (fW (a.map b8))]=some [T.aa 2 (decide (l= [])) (fW (l.map b8)),tb (l.all λx=>de (nv x))]:=by
 intro d;induction d with
 | nil=>
  intro a i b h r f hb;have h1:¬(i:Int) < (l.length:Int):=by have:=bm h;omega
  rw [V9] at f;subst f;rw [<-hb];refine aj ?_;rw [HC];simp only [ai,↓reduceIte,GD,h1]
 | cons x d u=>
  intro a i b h r f hb;obtain⟨g,z,o⟩:=bh h;have h1:(i:Int) < (l.length:Int):=by omega
  have p: 0<=(i:Int):=by omega
  have w:=JT (s x (U8 g)) hm;have y:bM 16 ((fW (a.map b8)).length+ [[ti (b8 x).1,ti (b8 x).2]].length)=some ():=jb (by rw [cm];simp;omega);have q:fW (a.map b8)++ [[ti (b8 x).1,ti (b8 x).2]]=fW ((a++ [x]).map b8):=by simp [fW]
  have:=u (a++ [x]) (i+1) (if b=true then de (nv x) else false) o (by simp;omega) (by simpa using f) (by rw [hb,List.all_append];cases a.all (λx=>de (nv x)) <;> simp);have k:decide (a++ [x]= [])=false:=by simp
  rw [k] at this;have j:(bif b then de (nv x) else false)=if b=true then de (nv x) else false:=by cases b <;> rfl
  refine aj ?_;rw [HC];simp only [ai,↓reduceIte,GD,h1,p,and_self,bH,cE g,w,y,q,j,next i (by omega)];exact this
theorem qV(e:Bool)(l:List Nm)(a:l.length<=1000){m:Nat}(b:∀x∈l,QN m x)(hm:m<=6300):
  Or (.call 40) [AV.t (T.aa 4 e (aS l))] []=some [T.aa 2 (decide (l= [])) (fW (l.map b8)),tb (l.all λx=>de (nv x))]:=by
 have:=Ud e l a b hm l [] 0 true rfl rfl rfl rfl;refine aj ?_;rw [OX,bH];exact this
end Go.Aev.Wd.Lg
