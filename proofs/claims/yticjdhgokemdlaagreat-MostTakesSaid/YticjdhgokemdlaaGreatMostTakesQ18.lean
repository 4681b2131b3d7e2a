import Derived.Test.YticjdhgokemdlaaGreatMostTakesQ6
import Derived.Test.YticjdhgokemdlaaGreatMostTakesQ17
set_option linter.unusedSimpArgs false
set_option linter.unusedVariables false
namespace Go.Aev.Wd.Lg
open Go Go.Aev Go.Aev.Gen
noncomputable abbrev nY:Key:=ak PROG 9 true 10 [(2,none),(3,none),(9,none),(11,some 3),(32,none),(33,none),(34,none)] (0,0)
noncomputable abbrev jW:Key:=ak PROG 10 true 8 [(4,none),(5,none),(12,none),(14,none),(15,none)] (0,0)
noncomputable abbrev io:Key:=ak PROG 20 true 3 [(0,none),(1,none),(2,none),(6,none),(7,none),(8,none)] (0,0)
noncomputable abbrev m9:Key:=ak PROG 10 true 12 [(5,none),(12,none),(14,none),(16,none)] (0,0)
noncomputable abbrev it:Key:=ak PROG 20 true 10 [(2,none),(6,none),(7,none),(9,none)] (0,0)
noncomputable abbrev nL:Key:=ak PROG 11 true 5 [(0,none),(1,none),(2,none),(5,none),(13,none),(14,none)] (0,0)
noncomputable abbrev oA:Key:=ak PROG 15 true 2 [(0,none),(1,none),(5,none)] (0,0)
noncomputable abbrev kG:Key:=ak PROG 11 true 10 [(0,none),(1,none),(2,none),(5,none),(13,none),(15,none)] (0,0)
noncomputable abbrev kP:Key:=ak PROG 44 true 3 [(1,none),(4,none),(5,none),(6,none)] (0,0)
noncomputable abbrev fb:Key:=ak PROG 35 true 3 [(0,none),(1,none),(2,none),(3,none),(9,none),(10,none)] (0,0)
noncomputable abbrev nZ:Key:=ak PROG 12 true 2 [(0,none),(1,none),(2,none),(7,none)] (0,0)
noncomputable abbrev oQ:Key:=ak PROG 3 true 9 [(0,none),(1,none),(2,none),(4,none),(5,none),(9,none),(14,none),(15,none),(16,none),(17,none),(18,none),(19,some 2),(20,none)] (0,0)
theorem eq9(O:Orc)(er eg ep:Bool)(r g p:JL)(n:Int):stepO PROG ann O (Key.call 9) [Jl 3 er r,I n,Jl 1 eg g,Jl 2 ep p] []=
 (G0 (O (.call 24) [Jl 3 er r,I n,Jl 1 eg g] []) fun n_1 n_2=>bif !n_1==0 then some [Jb false,Ji n_1,Ji n_2] else bif !(p.length:Int)==n then some [Jb false,Ji 9,Ji 0] else G3 (O (.call 25) [Jl 2 ep p] []) fun b=>bif b then some [Jb false,Ji 5,Ji 0] else O nY [Jl 1 eg g,Jl 2 ep p,Jr 0,Jo 1,Jl 3 er r,I (r.length:Int),I 0] [Blk.box [I 0,I 0],Blk.sl false 3 true []]):=by kernel_rfl
theorem rl(O:Orc)(ev2 ev3 ev32 ec1:Bool)(v2 v3 v32 c1:JL)(v33 v34 c0_0 c0_1:Int):stepO PROG ann O nY [Jl 1 ev2 v2,Jl 2 ev3 v3,Jr 0,Jo 1,Jl 3 ev32 v32,I v33,I v34] [Blk.box [I c0_0,I c0_1],Blk.sl false 3 ec1 c1]=
 (bif decide (v34 < v33) then G1 v34 v32 fun p n n_1=>Jg (aA 40 (c1.length+ [[T.lst 1 p.fst p.snd,Ji n,Ji 0]].length)) fun x=>O nY [Jl 1 ev2 v2,Jl 2 ev3 v3,Jr 0,Jo 1,Jl 3 ev32 v32,I v33,I (Jw v34)] [Blk.box [I c0_0,I c0_1],Blk.sl false 3 (ec1 && false) (c1++ [[T.lst 1 p.fst p.snd,Ji n,Ji 0]])] else G3 (O (.call 26) [Jl 3 ec1 c1,Jl 2 ev3 v3] []) fun b=>G6 (some b) (bq (some b) (O (.call 28) [Jl 2 ev3 v3] [])) fun p=>G7 (some b) (bq (some b) (O (.call 27) [Jl 1 ev2 v2,Jl 4 p.fst p.snd] [])) fun b_1 s b_2 s_1=>G8 (some b) (bq (some b) (O (.call 33) [Ja b_1 s b_2 s_1] [])) fun n=>some [Jb (bif b then decide (n > 0) else false),Ji 0,Ji 0]):=by kernel_rfl
theorem qZ(O:Orc)(er eg ep et:Bool)(r g p t:JL)(n vn vd:Int):stepO PROG ann O (Key.call 10) [Jl 3 er r,I n,Jl 1 eg g,AV.agg [I vn,I vd],Jl 2 ep p,Jl 2 et t] []=
 (G0 (O (.call 20) [Jl 3 er r,I n,Jl 1 eg g] []) fun n_1 n_2=>bif bif n_1==0 then bif !(p.length:Int)==n then true else !(t.length:Int)== (r.length:Int) else false then G0 (O (.call 21) [I 9,I 0] []) fun n n_3=>bif !n==0 then some [Ji n,Ji n_3] else G3 (O (.call 34) [AV.agg [I vn,I vd]] []) fun b=>O jW [Jl 2 ep p,Jl 2 et t,Jr 0,B b,I 0] [Blk.box [I 0,I 0]] else bif !n_1==0 then some [Ji n_1,Ji n_2] else G3 (O (.call 34) [AV.agg [I vn,I vd]] []) fun b=>O jW [Jl 2 ep p,Jl 2 et t,Jr 0,B b,I 0] [Blk.box [I 0,I 0]]):=by kernel_rfl
theorem yh(O:Orc)(ea0 ea2:Bool)(a0 a2:JL)(a1:Int):stepO PROG ann O (Key.call 20) [Jl 3 ea0 a0,I a1,Jl 1 ea2 a2] []=
 (G0 (O (.call 49) [Jl 3 ea0 a0,I a1] []) fun n n_1=>O io [Jl 3 ea0 a0,I a1,Jl 1 ea2 a2,Jr 0,Jr 1,I 0] [Blk.box [I 0,I 0],Blk.box [I n,I n_1]]):=by kernel_rfl
theorem qY(O:Orc)(ev4 ev5 v14:Bool)(v4 v5:JL)(v15 c0_0 c0_1:Int):stepO PROG ann O jW [Jl 2 ev4 v4,Jl 2 ev5 v5,Jr 0,B v14,I v15] (Y9 c0_0 c0_1)=
 (bif decide (v15 < (v4.length:Int)) then G62 (some v14) v15 v4 fun n n_1=>G5 (some v14) (bq (some v14) (O (.call 34) [AV.agg [I n,I n_1]] [])) fun b=>O jW [Jl 2 ev4 v4,Jl 2 ev5 v5,Jr 0,B (bif v14 then b else false),I (Jw v15)] (Y9 c0_0 c0_1) else O m9 [Jl 2 ev5 v5,Jr 0,B v14,I 0] (Y9 c0_0 c0_1)):=by kernel_rfl
theorem mG(O:Orc)(ev0 ev2:Bool)(v0 v2:JL)(v1 v8 c0_0 c0_1 c1_0 c1_1:Int):stepO PROG ann O io [Jl 3 ev0 v0,I v1,Jl 1 ev2 v2,Jr 0,Jr 1,I v8] (Y7 c0_0 c0_1 c1_0 c1_1)=
 (bif bif decide (v8 < (v0.length:Int)) then c1_0==0 else false then G63 v8 v0 fun n=>bif n==2 then G0 (O (.call 21) [I 4,I v8] []) fun n n_1=>O io [Jl 3 ev0 v0,I v1,Jl 1 ev2 v2,Jr 0,Jr 1,I (Jw v8)] (Y7 c0_0 c0_1 n n_1) else O io [Jl 3 ev0 v0,I v1,Jl 1 ev2 v2,Jr 0,Jr 1,I (Jw v8)] (Y7 c0_0 c0_1 c1_0 c1_1) else bif bif c1_0==0 then decide ((v2.length:Int) > v1) else false then G0 (O (.call 21) [I 9,I 0] []) fun n n_1=>O it [Jl 1 ev2 v2,Jr 0,Jr 1,I 0] (Y7 c0_0 c0_1 n n_1) else O it [Jl 1 ev2 v2,Jr 0,Jr 1,I 0] (Y7 c0_0 c0_1 c1_0 c1_1)):=by kernel_rfl
theorem mL(O:Orc)(ev5 v14:Bool)(v5:JL)(v16 c0_0 c0_1:Int):stepO PROG ann O m9 [Jl 2 ev5 v5,Jr 0,B v14,I v16] (Y9 c0_0 c0_1)=
 (bif decide (v16 < (v5.length:Int)) then G62 (some v14) v16 v5 fun n n_1=>G5 (some v14) (bq (some v14) (O (.call 34) [AV.agg [I n,I n_1]] [])) fun b=>O m9 [Jl 2 ev5 v5,Jr 0,B (bif v14 then b else false),I (Jw v16)] (Y9 c0_0 c0_1) else bif !v14 then G0 (O (.call 21) [I 5,I 0] []) fun n n_1=>some [Ji n,Ji n_1] else some [Ji 0,Ji 0]):=by kernel_rfl
theorem lG(O:Orc)(ev2:Bool)(v2:JL)(v9 c0_0 c0_1 c1_0 c1_1:Int):stepO PROG ann O it [Jl 1 ev2 v2,Jr 0,Jr 1,I v9] (Y7 c0_0 c0_1 c1_0 c1_1)=
 (bif bif decide (v9 < (v2.length:Int)) then c1_0==0 else false then G2 v9 v2 fun n=>G3 (O (.call 50) [I n] []) fun b=>bif !b then G0 (O (.call 21) [I 5,I v9] []) fun n n_1=>O it [Jl 1 ev2 v2,Jr 0,Jr 1,I (Jw v9)] (Y7 c0_0 c0_1 n n_1) else O it [Jl 1 ev2 v2,Jr 0,Jr 1,I (Jw v9)] (Y7 c0_0 c0_1 c1_0 c1_1) else some [Ji c1_0,Ji c1_1]):=by kernel_rfl
theorem qD(O:Orc)(er eg ep et:Bool)(r g p t:JL)(n vn vd:Int):stepO PROG ann O (Key.call 11) [Jl 3 er r,I n,Jl 1 eg g,AV.agg [I vn,I vd],Jl 2 ep p,Jl 2 et t] []=
 (G34 (O (.call 18) [AV.agg [I vn,I vd]] []) fun x=>G3 (O (.call 15) [Jl 3 er r,Jl 2 ep p] []) fun b=>G64 (some !!b) (bq (some !!b) (O (.call 16) [Jl 1 eg g,Jl 2 ep p] [])) fun x_2=>G8 (some !!b) (bq (some !!b) (O (.call 17) [AV.t x_2,AV.t x] [])) fun n_1=>bif bif !b then true else !n_1==0 then some [Jb false] else O nL [Jl 3 er r,I n,Jl 1 eg g,Jl 2 et t,AV.t x,I 0] []):=by kernel_rfl
theorem e14(O:Orc)(ea0 ea1:Bool)(a0 a1:JL):stepO PROG ann O (Key.call 15) [Jl 3 ea0 a0,Jl 2 ea1 a1] []=
 (O oA [Jl 3 ea0 a0,Jl 2 ea1 a1,I 0] []):=by kernel_rfl
theorem og(O:Orc)(ev0 ev2 ev5:Bool)(v0 v2 v5:JL)(v1 v14:Int)(v13:T):stepO PROG ann O nL [Jl 3 ev0 v0,I v1,Jl 1 ev2 v2,Jl 2 ev5 v5,AV.t v13,I v14] []=
 (bif decide (v14 < (v0.length:Int)) then G63 v14 v0 fun n=>G12 (some (n==1)) v14 v5 fun n_1=>bif bif n==1 then decide (n_1 < 0) else false then some [Jb false] else O nL [Jl 3 ev0 v0,I v1,Jl 1 ev2 v2,Jl 2 ev5 v5,AV.t v13,I (Jw v14)] [] else O kG [Jl 3 ev0 v0,I v1,Jl 1 ev2 v2,Jl 2 ev5 v5,AV.t v13,I 0] []):=by kernel_rfl
theorem tw(O:Orc)(ev0 ev1:Bool)(v0 v1:JL)(v5:Int):stepO PROG ann O oA [Jl 3 ev0 v0,Jl 2 ev1 v1,I v5] []=
 (bif decide (v5 < (v0.length:Int)) then G1 v5 v0 fun p n n_1=>G0 (O (.call 44) [AV.agg [Jl 1 p.fst p.snd,I n,I n_1],Jl 2 ev1 v1] []) fun n n_2=>G65 (some !!n==0) v5 v0 fun p n_3 n_4=>G5 (some !!n==0) (bq (some !!n==0) (O (.call 45) [AV.agg [Jl 1 p.fst p.snd,I n_3,I n_4],Jl 2 ev1 v1] [])) fun b=>bif bif !n==0 then true else !b then some [Jb false] else O oA [Jl 3 ev0 v0,Jl 2 ev1 v1,I (Jw v5)] [] else some [Jb true]):=by kernel_rfl
theorem kH(O:Orc)(ev0 ev2 ev5:Bool)(v0 v2 v5:JL)(v1 v15:Int)(v13:T):stepO PROG ann O kG [Jl 3 ev0 v0,I v1,Jl 1 ev2 v2,Jl 2 ev5 v5,AV.t v13,I v15] []=
 (bif decide (v15 < v1) then bif decide (v15 < (v2.length:Int)) then G2 v15 v2 fun n=>G34 (O (.call 35) [Jl 3 ev0 v0,I v1,Jl 2 ev5 v5,I v15] []) fun x=>G34 (O (.call 36) [I n,I 1] []) fun x_1=>G9 (O (.call 17) [AV.t x,AV.t x_1] []) fun n=>bif !n==0 then some [Jb false] else O kG [Jl 3 ev0 v0,I v1,Jl 1 ev2 v2,Jl 2 ev5 v5,AV.t v13,I (Jw v15)] [] else G34 (O (.call 35) [Jl 3 ev0 v0,I v1,Jl 2 ev5 v5,I v15] []) fun x=>G34 (O (.call 36) [I 0,I 1] []) fun x_1=>G9 (O (.call 17) [AV.t x,AV.t x_1] []) fun n=>bif !n==0 then some [Jb false] else O kG [Jl 3 ev0 v0,I v1,Jl 1 ev2 v2,Jl 2 ev5 v5,AV.t v13,I (Jw v15)] [] else G34 (O (.call 35) [Jl 3 ev0 v0,I v1,Jl 2 ev5 v5,I v1] []) fun x=>G9 (O (.call 17) [AV.t x,AV.t v13] []) fun n=>some [Jb (n==0)]):=by kernel_rfl
theorem e40(O:Orc)(ea0_0 ea1:Bool)(a0_0 a1:JL)(a0_1 a0_2:Int):stepO PROG ann O (Key.call 44) [AV.agg [Jl 1 ea0_0 a0_0,I a0_1,I a0_2],Jl 2 ea1 a1] []=
 (G0 (O (.call 90) [AV.agg [Jl 1 ea0_0 a0_0,I a0_1,I a0_2],I (a1.length:Int)] []) fun n n_1=>O kP [Jl 2 ea1 a1,Jr 0,Jr 1,I 0] [Blk.box [I 0,I 0],Blk.box [I n,I n_1]]):=by kernel_rfl
theorem e41(O:Orc)(ea0_0 ea1:Bool)(a0_0 a1:JL)(a0_1 a0_2:Int):stepO PROG ann O (Key.call 45) [AV.agg [Jl 1 ea0_0 a0_0,I a0_1,I a0_2],Jl 2 ea1 a1] []=
 (G34 (O (.call 16) [Jl 1 ea0_0 a0_0,Jl 2 ea1 a1] []) fun x=>G34 (O (.call 36) [I a0_2,I 1] []) fun x_1=>G9 (O (.call 17) [AV.t x,AV.t x_1] []) fun n=>some [Jb (bif bif decide (n < 0) then !a0_1==3 else false then true else bif n==0 then !a0_1==2 else false)]):=by kernel_rfl
theorem Bl(O:Orc)(ea0 ea2:Bool)(a0 a2:JL)(a1 a3:Int):stepO PROG ann O (Key.call 35) [Jl 3 ea0 a0,I a1,Jl 2 ea2 a2,I a3] []=
 (G34 (O (.call 36) [I 0,I 1] []) fun x=>O fb [Jl 3 ea0 a0,I a1,Jl 2 ea2 a2,I a3,AV.t x,I 0] []):=by kernel_rfl
theorem xm(O:Orc)(ev1:Bool)(v1:JL)(v6 c0_0 c0_1 c1_0 c1_1:Int):stepO PROG ann O kP [Jl 2 ev1 v1,Jr 0,Jr 1,I v6] (Y7 c0_0 c0_1 c1_0 c1_1)=
 (bif bif decide (v6 < (v1.length:Int)) then c1_0==0 else false then G16 v6 v1 fun n n_1=>G3 (O (.call 34) [AV.agg [I n,I n_1]] []) fun b=>bif !b then G0 (O (.call 21) [I 5,I v6] []) fun n n_2=>O kP [Jl 2 ev1 v1,Jr 0,Jr 1,I (Jw v6)] (Y7 c0_0 c0_1 n n_2) else O kP [Jl 2 ev1 v1,Jr 0,Jr 1,I (Jw v6)] (Y7 c0_0 c0_1 c1_0 c1_1) else some [Ji c1_0,Ji c1_1]):=by kernel_rfl
theorem vo(O:Orc)(ev0 ev2:Bool)(v0 v2:JL)(v1 v3 v10:Int)(v9:T):stepO PROG ann O fb [Jl 3 ev0 v0,I v1,Jl 2 ev2 v2,I v3,AV.t v9,I v10] []=
 (bif decide (v10 < (v0.length:Int)) then G66 v10 v0 fun n=>bif decide (v3 < v1) then G67 v10 v0 fun p=>bif decide (v3 < (p.snd.length:Int)) then G67 v10 v0 fun p=>Jg (if 0<=v3/\v3 < (p.snd.length:Int) then some () else none) fun x=>G9 p.snd[v3.toNat]? fun n=>G16 v10 v2 fun n_1 n_2=>G34 (O (.call 18) [AV.agg [I n_1,I n_2]] []) fun x=>G34 (O (.call 36) [I n,I 1] []) fun x_2=>G36 (O (.call 46) [Jr 0,AV.t x,AV.t x_2] (Y5)) fun b p b_1 p_1=>G36 (O (.call 47) [Jr 0,AV.t v9,AV.t (T.ptr [Jb b,T.lst 1 p.fst p.snd,Jb b_1,T.lst 1 p_1.fst p_1.snd])] (Y5)) fun b p b_2 p_2=>O (ak PROG 35 true 3 [(0,none),(1,none),(2,none),(3,none),(9,none),(10,none)] (0,0)) [Jl 3 ev0 v0,I v1,Jl 2 ev2 v2,I v3,Jr 0,I (Jw v10)] (Y13 b p.fst p.snd b_2 p_2.fst p_2.snd) else G16 v10 v2 fun n n_1=>G34 (O (.call 18) [AV.agg [I n,I n_1]] []) fun x=>G34 (O (.call 36) [I 0,I 1] []) fun x_2=>G36 (O (.call 46) [Jr 0,AV.t x,AV.t x_2] (Y5)) fun b p b_1 p_1=>G36 (O (.call 47) [Jr 0,AV.t v9,AV.t (T.ptr [Jb b,T.lst 1 p.fst p.snd,Jb b_1,T.lst 1 p_1.fst p_1.snd])] (Y5)) fun b p b_2 p_2=>O fb [Jl 3 ev0 v0,I v1,Jl 2 ev2 v2,I v3,Jr 0,I (Jw v10)] (Y13 b p.fst p.snd b_2 p_2.fst p_2.snd) else G16 v10 v2 fun n_1 n_2=>G34 (O (.call 18) [AV.agg [I n_1,I n_2]] []) fun x=>G34 (O (.call 36) [I n,I 1] []) fun x_2=>G36 (O (.call 46) [Jr 0,AV.t x,AV.t x_2] (Y5)) fun b p b_1 p_1=>G36 (O (.call 47) [Jr 0,AV.t v9,AV.t (T.ptr [Jb b,T.lst 1 p.fst p.snd,Jb b_1,T.lst 1 p_1.fst p_1.snd])] (Y5)) fun b p b_2 p_2=>O fb [Jl 3 ev0 v0,I v1,Jl 2 ev2 v2,I v3,Jr 0,I (Jw v10)] (Y13 b p.fst p.snd b_2 p_2.fst p_2.snd) else some [v9]):=by kernel_rfl
theorem wL(O:Orc)(ev0 ev2 c0_0 ec0_1 c0_2 ec0_3:Bool)(v0 v2 c0_1 c0_3:JL)(v1 v3 v10:Int):stepO PROG ann O fb [Jl 3 ev0 v0,I v1,Jl 2 ev2 v2,I v3,Jr 0,I v10] (Y13 c0_0 ec0_1 c0_1 c0_2 ec0_3 c0_3)=
 (bif decide (v10 < (v0.length:Int)) then G66 v10 v0 fun n=>bif decide (v3 < v1) then G67 v10 v0 fun p=>bif decide (v3 < (p.snd.length:Int)) then G67 v10 v0 fun p=>Jg (if 0<=v3/\v3 < (p.snd.length:Int) then some () else none) fun x=>G9 p.snd[v3.toNat]? fun n=>G16 v10 v2 fun n_1 n_2=>G34 (O (.call 18) [AV.agg [I n_1,I n_2]] []) fun x=>G34 (O (.call 36) [I n,I 1] []) fun x_2=>G36 (O (.call 46) [Jr 0,AV.t x,AV.t x_2] (Y5)) fun b p b_1 p_1=>G36 (O (.call 47) [Jr 0,AV.t (T.ptr [Jb c0_0,T.lst 1 ec0_1 c0_1,Jb c0_2,T.lst 1 ec0_3 c0_3]),AV.t (T.ptr [Jb b,T.lst 1 p.fst p.snd,Jb b_1,T.lst 1 p_1.fst p_1.snd])] (Y5)) fun b p b_2 p_2=>O (ak PROG 35 true 3 [(0,none),(1,none),(2,none),(3,none),(9,none),(10,none)] (0,0)) [Jl 3 ev0 v0,I v1,Jl 2 ev2 v2,I v3,Jr 0,I (Jw v10)] (Y13 b p.fst p.snd b_2 p_2.fst p_2.snd) else G16 v10 v2 fun n n_1=>G34 (O (.call 18) [AV.agg [I n,I n_1]] []) fun x=>G34 (O (.call 36) [I 0,I 1] []) fun x_2=>G36 (O (.call 46) [Jr 0,AV.t x,AV.t x_2] (Y5)) fun b p b_1 p_1=>G36 (O (.call 47) [Jr 0,AV.t (T.ptr [Jb c0_0,T.lst 1 ec0_1 c0_1,Jb c0_2,T.lst 1 ec0_3 c0_3]),AV.t (T.ptr [Jb b,T.lst 1 p.fst p.snd,Jb b_1,T.lst 1 p_1.fst p_1.snd])] (Y5)) fun b p b_2 p_2=>O fb [Jl 3 ev0 v0,I v1,Jl 2 ev2 v2,I v3,Jr 0,I (Jw v10)] (Y13 b p.fst p.snd b_2 p_2.fst p_2.snd) else G16 v10 v2 fun n_1 n_2=>G34 (O (.call 18) [AV.agg [I n_1,I n_2]] []) fun x=>G34 (O (.call 36) [I n,I 1] []) fun x_2=>G36 (O (.call 46) [Jr 0,AV.t x,AV.t x_2] (Y5)) fun b p b_1 p_1=>G36 (O (.call 47) [Jr 0,AV.t (T.ptr [Jb c0_0,T.lst 1 ec0_1 c0_1,Jb c0_2,T.lst 1 ec0_3 c0_3]),AV.t (T.ptr [Jb b,T.lst 1 p.fst p.snd,Jb b_1,T.lst 1 p_1.fst p_1.snd])] (Y5)) fun b p b_2 p_2=>O fb [Jl 3 ev0 v0,I v1,Jl 2 ev2 v2,I v3,Jr 0,I (Jw v10)] (Y13 b p.fst p.snd b_2 p_2.fst p_2.snd) else some [T.ptr [Jb c0_0,T.lst 1 ec0_1 c0_1,Jb c0_2,T.lst 1 ec0_3 c0_3]]):=by kernel_rfl
theorem DD(O:Orc)(er eg ep:Bool)(r g p:JL):stepO PROG ann O (Key.call 12) [Jl 3 er r,Jl 1 eg g,Jl 2 ep p] []=
 (O nZ [Jl 3 er r,Jl 1 eg g,Jl 2 ep p,I 0] []):=by kernel_rfl
theorem kg(O:Orc)(ev0 ev1 ev2:Bool)(v0 v1 v2:JL)(v7:Int):stepO PROG ann O nZ [Jl 3 ev0 v0,Jl 1 ev1 v1,Jl 2 ev2 v2,I v7] []=
 (bif decide (v7 < (v0.length:Int)) then G67 v7 v0 fun p=>G34 (O (.call 16) [Jl 1 p.fst p.snd,Jl 2 ev2 v2] []) fun x=>G9 (O (.call 37) [AV.t x] []) fun n=>G68 (some (bif !decide (n > 0) then decide (n < 0) else false)) v7 v0 fun n_1=>bif bif decide (n > 0) then true else bif decide (n < 0) then n_1==3 else false then some [Jb false] else O nZ [Jl 3 ev0 v0,Jl 1 ev1 v1,Jl 2 ev2 v2,I (Jw v7)] [] else G34 (O (.call 16) [Jl 1 ev1 v1,Jl 2 ev2 v2] []) fun x=>G9 (O (.call 37) [AV.t x] []) fun n=>some [Jb (decide (n > 0))]):=by kernel_rfl
theorem eq3(O:Orc)(er eg ep et:Bool)(r g p t:JL)(n vn vd:Int):stepO PROG ann O (Key.call 3) [Jl 3 er r,I n,Jl 1 eg g,AV.agg [I vn,I vd],Jl 2 ep p,Jl 2 et t] []=
 (G3 (O (.call 7) [] []) fun b=>bif !b then some [Jb false] else G25 (O (.call 8) [Jl 3 er r,I n,Jl 1 eg g,AV.agg [I vn,I vd],Jl 2 ep p,Jl 2 et t] []) fun b n_1 n_2=>G25 (O (.call 9) [Jl 3 er r,I n,Jl 1 eg g,Jl 2 ep p] []) fun b_1 n_3 n_4=>G0 (O (.call 10) [Jl 3 er r,I n,Jl 1 eg g,AV.agg [I vn,I vd],Jl 2 ep p,Jl 2 et t] []) fun n_5 n_6=>O oQ [Jl 3 er r,I n,Jl 1 eg g,Jl 2 ep p,Jl 2 et t,Jr 0,B b,Jr 1,B b_1,Jr 2,Jr 3,Jo 4,I 0] [Blk.box [I vn,I vd],Blk.box [I n_1,I n_2],Blk.box [I n_3,I n_4],Blk.box [I n_5,I n_6],Blk.sl false 2 true []]):=by kernel_rfl
theorem xK(O:Orc)(ev0 ev2 ev4 ev5 v14 v16 ec4:Bool)(v0 v2 v4 v5 c4:JL)(v1 v20 c0_0 c0_1 c1_0 c1_1 c2_0 c2_1 c3_0 c3_1:Int):stepO PROG ann O oQ [Jl 3 ev0 v0,I v1,Jl 1 ev2 v2,Jl 2 ev4 v4,Jl 2 ev5 v5,Jr 0,B v14,Jr 1,B v16,Jr 2,Jr 3,Jo 4,I v20] [Blk.box [I c0_0,I c0_1],Blk.box [I c1_0,I c1_1],Blk.box [I c2_0,I c2_1],Blk.box [I c3_0,I c3_1],Blk.sl false 2 ec4 c4]=
 (bif decide (v20 < (v0.length:Int)) then Jg (aA 16 (c4.length+1)) fun x=>O oQ [Jl 3 ev0 v0,I v1,Jl 1 ev2 v2,Jl 2 ev4 v4,Jl 2 ev5 v5,Jr 0,B v14,Jr 1,B v16,Jr 2,Jr 3,Jo 4,I (Jw v20)] [Blk.box [I c0_0,I c0_1],Blk.box [I c1_0,I c1_1],Blk.box [I c2_0,I c2_1],Blk.box [I c3_0,I c3_1],Blk.sl false 2 (ec4 && false) (c4++ [[Ji 0,Ji 1]])] else G0 (O (.call 10) [Jl 3 ev0 v0,I v1,Jl 1 ev2 v2,AV.agg [I 0,I 1],Jl 2 ev4 v4,Jl 2 ec4 c4] []) fun n n_1=>bif bif !(c1_0==c3_0 && (c1_1==c3_1 && true)) then true else !(c2_0==n && (c2_1==n_1 && true)) then some [Jb false] else bif bif bif !c3_0==0 then v14 else false then true else bif !n==0 then v16 else false then some [Jb false] else G5 (some !!c3_0==0) (bq (some !!c3_0==0) (O (.call 11) [Jl 3 ev0 v0,I v1,Jl 1 ev2 v2,AV.agg [I c0_0,I c0_1],Jl 2 ev4 v4,Jl 2 ev5 v5] [])) fun b=>G5 (some (bif bif !c3_0==0 then true else v14==b then !!n==0 else false)) (bq (some (bif bif !c3_0==0 then true else v14==b then !!n==0 else false)) (O (.call 12) [Jl 3 ev0 v0,Jl 1 ev2 v2,Jl 2 ev4 v4] [])) fun b_1=>some [Jb (bif bif !c3_0==0 then true else v14==b then bif !n==0 then true else v16==b_1 else false)]):=by kernel_rfl
end Go.Aev.Wd.Lg
namespace Go.Aev.Gen
open Go Go.Aev
structure OkR (n:Nat) (r:R):Prop where
 e:r.e=true->r.of= []
 kd:r.kd=1\/r.kd=2\/r.kd=3
 len:r.of.length<=n
 of:Bd 1000000 r.of
 tv: -1000000<=r.tv/\r.tv<=1000000
theorem xq:∀{l:List Int} {i:Nat},(cI l i).1=0->∀x∈l, -1000000<=x/\x<=1000000
 | [],_,_,x,hx=>by cases hx
 | y::l,i,h,x,hx=>by
  rw [cI] at h
  split at h
  ·rename_i hy
   rcases List.mem_cons.1 hx with rfl | hx
   ·exact hy
   ·exact xq h x hx
  ·simp at h
theorem Dl{n:Nat}{r:R}(he:r.e=true->r.of= [])(h:(cG n r).1=0):OkR n r:=by
 unfold cG at h
 split at h
 ·simp at h
 ·rename_i hk
  split at h
  ·simp at h
  ·have:=xq h
   exact⟨he,by omega,by omega,fun x hx=>this x (List.mem_append_left _ hx),this r.tv (by simp)⟩
theorem uk{n:Nat}:∀{rows:List R} {i:Nat},(∀r∈rows,r.e=true->r.of= [])->(c9 n rows i).1=0->∀r∈rows,OkR n r
 | [],_,_,_,r,hr=>by cases hr
 | q::rows,i,he,h,r,hr=>by
  rw [c9] at h
  split at h
  ·rename_i hq
   rcases List.mem_cons.1 hr with rfl | hr
   ·exact Dl (he _ List.mem_cons_self) hq
   ·exact uk (fun r hr=>he r (List.mem_cons_of_mem _ hr)) h r hr
  ·rename_i hq;exact absurd h hq
def bM(n:Int)(rows:List R):Int×Int:=if n < 0\/n > 12 then(3, -1) else fA n.toNat rows
theorem Bw(rows:List R)(e:Bool)(n:Int)(hr:∀r∈rows,r.e=true->r.of= []):Or (.call 52) [LR e rows,I n] []=fl (bM n rows):=by
 unfold bM
 by_cases h:n < 0\/n > 12
 ·rw [if_pos h]
  refine aa ?_
  rw [e25]
  simp only [cor,<-Bool.decide_or]
  simp only [STL,↓reduceIte,Int.reduceBEq,Int.reduceEq,GD,h]
 ·rw [if_neg h]
  have:=y5 rows n.toNat e (by omega) hr
  rw [Int.toNat_of_nonneg (by omega)] at this
  exact this
theorem s7n(rows:List R)(e:Bool)(n:Int):Or (.call 49) [LR e rows,I n] []=fl (bM n rows):=by
 unfold bM
 by_cases h:n < 0\/n > 12
 ·rw [if_pos h]
  refine aa ?_
  rw [e7]
  simp only [cor,<-Bool.decide_or]
  simp only [STL,↓reduceIte,Int.reduceBEq,Int.reduceEq,GD,h,s8]
 ·rw [if_neg h]
  have:=s7x rows n.toNat e (by omega)
  rw [Int.toNat_of_nonneg (by omega)] at this
  exact this
theorem xR{n:Int}{rows:List R}(hr:∀r∈rows,r.e=true->r.of= [])(h:(bM n rows).1=0): 0<=n/\n<=12/\rows.length<=40/\∀r∈rows,OkR n.toNat r:=by
 unfold bM at h
 split at h
 ·simp at h
 ·unfold fA at h
  split at h
  ·simp at h
  ·exact⟨by omega,by omega,by omega,uk hr h⟩
end Go.Aev.Gen
namespace Go.Aev.Wd.Lg
open Go Go.Aev Go.Aev.Gen Go.Aev.Wd
abbrev toC(r:R):List Int×Int×Int:=(r.of,r.kd,r.tv)
theorem ir(c:Int):Rat.divInt c 1= (c:Rat):=Rat.num_divInt_den (c:Rat)
theorem s9f(x:Fr):Or (.call 34) [AV.agg [I x.1,I x.2]] []=some [tb (decide (FrR x))]:=by
 obtain⟨b,h1,h2⟩:=g40 x.1 x.2
 rw [h1]
 have:b=decide (FrR x):=by
  rw [Bool.eq_iff_iff,h2,decide_eq_true_iff];rfl
 rw [this]
theorem D0(e:Bool)(l:List Fr)(hl:l.length<=100)(hx:∀x∈l,FrR x):∀(rest:List Fr) (i:Nat),l.drop i=rest->Or kP [LN e l,r0,AV.ref (Id.c 1) 0,I (i:Int)] [Blk.box [I 0,I 0],Blk.box [I 0,I 0]]=some [ti 0,ti 0]:=by
 intro rest
 induction rest with
 | nil=>
  intro i h
  have h1:¬(i:Int) < (l.length:Int):=by have:=ax h;omega
  refine aa ?_
  rw [xm]
  simp only [STL,↓reduceIte,Int.reduceBEq,Int.reduceEq,GD,h1,aG,decide_false]
 | cons x rest ih=>
  intro i h
  obtain⟨g1,g2,g3⟩:=ar h
  have h1:(i:Int) < (l.length:Int):=by omega
  have h0: 0<=(i:Int):=by omega
  have k1:=s9f x
  rw [decide_eq_true (hx x (List.mem_of_getElem? g1))] at k1
  refine aa ?_
  rw [xm]
  simp only [STL,↓reduceIte,Int.reduceBEq,Int.reduceEq,GD,h1,h0,and_self,aG,bE g1,k1,decide_true,next i (by omega)]
  exact ih (i+1) g3
theorem AU(r:R)(e:Bool)(l:List Fr)(hn:l.length<=12)(ok:OkR l.length r)(hx:∀x∈l,FrR x):Or (.call 44) [AV.agg [lst r.e r.of,I r.kd,I r.tv],LN e l] []=some [ti 0,ti 0]:=by
 have k1:=yA r l.length hn
 have hc:cG l.length r= (0,0):=by
  have h1:=ok.kd
  have h2:=ok.len
  unfold cG
  rw [if_neg (by omega),if_neg (by omega)]
  have:∀(m:List Int) (i:Nat),(∀x∈m, -1000000<=x/\x<=1000000)->cI m i= (0,0):=by
   intro m
   induction m with
   | nil=>intro i _;rfl
   | cons y m ih=>
    intro i h
    rw [cI,if_pos (h y List.mem_cons_self)]
    exact ih _ fun x hx=>h x (List.mem_cons_of_mem _ hx)
  refine this _ 0 fun x hx=> ?_
  rcases List.mem_append.1 hx with hx | hx
  ·exact ok.of x hx
  ·rw [List.mem_singleton.1 hx];exact ok.tv
 rw [hc] at k1
 refine aa ?_
 rw [e40]
 simp only [STL,↓reduceIte,Int.reduceBEq,Int.reduceEq,GD,aG,k1]
 exact D0 e l (by omega) hx l 0 rfl
def gv(r:List Int×Int×Int)(l:List Fr):Bool:=decide ((bA r.1 l 0 < (r.2.2:Rat)/\r.2.1≠3)\/(bA r.1 l 0= (r.2.2:Rat)/\r.2.1≠2))
theorem Cn(r:R)(e:Bool)(l:List Fr)(hn:l.length<=12)(ok:OkR l.length r)(hx:∀x∈l,FrR x):Or (.call 45) [AV.agg [lst r.e r.of,I r.kd,I r.tv],LN e l] []=some [tb (gv (toC r) l)]:=by
 have hlen:=ok.len
 obtain⟨y,y1,y2,y3⟩:=s41 r.e e r.of l ok.of (fun x h=>(hx x h).b) ok.len (by omega)
 have htv:=ok.tv
 obtain⟨b,b1,b2⟩:=g43 r.tv 1 (by unfold Sm;omega) (by unfold Sm;omega) (by omega)
 have hq:Rat.divInt r.tv 1= (r.tv:Rat):=ir _
 have k1:=kB (m:=51 * r.of.length) (k:=20) y2 b2 y3 (QB.divInt (by omega) (by omega) (by omega)) (by omega)
 have hlt:=CX (bA r.of l 0) (Rat.divInt r.tv 1)
 have heq:=gu (bA r.of l 0) (Rat.divInt r.tv 1)
 rw [hq] at hlt heq
 refine aa ?_
 rw [e41]
 simp only [STL,↓reduceIte,Int.reduceBEq,Int.reduceEq,GD,y1,b1,k1,hq]
 unfold gv
 congr 2
 congr 1
 simp only [hlt,heq]
 by_cases hA:bA r.of l 0 < (r.tv:Rat) <;> by_cases hB:bA r.of l 0= (r.tv:Rat) <;> simp [hA,hB,toC,c8]
theorem Au(er:Bool)(rs:List R)(e:Bool)(l:List Fr)(hn:l.length<=12)(ok:∀r∈rs,OkR l.length r)(hx:∀x∈l,FrR x)(hl:rs.length<=40):∀(rest:List R) (i:Nat),rs.drop i=rest->Or oA [LR er rs,LN e l,I (i:Int)] []=some [tb (rest.all fun r=>gv (toC r) l)]:=by
 intro rest
 induction rest with
 | nil=>
  intro i h
  have h1:¬(i:Int) < (rs.length:Int):=by have:=ax h;omega
  refine aa ?_
  rw [tw]
  simp only [STL,↓reduceIte,Int.reduceBEq,Int.reduceEq,GD,h1,au]
  rfl
 | cons r rest ih=>
  intro i h
  obtain⟨g1,g2,g3⟩:=ar h
  have h1:(i:Int) < (rs.length:Int):=by omega
  have h0: 0<=(i:Int):=by omega
  have k0:=AU r e l hn (ok r (List.mem_of_getElem? g1)) hx
  have k1:=Cn r e l hn (ok r (List.mem_of_getElem? g1)) hx
  refine aa ?_
  rw [tw]
  cases hb:gv (toC r) l with
  | false=>
   rw [hb] at k1
   simp only [STL,↓reduceIte,Int.reduceBEq,Int.reduceEq,GD,h1,h0,and_self,au,aW g1,k0,k1]
   simp [hb]
  | true=>
   rw [hb] at k1
   simp only [STL,↓reduceIte,Int.reduceBEq,Int.reduceEq,GD,h1,h0,and_self,au,aW g1,k0,k1,next i (by omega),ih (i+1) g3]
   simp [hb]
theorem zd(er:Bool)(rs:List R)(e:Bool)(l:List Fr)(hn:l.length<=12)(ok:∀r∈rs,OkR l.length r)(hx:∀x∈l,FrR x)(hl:rs.length<=40):Or (.call 15) [LR er rs,LN e l] []=some [tb (rs.all fun r=>gv (toC r) l)]:=by
 refine aa ?_
 rw [e14]
 exact Au er rs e l hn ok hx hl rs 0 rfl
open Go Go.Aev Go.Aev.Gen Go.Aev.Wd Go.Aev.Tb
def kdX:List R->Nat->Int×Int
 | [],_=>(0,0)
 | r::rs,i=>if r.kd=2 then(4,(i:Int)) else kdX rs (i+1)
def glX:List Int->Nat->Int×Int
 | [],_=>(0,0)
 | x::xs,i=>if -1000000<=x/\x<=1000000 then glX xs (i+1) else(5,(i:Int))
def bI(n:Int)(rows:List R)(gl:List Int):Int×Int:=
 if(bM n rows).1≠0 then bM n rows else if(kdX rows 0).1≠0 then kdX rows 0 else if(gl.length:Int) > n then(9,0) else glX gl 0
theorem xV:∀{rows:List R} {i:Nat},(kdX rows i).1=0->∀r∈rows,r.kd≠2
 | [],_,_,r,hr=>by cases hr
 | q::rows,i,h,r,hr=>by
  rw [kdX] at h
  split at h
  ·simp at h
  ·rename_i hq
   rcases List.mem_cons.1 hr with rfl | hr
   ·exact hq
   ·exact xV h r hr
theorem uc:∀{gl:List Int} {i:Nat},(glX gl i).1=0->∀c∈gl, -1000000<=c/\c<=1000000
 | [],_,_,r,hr=>by cases hr
 | q::rows,i,h,r,hr=>by
  rw [glX] at h
  split at h
  ·rename_i hq
   rcases List.mem_cons.1 hr with rfl | hr
   ·exact hq
   ·exact uc h r hr
  ·simp at h
theorem mq:∀(gl:List Int) (i:Nat),(glX gl i).1=0->glX gl i= (0,0)
 | [],_,_=>rfl
 | q::rows,i,h=>by
  rw [glX] at h⊢
  split
  ·rename_i hq;rw [if_pos hq] at h;exact mq rows _ h
  ·rename_i hq;rw [if_neg hq] at h;simp at h
theorem Ef(er:Bool)(rows:List R)(hl:rows.length<=1000):∀(rest:List R) (i:Nat),rows.drop i=rest->
  Or f9 [LR er rows,AV.fn 54 [] [],I (rows.length:Int),I (i:Int)] []=some [ti (if(kdX rest i).1=0 then -1 else(kdX rest i).2)]:=by
 intro rest
 induction rest with
 | nil=>
  intro i h
  have h1:¬(i:Int) < (rows.length:Int):=by have:=ax h;omega
  refine aa ?_
  rw [rz]
  simp only [STL,↓reduceIte,Int.reduceBEq,Int.reduceEq,GD,h1,kdX]
 | cons r rest ih=>
  intro i h
  obtain⟨g1,g2,g3⟩:=ar h
  have h1:(i:Int) < (rows.length:Int):=by omega
  have h0: 0<=(i:Int):=by omega
  have k1:Or (.call 54) [AV.agg [lst r.e r.of,I r.kd,I r.tv]] []=some [tb (r.kd==2)]:=aa (by rw [Ca])
  have:=ih (i+1) g3
  by_cases hk:r.kd=2
  ·have hkx:kdX (r::rest) i= (4,(i:Int)):=by rw [kdX,if_pos hk]
   have h40:¬(4:Int)=0:=by decide
   have hkb:(r.kd==2)=true:=by simpa using hk
   rw [hkx]
   rw [hkb] at k1
   refine aa ?_
   rw [rz]
   simp only [STL,↓reduceIte,Int.reduceBEq,Int.reduceEq,GD,h1,h0,and_self,au,aW g1,k1,h40]
  ·have hkx:kdX (r::rest) i=kdX rest (i+1):=by rw [kdX,if_neg hk]
   have hkb:(r.kd==2)=false:=by simpa using hk
   rw [hkx]
   refine aa ?_
   rw [rz]
   simp only [STL,↓reduceIte,Int.reduceBEq,Int.reduceEq,GD,h1,h0,and_self,au,aW g1,k1,hkb,hk,next i (by omega)]
   exact this
theorem D3(el:Bool)(gl:List Int)(hl:gl.length<=1000):∀(rest:List Int) (i:Nat),gl.drop i=rest->
  Or mc [lst el gl,AV.fn 56 [] [],I (gl.length:Int),I (i:Int)] []=some [ti (if(glX rest i).1=0 then -1 else(glX rest i).2)]:=by
 intro rest
 induction rest with
 | nil=>
  intro i h
  have h1:¬(i:Int) < (gl.length:Int):=by have:=ax h;omega
  refine aa ?_
  rw [qp]
  simp only [STL,↓reduceIte,Int.reduceBEq,Int.reduceEq,GD,h1,glX]
 | cons r rest ih=>
  intro i h
  obtain⟨g1,g2,g3⟩:=ar h
  have h1:(i:Int) < (gl.length:Int):=by omega
  have h0: 0<=(i:Int):=by omega
  have:=ih (i+1) g3
  by_cases hk: -1000000<=r/\r<=1000000
  ·have k1:Or (.call 56) [I r] []=some [tb false]:=aa (by
    rw [t9]
    have a:¬r < -1000000:=by omega
    have b:¬r > 1000000:=by omega
    simp only [lI,a,b,if_false,decide_false,cf1])
   have hkx:glX (r::rest) i=glX rest (i+1):=by rw [glX,if_pos hk]
   rw [hkx]
   refine aa ?_
   rw [qp]
   simp only [STL,↓reduceIte,Int.reduceBEq,Int.reduceEq,GD,h1,h0,and_self,aE,b9 g1,k1,next i (by omega)]
   exact this
  ·have k1:Or (.call 56) [I r] []=some [tb true]:=aa (by
    rw [t9]
    by_cases a:r < -1000000
    ·simp only [lI,a,if_true,decide_true,ct1]
    ·have b:r > 1000000:=by omega
     simp only [lI,a,b,if_false,decide_true,decide_false,cf1])
   have hkx:glX (r::rest) i= (5,(i:Int)):=by rw [glX,if_neg hk]
   have h40:¬(5:Int)=0:=by decide
   rw [hkx]
   refine aa ?_
   rw [qp]
   simp only [STL,↓reduceIte,Int.reduceBEq,Int.reduceEq,GD,h1,h0,and_self,aE,b9 g1,k1,h40]
theorem D6(rows:List R):∀(i:Nat),(kdX rows i).1=0\/((kdX rows i).1=4/\(i:Int)<=(kdX rows i).2):=by
 induction rows with
 | nil=>intro i;exact .inl rfl
 | cons r rows ih=>
  intro i
  rw [kdX]
  split
  ·exact .inr ⟨rfl,Int.le_refl _⟩
  ·rcases ih (i+1) with h | ⟨h,h2⟩
   ·exact .inl h
   ·exact .inr ⟨h,by omega⟩
theorem zf(gl:List Int):∀(i:Nat),(glX gl i).1=0\/((glX gl i).1=5/\(i:Int)<=(glX gl i).2):=by
 induction gl with
 | nil=>intro i;exact .inl rfl
 | cons r rows ih=>
  intro i
  rw [glX]
  split
  ·rcases ih (i+1) with h | ⟨h,h2⟩
   ·exact .inl h
   ·exact .inr ⟨h,by omega⟩
  ·exact .inr ⟨rfl,Int.le_refl _⟩
theorem BX{n:Int}{rows:List R}(h:(bM n rows).1=0):bM n rows= (0,0):=by
 unfold bM at h⊢
 split
 ·rename_i h';rw [if_pos h'] at h;simp at h
 ·rename_i h'
  rw [if_neg h'] at h
  unfold fA at h⊢
  split
  ·rename_i h2;rw [if_pos h2] at h;simp at h
  ·rename_i h2
   rw [if_neg h2] at h
   have gen:∀(l:List R) (i:Nat),(c9 n.toNat l i).1=0->c9 n.toNat l i= (0,0):=by
    intro l
    induction l with
    | nil=>intro i _;rfl
    | cons r l ih=>
     intro i h
     rw [c9] at h⊢
     split
     ·rename_i hq;rw [if_pos hq] at h;exact ih _ h
     ·rename_i hq;rw [if_neg hq] at h;exact absurd h hq
   exact gen _ _ h
theorem u24(rows:List R)(er el:Bool)(n:Int)(gl:List Int)(hr:∀r∈rows,r.e=true->r.of= []):Or (.call 24) [LR er rows,I n,lst el gl] []=fl (bI n rows gl):=by
 have k1:=Bw rows er n hr
 unfold bI
 by_cases h1:(bM n rows).1=0
 ·have hc:=xR hr h1
  rw [if_neg (by omega)]
  have k2:Or (.call 53) [LR er rows,AV.fn 54 [] []] []=_:=aa (by rw [Af,au];exact Ef er rows (by omega) rows 0 rfl)
  rcases D6 rows 0 with h2 | ⟨h2,h3⟩
  ·rw [if_pos h2] at k2
   have hm1:¬(-1:Int)>=0:=by decide
   by_cases h4:(gl.length:Int) > n
   ·rw [if_neg (by omega),if_pos h4]
    refine aa ?_
    rw [kL]
    simp only [STL,↓reduceIte,Int.reduceBEq,Int.reduceEq,GD,k1,h1,k2,hm1,aE,h4]
   ·have k3:Or (.call 55) [lst el gl,AV.fn 56 [] []] []=_:=aa (by rw [A6,aE];exact D3 el gl (by omega) gl 0 rfl)
    rw [if_neg (by omega),if_neg h4]
    rcases zf gl 0 with h5 | ⟨h5,h6⟩
    ·rw [if_pos h5] at k3
     rw [mq _ _ h5]
     refine aa ?_
     rw [kL]
     simp only [STL,↓reduceIte,Int.reduceBEq,Int.reduceEq,GD,k1,h1,k2,hm1,aE,h4,k3]
    ·rw [if_neg (by omega)] at k3
     have h6':(glX gl 0).2>=0:=by omega
     have hp:glX gl 0= (5,(glX gl 0).2):=Prod.ext h5 rfl
     refine aa ?_
     rw [kL,hp]
     simp only [STL,↓reduceIte,Int.reduceBEq,Int.reduceEq,GD,k1,h1,k2,hm1,aE,h4,k3,h6']
  ·rw [if_neg (by omega)] at k2
   have h3':(kdX rows 0).2>=0:=by omega
   have hp:kdX rows 0= (4,(kdX rows 0).2):=Prod.ext h2 rfl
   rw [if_pos (by omega)]
   refine aa ?_
   rw [kL,hp]
   simp only [STL,↓reduceIte,Int.reduceBEq,Int.reduceEq,GD,k1,h1,k2,h3']
 ·rw [if_pos h1]
  refine aa ?_
  rw [kL]
  simp only [STL,↓reduceIte,Int.reduceBEq,Int.reduceEq,GD,k1,h1]
theorem mV{n:Int}{rows:List R}{gl:List Int}(hr:∀r∈rows,r.e=true->r.of= [])(h:(bI n rows gl).1=0):
  bI n rows gl= (0,0)/\0<=n/\n<=12/\rows.length<=40/\(∀r∈rows,OkR n.toNat r)/\(∀r∈rows,r.kd≠2)/\(gl.length:Int)<=n/\∀c∈gl, -1000000<=c/\c<=1000000:=by
 unfold bI at h⊢
 by_cases h1:(bM n rows).1=0
 ·rw [if_neg (by omega)] at h⊢
  obtain⟨a1,a2,a3,a4⟩:=xR hr h1
  by_cases h2:(kdX rows 0).1=0
  ·rw [if_neg (by omega)] at h⊢
   by_cases h4:(gl.length:Int) > n
   ·rw [if_pos h4] at h;simp at h
   ·rw [if_neg h4] at h⊢
    exact⟨mq _ _ h,a1,a2,a3,a4,xV h2,by omega,uc h⟩
  ·rw [if_pos h2] at h;exact absurd h h2
 ·rw [if_pos h1] at h;exact absurd h h1
def fN(x:Fr):Nm:=some (frQ x)
theorem p30{x:Fr}(h:FrB x):Or (.call 30) [AV.agg [I x.1,I x.2]] []=some (NL (fN x)):=t30 x.1 x.2 (by unfold FrB at h;omega) (by unfold FrB at h;omega) (by unfold FrB at h;omega)
theorem iE{x:Fr}(h:FrB x):QN 30 (fN x):=jr h.1 h.2
theorem u58(x:Fr):Or (.call 58) [AV.agg [I x.1,I x.2]] []=some [tb (!decide (FrR x))]:=by
 have k:=s16 x
 refine aa ?_
 rw [zZ]
 by_cases h:FrR x
 ·rw [if_pos h] at k
  simp only [STL,↓reduceIte,Int.reduceBEq,Int.reduceEq,GD,k,h,decide_true]
  try rfl
 ·rw [if_neg h] at k
  simp only [STL,↓reduceIte,Int.reduceBEq,Int.reduceEq,GD,k,h,decide_false]
  try rfl
theorem DH(e:Bool)(l:List Fr)(hl:l.length<=1000):∀(rest:List Fr) (i:Nat),l.drop i=rest->∃z:Int,Or mI [LN e l,AV.fn 58 [] [],I (l.length:Int),I (i:Int)] []=some [ti z]/\(decide (z>=0)= !(rest.all fun x=>decide (FrR x))):=by
 intro rest
 induction rest with
 | nil=>
  intro i h
  have h1:¬(i:Int) < (l.length:Int):=by have:=ax h;omega
  refine⟨-1,aa ?_,by simp⟩
  rw [pF]
  simp only [STL,↓reduceIte,Int.reduceBEq,Int.reduceEq,GD,h1]
 | cons x rest ih=>
  intro i h
  obtain⟨g1,g2,g3⟩:=ar h
  have h1:(i:Int) < (l.length:Int):=by omega
  have h0: 0<=(i:Int):=by omega
  have k1:=u58 x
  by_cases hx:FrR x
  ·rw [decide_eq_true hx] at k1
   obtain⟨z,z1,z2⟩:=ih (i+1) g3
   refine⟨z,aa ?_,by rw [z2];simp [hx]⟩
   rw [pF]
   simp only [STL,↓reduceIte,Int.reduceBEq,Int.reduceEq,GD,h1,h0,and_self,aG,bE g1,k1,next i (by omega)]
   exact z1
  ·rw [decide_eq_false hx] at k1
   refine⟨(i:Int),aa ?_,by simp [hx]⟩
   rw [pF]
   simp only [STL,↓reduceIte,Int.reduceBEq,Int.reduceEq,GD,h1,h0,and_self,aG,bE g1,k1]
theorem u25(e:Bool)(l:List Fr)(hl:l.length<=1000):Or (.call 25) [LN e l] []=some [tb (!(l.all fun x=>decide (FrR x)))]:=by
 obtain⟨z,z1,z2⟩:=DH e l hl l 0 rfl
 have k1:Or (.call 97) [LN e l,AV.fn 58 [] []] []=some [ti z]:=aa (by rw [DC,aG];exact z1)
 have k2:Or (.call 57) [LN e l,AV.fn 58 [] []] []=some [tb (decide (z>=0))]:=aa (by rw [Cx];simp only [STL,↓reduceIte,Int.reduceBEq,Int.reduceEq,GD,k1])
 refine aa ?_
 rw [Bb]
 simp only [STL,↓reduceIte,Int.reduceBEq,Int.reduceEq,GD,k2,z2]
theorem zK(e:Bool)(l:List Fr)(hl:l.length<=1000)(hx:∀x∈l,FrB x):∀(rest dn:List Fr) (i:Nat),l.drop i=rest->dn.length=i->dn++rest=l->
  Or mb [AV.own (Id.c 0),LN e l,I (l.length:Int),I (i:Int)] [Blk.sl false 4 (decide (dn= [])) (aM (dn.map fN))]=some [T.lst 4 (decide (l= [])) (aM (l.map fN))]:=by
 intro rest
 induction rest with
 | nil=>
  intro dn i h hd he
  have h1:¬(i:Int) < (l.length:Int):=by have:=ax h;omega
  rw [List.append_nil] at he
  subst he
  refine aa ?_
  rw [r6]
  simp only [STL,↓reduceIte,Int.reduceBEq,Int.reduceEq,GD,h1]
 | cons x rest ih=>
  intro dn i h hd he
  obtain⟨g1,g2,g3⟩:=ar h
  have h1:(i:Int) < (l.length:Int):=by omega
  have h0: 0<=(i:Int):=by omega
  have k1:=p30 (hx x (List.mem_of_getElem? g1))
  have s1:aA 48 ((aM (dn.map fN)).length+ [[tb (decide ((nv (fN x)).num < 0)),T.str (aI (dz (nv (fN x)).num)),tb (nc (fN x)),T.str (nd (fN x))]].length)=some ():=d9 (by rw [fM];simp;omega)
  have:=ih (dn++ [x]) (i+1) g3 (by simp;omega) (by simpa using he)
  have hne:decide (dn++ [x]= [])=false:=by simp
  have hE:aM (dn.map fN)++ [[tb (decide ((nv (fN x)).num < 0)),T.str (aI (dz (nv (fN x)).num)),tb (nc (fN x)),T.str (nd (fN x))]]=aM ((dn++ [x]).map fN):=by
   rw [DY,zO,List.map_append];rfl
  rw [hne] at this
  refine aa ?_
  rw [r6]
  simp only [STL,↓reduceIte,Int.reduceBEq,Int.reduceEq,GD,h1,h0,and_self,aG,bE g1,k1,s1,hE,next i (by omega)]
  exact this
theorem u28(e:Bool)(l:List Fr)(hl:l.length<=1000)(hx:∀x∈l,FrB x):Or (.call 28) [LN e l] []=some [T.lst 4 (decide (l= [])) (aM (l.map fN))]:=by
 have:=zK e l hl hx l [] 0 rfl rfl rfl
 refine aa ?_
 rw [AY,aG]
 exact this
def an:List Int->List Rat->Rat
 | c::of,x::xs=>(c:Rat) * x+an of xs
 | _,_=>0
theorem mD(xs:List Rat):an [] xs=0:=by cases xs <;> rfl
theorem BS(eg e:Bool)(gl:List Int)(pts:List Nm)(hg:∀c∈gl, -1000000<=c/\c<=1000000)(hl:gl.length<=pts.length)(hn:gl.length<=100){m:Nat}(hq:∀x∈pts,QN m x)(z:Nm):
  ∀(rest:List Int) (i:Nat) (acc:Nm) (k:Nat),gl.drop i=rest->QN k acc->k+ (m+21) * rest.length<=6300->
  ∃y,Or mQ [AV.t (T.lst 4 e (aM pts)),r0,AV.ref (Id.c 1) 0,lst eg gl,I (gl.length:Int),I (i:Int)] [bxN z,bxN acc]=some (NL y)/\nv y=nv acc+an rest ((pts.drop i).map nv)/\QN (k+ (m+21) * rest.length) y:=by
 intro rest
 induction rest with
 | nil=>
  intro i acc k h ha hk
  have h1:¬(i:Int) < (gl.length:Int):=by have:=ax h;omega
  refine⟨acc,aa ?_,by rw [mD];grind,ha.mono (by omega)⟩
  rw [wA]
  simp only [STL,↓reduceIte,Int.reduceBEq,Int.reduceEq,GD,h1]
 | cons c rest ih=>
  intro i acc k h ha hk
  obtain⟨g1,g2,g3⟩:=ar h
  rw [List.length_cons,Nat.mul_add,Nat.mul_one] at hk
  have h1:(i:Int) < (gl.length:Int):=by omega
  have h0: 0<=(i:Int):=by omega
  have h2:(i:Int) < (pts.length:Int):=by omega
  have hcb:=hg c (List.mem_of_getElem? g1)
  have k32:=p32 c (by omega)
  have qc:QN 20 (iN c):=fL (by omega)
  have hgx:=l0 (l:=pts) (i:=i) (by omega)
  have qx:=hq _ (List.mem_of_getElem? hgx)
  have k64:=p64 qc qx (by omega)
  have k63:=p63 (x:=acc) (y:=tm (iN c) (nAt pts i)) ha (qc.mul qx) (by omega)
  obtain⟨y,y1,y2,y3⟩:=ih (i+1) (pl acc (tm (iN c) (nAt pts i))) (k+ (m+21)) g3 ((ha.add (qc.mul qx)).mono (by omega)) (by omega)
  have hd:(pts.drop i).map nv=nv (nAt pts i):: (pts.drop (i+1)).map nv:=by
   have:pts.drop i=nAt pts i::pts.drop (i+1):=by
    rw [List.drop_eq_getElem_cons (by omega)]
    congr 1
    rw [List.getElem?_eq_getElem (by omega)] at hgx
    exact Option.some.inj hgx
   rw [this];rfl
  refine⟨y,aa ?_, ?_,by rw [List.length_cons,Nat.mul_add,Nat.mul_one];exact y3.mono (by omega)⟩
  ·rw [wA]
   simp only [STL,↓reduceIte,Int.reduceBEq,Int.reduceEq,GD,h1,h0,h2,and_self,aE,b9 g1,k32,fM,fY hgx,k64,k63,next i (by omega)]
   exact y1
  ·rw [y2,hd,an]
   show nv acc+ (c:Rat) * nv (nAt pts i)+ _=_
   grind
theorem u27(eg e:Bool)(gl:List Int)(pts:List Nm)(hg:∀c∈gl, -1000000<=c/\c<=1000000)(hl:gl.length<=pts.length)(hn:gl.length<=12){m:Nat}(hq:∀x∈pts,QN m x)(hm:m<=400):
  ∃y,Or (.call 27) [lst eg gl,AV.t (T.lst 4 e (aM pts))] []=some (NL y)/\nv y=an gl (pts.map nv)/\QN 6000 y:=by
 have hb:(m+21) * gl.length<=(m+21) * 12:=Nat.mul_le_mul_left _ hn
 obtain⟨y,y1,y2,y3⟩:=BS eg e gl pts hg hl (by omega) hq none gl 0 none 0 rfl (kr 0) (by omega)
 refine⟨y,aa ?_,by rw [y2,nQ,List.drop_zero];grind,y3.mono (by omega)⟩
 rw [Dh,aE]
 exact y1
theorem zw(er e:Bool)(of:List Int)(l:List Fr)(hb:∀c∈of, -1000000<=c/\c<=1000000)(hx:∀x∈l,FrB x)(hl:of.length<=l.length)(hn:of.length<=12)(z:Nm):
  ∀(rest:List Int) (i:Nat) (acc:Nm) (k:Nat),of.drop i=rest->QN k acc->k+51 * rest.length<=6300->
  ∃y,Or qJ [LN e l,r0,AV.ref (Id.c 1) 0,lst er of,I (of.length:Int),I (i:Int)] [bxN z,bxN acc]=some (NL y)/\nv y=nv acc+an rest ((l.drop i).map frQ)/\QN (k+51 * rest.length) y:=by
 intro rest
 induction rest with
 | nil=>
  intro i acc k h ha hk
  have h1:¬(i:Int) < (of.length:Int):=by have:=ax h;omega
  refine⟨acc,aa ?_,by rw [mD];grind,ha.mono (by omega)⟩
  rw [sT]
  simp only [STL,↓reduceIte,Int.reduceBEq,Int.reduceEq,GD,h1]
 | cons c rest ih=>
  intro i acc k h ha hk
  obtain⟨g1,g2,g3⟩:=ar h
  rw [List.length_cons,Nat.mul_add,Nat.mul_one] at hk
  have h1:(i:Int) < (of.length:Int):=by omega
  have h0: 0<=(i:Int):=by omega
  have h2:(i:Int) < (l.length:Int):=by omega
  have hcb:=hb c (List.mem_of_getElem? g1)
  have k32:=p32 c (by omega)
  have qc:QN 20 (iN c):=fL (by omega)
  obtain⟨x,hxi⟩:∃x,l[i]? =some x:=⟨_,List.getElem?_eq_getElem (by omega)⟩
  have hfx:=hx x (List.mem_of_getElem? hxi)
  have k30:=p30 hfx
  have qx:=iE hfx
  have k64:=p64 qc qx (by omega)
  have k63:=p63 (x:=acc) (y:=tm (iN c) (fN x)) ha (qc.mul qx) (by omega)
  obtain⟨y,y1,y2,y3⟩:=ih (i+1) (pl acc (tm (iN c) (fN x))) (k+51) g3 ((ha.add (qc.mul qx)).mono (by omega)) (by omega)
  have hd:(l.drop i).map frQ=frQ x:: (l.drop (i+1)).map frQ:=by
   have:l.drop i=x::l.drop (i+1):=by
    rw [List.drop_eq_getElem_cons (by omega)]
    congr 1
    rw [List.getElem?_eq_getElem (by omega)] at hxi
    exact Option.some.inj hxi
   rw [this];rfl
  refine⟨y,aa ?_, ?_,by rw [List.length_cons,Nat.mul_add,Nat.mul_one];exact y3.mono (by omega)⟩
  ·rw [sT]
   simp only [STL,↓reduceIte,Int.reduceBEq,Int.reduceEq,GD,h1,h0,h2,and_self,aE,b9 g1,k32,aG,bE hxi,k30,k64,k63,next i (by omega)]
   exact y1
  ·rw [y2,hd,an]
   show nv acc+ (c:Rat) * frQ x+ _=_
   grind
theorem u96(r:R)(n:Nat)(hn:n<=12)(ok:OkR n r):Or (.call 96) [AV.agg [lst r.e r.of,I r.kd,I r.tv],I (n:Int)] []=some [ti 0,ti 0]:=by
 have k1:=tz r n hn ok.e
 have hc:cG n r= (0,0):=by
  have h1:=ok.kd
  have h2:=ok.len
  unfold cG
  rw [if_neg (by omega),if_neg (by omega)]
  have:∀(m:List Int) (i:Nat),(∀x∈m, -1000000<=x/\x<=1000000)->cI m i= (0,0):=by
   intro m
   induction m with
   | nil=>intro i _;rfl
   | cons y m ih=>
    intro i h
    rw [cI,if_pos (h y List.mem_cons_self)]
    exact ih _ fun x hx=>h x (List.mem_cons_of_mem _ hx)
  refine this _ 0 fun x hx=> ?_
  rcases List.mem_append.1 hx with hx | hx
  ·exact ok.of x hx
  ·rw [List.mem_singleton.1 hx];exact ok.tv
 rw [hc] at k1
 exact k1
theorem CS(e:Bool)(l:List Fr)(hl:l.length<=100)(hx:∀x∈l,FrR x):∀(rest:List Fr) (i:Nat),l.drop i=rest->Or nM [r0,LN e l,I (l.length:Int),I (i:Int)] [Blk.box [I 0,I 0]]=some [ti 0,ti 0]:=by
 intro rest
 induction rest with
 | nil=>
  intro i h
  have h1:¬(i:Int) < (l.length:Int):=by have:=ax h;omega
  refine aa ?_
  rw [xe]
  simp only [STL,↓reduceIte,Int.reduceBEq,Int.reduceEq,GD,h1]
 | cons x rest ih=>
  intro i h
  obtain⟨g1,g2,g3⟩:=ar h
  have h1:(i:Int) < (l.length:Int):=by omega
  have h0: 0<=(i:Int):=by omega
  have k1:=s16 x
  rw [if_pos (hx x (List.mem_of_getElem? g1))] at k1
  refine aa ?_
  rw [xe]
  simp only [STL,↓reduceIte,Int.reduceBEq,Int.reduceEq,GD,h1,h0,and_self,aG,bE g1,k1,next i (by omega)]
  exact ih (i+1) g3
def hdB(r:R)(q:Rat):Bool:=if r.kd=1 then decide (q<=(r.tv:Rat)) else if r.kd=2 then decide (q < (r.tv:Rat)) else decide (q= (r.tv:Rat))
theorem u62(r:R)(e:Bool)(l:List Fr)(hn:l.length<=12)(ok:OkR l.length r)(hx:∀x∈l,FrR x):
  Or (.call 62) [AV.agg [lst r.e r.of,I r.kd,I r.tv],LN e l] []=some [tb (hdB r (an r.of (l.map frQ))),ti 0,ti 0]:=by
 have k96:=u96 r l.length hn ok
 have k100n:=CS e l (by omega) hx l 0 rfl
 have k100:Or (.call 100) [AV.agg [lst r.e r.of,I r.kd,I r.tv],LN e l] []=some [ti 0,ti 0]:=by
  refine aa ?_
  rw [BB]
  simp only [STL,↓reduceIte,Int.reduceBEq,Int.reduceEq,GD,aG,k96]
  exact k100n
 have hlen:=ok.len
 have htv:=ok.tv
 obtain⟨y,y1,y2,y3⟩:=zw r.e e r.of l ok.of (fun x h=>(hx x h).b) ok.len (by omega) none r.of 0 none 0 rfl (kr 0) (by omega)
 have k101:Or (.call 101) [AV.agg [lst r.e r.of,I r.kd,I r.tv],LN e l] []=some (NL y):=aa (by rw [DG,aE];exact y1)
 have k32:=p32 r.tv (by omega)
 have k29:=t29 (x:=y) (y:=iN r.tv) (m:=0+51 * r.of.length) (k:=20) y3 (fL (by omega)) (by omega)
 have hy:nv y=an r.of (l.map frQ):=by rw [y2,nQ,List.drop_zero];grind
 have hv:nv (iN r.tv)= (r.tv:Rat):=rfl
 rw [hy,hv] at k29
 have a1:=oI (an r.of (l.map frQ)) (r.tv:Rat)
 have a2:=cU (an r.of (l.map frQ)) (r.tv:Rat)
 have a3:=pi (an r.of (l.map frQ)) (r.tv:Rat)
 have b1:decide (cq (an r.of (l.map frQ)) (r.tv:Rat)<=0)=decide (an r.of (l.map frQ)<=(r.tv:Rat)):=by
  refine decide_eq_decide.2 ⟨fun h=>Rat.not_lt.1 fun h'=>by have:=a3.2 h';omega,fun h=>Int.not_lt.1 fun h'=>by have:=a3.1 h';grind⟩
 have b2:decide (cq (an r.of (l.map frQ)) (r.tv:Rat) < 0)=decide (an r.of (l.map frQ) < (r.tv:Rat)):=decide_eq_decide.2 a1
 have b3:(cq (an r.of (l.map frQ)) (r.tv:Rat)==0)=decide (an r.of (l.map frQ)= (r.tv:Rat)):=by rw [c8];exact decide_eq_decide.2 a2
 unfold hdB
 by_cases h1:r.kd=1
 ·rw [if_pos h1]
  refine aa ?_
  rw [pR]
  simp only [STL,↓reduceIte,Int.reduceBEq,Int.reduceEq,GD,k100,k101,k32,k29]
  rw [if_pos h1,b1]
 ·by_cases h2:r.kd=2
  ·rw [if_neg h1,if_pos h2]
   refine aa ?_
   rw [pR]
   simp only [STL,↓reduceIte,Int.reduceBEq,Int.reduceEq,GD,k100,k101,k32,k29]
   rw [if_neg h1,if_pos h2,b2]
  ·rw [if_neg h1,if_neg h2]
   refine aa ?_
   rw [pR]
   simp only [STL,↓reduceIte,Int.reduceBEq,Int.reduceEq,GD,k100,k101,k32,k29]
   rw [if_neg h1,if_neg h2,b3]
theorem zB(er:Bool)(rows:List R)(e:Bool)(l:List Fr)(hn:l.length<=12)(ok:∀r∈rows,OkR l.length r)(hx:∀x∈l,FrR x)(hl:rows.length<=40):
  ∀(rest:List R) (i:Nat),rows.drop i=rest->∃z:Int,Or f9 [LR er rows,AV.fn 61 [] [AV.t (T.ptr [T.lst 2 e (ch l)])],I (rows.length:Int),I (i:Int)] []=some [ti z]/\(decide (z>=0)= !(rest.all fun r=>hdB r (an r.of (l.map frQ)))):=by
 intro rest
 induction rest with
 | nil=>
  intro i h
  have h1:¬(i:Int) < (rows.length:Int):=by have:=ax h;omega
  refine⟨-1,aa ?_,by simp⟩
  rw [rg]
  simp only [STL,↓reduceIte,Int.reduceBEq,Int.reduceEq,GD,h1]
 | cons r rest ih=>
  intro i h
  obtain⟨g1,g2,g3⟩:=ar h
  have h1:(i:Int) < (rows.length:Int):=by omega
  have h0: 0<=(i:Int):=by omega
  have k62:=u62 r e l hn (ok r (List.mem_of_getElem? g1)) hx
  have k61:Or (.call 61) [AV.agg [lst r.e r.of,I r.kd,I r.tv],AV.t (T.ptr [T.lst 2 e (ch l)])] []=some [tb (!(hdB r (an r.of (l.map frQ))))]:=aa (by rw [AJ];simp only [STL,↓reduceIte,Int.reduceBEq,Int.reduceEq,GD,k62])
  cases hb:hdB r (an r.of (l.map frQ))
  ·rw [hb] at k61
   refine⟨(i:Int),aa ?_,by simp [hb]⟩
   rw [rg]
   simp only [STL,↓reduceIte,Int.reduceBEq,Int.reduceEq,GD,h1,h0,and_self,au,aW g1,k61]
  ·rw [hb] at k61
   obtain⟨z,z1,z2⟩:=ih (i+1) g3
   refine⟨z,aa ?_,by rw [z2];simp [hb]⟩
   rw [rg]
   simp only [STL,↓reduceIte,Int.reduceBEq,Int.reduceEq,GD,h1,h0,and_self,au,aW g1,k61,next i (by omega)]
   exact z1
theorem u26(er:Bool)(rows:List R)(e:Bool)(l:List Fr)(hn:l.length<=12)(ok:∀r∈rows,OkR l.length r)(hx:∀x∈l,FrR x)(hl:rows.length<=40):
  Or (.call 26) [LR er rows,LN e l] []=some [tb (rows.all fun r=>hdB r (an r.of (l.map frQ)))]:=by
 obtain⟨z,z1,z2⟩:=zB er rows e l hn ok hx hl rows 0 rfl
 have k1:Or (.call 53) [LR er rows,AV.fn 61 [] [AV.t (T.ptr [T.lst 2 e (ch l)])]] []=some [ti z]:=aa (by rw [yL,au];exact z1)
 have k2:Or (.call 60) [LR er rows,AV.fn 61 [] [AV.t (T.ptr [T.lst 2 e (ch l)])]] []=some [tb (decide (z>=0))]:=aa (by rw [BZ];simp only [STL,↓reduceIte,Int.reduceBEq,Int.reduceEq,GD,k1])
 refine aa ?_
 rw [y7]
 simp only [STL,↓reduceIte,Int.reduceBEq,Int.reduceEq,GD,k2,z2,Bool.not_not]
open Go Go.Aev Go.Aev.Gen Go.Aev.Wd Go.Aev.Tb
def adF(t:Nm):List Int->List Nm->List Nm
 | c::cs,g::gs=>pl g (tm (iN c) t)::adF t cs gs
 | _,gs=>gs
def cbF:List R->List Nm->List Nm×Nm->List Nm×Nm
 | r::rs,x::xs,p=>cbF rs xs (adF x r.of p.1,pl p.2 (tm (iN r.tv) x))
 | _,_,p=>p
theorem px(t:Nm):∀(c:List Int) (g:List Nm),(adF t c g).length=g.length
 | [],_=>by simp [adF]
 | _::_,[]=>by simp [adF]
 | c::cs,g::gs=>by simp [adF,px t cs gs]
theorem xU{m k:Nat}{t:Nm}(ht:QN k t):∀(c:List Int) (g:List Nm),(∀x∈c, -1000000<=x/\x<=1000000)->(∀x∈g,QN m x)->∀x∈adF t c g,QN (m+ (20+k)+1) x
 | [],g,_,hg=>by intro x hx;simp [adF] at hx;exact(hg x hx).mono (by omega)
 | _::_,[],_,_=>by intro x hx;simp [adF] at hx
 | c::cs,g::gs,hc,hg=>by
  intro x hx
  rw [adF] at hx
  have hcb:=hc c List.mem_cons_self
  have qc:QN 20 (iN c):=fL (by omega)
  rcases List.mem_cons.1 hx with rfl | hx
  ·exact(hg g List.mem_cons_self).add (qc.mul ht)
  ·exact xU ht cs gs (fun x h=>hc x (List.mem_cons_of_mem _ h)) (fun x h=>hg x (List.mem_cons_of_mem _ h)) x hx
theorem xh(t:Nm):∀(c:List Int) (g:List Nm) (k:Nat),k < g.length->nv (nAt (adF t c g) k)=nv (nAt g k)+ ((c.getD k 0:Int):Rat) * nv t
 | [],g,k,_=>by
  show nv (nAt g k)=nv (nAt g k)+ ((0:Int):Rat) * nv t
  have:((0:Int):Rat)=0:=rfl
  rw [this];grind
 | _::_,[],k,h=>by simp at h
 | c::cs,g::gs,0,_=>rfl
 | c::cs,g::gs,k+1,h=>xh t cs gs k (by simpa using h)
section
variable (er e:Bool) (rows:List R) (ts:List Nm) {n:Nat}
theorem D8{mt mg:Nat}(hn:n<=12)(hm:rows.length<=40)(hlt:rows.length<=ts.length)(hq:∀x∈ts,QN mt x){i:Nat}(hi:i < rows.length)(ok:OkR n (aQ rows i))(hk2:(aQ rows i).kd≠2)(z:Nm){to:Nm}(hto:QN mg to)
  (hs:mg+ (20+mt)+1<=6300) {res:List T} {cn:List Nm}
  (hres:Or m7 [AV.t (T.lst 4 e (aM ts)),r0,AV.own (Id.c 1),AV.ref (Id.c 2) 0,B false,LR er rows,I (rows.length:Int),I ((i+1:Nat):Int)] [bxN z,Blk.sl false 4 false (aM cn),bxN (pl to (tm (iN (aQ rows i).tv) (nAt ts i)))]=some res):
  ∀(rs:List Int) (ys dn:List Nm) (j:Nat),(aQ rows i).of.drop j=rs->dn.length=j->rs.length<=ys.length->(∀y∈ys,QN mg y)->dn++adF (nAt ts i) rs ys=cn->
  Or qv [AV.t (T.lst 4 e (aM ts)),r0,AV.own (Id.c 1),AV.ref (Id.c 2) 0,B false,I (i:Int),AV.ref (Id.c 3) 0,LR er rows,I (rows.length:Int),I (i:Int),lst (aQ rows i).e (aQ rows i).of,I ((aQ rows i).of.length:Int),I (j:Int)]
   [bxN z,Blk.sl false 4 false (aM (dn++ys)),bxN to,Blk.box [lst (aQ rows i).e (aQ rows i).of,I (aQ rows i).kd,I (aQ rows i).tv]]=some res:=by
 have hgt:=l0 (l:=ts) (i:=i) (by omega)
 have qt:=hq _ (List.mem_of_getElem? hgt)
 have hi2: 0<=(i:Int)/\(i:Int) < (ts.length:Int):=by omega
 have hof:=ok.len
 intro rs
 induction rs with
 | nil=>
  intro ys dn j h hd hl hy he
  have h1:¬(j:Int) < ((aQ rows i).of.length:Int):=by have:=ax h;omega
  have ha0:adF (nAt ts i) [] ys=ys:=rfl
  rw [ha0] at he
  have htv:=ok.tv
  have k32:=p32 (aQ rows i).tv (by omega)
  have qc:QN 20 (iN (aQ rows i).tv):=fL (by omega)
  have k64:=p64 qc qt (by omega)
  have k63:=p63 (x:=to) (y:=tm (iN (aQ rows i).tv) (nAt ts i)) hto (qc.mul qt) hs
  have hkb:((aQ rows i).kd==2)=false:=by simpa using hk2
  rw [he]
  refine aa ?_
  rw [uJ]
  simp only [gdF,STL,↓reduceIte,Int.reduceBEq,Int.reduceEq,GD,h1,k32,hi2,and_self,fM,fY hgt,k64,k63,hkb,hk2,Option.getD_some,Option.getD_none,next i (by omega)]
  exact hres
 | cons c rs ih=>
  intro ys dn j h hd hl hy he
  obtain⟨g1,g2,g3⟩:=ar h
  cases ys with
  | nil=>simp at hl
  | cons y ys=>
   have h1:(j:Int) < ((aQ rows i).of.length:Int):=by omega
   have hj0: 0<=(j:Int):=by omega
   have hjl:(j:Int) < ((dn++y::ys).length:Int):=by simp;omega
   have hgy:(dn++y::ys)[j]? =some y:=by rw [List.getElem?_append_right (by omega),hd,Nat.sub_self];rfl
   have hcb:=ok.of c (List.mem_of_getElem? g1)
   have k32:=p32 c (by omega)
   have qc:QN 20 (iN c):=fL (by omega)
   have q2:=hy y List.mem_cons_self
   have k64:=p64 qc qt (by omega)
   have k63:=p63 (x:=y) (y:=tm (iN c) (nAt ts i)) q2 (qc.mul qt) hs
   have s1:=C8 (l:=dn++y::ys) (i:=j) (by omega) (pl y (tm (iN c) (nAt ts i)))
   rw [CY _ _ _ _ _ hd] at s1
   have:=ih ys (dn++ [pl y (tm (iN c) (nAt ts i))]) (j+1) g3 (by simp;omega) (by simpa using hl) (fun u hu=>hy u (List.mem_cons_of_mem _ hu)) (by rw [<-he];simp [adF])
   simp only [List.append_assoc,List.cons_append,List.nil_append] at this
   refine aa ?_
   rw [uJ]
   simp only [STL,↓reduceIte,Int.reduceBEq,Int.reduceEq,GD,h1,hj0,hjl,hi2,and_self,aE,b9 g1,fM,fY hgy,fY hgt,k32,k64,k63,s1,next j (by omega)]
   exact this
theorem Aa{mt:Nat}(hn:n<=12)(hm:rows.length<=40)(hlt:rows.length=ts.length)(hq:∀x∈ts,QN mt x)(ok:∀r∈rows,OkR n r)(hk2:∀r∈rows,r.kd≠2)(z:Nm):
  ∀(rs:List R) (xs:List Nm) (i mg:Nat) (c:List Nm) (to:Nm),rows.drop i=rs->ts.drop i=xs->c.length=n->(∀y∈c,QN mg y)->QN mg to->mg+ (mt+21) * rs.length<=6300->
  Or m7 [AV.t (T.lst 4 e (aM ts)),r0,AV.own (Id.c 1),AV.ref (Id.c 2) 0,B false,LR er rows,I (rows.length:Int),I (i:Int)] [bxN z,Blk.sl false 4 false (aM c),bxN to]=
   some (T.lst 4 false (aM (cbF rs xs (c,to)).1):: (NL (cbF rs xs (c,to)).2++ [tb false]))/\
  (∀y∈(cbF rs xs (c,to)).1,QN (mg+ (mt+21) * rs.length) y)/\QN (mg+ (mt+21) * rs.length) (cbF rs xs (c,to)).2/\(cbF rs xs (c,to)).1.length=n:=by
 intro rs
 induction rs with
 | nil=>
  intro xs i mg c to h hx hc hcq htq hs
  have h1:¬(i:Int) < (rows.length:Int):=by have:=ax h;omega
  have hc0:cbF [] xs (c,to)= (c,to):=rfl
  rw [hc0]
  refine⟨aa ?_,fun y hy=>(hcq y hy).mono (by omega),htq.mono (by omega),hc⟩
  rw [yB]
  simp only [STL,↓reduceIte,Int.reduceBEq,Int.reduceEq,GD,h1]
  rfl
 | cons r rs ih=>
  intro xs i mg c to h hx hc hcq htq hs
  obtain⟨g1,g2,g3⟩:=ar h
  rw [List.length_cons,Nat.mul_add,Nat.mul_one] at hs⊢
  cases xs with
  | nil=>have:=ax hx;omega
  | cons x xs=>
   obtain⟨x1,x2,x3⟩:=ar hx
   have h1:(i:Int) < (rows.length:Int):=by omega
   have h0: 0<=(i:Int):=by omega
   have hra:aQ rows i=r:=by
    have:=tH (rows:=rows) (i:=i) (by omega)
    rw [g1] at this;exact(Option.some.inj this).symm
   have hxa:nAt ts i=x:=by
    have:=l0 (l:=ts) (i:=i) (by omega)
    rw [x1] at this;exact(Option.some.inj this).symm
   have hrm:=List.mem_of_getElem? g1
   have okr:=ok r hrm
   have qx:=hq x (List.mem_of_getElem? x1)
   have htv:=okr.tv
   have qc:QN 20 (iN r.tv):=fL (by omega)
   have q2:∀y∈adF x r.of c,QN (mg+ (mt+21)) y:=fun y hy=>(xU qx r.of c okr.of hcq y hy).mono (by omega)
   have q3:QN (mg+ (mt+21)) (pl to (tm (iN r.tv) x)):=(htq.add (qc.mul qx)).mono (by omega)
   obtain⟨a1,a2,a3,a4⟩:=ih xs (i+1) (mg+ (mt+21)) (adF x r.of c) (pl to (tm (iN r.tv) x)) g3 x3 (by rw [px];exact hc) q2 q3 (by omega)
   have hcb:cbF (r::rs) (x::xs) (c,to)=cbF rs xs (adF x r.of c,pl to (tm (iN r.tv) x)):=rfl
   rw [hcb]
   refine⟨aa ?_,fun y hy=>(a2 y hy).mono (by omega),a3.mono (by omega),a4⟩
   have hlen:=okr.len
   rw [<-hra,<-hxa] at a1
   have:=D8 er e rows ts (n:=n) hn hm (by omega) hq (i:=i) (by omega) (by rw [hra];exact okr) (by rw [hra];exact hk2 r hrm) z htq (mg:=mg) (by omega) a1 (aQ rows i).of c [] 0 rfl rfl (by rw [hra];omega) hcq rfl
   rw [hra,hxa] at this
   simp only [List.nil_append] at this
   rw [yB]
   simp only [STL,↓reduceIte,Int.reduceBEq,Int.reduceEq,GD,h1,h0,and_self,au,aW g1,aE]
   exact this
theorem u31{mt:Nat}(hn:n<=12)(hm:rows.length<=40)(hlt:rows.length=ts.length)(hq:∀x∈ts,QN mt x)(ok:∀r∈rows,OkR n r)(hk2:∀r∈rows,r.kd≠2)(hs:mt<=130):
  Or (.call 31) [LR er rows,I (n:Int),AV.t (T.lst 4 e (aM ts))] []=
   some (T.lst 4 false (aM (cbF rows ts (List.replicate n none,none)).1):: (NL (cbF rows ts (List.replicate n none,none)).2++ [tb false]))/\
  (∀y∈(cbF rows ts (List.replicate n none,none)).1,QN 6100 y)/\QN 6100 (cbF rows ts (List.replicate n none,none)).2/\(cbF rows ts (List.replicate n none,none)).1.length=n:=by
 have hb:(mt+21) * rows.length<=(130+21) * 40:=Nat.mul_le_mul (by omega) hm
 obtain⟨a1,a2,a3,a4⟩:=Aa er e rows ts (n:=n) hn hm hlt hq ok hk2 none rows ts 0 0 (List.replicate n none) none rfl rfl (by simp) (fun y hy=>by rw [List.eq_of_mem_replicate hy];exact kr _) (kr _) (by omega)
 have hmk:=Bf (k:=n) (by omega)
 have htn:((n:Nat):Int).toNat=n:=by omega
 refine⟨aa ?_,fun y hy=>(a2 y hy).mono (by omega),a3.mono (by omega),a4⟩
 rw [Cf]
 simp only [STL,↓reduceIte,Int.reduceBEq,Int.reduceEq,GD,hmk,htn,CL,au]
 exact a1
end
def clQ:List R->List Rat->Nat->Rat
 | r::rs,t::ts,k=>((r.of.getD k 0:Int):Rat) * t+clQ rs ts k
 | _,_,_=>0
def toQ:List R->List Rat->Rat
 | r::rs,t::ts=>(r.tv:Rat) * t+toQ rs ts
 | _,_=>0
theorem vl:∀(rs:List R) (xs:List Nm) (c:List Nm) (to:Nm) (k:Nat),k < c.length->nv (nAt (cbF rs xs (c,to)).1 k)=nv (nAt c k)+clQ rs (xs.map nv) k
 | [],xs,c,to,k,_=>by
  have:clQ [] (xs.map nv) k=0:=by cases xs <;> rfl
  rw [this]
  show nv (nAt c k)=_
  grind
 | r::rs,[],c,to,k,_=>by
  show nv (nAt c k)=nv (nAt c k)+0
  grind
 | r::rs,x::xs,c,to,k,h=>by
  have hcb:cbF (r::rs) (x::xs) (c,to)=cbF rs xs (adF x r.of c,pl to (tm (iN r.tv) x)):=rfl
  rw [hcb,vl rs xs _ _ k (by rw [px];exact h),xh _ _ _ _ h,List.map_cons,clQ]
  grind
theorem yt:∀(rs:List R) (xs:List Nm) (c:List Nm) (to:Nm),nv (cbF rs xs (c,to)).2=nv to+toQ rs (xs.map nv)
 | [],xs,c,to=>by
  have:toQ [] (xs.map nv)=0:=by cases xs <;> rfl
  rw [this]
  show nv to=_
  grind
 | r::rs,[],c,to=>by
  show nv to=nv to+0
  grind
 | r::rs,x::xs,c,to=>by
  have hcb:cbF (r::rs) (x::xs) (c,to)=cbF rs xs (adF x r.of c,pl to (tm (iN r.tv) x)):=rfl
  rw [hcb,yt rs xs,List.map_cons,toQ]
  show nv to+ (r.tv:Rat) * nv x+ _=_
  grind
def ngB:List R->List Fr->Bool
 | r::rs,t::ts=> !(decide (r.kd=1) && decide (t.1 < 0)) && ngB rs ts
 | _,_=>true
def dJ(n:Nat)(rows:List R)(gl:List Int)(v:Fr)(point times:List Fr):Bool:=
 (rows.all fun r=>hdB r (an r.of (point.map frQ))) && decide (an gl (point.map frQ)=frQ v) && ngB rows times &&
  ((List.range n).all fun k=>decide (clQ rows (times.map frQ) k= ((gl.getD k 0:Int):Rat))) && decide (toQ rows (times.map frQ)=frQ v)
def aK(n:Int)(rows:List R)(gl:List Int)(v:Fr)(point times:List Fr):Int×Int:=
 if(bI n rows gl).1≠0 then bI n rows gl else if(point.length:Int)≠n\/times.length≠rows.length then(9,0) else
 if(decide (FrR v) && (point.all fun x=>decide (FrR x)) && (times.all fun x=>decide (FrR x)))=true then(0,0) else(5,0)
section
variable {n:Nat} (rows:List R) (er eg ep et:Bool) (gl:List Int) (v:Fr) (point times:List Fr)
theorem u8m(hv:FrR v)(hn:n<=12)(hgl:gl.length<=n)(hgb:∀c∈gl, -1000000<=c/\c<=1000000)(cols:List Nm)(to:Nm)(hc:cols.length=n)(hcq:∀y∈cols,QN 6100 y)(hto:QN 6100 to):
  ∀(xs:List Nm) (k:Nat),cols.drop k=xs->(∀y,Or lL [lst eg gl,r0,AV.ref (Id.c 1) 0,AV.ref (Id.c 2) 0,AV.t (T.lst 4 false (aM cols)),I (n:Int),I (k:Int)] [Blk.box [I v.1,I v.2],Blk.box [I 0,I 0],bxN to]=y->
   y=some [tb (((List.range' k (n - k)).all fun j=>decide (nv (nAt cols j)= ((gl.getD j 0:Int):Rat))) && decide (nv to=frQ v)),ti 0,ti 0]):=by
 intro xs
 induction xs with
 | nil=>
  intro k h y hy
  have hge:=ax h
  have h1:¬(k:Int) < (n:Int):=by omega
  have k30:=p30 hv.b
  have k29:=t29 (x:=to) (y:=fN v) (m:=6100) (k:=30) hto (iE hv.b) (by omega)
  have b3:(cq (nv to) (nv (fN v))==0)=decide (nv to=frQ v):=by rw [c8];exact decide_eq_decide.2 (cU _ _)
  have hr:n - k=0:=by omega
  rw [<-hy,hr]
  refine aa ?_
  rw [kZ]
  simp only [STL,↓reduceIte,Int.reduceBEq,Int.reduceEq,GD,h1,k30,k29,b3,List.range'_zero,List.all_nil]
 | cons x xs ih=>
  intro k h y hy
  obtain⟨g1,g2,g3⟩:=ar h
  have h1:(k:Int) < (n:Int):=by omega
  have h0: 0<=(k:Int):=by omega
  have hkl:(k:Int) < (cols.length:Int):=by omega
  have hxa:nAt cols k=x:=by
   have:=l0 (l:=cols) (i:=k) (by omega)
   rw [g1] at this;exact(Option.some.inj this).symm
  have k0:=p32 0 (by omega)
  have hr:List.range' k (n - k)=k::List.range' (k+1) (n - (k+1)):=by
   rw [show n - k= (n - (k+1))+1 by omega,List.range'_succ]
  have ih':=ih (k+1) g3 _ rfl
  have qx:=hcq x (List.mem_of_getElem? g1)
  rw [<-hy,hr,List.all_cons,hxa]
  by_cases hkg:k < gl.length
  ·have hkg':(k:Int) < (gl.length:Int):=by omega
   have hgk:gl[k]? =some (gl.getD k 0):=by rw [List.getD_eq_getElem?_getD,List.getElem?_eq_getElem hkg];rfl
   have hcb:=hgb _ (List.mem_of_getElem? hgk)
   have k32:=p32 (gl.getD k 0) (by omega)
   have k29:=t29 (x:=x) (y:=iN (gl.getD k 0)) (m:=6100) (k:=20) qx (fL (by omega)) (by omega)
   by_cases he:nv x= ((gl.getD k 0:Int):Rat)
   ·have hc0:cq (nv x) (nv (iN (gl.getD k 0)))=0:=(cU _ _).2 he
    rw [decide_eq_true he,Bool.true_and]
    refine aa ?_
    rw [kZ]
    simp only [STL,↓reduceIte,Int.reduceBEq,Int.reduceEq,GD,h1,h0,hkl,hkg',and_self,fM,fY g1,k0,aE,b9 hgk,k32,k29,hc0,next k (by omega)]
    exact ih'
   ·have hc0:¬cq (nv x) (nv (iN (gl.getD k 0)))=0:=fun h=>he ((cU _ _).1 h)
    rw [decide_eq_false he,Bool.false_and,Bool.false_and]
    refine aa ?_
    rw [kZ]
    simp only [STL,↓reduceIte,Int.reduceBEq,Int.reduceEq,GD,h1,h0,hkl,hkg',and_self,fM,fY g1,k0,aE,b9 hgk,k32,k29,hc0]
  ·have hkg':¬(k:Int) < (gl.length:Int):=by omega
   have hgk:gl.getD k 0=0:=by rw [List.getD_eq_getElem?_getD,List.getElem?_eq_none (by omega)];rfl
   have k29:=t29 (x:=x) (y:=iN 0) (m:=6100) (k:=20) qx (fL (by decide)) (by omega)
   rw [hgk]
   by_cases he:nv x= ((0:Int):Rat)
   ·have hc0:cq (nv x) (nv (iN 0))=0:=(cU _ _).2 he
    rw [decide_eq_true he,Bool.true_and]
    refine aa ?_
    rw [kZ]
    simp only [STL,↓reduceIte,Int.reduceBEq,Int.reduceEq,GD,h1,h0,hkl,hkg',and_self,fM,fY g1,k0,aE,k29,hc0,next k (by omega)]
    exact ih'
   ·have hc0:¬cq (nv x) (nv (iN 0))=0:=fun h=>he ((cU _ _).1 h)
    rw [decide_eq_false he,Bool.false_and,Bool.false_and]
    refine aa ?_
    rw [kZ]
    simp only [STL,↓reduceIte,Int.reduceBEq,Int.reduceEq,GD,h1,h0,hkl,hkg',and_self,fM,fY g1,k0,aE,k29,hc0]
theorem u8n(hv:FrR v)(hn:n<=12)(hm:rows.length<=40)(ok:∀r∈rows,OkR n r)(hk2:∀r∈rows,r.kd≠2)(hgl:gl.length<=n)(hgb:∀c∈gl, -1000000<=c/\c<=1000000)(htl:times.length=rows.length)(htx:∀x∈times,FrR x):
  ∀(rs:List R) (ts:List Fr) (i:Nat),rows.drop i=rs->times.drop i=ts->
  Or mE [LR er rows,I (n:Int),lst eg gl,LN et times,r0,AV.ref (Id.c 1) 0,LR er rows,I (rows.length:Int),I (i:Int)] [Blk.box [I v.1,I v.2],Blk.box [I 0,I 0]]=
   some [tb (ngB rs ts && ((List.range n).all fun k=>decide (clQ rows (times.map frQ) k= ((gl.getD k 0:Int):Rat))) && decide (toQ rows (times.map frQ)=frQ v)),ti 0,ti 0]:=by
 intro rs
 induction rs with
 | nil=>
  intro ts i h ht
  have h1:¬(i:Int) < (rows.length:Int):=by have:=ax h;omega
  have hng:ngB [] ts=true:=by cases ts <;> rfl
  have k28:=u28 et times (by omega) (fun x hx=>(htx x hx).b)
  have hmap:(times.map fN).map nv=times.map frQ:=by rw [List.map_map];rfl
  obtain⟨k31,q1,q2,q3⟩:=u31 er (decide (times= [])) rows (times.map fN) (n:=n) (mt:=30) hn hm (by simp;omega) (fun x hx=>by
   obtain⟨y,hy,rfl⟩:=List.mem_map.1 hx
   exact iE (htx y hy).b) ok hk2 (by omega)
  have c1:=fun k (hk:k < n)=>vl rows (times.map fN) (List.replicate n none) none k (by simpa using hk)
  have c2:=yt rows (times.map fN) (List.replicate n none) none
  rw [hmap] at c2
  generalize cbF rows (times.map fN) (List.replicate n none,none)=cb at k31 q1 q2 q3 c1 c2
  have:=u8m (n:=n) eg gl v hv hn hgl hgb cb.1 cb.2 q3 q1 q2 cb.1 0 rfl _ rfl
  have hall:((List.range' 0 (n - 0)).all fun j=>decide (nv (nAt cb.1 j)= ((gl.getD j 0:Int):Rat)))= ((List.range n).all fun k=>decide (clQ rows (times.map frQ) k= ((gl.getD k 0:Int):Rat))):=by
   rw [Nat.sub_zero,<-List.range_eq_range',Bool.eq_iff_iff,List.all_eq_true,List.all_eq_true]
   refine forall_congr' fun k=> ?_
   constructor
   ·intro h' hk
    have:=c1 k (List.mem_range.1 hk)
    have hz:nv (nAt (List.replicate n (none:Nm)) k)=0:=by
     unfold nAt
     rw [List.getD_eq_getElem?_getD,List.getElem?_replicate]
     split <;> rfl
    rw [hz,hmap,Rat.zero_add] at this
    rw [<-this];exact h' hk
   ·intro h' hk
    have:=c1 k (List.mem_range.1 hk)
    have hz:nv (nAt (List.replicate n (none:Nm)) k)=0:=by
     unfold nAt
     rw [List.getD_eq_getElem?_getD,List.getElem?_replicate]
     split <;> rfl
    rw [hz,hmap,Rat.zero_add] at this
    rw [this];exact h' hk
  have hto:nv cb.2=toQ rows (times.map frQ):=by rw [c2,nQ,Rat.zero_add]
  rw [hall,hto] at this
  rw [hng,Bool.true_and]
  simp only [List.cons_append,List.nil_append] at k31
  refine aa ?_
  rw [oE]
  simp only [STL,↓reduceIte,Int.reduceBEq,Int.reduceEq,GD,h1,k28,k31,fM,q3]
  exact this
 | cons r rs ih=>
  intro ts i h ht
  obtain⟨g1,g2,g3⟩:=ar h
  cases ts with
  | nil=>have:=ax ht;omega
  | cons t ts=>
   obtain⟨t1,t2,t3⟩:=ar ht
   have h1:(i:Int) < (rows.length:Int):=by omega
   have h0: 0<=(i:Int):=by omega
   have h2:(i:Int) < (times.length:Int):=by omega
   have ih':=ih ts (i+1) g3 t3
   have hng:ngB (r::rs) (t::ts)= (!(decide (r.kd=1) && decide (t.1 < 0)) && ngB rs ts):=rfl
   rw [hng]
   by_cases hk:r.kd=1
   ·have hkb:(r.kd==1)=true:=by simpa using hk
    by_cases hneg:t.1 < 0
    ·refine aa ?_
     rw [oE]
     simp only [STL,↓reduceIte,Int.reduceBEq,Int.reduceEq,GD,h1,h0,h2,and_self,au,aW g1,hkb,aG,bE t1,hneg,decide_true]
     simp [hk,hneg]
    ·have e:(!(decide (r.kd=1) && decide (t.1 < 0)) && ngB rs ts)=ngB rs ts:=by simp [hk,hneg]
     rw [e]
     refine aa ?_
     rw [oE]
     simp only [STL,↓reduceIte,Int.reduceBEq,Int.reduceEq,GD,h1,h0,h2,and_self,au,aW g1,hkb,aG,bE t1,hneg,decide_false,next i (by omega)]
     split
     ·exact ih'
     ·exact ih'
   ·have hkb:(r.kd==1)=false:=by simpa using hk
    have e:(!(decide (r.kd=1) && decide (t.1 < 0)) && ngB rs ts)=ngB rs ts:=by simp [hk]
    rw [e]
    refine aa ?_
    rw [oE]
    simp only [STL,↓reduceIte,Int.reduceBEq,Int.reduceEq,GD,h1,h0,h2,and_self,au,aW g1,hkb,hk,aG,bE t1,next i (by omega)]
    exact ih'
end
open Go Go.Aev Go.Aev.Gen Go.Aev.Wd Go.Aev.Tb
abbrev Av(v:Fr):AV:=AV.agg [I v.1,I v.2]
theorem Bg{n:Int}{rows:List R}{gl:List Int}{v:Fr}{point times:List Fr}(hr:∀r∈rows,r.e=true->r.of= [])(h:(aK n rows gl v point times).1=0):
  (bI n rows gl).1=0/\(point.length:Int)=n/\times.length=rows.length/\FrR v/\(∀x∈point,FrR x)/\∀x∈times,FrR x:=by
 unfold aK at h
 by_cases h1:(bI n rows gl).1=0
 ·rw [if_neg (by omega)] at h
  by_cases h2:(point.length:Int)≠n\/times.length≠rows.length
  ·rw [if_pos h2] at h;simp at h
  ·rw [if_neg h2] at h
   by_cases h3:(decide (FrR v) && (point.all fun x=>decide (FrR x)) && (times.all fun x=>decide (FrR x)))=true
   ·simp only [Bool.and_eq_true,decide_eq_true_eq,List.all_eq_true] at h3
    exact⟨h1,by omega,by omega,h3.1.1,h3.1.2,h3.2⟩
   ·rw [if_neg h3] at h;simp at h
 ·rw [if_pos h1] at h;exact absurd h h1
theorem qq{n:Int}{rows:List R}{gl:List Int}{v:Fr}{point times:List Fr}(h:(aK n rows gl v point times).1=0):aK n rows gl v point times= (0,0):=by
 unfold aK at h⊢
 by_cases h1:(bI n rows gl).1=0
 ·rw [if_neg (by omega)] at h⊢
  by_cases h2:(point.length:Int)≠n\/times.length≠rows.length
  ·rw [if_pos h2] at h;simp at h
  ·rw [if_neg h2] at h⊢
   by_cases h3:(decide (FrR v) && (point.all fun x=>decide (FrR x)) && (times.all fun x=>decide (FrR x)))=true
   ·rw [if_pos h3]
   ·rw [if_neg h3] at h;simp at h
 ·rw [if_pos h1] at h;exact absurd h h1
set_option maxRecDepth 10000 in
theorem u8(rows:List R)(er eg ep et:Bool)(n:Int)(gl:List Int)(v:Fr)(point times:List Fr)(hr:∀r∈rows,r.e=true->r.of= []):
  Or (.call 8) [LR er rows,I n,lst eg gl,Av v,LN ep point,LN et times] []=
   some (if(aK n rows gl v point times).1=0 then [tb (dJ n.toNat rows gl v point times),ti 0,ti 0] else [tb false,ti (aK n rows gl v point times).1,ti (aK n rows gl v point times).2]):=by
 have k24:=u24 rows er eg n gl hr
 by_cases h1:(bI n rows gl).1=0
 ·obtain⟨_,a1,a2,a3,a4,a5,a6,a7⟩:=mV hr h1
  obtain⟨n,rfl⟩:∃m:Nat,n= (m:Int):=⟨n.toNat,by omega⟩
  simp only [Int.toNat_natCast] at a4
  by_cases h2:(point.length:Int)≠(n:Int)\/times.length≠rows.length
  ·have ht:aK (n:Int) rows gl v point times= (9,0):=by unfold aK;rw [if_neg (by omega),if_pos h2]
   have hb:(if(point.length:Int)= (n:Int) then !((times.length:Int)== (rows.length:Int)) else true)=true:=by
    by_cases h3:(point.length:Int)= (n:Int)
    ·rw [if_pos h3]
     have:¬(times.length:Int)= (rows.length:Int):=by omega
     simpa using this
    ·rw [if_neg h3]
   rw [ht]
   refine aa ?_
   rw [eq8]
   simp only [STL,↓reduceIte,Int.reduceBEq,Int.reduceEq,GD,k24,h1,aG,au,hb]
   try rfl
  ·have hp:point.length=n:=by omega
   have htl:times.length=rows.length:=by omega
   have hb:(if(point.length:Int)= (n:Int) then !((times.length:Int)== (rows.length:Int)) else true)=false:=by
    rw [if_pos (by omega)]
    have:(times.length:Int)= (rows.length:Int):=by omega
    simpa using this
   have kv:Or (.call 25) [AV.t (T.lst 2 false [[ti v.1,ti v.2]])] []=some [tb (!([v].all fun x=>decide (FrR x)))]:=u25 false [v] (by simp)
   have kp:=u25 ep point (by omega)
   have kt:=u25 et times (by omega)
   have hallv:([v].all fun x=>decide (FrR x))=decide (FrR v):=by simp
   rw [hallv] at kv
   have ht:aK (n:Int) rows gl v point times=if(decide (FrR v) && (point.all fun x=>decide (FrR x)) && (times.all fun x=>decide (FrR x)))=true then(0,0) else(5,0):=by
    unfold aK;rw [if_neg (by omega),if_neg h2]
   rw [ht]
   cases hfv:decide (FrR v)
   ·rw [hfv] at kv
    refine aa ?_
    rw [eq8]
    simp only [gdF,STL,↓reduceIte,Int.reduceBEq,Int.reduceEq,GD,k24,h1,aG,au,hb,kv,Bool.not_false,Bool.not_true,Bool.false_and]
    try rfl
   ·rw [hfv] at kv
    cases hfp:point.all fun x=>decide (FrR x)
    ·rw [hfp] at kp
     refine aa ?_
     rw [eq8]
     simp only [gdF,STL,↓reduceIte,Int.reduceBEq,Int.reduceEq,GD,k24,h1,aG,au,hb,kv,kp,Bool.not_false,Bool.not_true,Bool.false_and]
     try rfl
    ·rw [hfp] at kp
     cases hft:times.all fun x=>decide (FrR x)
     ·rw [hft] at kt
      refine aa ?_
      rw [eq8]
      simp only [gdF,STL,↓reduceIte,Int.reduceBEq,Int.reduceEq,GD,k24,h1,aG,au,hb,kv,kp,kt,Bool.not_false,Bool.not_true,Bool.false_and]
      try rfl
     ·rw [hft] at kt
      have hv:FrR v:=of_decide_eq_true hfv
      have hpx:∀x∈point,FrR x:=fun x hx=>of_decide_eq_true (List.all_eq_true.1 hfp x hx)
      have htx:∀x∈times,FrR x:=fun x hx=>of_decide_eq_true (List.all_eq_true.1 hft x hx)
      have k26:=u26 er rows ep point (by omega) (by rw [hp];exact a4) hpx a3
      have k28:=u28 ep point (by omega) (fun x hx=>(hpx x hx).b)
      obtain⟨y,y1,y2,y3⟩:=u27 eg (decide (point= [])) gl (point.map fN) a7 (by simp;omega) (by omega) (m:=30) (fun x hx=>by
       obtain⟨z,hz,rfl⟩:=List.mem_map.1 hx
       exact iE (hpx z hz).b) (by omega)
      have hmap:(point.map fN).map nv=point.map frQ:=by rw [List.map_map];rfl
      rw [hmap] at y2
      have k30:=p30 hv.b
      have k29:=t29 (x:=y) (y:=fN v) (m:=6000) (k:=30) y3 (iE hv.b) (by omega)
      have hrest:=u8n (n:=n) rows er eg et gl v times hv (by omega) a3 a4 a5 (by omega) a7 htl htx rows times 0 rfl rfl
      have hsays:dJ n rows gl v point times= ((rows.all fun r=>hdB r (an r.of (point.map frQ))) && (decide (an gl (point.map frQ)=frQ v) && (ngB rows times && ((List.range n).all fun k=>decide (clQ rows (times.map frQ) k= ((gl.getD k 0:Int):Rat))) && decide (toQ rows (times.map frQ)=frQ v)))):=by
       unfold dJ;simp only [Bool.and_assoc]
      simp only [Bool.and_self,if_true]
      rw [Int.toNat_natCast,hsays]
      cases hA:rows.all fun r=>hdB r (an r.of (point.map frQ))
      ·rw [hA] at k26
       refine aa ?_
       rw [eq8]
       simp only [gdF,STL,↓reduceIte,Int.reduceBEq,Int.reduceEq,GD,k24,h1,aG,au,hb,kv,kp,kt,k26,Bool.not_false,Bool.not_true,Bool.false_and]
      ·rw [hA] at k26
       by_cases hB:an gl (point.map frQ)=frQ v
       ·have hc0:cq (nv y) (nv (fN v))=0:=(cU _ _).2 (by rw [y2];exact hB)
        rw [decide_eq_true hB,Bool.true_and,Bool.true_and]
        refine aa ?_
        rw [eq8]
        simp only [STL,↓reduceIte,Int.reduceBEq,Int.reduceEq,GD,k24,h1,aG,au,hb,kv,kp,kt,k26,k28,y1,k30,k29,hc0,Bool.not_false,Bool.not_true]
        exact hrest
       ·have hc0:¬cq (nv y) (nv (fN v))=0:=fun h=>hB (by rw [<-y2];exact(cU _ _).1 h)
        have hcb:(!(cq (nv y) (nv (fN v))==0))=true:=by simpa using hc0
        rw [decide_eq_false hB,Bool.true_and,Bool.false_and]
        refine aa ?_
        rw [eq8]
        simp only [STL,↓reduceIte,Int.reduceBEq,Int.reduceEq,GD,k24,h1,aG,au,hb,kv,kp,kt,k26,k28,y1,k30,k29,hc0,hcb,Bool.not_false,Bool.not_true]
 ·have ht:aK n rows gl v point times=bI n rows gl:=by unfold aK;rw [if_pos h1]
  rw [ht,if_neg h1]
  refine aa ?_
  rw [eq8]
  simp only [STL,↓reduceIte,Int.reduceBEq,Int.reduceEq,GD,k24,h1]
def z0R(r:R):R:={r with tv:=0}
def aX(n:Int)(rows:List R)(gl:List Int)(point:List Fr):Int×Int:=
 if(bI n rows gl).1≠0 then bI n rows gl else if(point.length:Int)≠n then(9,0) else if(point.all fun x=>decide (FrR x))=true then(0,0) else(5,0)
def eF(rows:List R)(gl:List Int)(point:List Fr):Bool:=((rows.map z0R).all fun r=>hdB r (an r.of (point.map frQ))) && decide (0 < an gl (point.map frQ))
theorem Bx(a b:List R):eRs a++eRs b=eRs (a++b):=by simp [eRs]
theorem u9n(rows:List R)(er eg ep:Bool)(n:Nat)(gl:List Int)(point:List Fr)(hn:n<=12)(hm:rows.length<=40)(ok:∀r∈rows,OkR n r)(hgl:gl.length<=n)(hgb:∀c∈gl, -1000000<=c/\c<=1000000)(hp:point.length=n)(hpx:∀x∈point,FrR x):
  ∀(rest dn:List R) (i:Nat),rows.drop i=rest->dn.length=i->dn++rest=rows->
  Or nY [lst eg gl,LN ep point,r0,AV.own (Id.c 1),LR er rows,I (rows.length:Int),I (i:Int)] [Blk.box [I 0,I 0],Blk.sl false 3 (decide (dn= [])) (eRs (dn.map z0R))]=some [tb (eF rows gl point),ti 0,ti 0]:=by
 intro rest
 induction rest with
 | nil=>
  intro dn i h hd he
  have h1:¬(i:Int) < (rows.length:Int):=by have:=ax h;omega
  rw [List.append_nil] at he
  subst he
  have k26:=u26 (decide (dn= [])) (dn.map z0R) ep point (by omega) (fun r hr=>by
   obtain⟨q,hq,rfl⟩:=List.mem_map.1 hr
   have o:=ok q hq
   rw [hp]
   exact⟨o.e,o.kd,o.len,o.of,by show -1000000<=(0:Int)/\(0:Int)<=1000000;omega⟩) hpx (by simpa using hm)
  have k28:=u28 ep point (by omega) (fun x hx=>(hpx x hx).b)
  obtain⟨y,y1,y2,y3⟩:=u27 eg (decide (point= [])) gl (point.map fN) hgb (by simp;omega) (by omega) (m:=30) (fun x hx=>by
   obtain⟨z,hz,rfl⟩:=List.mem_map.1 hx
   exact iE (hpx z hz).b) (by omega)
  have hmap:(point.map fN).map nv=point.map frQ:=by rw [List.map_map];rfl
  rw [hmap] at y2
  have ks:=t33 y
  have hpos:decide ((nv y).num.sign > 0)=decide (0 < an gl (point.map frQ)):=by
   rw [y2]
   refine decide_eq_decide.2 ?_
   have h1:=lR (-(an gl (point.map frQ)))
   rcases ms (an gl (point.map frQ)) with e | e | e
   ·rw [e]
    refine⟨fun _=> ?_,fun _=>by decide⟩
    have hnn:¬an gl (point.map frQ) < 0:=fun h=>by have:=(lR _).2 h;rw [e] at this;exact absurd this (by decide)
    have hne:an gl (point.map frQ)≠0:=fun h=>by have:=(kX _).2 h;rw [e] at this;exact absurd this (by decide)
    grind
   ·rw [e]
    refine⟨fun h=>absurd h (by decide),fun h=> ?_⟩
    have:=(lR (an gl (point.map frQ))).1 (by rw [e];decide)
    exact absurd h (by grind)
   ·rw [e]
    refine⟨fun h=>absurd h (by decide),fun h=> ?_⟩
    have:=(kX (an gl (point.map frQ))).1 e
    rw [this] at h;exact absurd h (by grind)
  unfold eF
  rw [<-hpos]
  cases hA:(dn.map z0R).all fun r=>hdB r (an r.of (point.map frQ))
  ·rw [hA] at k26
   refine aa ?_
   rw [rl]
   simp only [gdF,STL,↓reduceIte,Int.reduceBEq,Int.reduceEq,GD,h1,k26,Bool.false_and]
  ·rw [hA] at k26
   refine aa ?_
   rw [rl]
   simp only [STL,↓reduceIte,Int.reduceBEq,Int.reduceEq,GD,h1,k26,k28,y1,ks,Bool.true_and]
 | cons r rest ih=>
  intro dn i h hd he
  obtain⟨g1,g2,g3⟩:=ar h
  have h1:(i:Int) < (rows.length:Int):=by omega
  have h0: 0<=(i:Int):=by omega
  have s1:aA 40 ((dn.map z0R).length+ [[T.lst 1 r.e (enc r.of),ti r.kd,ti 0]].length)=some ():=d9 (by simp;omega)
  have hE:eRs (dn.map z0R)++ [[T.lst 1 r.e (enc r.of),ti r.kd,ti 0]]=eRs ((dn++ [r]).map z0R):=by
   rw [List.map_append,<-Bx];rfl
  have:=ih (dn++ [r]) (i+1) g3 (by simp;omega) (by simpa using he)
  have hne:decide (dn++ [r]= [])=false:=by simp
  rw [hne] at this
  refine aa ?_
  rw [rl]
  simp only [STL,↓reduceIte,Int.reduceBEq,Int.reduceEq,GD,h1,h0,and_self,au,aW g1,s1,hE,next i (by omega)]
  exact this
theorem u9(rows:List R)(er eg ep:Bool)(n:Int)(gl:List Int)(point:List Fr)(hr:∀r∈rows,r.e=true->r.of= []):
  Or (.call 9) [LR er rows,I n,lst eg gl,LN ep point] []=
   some (if(aX n rows gl point).1=0 then [tb (eF rows gl point),ti 0,ti 0] else [tb false,ti (aX n rows gl point).1,ti (aX n rows gl point).2]):=by
 have k24:=u24 rows er eg n gl hr
 by_cases h1:(bI n rows gl).1=0
 ·obtain⟨_,a1,a2,a3,a4,a5,a6,a7⟩:=mV hr h1
  obtain⟨n,rfl⟩:∃m:Nat,n= (m:Int):=⟨n.toNat,by omega⟩
  simp only [Int.toNat_natCast] at a4
  by_cases h2:(point.length:Int)≠(n:Int)
  ·have h2':¬(point.length:Int)= (n:Int):=h2
   have ht:aX (n:Int) rows gl point= (9,0):=by unfold aX;rw [if_neg (by omega),if_pos h2]
   rw [ht]
   refine aa ?_
   rw [eq9]
   simp only [STL,↓reduceIte,Int.reduceBEq,Int.reduceEq,GD,k24,h1,aG,h2']
   try rfl
  ·have h2':(point.length:Int)= (n:Int):=by omega
   have kp:=u25 ep point (by omega)
   have ht:aX (n:Int) rows gl point=if(point.all fun x=>decide (FrR x))=true then(0,0) else(5,0):=by unfold aX;rw [if_neg (by omega),if_neg h2]
   rw [ht]
   cases hfp:point.all fun x=>decide (FrR x)
   ·rw [hfp] at kp
    refine aa ?_
    rw [eq9]
    simp only [STL,↓reduceIte,Int.reduceBEq,Int.reduceEq,GD,k24,h1,aG,h2',kp,Bool.not_false]
    try rfl
   ·rw [hfp] at kp
    have hpx:∀x∈point,FrR x:=fun x hx=>of_decide_eq_true (List.all_eq_true.1 hfp x hx)
    have:=u9n rows er eg ep n gl point (by omega) a3 a4 (by omega) a7 (by omega) hpx rows [] 0 rfl rfl rfl
    simp only [if_true]
    refine aa ?_
    rw [eq9]
    simp only [STL,↓reduceIte,Int.reduceBEq,Int.reduceEq,GD,k24,h1,aG,h2',kp,Bool.not_true,au]
    exact this
 ·have ht:aX n rows gl point=bI n rows gl:=by unfold aX;rw [if_pos h1]
  rw [ht,if_neg h1]
  refine aa ?_
  rw [eq9]
  simp only [STL,↓reduceIte,Int.reduceBEq,Int.reduceEq,GD,k24,h1]
end Go.Aev.Wd.Lg
