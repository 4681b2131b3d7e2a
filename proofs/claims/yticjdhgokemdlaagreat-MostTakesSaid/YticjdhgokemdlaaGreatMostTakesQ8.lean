import Derived.Test.YticjdhgokemdlaaGreatMostTakesQ6
set_option linter.unusedSimpArgs false
set_option linter.unusedVariables false
namespace Go.Aev.Wd
open Go Go.Aev Go.Aev.Gen
noncomputable abbrev lS:Key:=ak PROG 125 true 2 [(0,none),(3,none)] (2,1002)
noncomputable abbrev nq:Key:=ak PROG 125 true 2 [(0,none),(3,none)] (1,2)
noncomputable abbrev kM:Key:=ak PROG 91 true 3 [(0,none),(1,none),(2,none),(7,none),(28,none),(29,none),(30,none)] (1,2)
noncomputable abbrev mK:Key:=ak PROG 91 true 7 [(0,none),(1,none),(2,none),(7,none),(8,none),(9,none),(10,none),(28,none),(29,none),(30,none),(38,none),(39,none),(40,none)] (1,2)
noncomputable abbrev jC:Key:=ak PROG 126 true 6 [(0,none),(1,none),(5,none),(6,none),(20,none),(21,none),(22,none)] (0,0)
noncomputable abbrev lB:Key:=ak PROG 127 true 4 [(1,none),(5,none),(6,none),(13,none),(14,none),(15,none)] (0,0)
noncomputable abbrev mS:Key:=ak PROG 116 true 6 [(0,none),(1,none),(5,none)] (0,0)
noncomputable abbrev nI:Key:=ak PROG 71 true 2 [(0,none),(11,some 0),(12,some 0)] (1,2)
noncomputable abbrev mY:Key:=ak PROG 71 true 5 [(0,none),(13,none),(14,none)] (1,2)
noncomputable abbrev nk:Key:=ak PROG 16 true 3 [(0,none),(1,none),(5,some 0),(6,none)] (0,0)
noncomputable abbrev oz:Key:=ak PROG 150 true 3 [(1,none),(5,none),(16,none),(17,none),(18,none)] (0,0)
noncomputable abbrev kU:Key:=ak PROG 151 true 6 [(0,none),(1,none),(5,none),(20,none),(21,none),(22,none)] (0,0)
noncomputable abbrev mA:Key:=ak PROG 149 true 4 [(0,none),(1,none),(6,none),(7,none),(8,none)] (0,0)
noncomputable abbrev lX:Key:=ak PROG 149 true 11 [(0,none),(1,none),(9,none)] (0,0)
noncomputable abbrev jf:Key:=ak PROG 149 true 17 [(9,none),(10,none),(11,some 0),(12,none),(13,none),(14,none)] (0,0)
noncomputable abbrev my:Key:=ak PROG 149 true 21 [(9,none),(10,none),(11,some 0),(12,none),(13,none),(14,none),(16,none),(17,none)] (0,0)
noncomputable abbrev eH:Key:=ak PROG 149 true 27 [(9,none),(10,none),(11,some 0),(12,none),(13,none),(14,none),(16,none),(18,none),(19,none),(172,none),(173,none),(174,none)] (0,0)
noncomputable abbrev lA:Key:=ak PROG 149 true 41 [(9,none),(10,none),(11,some 0),(12,none),(13,none),(14,none),(16,none),(18,none),(233,none),(234,none),(235,none)] (0,0)
noncomputable abbrev iW:Key:=ak PROG 111 true 3 [(0,none),(3,none),(4,none)] (0,0)
theorem e35(O:Orc)(n:Int):stepO PROG ann O (Key.call 72) [I n] []=
 (G32 (O (.call 115) [Jr 0,I n] (Y4)) fun b p=>some [T.ptr [Jb b,T.lst 1 p.fst p.snd]]):=by kernel_rfl
theorem e48(O:Orc)(s:Bool)(y:T)(n:Int):stepO PROG ann O (Key.call 115) [Jr 0,I n] (Y2 s y)=
 (bif decide (n < 0) then G32 (O (.call 112) [Jr 0,AV.t (T.int IntKind.u64 (IntKind.u64.wrap (0 - IntKind.u64.wrap n)))] (Y2 s y)) fun b p=>some [T.nilp,Jb true,T.lst 1 p.fst p.snd] else G32 (O (.call 112) [Jr 0,AV.t (T.int IntKind.u64 (IntKind.u64.wrap n))] (Y2 s y)) fun b p=>some [T.nilp,Jb b,T.lst 1 p.fst p.snd]):=by kernel_rfl
theorem e65(O:Orc)(s:Bool)(y:T)(n:Int):stepO PROG ann O (Key.call 112) [Jr 0,AV.t (T.int .u64 n)] (Y2 s y)=
 (G32 (O (.call 125) [Jr 0] [Blk.box [B false,Jo 1],Blk.sl false 1 false [[T.int IntKind.u32 (IntKind.u32.wrap n)],[T.int IntKind.u32 (IntKind.u32.wrap (n.fdiv (2 ^ 32)))]]]) fun b p=>some [T.nilp,Jb b,T.lst 1 p.fst p.snd]):=by kernel_rfl
theorem e51(O:Orc)(s e:Bool)(d:JL):stepO PROG ann O (Key.call 125) [Jr 0] (Y10 s e d)=
 (O lS [Jr 0,I (d.length:Int)] (Y10 s e d)):=by kernel_rfl
theorem ue(O:Orc)(v3:Int)(c0_0 ec1:Bool)(c1:JL):stepO PROG ann O lS [Jr 0,I v3] (Y10 c0_0 ec1 c1)=
 (gdK (some (decide (v3 > 0))) (if 0<=IntKind.i64.wrap (v3 - 1)/\IntKind.i64.wrap (v3 - 1) < (c1.length:Int) then some () else none) fun x=>G26 (some (decide (v3 > 0))) c1[(IntKind.i64.wrap (v3 - 1)).toNat]? fun n=>bif bif decide (v3 > 0) then n==0 else false then O lS [Jr 0,I (IntKind.i64.wrap (v3 - 1))] (Y10 c0_0 ec1 c1) else Jg (inB 0 v3 (c1.length:Int)) fun x=>bif v3==0 then some [T.nilp,Jb false,T.lst 1 ec1 (List.take (v3.toNat - 0) c1)] else some [T.nilp,Jb c0_0,T.lst 1 ec1 (List.take (v3.toNat - 0) c1)]):=by kernel_rfl
theorem zW(O:Orc)(s e:Bool)(d:JL):stepO PROG ann O (Key.call 125) [Jr 0] (Y6 s e d)=
 (O nq [Jr 0,I (d.length:Int)] (Y6 s e d)):=by kernel_rfl
theorem xf(O:Orc)(v3:Int)(c0_0 ec0_1:Bool)(c0_1:JL):stepO PROG ann O nq [Jr 0,I v3] (Y6 c0_0 ec0_1 c0_1)=
 (gdK (some (decide (v3 > 0))) (if 0<=IntKind.i64.wrap (v3 - 1)/\IntKind.i64.wrap (v3 - 1) < (c0_1.length:Int) then some () else none) fun x=>G26 (some (decide (v3 > 0))) c0_1[(IntKind.i64.wrap (v3 - 1)).toNat]? fun n=>bif bif decide (v3 > 0) then n==0 else false then O nq [Jr 0,I (IntKind.i64.wrap (v3 - 1))] (Y6 c0_0 ec0_1 c0_1) else Jg (inB 0 v3 (c0_1.length:Int)) fun x=>bif v3==0 then some [T.nilp,Jb false,T.lst 1 ec0_1 (sub 0 v3 c0_1)] else some [T.nilp,Jb c0_0,T.lst 1 ec0_1 (sub 0 v3 c0_1)]):=by kernel_rfl
theorem e69(O:Orc)(s s2 eq2:Bool)(y:T)(d2:JL):stepO PROG ann O (Key.call 114) [Jr 0,AV.t (T.ptr [Jb s2,T.lst 1 eq2 d2])] (Y2 s y)=
 (Jg (aA 4 d2.length) fun x=>some [T.nilp,Jb s2,T.lst 1 false d2]):=by kernel_rfl
theorem e50(O:Orc)(s s2 eq2:Bool)(y:T)(d2:JL):stepO PROG ann O (Key.call 118) [Jr 0,AV.t (T.ptr [Jb s2,T.lst 1 eq2 d2])] (Y2 s y)=
 (G32 (O (.call 114) [Jr 0,AV.t (T.ptr [Jb s2,T.lst 1 eq2 d2])] (Y2 s y)) fun b p=>some [T.nilp,Jb (bif !b then decide ((p.snd.length:Int) > 0) else false),T.lst 1 p.fst p.snd]):=by kernel_rfl
theorem e49(O:Orc)(s s2 eq2 s3 eq3:Bool)(y:T)(d2 d3:JL):stepO PROG ann O (Key.call 94) [Jr 0,AV.t (T.ptr [Jb s2,T.lst 1 eq2 d2]),AV.t (T.ptr [Jb s3,T.lst 1 eq3 d3])] (Y2 s y)=
 (bif s2==s3 then G4 (O (.call 126) [Jl 1 eq2 d2,Jl 1 eq3 d3] []) fun p=>G32 (O (.call 125) [Jr 0] (Y10 s2 p.fst p.snd)) fun b p=>some [T.nilp,Jb b,T.lst 1 p.fst p.snd] else G9 (O (.call 116) [AV.t (T.ptr [Jb s2,T.lst 1 eq2 d2]),AV.t (T.ptr [Jb s3,T.lst 1 eq3 d3])] []) fun n=>bif decide (n>=0) then G4 (O (.call 127) [Jl 1 eq2 d2,Jl 1 eq3 d3] []) fun p=>G32 (O (.call 125) [Jr 0] (Y10 s2 p.fst p.snd)) fun b p=>some [T.nilp,Jb b,T.lst 1 p.fst p.snd] else G4 (O (.call 127) [Jl 1 eq3 d3,Jl 1 eq2 d2] []) fun p=>G32 (O (.call 125) [Jr 0] (Y10 s3 p.fst p.snd)) fun b p=>some [T.nilp,Jb b,T.lst 1 p.fst p.snd]):=by kernel_rfl
theorem rk(O:Orc)(s e s3 eq3:Bool)(d d3:JL):stepO PROG ann O (Key.call 94) [Jr 0,Jr 0,AV.t (T.ptr [Jb s3,T.lst 1 eq3 d3])] (Y6 s e d)=
 (bif s==s3 then G4 (O (.call 126) [Jl 1 e d,Jl 1 eq3 d3] []) fun p=>G32 (O (.call 125) [Jr 0] (Y10 s p.fst p.snd)) fun b p=>some [T.nilp,Jb b,T.lst 1 p.fst p.snd] else G9 (O (.call 116) [AV.t (T.ptr [Jb s,T.lst 1 e d]),AV.t (T.ptr [Jb s3,T.lst 1 eq3 d3])] []) fun n=>bif decide (n>=0) then G4 (O (.call 127) [Jl 1 e d,Jl 1 eq3 d3] []) fun p=>G32 (O (.call 125) [Jr 0] (Y10 s p.fst p.snd)) fun b p=>some [T.nilp,Jb b,T.lst 1 p.fst p.snd] else G4 (O (.call 127) [Jl 1 eq3 d3,Jl 1 e d] []) fun p=>G32 (O (.call 125) [Jr 0] (Y10 s3 p.fst p.snd)) fun b p=>some [T.nilp,Jb b,T.lst 1 p.fst p.snd]):=by kernel_rfl
theorem zU(O:Orc)(s e s3 eq3:Bool)(d d3:JL):stepO PROG ann O (Key.call 148) [Jr 0,Jr 0,AV.t (T.ptr [Jb s3,T.lst 1 eq3 d3])] (Y6 s e d)=
 (G32 (O (.call 118) [Jr 0,AV.t (T.ptr [Jb s3,T.lst 1 eq3 d3])] (Y4)) fun b p=>G32 (O (.call 94) [Jr 0,Jr 0,AV.t (T.ptr [Jb b,T.lst 1 p.fst p.snd])] (Y6 s e d)) fun b p=>some [T.nilp,Jb b,T.lst 1 p.fst p.snd]):=by kernel_rfl
theorem e37(O:Orc)(s s2 eq2 s3 eq3:Bool)(y:T)(d2 d3:JL):stepO PROG ann O (Key.call 91) [Jr 0,AV.t (T.ptr [Jb s2,T.lst 1 eq2 d2]),AV.t (T.ptr [Jb s3,T.lst 1 eq3 d3])] (Y2 s y)=
 (Jg (ap (IntKind.i64.wrap ((d2.length:Int)+ (d3.length:Int))) (IntKind.i64.wrap ((d2.length:Int)+ (d3.length:Int)))) fun x=>O kM [Jr 0,AV.t (T.ptr [Jb s2,T.lst 1 eq2 d2]),AV.t (T.ptr [Jb s3,T.lst 1 eq3 d3]),Jo 1,Jl 1 eq2 d2,I (d2.length:Int),I 0] [Blk.box [B s,AV.t y],Blk.sl false 1 false (List.replicate (IntKind.i64.wrap ((d2.length:Int)+ (d3.length:Int))).toNat [T.int IntKind.u32 0])]):=by kernel_rfl
theorem uB(O:Orc)(v1_0 ev1_1 v2_0 ev2_1 ev28 c0_0 ec1:Bool)(v1_1 v2_1 v28 c1:JL)(v29 v30:Int)(c0_1:T):stepO PROG ann O kM [Jr 0,AV.t (T.ptr [Jb v1_0,T.lst 1 ev1_1 v1_1]),AV.t (T.ptr [Jb v2_0,T.lst 1 ev2_1 v2_1]),Jo 1,Jl 1 ev28 v28,I v29,I v30] (Y16 c0_0 c0_1 ec1 c1)=
 (bif decide (v30 < v29) then G21 v30 v28 fun n=>O mK [Jr 0,AV.t (T.ptr [Jb v1_0,T.lst 1 ev1_1 v1_1]),AV.t (T.ptr [Jb v2_0,T.lst 1 ev2_1 v2_1]),Jo 1,I v30,AV.t (T.int IntKind.u32 n),AV.t (T.int IntKind.u64 0),Jl 1 ev28 v28,I v29,I v30,Jl 1 ev2_1 v2_1,I (v2_1.length:Int),I 0] (Y16 c0_0 c0_1 ec1 c1) else G32 (O (.call 125) [Jr 0] [Blk.box [B !v1_0==v2_0,Jo 1],Blk.sl false 1 ec1 c1]) fun b p=>some [T.nilp,Jb b,T.lst 1 p.fst p.snd]):=by kernel_rfl
theorem sU(O:Orc)(v1_0 ev1_1 v2_0 ev2_1 ev28 ev38 c0_0 ec1:Bool)(v1_1 v2_1 v28 v38 c1:JL)(v8 v9 v10 v29 v30 v39 v40:Int)(c0_1:T):stepO PROG ann O mK [Jr 0,AV.t (T.ptr [Jb v1_0,T.lst 1 ev1_1 v1_1]),AV.t (T.ptr [Jb v2_0,T.lst 1 ev2_1 v2_1]),Jo 1,I v8,AV.t (T.int IntKind.u32 v9),AV.t (T.int IntKind.u64 v10),Jl 1 ev28 v28,I v29,I v30,Jl 1 ev38 v38,I v39,I v40] (Y16 c0_0 c0_1 ec1 c1)=
 (bif decide (v40 < v39) then G21 v40 v38 fun n=>Jg (if 0<=IntKind.i64.wrap (v8+v40)/\IntKind.i64.wrap (v8+v40) < (c1.length:Int) then some () else none) fun x=>G22 c1[(IntKind.i64.wrap (v8+v40)).toNat]? fun n_1=>Jg (if 0<=IntKind.i64.wrap (v8+v40)/\IntKind.i64.wrap (v8+v40) < (c1.length:Int) then some () else none) fun x=>Jg (aB (IntKind.i64.wrap (v8+v40)).toNat 0 [T.int IntKind.u32 (IntKind.u32.wrap (IntKind.u64.wrap (v10+IntKind.u64.wrap (IntKind.u64.wrap (IntKind.u64.wrap v9 * IntKind.u64.wrap n)+IntKind.u64.wrap n_1))))] c1) fun l=>O mK [Jr 0,AV.t (T.ptr [Jb v1_0,T.lst 1 ev1_1 v1_1]),AV.t (T.ptr [Jb v2_0,T.lst 1 ev2_1 v2_1]),Jo 1,I v8,AV.t (T.int IntKind.u32 v9),AV.t (T.int IntKind.u64 ((IntKind.u64.wrap (v10+IntKind.u64.wrap (IntKind.u64.wrap (IntKind.u64.wrap v9 * IntKind.u64.wrap n)+IntKind.u64.wrap n_1))).fdiv (2 ^ 32))),Jl 1 ev28 v28,I v29,I v30,Jl 1 ev38 v38,I v39,I (Jw v40)] (Y16 c0_0 c0_1 ec1 l) else Jg (if 0<=IntKind.i64.wrap (v8+ (v2_1.length:Int))/\IntKind.i64.wrap (v8+ (v2_1.length:Int)) < (c1.length:Int) then some () else none) fun x=>Jg (aB (IntKind.i64.wrap (v8+ (v2_1.length:Int))).toNat 0 [T.int IntKind.u32 (IntKind.u32.wrap v10)] c1) fun l=>O kM [Jr 0,AV.t (T.ptr [Jb v1_0,T.lst 1 ev1_1 v1_1]),AV.t (T.ptr [Jb v2_0,T.lst 1 ev2_1 v2_1]),Jo 1,Jl 1 ev28 v28,I v29,I (Jw v30)] (Y16 c0_0 c0_1 ec1 l)):=by kernel_rfl
theorem e52(O:Orc)(s s2 eq2 s3 eq3 s4:Bool)(y y4:T)(d2 d3:JL):stepO PROG ann O (Key.call 138) [Jr 0,AV.t (T.ptr [Jb s2,T.lst 1 eq2 d2]),AV.t (T.ptr [Jb s3,T.lst 1 eq3 d3]),Jr 1] [Blk.box [B s,AV.t y],Blk.box [B s4,AV.t y4]]=
 (G32 (O (.call 114) [Jr 0,AV.t (T.ptr [Jb s3,T.lst 1 eq3 d3])] (Y4)) fun b p=>G33 (O (.call 139) [Jr 0,AV.t (T.ptr [Jb s2,T.lst 1 eq2 d2]),AV.t (T.ptr [Jb s3,T.lst 1 eq3 d3]),Jr 1] [Blk.box [B s,AV.t y],Blk.box [B s4,AV.t y4]]) fun b_1 p_1 b_2 p_2=>bif b_2 then bif b then G34 (O (.call 72) [I 1] []) fun x=>G32 (O (.call 94) [Jr 0,Jr 0,AV.t x] (Y6 b_1 p_1.fst p_1.snd)) fun b_3 p_3=>G32 (O (.call 148) [Jr 0,Jr 0,AV.t (T.ptr [Jb b,T.lst 1 p.fst p.snd])] (Y6 b_2 p_2.fst p_2.snd)) fun b p=>some [T.nilp,T.nilp,Jb b_3,T.lst 1 p_3.fst p_3.snd,Jb b,T.lst 1 p.fst p.snd] else G34 (O (.call 72) [I 1] []) fun x=>G32 (O (.call 148) [Jr 0,Jr 0,AV.t x] (Y6 b_1 p_1.fst p_1.snd)) fun b_3 p_3=>G32 (O (.call 94) [Jr 0,Jr 0,AV.t (T.ptr [Jb b,T.lst 1 p.fst p.snd])] (Y6 b_2 p_2.fst p_2.snd)) fun b p=>some [T.nilp,T.nilp,Jb b_3,T.lst 1 p_3.fst p_3.snd,Jb b,T.lst 1 p.fst p.snd] else some [T.nilp,T.nilp,Jb b_1,T.lst 1 p_1.fst p_1.snd,Jb b_2,T.lst 1 p_2.fst p_2.snd]):=by kernel_rfl
theorem e70(O:Orc)(s s2 eq2 s3 eq3 s4:Bool)(y y4:T)(d2 d3:JL):stepO PROG ann O (Key.call 139) [Jr 0,AV.t (T.ptr [Jb s2,T.lst 1 eq2 d2]),AV.t (T.ptr [Jb s3,T.lst 1 eq3 d3]),Jr 1] [Blk.box [B s,AV.t y],Blk.box [B s4,AV.t y4]]=
 (G9 (O (.call 116) [AV.t (T.ptr [Jb s2,T.lst 1 eq2 d2]),AV.t (T.ptr [Jb s3,T.lst 1 eq3 d3])] []) fun n=>bif decide (n < 0) then G32 (O (.call 114) [Jr 0,AV.t (T.ptr [Jb s2,T.lst 1 eq2 d2])] (Y2 s4 y4)) fun b p=>G32 (O (.call 115) [Jr 0,I 0] (Y2 s y)) fun b_1 p_1=>some [T.nilp,T.nilp,Jb b_1,T.lst 1 p_1.fst p_1.snd,Jb b,T.lst 1 p.fst p.snd] else bif decide ((d2.length:Int) < 3) then G35 (O (.call 111) [AV.t (T.ptr [Jb s2,T.lst 1 eq2 d2])] []) fun n=>G35 (O (.call 111) [AV.t (T.ptr [Jb s3,T.lst 1 eq3 d3])] []) fun n_1=>Jg (if n_1=0 then none else some ()) fun x=>G32 (O (.call 112) [Jr 0,AV.t (T.int IntKind.u64 (IntKind.u64.wrap (n.tdiv n_1)))] (Y2 s y)) fun b p=>Jg (if n_1=0 then none else some ()) fun x=>G32 (O (.call 112) [Jr 0,AV.t (T.int IntKind.u64 (n.tmod n_1))] (Y2 s4 y4)) fun b p_1=>G32 (O (.call 125) [Jr 0] [Blk.box [B !s2==s3,Jl 1 p.fst p.snd]]) fun b p=>G32 (O (.call 125) [Jr 0] (Y6 s2 p_1.fst p_1.snd)) fun b_1 p_2=>some [T.nilp,T.nilp,Jb b,T.lst 1 p.fst p.snd,Jb b_1,T.lst 1 p_2.fst p_2.snd] else G20 (O (.call 149) [Jl 1 eq2 d2,Jl 1 eq3 d3] []) fun p p_1=>G32 (O (.call 125) [Jr 0] [Blk.box [B !s2==s3,Jo 1],Blk.sl false 1 p.fst p.snd]) fun b p=>G32 (O (.call 125) [Jr 0] (Y10 s2 p_1.fst p_1.snd)) fun b_1 p_2=>some [T.nilp,T.nilp,Jb b,T.lst 1 p.fst p.snd,Jb b_1,T.lst 1 p_2.fst p_2.snd]):=by kernel_rfl
theorem e66(O:Orc)(ex ey:Bool)(x y:JL):stepO PROG ann O (Key.call 126) [Jl 1 ex x,Jl 1 ey y] []=
 (bif decide ((x.length:Int) < (y.length:Int)) then Jg (ap (IntKind.i64.wrap ((y.length:Int)+1)) (IntKind.i64.wrap ((y.length:Int)+1))) fun x_1=>O jC [Jl 1 ey y,Jl 1 ex x,Jo 0,AV.t (T.int IntKind.u64 0),Jl 1 ey y,I (y.length:Int),I 0] [Blk.sl false 1 false (List.replicate (IntKind.i64.wrap ((y.length:Int)+1)).toNat [T.int IntKind.u32 0])] else Jg (ap (IntKind.i64.wrap ((x.length:Int)+1)) (IntKind.i64.wrap ((x.length:Int)+1))) fun x_1=>O jC [Jl 1 ex x,Jl 1 ey y,Jo 0,AV.t (T.int IntKind.u64 0),Jl 1 ex x,I (x.length:Int),I 0] [Blk.sl false 1 false (List.replicate (IntKind.i64.wrap ((x.length:Int)+1)).toNat [T.int IntKind.u32 0])]):=by kernel_rfl
theorem u5(O:Orc)(ev0 ev1 ev20 ec0:Bool)(v0 v1 v20 c0:JL)(v6 v21 v22:Int):stepO PROG ann O jC [Jl 1 ev0 v0,Jl 1 ev1 v1,Jo 0,AV.t (T.int IntKind.u64 v6),Jl 1 ev20 v20,I v21,I v22] (Y1 ec0 c0)=
 (bif decide (v22 < v21) then G21 v22 v20 fun n=>bif decide (v22 < (v1.length:Int)) then G21 v22 v1 fun n_1=>gdK none (if 0<=v22/\v22 < (c0.length:Int) then some () else none) fun x=>Jg (aB v22.toNat 0 [T.int IntKind.u32 (IntKind.u32.wrap (IntKind.u64.wrap (IntKind.u64.wrap (v6+IntKind.u64.wrap n)+IntKind.u64.wrap n_1)))] c0) fun l=>O jC [Jl 1 ev0 v0,Jl 1 ev1 v1,Jo 0,AV.t (T.int IntKind.u64 ((IntKind.u64.wrap (IntKind.u64.wrap (v6+IntKind.u64.wrap n)+IntKind.u64.wrap n_1)).fdiv (2 ^ 32))),Jl 1 ev20 v20,I v21,I (Jw v22)] (Y1 ec0 l) else gdK none (if 0<=v22/\v22 < (c0.length:Int) then some () else none) fun x=>Jg (aB v22.toNat 0 [T.int IntKind.u32 (IntKind.u32.wrap (IntKind.u64.wrap (v6+IntKind.u64.wrap n)))] c0) fun l=>O jC [Jl 1 ev0 v0,Jl 1 ev1 v1,Jo 0,AV.t (T.int IntKind.u64 ((IntKind.u64.wrap (v6+IntKind.u64.wrap n)).fdiv (2 ^ 32))),Jl 1 ev20 v20,I v21,I (Jw v22)] (Y1 ec0 l) else Jg (if 0<=(v0.length:Int)/\(v0.length:Int) < (c0.length:Int) then some () else none) fun x=>Jg (aB (v0.length:Int).toNat 0 [T.int IntKind.u32 (IntKind.u32.wrap v6)] c0) fun l=>some [T.lst 1 ec0 l]):=by kernel_rfl
theorem e68(O:Orc)(ex ey:Bool)(x y:JL):stepO PROG ann O (Key.call 127) [Jl 1 ex x,Jl 1 ey y] []=
 (Jg (ap (x.length:Int) (x.length:Int)) fun x_1=>O lB [Jl 1 ey y,Jo 0,AV.t (T.int IntKind.u64 0),Jl 1 ex x,I (x.length:Int),I 0] [Blk.sl false 1 false (List.replicate (x.length:Int).toNat [T.int IntKind.u32 0])]):=by kernel_rfl
theorem xc(O:Orc)(ev1 ev13 ec0:Bool)(v1 v13 c0:JL)(v6 v14 v15:Int):stepO PROG ann O lB [Jl 1 ev1 v1,Jo 0,AV.t (T.int IntKind.u64 v6),Jl 1 ev13 v13,I v14,I v15] (Y1 ec0 c0)=
 (bif decide (v15 < v14) then G21 v15 v13 fun n=>bif decide (v15 < (v1.length:Int)) then G21 v15 v1 fun n_1=>gdK none (if 0<=v15/\v15 < (c0.length:Int) then some () else none) fun x=>Jg (aB v15.toNat 0 [T.int IntKind.u32 (IntKind.u32.wrap (IntKind.u64.wrap (IntKind.u64.wrap (IntKind.u64.wrap n - v6) - IntKind.u64.wrap n_1)))] c0) fun l=>O lB [Jl 1 ev1 v1,Jo 0,AV.t (T.int IntKind.u64 ((IntKind.u64.wrap (IntKind.u64.wrap (IntKind.u64.wrap n - v6) - IntKind.u64.wrap n_1)).fdiv (2 ^ 63))),Jl 1 ev13 v13,I v14,I (Jw v15)] (Y1 ec0 l) else gdK none (if 0<=v15/\v15 < (c0.length:Int) then some () else none) fun x=>Jg (aB v15.toNat 0 [T.int IntKind.u32 (IntKind.u32.wrap (IntKind.u64.wrap (IntKind.u64.wrap n - v6)))] c0) fun l=>O lB [Jl 1 ev1 v1,Jo 0,AV.t (T.int IntKind.u64 ((IntKind.u64.wrap (IntKind.u64.wrap n - v6)).fdiv (2 ^ 63))),Jl 1 ev13 v13,I v14,I (Jw v15)] (Y1 ec0 l) else some [T.lst 1 ec0 c0]):=by kernel_rfl
theorem e67(O:Orc)(s2 eq2 s3 eq3:Bool)(d2 d3:JL):stepO PROG ann O (Key.call 116) [AV.t (T.ptr [Jb s2,T.lst 1 eq2 d2]),AV.t (T.ptr [Jb s3,T.lst 1 eq3 d3])] []=
 (bif !(d2.length:Int)== (d3.length:Int) then bif decide ((d2.length:Int) < (d3.length:Int)) then some [Ji (-1)] else some [Ji 1] else O mS [AV.t (T.ptr [Jb s2,T.lst 1 eq2 d2]),AV.t (T.ptr [Jb s3,T.lst 1 eq3 d3]),I (IntKind.i64.wrap ((d2.length:Int) - 1))] []):=by kernel_rfl
theorem sN(O:Orc)(v0_0 ev0_1 v1_0 ev1_1:Bool)(v0_1 v1_1:JL)(v5:Int):stepO PROG ann O mS [AV.t (T.ptr [Jb v0_0,T.lst 1 ev0_1 v0_1]),AV.t (T.ptr [Jb v1_0,T.lst 1 ev1_1 v1_1]),I v5] []=
 (bif decide (v5>=0) then G21 v5 v0_1 fun n=>G21 v5 v1_1 fun n_1=>bif !n==n_1 then G21 v5 v0_1 fun n=>G21 v5 v1_1 fun n_2=>bif decide (n < n_2) then some [Ji (-1)] else some [Ji 1] else O mS [AV.t (T.ptr [Jb v0_0,T.lst 1 ev0_1 v0_1]),AV.t (T.ptr [Jb v1_0,T.lst 1 ev1_1 v1_1]),I (IntKind.i64.wrap (v5 - 1))] [] else some [Ji 0]):=by kernel_rfl
theorem Bh(O:Orc)(s s2 eq2:Bool)(y:T)(d2:JL)(r2:List T):stepO PROG ann O (Key.call 114) [Jr 0,AV.t (T.ptr (Jb s2::T.lst 1 eq2 d2::r2))] (Y2 s y)=
 (Jg (aA 4 d2.length) fun x=>some [T.nilp,Jb s2,T.lst 1 false d2]):=by kernel_rfl
theorem zu(O:Orc)(s t s2 eq2:Bool)(y u:T)(d2:JL):stepO PROG ann O (Key.call 114) [Jr 0,AV.t (T.ptr [Jb s2,T.lst 1 eq2 d2])] (Y8 s y t u)=
 (Jg (aA 4 d2.length) fun x=>some [T.nilp,Jb s2,T.lst 1 false d2,Jb t,u]):=by kernel_rfl
theorem C9(O:Orc)(s t s2 eq2:Bool)(y u:T)(d2:JL):stepO PROG ann O (Key.call 114) [AV.ref (Id.c 0) 2,AV.t (T.ptr [Jb s2,T.lst 1 eq2 d2])] (Y8 s y t u)=
 (Jg (aA 4 d2.length) fun x=>some [T.nilp,Jb s,y,Jb s2,T.lst 1 false d2]):=by kernel_rfl
theorem BO(O:Orc)(s e:Bool)(d:JL):stepO PROG ann O (Key.call 114) [Jr 0,Jr 0] (Y6 s e d)=
 (Jg (aA 4 d.length) fun x=>some [T.nilp,Jb s,T.lst 1 false d]):=by kernel_rfl
theorem Cm(O:Orc)(s s2 eq2:Bool)(y:T)(d2:JL)(r2:List T):stepO PROG ann O (Key.call 118) [Jr 0,AV.t (T.ptr (Jb s2::T.lst 1 eq2 d2::r2))] (Y2 s y)=
 (G32 (O (.call 114) [Jr 0,AV.t (T.ptr (Jb s2::T.lst 1 eq2 d2::r2))] (Y2 s y)) fun b p=>some [T.nilp,Jb (bif !b then decide ((p.snd.length:Int) > 0) else false),T.lst 1 p.fst p.snd]):=by kernel_rfl
theorem Da(O:Orc)(s e:Bool)(d:JL):stepO PROG ann O (Key.call 118) [Jr 0,Jr 0] (Y6 s e d)=
 (G32 (O (.call 114) [Jr 0,Jr 0] (Y6 s e d)) fun b p=>some [T.nilp,Jb (bif !b then decide ((p.snd.length:Int) > 0) else false),T.lst 1 p.fst p.snd]):=by kernel_rfl
theorem e71(O:Orc)(s s2 eq2:Bool)(y:T)(d2:JL):stepO PROG ann O (Key.call 110) [Jr 0,AV.t (T.ptr [Jb s2,T.lst 1 eq2 d2])] (Y2 s y)=
 (G32 (O (.call 114) [Jr 0,AV.t (T.ptr [Jb s2,T.lst 1 eq2 d2])] (Y2 s y)) fun b p=>some [T.nilp,Jb false,T.lst 1 p.fst p.snd]):=by kernel_rfl
theorem e72(O:Orc)(s2 eq2:Bool)(d2:JL)(r2:List T):stepO PROG ann O (Key.call 75) [AV.t (T.ptr (Jb s2::T.lst 1 eq2 d2::r2))] []=
 (bif (d2.length:Int)==0 then some [Ji 0] else bif s2 then some [Ji (-1)] else some [Ji 1]):=by kernel_rfl
theorem e73(O:Orc)(s s2 eq2 s3 eq3:Bool)(y:T)(d2 d3:JL):stepO PROG ann O (Key.call 113) [Jr 0,AV.t (T.ptr [Jb s2,T.lst 1 eq2 d2]),AV.t (T.ptr [Jb s3,T.lst 1 eq3 d3])] (Y2 s y)=
 (G33 (O (.call 138) [Jr 0,AV.t (T.ptr [Jb s2,T.lst 1 eq2 d2]),AV.t (T.ptr [Jb s3,T.lst 1 eq3 d3]),Jr 1] [Blk.box [B false,AV.t (T.emp true)],Blk.box [B s,AV.t y]]) fun b p b p=>some [T.nilp,Jb b,T.lst 1 p.fst p.snd]):=by kernel_rfl
theorem e77(O:Orc)(s s2 eq2 s3 eq3:Bool)(y:T)(d2 d3:JL):stepO PROG ann O (Key.call 117) [Jr 0,AV.t (T.ptr [Jb s2,T.lst 1 eq2 d2]),AV.t (T.ptr [Jb s3,T.lst 1 eq3 d3])] (Y2 s y)=
 (G33 (O (.call 139) [Jr 0,AV.t (T.ptr [Jb s2,T.lst 1 eq2 d2]),AV.t (T.ptr [Jb s3,T.lst 1 eq3 d3]),Jr 1] [Blk.box [B s,AV.t y],Blk.box [B false,AV.t (T.emp true)]]) fun b p b_1 p_1=>some [T.nilp,Jb b,T.lst 1 p.fst p.snd]):=by kernel_rfl
theorem e55(O:Orc)(s2 eq2 s3 eq3:Bool)(d2 d3:JL):stepO PROG ann O (Key.call 73) [AV.t (T.ptr [Jb s2,T.lst 1 eq2 d2]),AV.t (T.ptr [Jb s3,T.lst 1 eq3 d3])] []=
 (bif !s2==s3 then bif s2 then some [Ji (-1)] else some [Ji 1] else bif s2 then G9 (O (.call 116) [AV.t (T.ptr [Jb s3,T.lst 1 eq3 d3]),AV.t (T.ptr [Jb s2,T.lst 1 eq2 d2])] []) fun n=>some [Ji n] else G9 (O (.call 116) [AV.t (T.ptr [Jb s2,T.lst 1 eq2 d2]),AV.t (T.ptr [Jb s3,T.lst 1 eq3 d3])] []) fun n=>some [Ji n]):=by kernel_rfl
theorem e54(O:Orc)(s s2 eq2 s3 eq3:Bool)(y:T)(d2 d3:JL):stepO PROG ann O (Key.call 71) [Jr 0,AV.t T.nilp,AV.t T.nilp,AV.t (T.ptr [Jb s2,T.lst 1 eq2 d2]),AV.t (T.ptr [Jb s3,T.lst 1 eq3 d3])] (Y2 s y)=
 (G32 (O (.call 110) [Jr 0,AV.t (T.ptr [Jb s2,T.lst 1 eq2 d2])] (Y4)) fun b p=>G32 (O (.call 110) [Jr 0,AV.t (T.ptr [Jb s3,T.lst 1 eq3 d3])] (Y4)) fun b_1 p_1=>O nI [Jr 0,AV.t (T.ptr [Jb b,T.lst 1 p.fst p.snd]),AV.t (T.ptr [Jb b_1,T.lst 1 p_1.fst p_1.snd])] (Y2 s y)):=by kernel_rfl
theorem pI(O:Orc)(v11_0 ev11_1 v12_0 ev12_1 c0_0:Bool)(v11_1 v12_1:JL)(c0_1:T):stepO PROG ann O nI [Jr 0,AV.t (T.ptr [Jb v11_0,T.lst 1 ev11_1 v11_1]),AV.t (T.ptr [Jb v12_0,T.lst 1 ev12_1 v12_1])] (Y2 c0_0 c0_1)=
 (G9 (O (.call 75) [AV.t (T.ptr [Jb v12_0,T.lst 1 ev12_1 v12_1])] []) fun n=>bif !n==0 then bif bif decide ((v11_1.length:Int) < 3) then decide ((v12_1.length:Int) < 3) else false then G35 (O (.call 111) [AV.t (T.ptr [Jb v11_0,T.lst 1 ev11_1 v11_1])] []) fun n=>G35 (O (.call 111) [AV.t (T.ptr [Jb v12_0,T.lst 1 ev12_1 v12_1])] []) fun n_1=>O mY [Jr 0,AV.t (T.int IntKind.u64 n),AV.t (T.int IntKind.u64 n_1)] (Y2 c0_0 c0_1) else G32 (O (.call 113) [Jr 0,AV.t (T.ptr [Jb v11_0,T.lst 1 ev11_1 v11_1]),AV.t (T.ptr [Jb v12_0,T.lst 1 ev12_1 v12_1])] (Y4)) fun b p=>O nI [Jr 0,AV.t (T.ptr [Jb v12_0,T.lst 1 ev12_1 v12_1]),AV.t (T.ptr [Jb b,T.lst 1 p.fst p.snd])] (Y2 c0_0 c0_1) else G32 (O (.call 114) [Jr 0,AV.t (T.ptr [Jb v11_0,T.lst 1 ev11_1 v11_1])] (Y2 c0_0 c0_1)) fun b p=>some [T.nilp,Jb b,T.lst 1 p.fst p.snd]):=by kernel_rfl
theorem xG(O:Orc)(v13 v14:Int)(c0_0:Bool)(c0_1:T):stepO PROG ann O mY [Jr 0,AV.t (T.int IntKind.u64 v13),AV.t (T.int IntKind.u64 v14)] (Y2 c0_0 c0_1)=
 (bif decide (v14 > 0) then Jg (if v14=0 then none else some ()) fun x=>O mY [Jr 0,AV.t (T.int IntKind.u64 v14),AV.t (T.int IntKind.u64 (v13.tmod v14))] (Y2 c0_0 c0_1) else G32 (O (.call 112) [Jr 0,AV.t (T.int IntKind.u64 v13)] (Y2 c0_0 c0_1)) fun b p=>some [T.nilp,Jb b,T.lst 1 p.fst p.snd]):=by kernel_rfl
theorem e61(O:Orc)(s t s2 eq2 s3 eq3:Bool)(y u:T)(d2 d3:JL):stepO PROG ann O (Key.call 74) [Jr 0,AV.t (T.ptr [Jb s2,T.lst 1 eq2 d2]),AV.t (T.ptr [Jb s3,T.lst 1 eq3 d3])] (Y8 s y t u)=
 (G32 (O (.call 71) [Jr 0,AV.t T.nilp,AV.t T.nilp,AV.t (T.ptr [Jb s2,T.lst 1 eq2 d2]),AV.t (T.ptr [Jb s3,T.lst 1 eq3 d3])] (Y4)) fun b p=>G32 (O (.call 117) [Jr 0,AV.t (T.ptr [Jb s2,T.lst 1 eq2 d2]),AV.t (T.ptr [Jb b,T.lst 1 p.fst p.snd])] (Y4)) fun b_1 p_1=>G32 (O (.call 117) [Jr 0,AV.t (T.ptr [Jb s3,T.lst 1 eq3 d3]),AV.t (T.ptr [Jb b,T.lst 1 p.fst p.snd])] (Y4)) fun b p=>bif b then G32 (O (.call 118) [Jr 0,Jr 0] (Y6 b_1 p_1.fst p_1.snd)) fun b_2 p_2=>G32 (O (.call 118) [Jr 0,Jr 0] (Y6 b p.fst p.snd)) fun b p=>G36 (O (.call 114) [Jr 0,AV.t (T.ptr [Jb b_2,T.lst 1 p_2.fst p_2.snd])] (Y8 s y t u)) fun b_3 p_3 b_4 p_4=>G36 (O (.call 114) [AV.ref (Id.c 0) 2,AV.t (T.ptr [Jb b,T.lst 1 p.fst p.snd])] (Y13 b_3 p_3.fst p_3.snd b_4 p_4.fst p_4.snd)) fun b p b_5 p_5=>some [T.nilp,Jb b,T.lst 1 p.fst p.snd,Jb b_5,T.lst 1 p_5.fst p_5.snd] else G36 (O (.call 114) [Jr 0,AV.t (T.ptr [Jb b_1,T.lst 1 p_1.fst p_1.snd])] (Y8 s y t u)) fun b_2 p_2 b_3 p_3=>G36 (O (.call 114) [AV.ref (Id.c 0) 2,AV.t (T.ptr [Jb b,T.lst 1 p.fst p.snd])] (Y13 b_2 p_2.fst p_2.snd b_3 p_3.fst p_3.snd)) fun b p b_4 p_4=>some [T.nilp,Jb b,T.lst 1 p.fst p.snd,Jb b_4,T.lst 1 p_4.fst p_4.snd]):=by kernel_rfl
theorem e74(O:Orc)(s2 eq2 t2 f2:Bool)(d2 g2:JL):stepO PROG ann O (Key.call 92) [AV.t (T.ptr [Jb s2,T.lst 1 eq2 d2,Jb t2,T.lst 1 f2 g2])] []=
 (G32 (O (.call 114) [Jr 0,AV.t (T.ptr [Jb s2,T.lst 1 eq2 d2,Jb t2,T.lst 1 f2 g2])] (Y4)) fun b p=>some [T.ptr [Jb b,T.lst 1 p.fst p.snd]]):=by kernel_rfl
theorem e75(O:Orc)(s2 eq2 t2 f2:Bool)(d2 g2:JL):stepO PROG ann O (Key.call 93) [AV.t (T.ptr [Jb s2,T.lst 1 eq2 d2,Jb t2,T.lst 1 f2 g2])] []=
 (G9 (O (.call 75) [AV.t (T.ptr [Jb t2,T.lst 1 f2 g2])] []) fun n=>bif n==0 then G34 (O (.call 72) [I 1] []) fun x=>some [x] else G32 (O (.call 114) [Jr 0,AV.t (T.ptr [Jb t2,T.lst 1 f2 g2])] (Y4)) fun b p=>some [T.ptr [Jb b,T.lst 1 p.fst p.snd]]):=by kernel_rfl
theorem e60(O:Orc)(s2 eq2 t2 f2:Bool)(d2 g2:JL):stepO PROG ann O (Key.call 37) [AV.t (T.ptr [Jb s2,T.lst 1 eq2 d2,Jb t2,T.lst 1 f2 g2])] []=
 (G9 (O (.call 75) [AV.t (T.ptr [Jb s2,T.lst 1 eq2 d2,Jb t2,T.lst 1 f2 g2])] []) fun n=>some [Ji n]):=by kernel_rfl
theorem e56(O:Orc)(s t s2 eq2 t2 f2 s3 eq3 t3 f3:Bool)(y u:T)(d2 g2 d3 g3:JL):stepO PROG ann O (Key.call 46) [Jr 0,AV.t (T.ptr [Jb s2,T.lst 1 eq2 d2,Jb t2,T.lst 1 f2 g2]),AV.t (T.ptr [Jb s3,T.lst 1 eq3 d3,Jb t3,T.lst 1 f3 g3])] (Y8 s y t u)=
 (G34 (O (.call 92) [AV.t (T.ptr [Jb s2,T.lst 1 eq2 d2,Jb t2,T.lst 1 f2 g2])] []) fun x=>G34 (O (.call 92) [AV.t (T.ptr [Jb s3,T.lst 1 eq3 d3,Jb t3,T.lst 1 f3 g3])] []) fun x_1=>G32 (O (.call 91) [Jr 0,AV.t x,AV.t x_1] (Y4)) fun b p=>G34 (O (.call 93) [AV.t (T.ptr [Jb s2,T.lst 1 eq2 d2,Jb t2,T.lst 1 f2 g2])] []) fun x=>G34 (O (.call 93) [AV.t (T.ptr [Jb s3,T.lst 1 eq3 d3,Jb t3,T.lst 1 f3 g3])] []) fun x_2=>G32 (O (.call 91) [Jr 0,AV.t x,AV.t x_2] (Y4)) fun b_1 p_1=>G36 (O (.call 74) [Jr 0,AV.t (T.ptr [Jb b,T.lst 1 p.fst p.snd]),AV.t (T.ptr [Jb b_1,T.lst 1 p_1.fst p_1.snd])] (Y8 s y t u)) fun b p b_2 p_2=>some [T.nilp,Jb b,T.lst 1 p.fst p.snd,Jb b_2,T.lst 1 p_2.fst p_2.snd]):=by kernel_rfl
theorem e58(O:Orc)(s t s2 eq2 t2 f2 s3 eq3 t3 f3:Bool)(y u:T)(d2 g2 d3 g3:JL):stepO PROG ann O (Key.call 47) [Jr 0,AV.t (T.ptr [Jb s2,T.lst 1 eq2 d2,Jb t2,T.lst 1 f2 g2]),AV.t (T.ptr [Jb s3,T.lst 1 eq3 d3,Jb t3,T.lst 1 f3 g3])] (Y8 s y t u)=
 (G34 (O (.call 92) [AV.t (T.ptr [Jb s2,T.lst 1 eq2 d2,Jb t2,T.lst 1 f2 g2])] []) fun x=>G34 (O (.call 93) [AV.t (T.ptr [Jb s3,T.lst 1 eq3 d3,Jb t3,T.lst 1 f3 g3])] []) fun x_1=>G32 (O (.call 91) [Jr 0,AV.t x,AV.t x_1] (Y4)) fun b p=>G34 (O (.call 92) [AV.t (T.ptr [Jb s3,T.lst 1 eq3 d3,Jb t3,T.lst 1 f3 g3])] []) fun x=>G34 (O (.call 93) [AV.t (T.ptr [Jb s2,T.lst 1 eq2 d2,Jb t2,T.lst 1 f2 g2])] []) fun x_2=>G32 (O (.call 91) [Jr 0,AV.t x,AV.t x_2] (Y4)) fun b_1 p_1=>G32 (O (.call 94) [Jr 0,Jr 0,AV.t (T.ptr [Jb b_1,T.lst 1 p_1.fst p_1.snd])] (Y6 b p.fst p.snd)) fun b p=>G34 (O (.call 93) [AV.t (T.ptr [Jb s2,T.lst 1 eq2 d2,Jb t2,T.lst 1 f2 g2])] []) fun x=>G34 (O (.call 93) [AV.t (T.ptr [Jb s3,T.lst 1 eq3 d3,Jb t3,T.lst 1 f3 g3])] []) fun x_3=>G32 (O (.call 91) [Jr 0,AV.t x,AV.t x_3] (Y4)) fun b_2 p_2=>G36 (O (.call 74) [Jr 0,AV.t (T.ptr [Jb b,T.lst 1 p.fst p.snd]),AV.t (T.ptr [Jb b_2,T.lst 1 p_2.fst p_2.snd])] (Y8 s y t u)) fun b p b_3 p_3=>some [T.nilp,Jb b,T.lst 1 p.fst p.snd,Jb b_3,T.lst 1 p_3.fst p_3.snd]):=by kernel_rfl
theorem e59(O:Orc)(s t s2 eq2 t2 f2 s3 eq3 t3 f3:Bool)(y u:T)(d2 g2 d3 g3:JL):stepO PROG ann O (Key.call 48) [Jr 0,AV.t (T.ptr [Jb s2,T.lst 1 eq2 d2,Jb t2,T.lst 1 f2 g2]),AV.t (T.ptr [Jb s3,T.lst 1 eq3 d3,Jb t3,T.lst 1 f3 g3])] (Y8 s y t u)=
 (G36 (O (.call 95) [Jr 0,AV.t (T.ptr [Jb s3,T.lst 1 eq3 d3,Jb t3,T.lst 1 f3 g3])] (Y5)) fun b p b_1 p_1=>G36 (O (.call 47) [Jr 0,AV.t (T.ptr [Jb s2,T.lst 1 eq2 d2,Jb t2,T.lst 1 f2 g2]),AV.t (T.ptr [Jb b,T.lst 1 p.fst p.snd,Jb b_1,T.lst 1 p_1.fst p_1.snd])] (Y8 s y t u)) fun b p b_2 p_2=>some [T.nilp,Jb b,T.lst 1 p.fst p.snd,Jb b_2,T.lst 1 p_2.fst p_2.snd]):=by kernel_rfl
theorem e76(O:Orc)(s t s2 eq2 t2 f2:Bool)(y u:T)(d2 g2:JL):stepO PROG ann O (Key.call 95) [Jr 0,AV.t (T.ptr [Jb s2,T.lst 1 eq2 d2,Jb t2,T.lst 1 f2 g2])] (Y8 s y t u)=
 (G32 (O (.call 118) [Jr 0,AV.t (T.ptr [Jb s2,T.lst 1 eq2 d2,Jb t2,T.lst 1 f2 g2])] (Y4)) fun b p=>G34 (O (.call 93) [AV.t (T.ptr [Jb s2,T.lst 1 eq2 d2,Jb t2,T.lst 1 f2 g2])] []) fun x=>G36 (O (.call 74) [Jr 0,AV.t (T.ptr [Jb b,T.lst 1 p.fst p.snd]),AV.t x] (Y8 s y t u)) fun b p b_1 p_1=>some [T.nilp,Jb b,T.lst 1 p.fst p.snd,Jb b_1,T.lst 1 p_1.fst p_1.snd]):=by kernel_rfl
theorem e42(O:Orc)(s2 eq2 t2 f2 s3 eq3 t3 f3:Bool)(d2 g2 d3 g3:JL):stepO PROG ann O (Key.call 17) [AV.t (T.ptr [Jb s2,T.lst 1 eq2 d2,Jb t2,T.lst 1 f2 g2]),AV.t (T.ptr [Jb s3,T.lst 1 eq3 d3,Jb t3,T.lst 1 f3 g3])] []=
 (G36 (O (.call 48) [Jr 0,AV.t (T.ptr [Jb s2,T.lst 1 eq2 d2,Jb t2,T.lst 1 f2 g2]),AV.t (T.ptr [Jb s3,T.lst 1 eq3 d3,Jb t3,T.lst 1 f3 g3])] (Y5)) fun b p b_1 p_1=>G9 (O (.call 37) [AV.t (T.ptr [Jb b,T.lst 1 p.fst p.snd,Jb b_1,T.lst 1 p_1.fst p_1.snd])] []) fun n=>some [Ji n]):=by kernel_rfl
theorem e43(O:Orc)(n m:Int):stepO PROG ann O (Key.call 36) [I n,I m] []=
 (G34 (O (.call 72) [I n] []) fun x=>G34 (O (.call 72) [I m] []) fun x_1=>G36 (O (.call 74) [Jr 0,AV.t x,AV.t x_1] (Y5)) fun b p b_1 p_1=>some [T.ptr [Jb b,T.lst 1 p.fst p.snd,Jb b_1,T.lst 1 p_1.fst p_1.snd]]):=by kernel_rfl
theorem e57(O:Orc)(n m:Int):stepO PROG ann O (Key.call 18) [AV.agg [I n,I m]] []=
 (G34 (O (.call 36) [I n,I m] []) fun x=>some [x]):=by kernel_rfl
theorem e40(O:Orc)(n m:Int):stepO PROG ann O (Key.call 34) [AV.agg [I n,I m]] []=
 (bif bif bif bif decide (m < 1) then true else decide (m > 1073741824) then true else decide (n < (-1073741824)) then true else decide (n > 1073741824) then some [Jb false] else G34 (O (.call 72) [I n] []) fun x=>G34 (O (.call 72) [I m] []) fun x_1=>G32 (O (.call 71) [Jr 0,AV.t T.nilp,AV.t T.nilp,AV.t x,AV.t x_1] (Y4)) fun b p=>G34 (O (.call 72) [I 1] []) fun x=>G9 (O (.call 73) [AV.t (T.ptr [Jb b,T.lst 1 p.fst p.snd]),AV.t x] []) fun n=>some [Jb (n==0)]):=by kernel_rfl
theorem e41(O:Orc)(eo en:Bool)(of n:JL):stepO PROG ann O (Key.call 16) [Jl 1 eo of,Jl 2 en n] []=
 (G34 (O (.call 36) [I 0,I 1] []) fun x=>O nk [Jl 1 eo of,Jl 2 en n,AV.t x,I 0] []):=by kernel_rfl
theorem uU(O:Orc)(ev0 ev1:Bool)(v0 v1:JL)(v5:T)(v6:Int):stepO PROG ann O nk [Jl 1 ev0 v0,Jl 2 ev1 v1,AV.t v5,I v6] []=
 (bif decide (v6 < (v0.length:Int)) then G16 v6 v1 fun n n_1=>G34 (O (.call 18) [AV.agg [I n,I n_1]] []) fun x=>G2 v6 v0 fun n=>G34 (O (.call 36) [I n,I 1] []) fun x_4=>G36 (O (.call 46) [Jr 0,AV.t x,AV.t x_4] (Y5)) fun b p b_1 p_1=>G36 (O (.call 47) [Jr 0,AV.t v5,AV.t (T.ptr [Jb b,T.lst 1 p.fst p.snd,Jb b_1,T.lst 1 p_1.fst p_1.snd])] (Y5)) fun b p b_2 p_2=>O nk [Jl 1 ev0 v0,Jl 2 ev1 v1,AV.t (T.ptr [Jb b,T.lst 1 p.fst p.snd,Jb b_2,T.lst 1 p_2.fst p_2.snd]),I (Jw v6)] [] else some [v5]):=by kernel_rfl
theorem e79(O:Orc)(ex:Bool)(x:JL)(n:Int):stepO PROG ann O (Key.call 150) [Jl 1 ex x,I n] []=
 (Jg (ap (IntKind.i64.wrap (IntKind.i64.wrap ((x.length:Int)+IntKind.i64.wrap (n.tdiv 32))+1)) (IntKind.i64.wrap (IntKind.i64.wrap ((x.length:Int)+IntKind.i64.wrap (n.tdiv 32))+1))) fun x_1=>O oz [I n,Jo 0,Jl 1 ex x,I (x.length:Int),I 0] [Blk.sl false 1 false (List.replicate (IntKind.i64.wrap (IntKind.i64.wrap ((x.length:Int)+IntKind.i64.wrap (n.tdiv 32))+1)).toNat [T.int IntKind.u32 0])]):=by kernel_rfl
theorem sS(O:Orc)(v1 v17 v18:Int)(ev16 ec0:Bool)(v16 c0:JL):stepO PROG ann O oz [I v1,Jo 0,Jl 1 ev16 v16,I v17,I v18] (Y1 ec0 c0)=
 (bif decide (v18 < v17) then G21 v18 v16 fun n=>Jg (if v1.tmod 32 < 0 then none else some ()) fun x=>Jg (if 0<=IntKind.i64.wrap (v18+IntKind.i64.wrap (v1.tdiv 32))/\IntKind.i64.wrap (v18+IntKind.i64.wrap (v1.tdiv 32)) < (c0.length:Int) then some () else none) fun x=>G22 c0[(IntKind.i64.wrap (v18+IntKind.i64.wrap (v1.tdiv 32))).toNat]? fun n_1=>Jg (if 0<=IntKind.i64.wrap (v18+IntKind.i64.wrap (v1.tdiv 32))/\IntKind.i64.wrap (v18+IntKind.i64.wrap (v1.tdiv 32)) < (c0.length:Int) then some () else none) fun x=>Jg (aB (IntKind.i64.wrap (v18+IntKind.i64.wrap (v1.tdiv 32))).toNat 0 [T.int IntKind.u32 (IntKind.u32.wrap (↑(BitVec.ofInt 32 n_1 ||| BitVec.ofInt 32 (IntKind.u32.wrap (IntKind.u64.wrap (IntKind.u64.wrap n * 2 ^ min (v1.tmod 32).toNat 64)))).toNat:Int))] c0) fun l=>Jg (if 0<=IntKind.i64.wrap (IntKind.i64.wrap (v18+IntKind.i64.wrap (v1.tdiv 32))+1)/\IntKind.i64.wrap (IntKind.i64.wrap (v18+IntKind.i64.wrap (v1.tdiv 32))+1) < (l.length:Int) then some () else none) fun x=>Jg (aB (IntKind.i64.wrap (IntKind.i64.wrap (v18+IntKind.i64.wrap (v1.tdiv 32))+1)).toNat 0 [T.int IntKind.u32 (IntKind.u32.wrap ((IntKind.u64.wrap (IntKind.u64.wrap n * 2 ^ min (v1.tmod 32).toNat 64)).fdiv (2 ^ 32)))] l) fun l=>O oz [I v1,Jo 0,Jl 1 ev16 v16,I v17,I (Jw v18)] (Y1 ec0 l) else some [T.lst 1 ec0 c0]):=by kernel_rfl
theorem e80(O:Orc)(ex:Bool)(x:JL)(n:Int):stepO PROG ann O (Key.call 151) [Jl 1 ex x,I n] []=
 (bif decide (IntKind.i64.wrap (n.tdiv 32)>=(x.length:Int)) then some [T.emp true] else Jg (inB (IntKind.i64.wrap (n.tdiv 32)) (x.length:Int) (x.length:Int)) fun x_1=>Jg (ap (↑(sub (IntKind.i64.wrap (n.tdiv 32)) (x.length:Int) x).length:Int) (↑(sub (IntKind.i64.wrap (n.tdiv 32)) (x.length:Int) x).length:Int)) fun x_2=>O kU [AV.t (T.lst 1 ex (sub (IntKind.i64.wrap (n.tdiv 32)) (x.length:Int) x)),I n,Jo 0,AV.t (T.lst 1 ex (sub (IntKind.i64.wrap (n.tdiv 32)) (x.length:Int) x)),I (↑(sub (IntKind.i64.wrap (n.tdiv 32)) (x.length:Int) x).length:Int),I 0] [Blk.sl false 1 false (List.replicate (↑(sub (IntKind.i64.wrap (n.tdiv 32)) (x.length:Int) x).length:Int).toNat [T.int IntKind.u32 0])]):=by kernel_rfl
theorem mn(O:Orc)(ev0 ev20 ec0:Bool)(v0 v20 c0:JL)(v1 v21 v22:Int):stepO PROG ann O kU [Jl 1 ev0 v0,I v1,Jo 0,Jl 1 ev20 v20,I v21,I v22] (Y1 ec0 c0)=
 (bif decide (v22 < v21) then G21 v22 v20 fun n=>Jg (if v1.tmod 32 < 0 then none else some ()) fun x=>gdK none (if 0<=v22/\v22 < (c0.length:Int) then some () else none) fun x=>Jg (aB v22.toNat 0 [T.int IntKind.u32 (n.fdiv (2 ^ min (v1.tmod 32).toNat 32))] c0) fun l=>bif bif decide (Jw v22 < (v0.length:Int)) then decide (v1.tmod 32 > 0) else false then G21 v22 l fun n=>Jg (if 0<=Jw v22/\Jw v22 < (v0.length:Int) then some () else none) fun x=>G22 v0[(Jw v22).toNat]? fun n_1=>Jg (if IntKind.i64.wrap (32 - v1.tmod 32) < 0 then none else some ()) fun x=>gdK none (if 0<=v22/\v22 < (l.length:Int) then some () else none) fun x=>Jg (aB v22.toNat 0 [T.int IntKind.u32 (IntKind.u32.wrap (↑(BitVec.ofInt 32 n ||| BitVec.ofInt 32 (IntKind.u32.wrap (n_1 * 2 ^ min (IntKind.i64.wrap (32 - v1.tmod 32)).toNat 32))).toNat:Int))] l) fun l=>O kU [Jl 1 ev0 v0,I v1,Jo 0,Jl 1 ev20 v20,I v21,I (Jw v22)] (Y1 ec0 l) else O kU [Jl 1 ev0 v0,I v1,Jo 0,Jl 1 ev20 v20,I v21,I (Jw v22)] (Y1 ec0 l) else some [T.lst 1 ec0 c0]):=by kernel_rfl
theorem e78(O:Orc)(ex ey:Bool)(x y:JL):stepO PROG ann O (Key.call 149) [Jl 1 ex x,Jl 1 ey y] []=
 (bif (y.length:Int)==1 then Jg (ap (x.length:Int) (x.length:Int)) fun x_1=>O mA [Jl 1 ex x,Jl 1 ey y,Jo 0,AV.t (T.int IntKind.u64 0),I (IntKind.i64.wrap ((x.length:Int) - 1))] [Blk.sl false 1 false (List.replicate (x.length:Int).toNat [T.int IntKind.u32 0])] else O lX [Jl 1 ex x,Jl 1 ey y,I 0] []):=by kernel_rfl
theorem wN(O:Orc)(ev0 ev1 ec0:Bool)(v0 v1 c0:JL)(v7 v8:Int):stepO PROG ann O mA [Jl 1 ev0 v0,Jl 1 ev1 v1,Jo 0,AV.t (T.int IntKind.u64 v7),I v8] (Y1 ec0 c0)=
 (bif decide (v8>=0) then G21 v8 v0 fun n=>Jg (if(0:Int)<=0/\0 < (v1.length:Int) then some () else none) fun x=>G22 v1[0]? fun n_1=>Jg (if IntKind.u64.wrap n_1=0 then none else some ()) fun x=>gdK none (if 0<=v8/\v8 < (c0.length:Int) then some () else none) fun x=>Jg (aB v8.toNat 0 [T.int IntKind.u32 (IntKind.u32.wrap (IntKind.u64.wrap ((IntKind.u64.wrap (↑(BitVec.ofInt 64 (IntKind.u64.wrap (v7 * 2 ^ 32)) ||| BitVec.ofInt 64 (IntKind.u64.wrap n)).toNat:Int)).tdiv (IntKind.u64.wrap n_1))))] c0) fun l=>Jg (if(0:Int)<=0/\0 < (v1.length:Int) then some () else none) fun x=>G22 v1[0]? fun n_2=>Jg (if IntKind.u64.wrap n_2=0 then none else some ()) fun x=>O mA [Jl 1 ev0 v0,Jl 1 ev1 v1,Jo 0,AV.t (T.int IntKind.u64 ((IntKind.u64.wrap (↑(BitVec.ofInt 64 (IntKind.u64.wrap (v7 * 2 ^ 32)) ||| BitVec.ofInt 64 (IntKind.u64.wrap n)).toNat:Int)).tmod (IntKind.u64.wrap n_2))),I (IntKind.i64.wrap (v8 - 1))] (Y1 ec0 l) else some [T.lst 1 ec0 c0,T.lst 1 false [[T.int IntKind.u32 (IntKind.u32.wrap v7)]]]):=by kernel_rfl
theorem wl(O:Orc)(ev0 ev1:Bool)(v0 v1:JL)(v9:Int):stepO PROG ann O lX [Jl 1 ev0 v0,Jl 1 ev1 v1,I v9] []=
 (Jg (if 0<=IntKind.i64.wrap ((v1.length:Int) - 1)/\IntKind.i64.wrap ((v1.length:Int) - 1) < (v1.length:Int) then some () else none) fun x=>G22 v1[(IntKind.i64.wrap ((v1.length:Int) - 1)).toNat]? fun n=>Jg (if v9 < 0 then none else some ()) fun x=>bif (IntKind.u32.wrap (n * 2 ^ min v9.toNat 32)).fdiv (2 ^ 31)==0 then O lX [Jl 1 ev0 v0,Jl 1 ev1 v1,I (Jw v9)] [] else G4 (O (.call 150) [Jl 1 ev1 v1,I v9] []) fun p=>Jg (inB 0 (v1.length:Int) (p.snd.length:Int)) fun x=>G4 (O (.call 150) [Jl 1 ev0 v0,I v9] []) fun p_1=>Jg (ap (p_1.snd.length:Int) (p_1.snd.length:Int)) fun x=>O jf [I v9,I (v1.length:Int),AV.t (T.lst 1 p.fst (List.take ((v1.length:Int).toNat - 0) (List.drop 0 p.snd))),Jo 0,Jo 1,I ((IntKind.i64.wrap (IntKind.i64.wrap ((p_1.snd.length:Int) - (v1.length:Int)) - 1)))] [Blk.sl false 1 p_1.fst p_1.snd,Blk.sl false 1 false (List.replicate (p_1.snd.length:Int).toNat [T.int IntKind.u32 0])]):=by kernel_rfl
theorem wv(O:Orc)(v9 v10 v14:Int)(ev11 ec0 ec1:Bool)(v11 c0 c1:JL):stepO PROG ann O jf [I v9,I v10,Jl 1 ev11 v11,Jo 0,Jo 1,I v14] (Y3 ec0 c0 ec1 c1)=
 (bif decide (v14>=0) then Jg (if 0<=IntKind.i64.wrap (v14+v10)/\IntKind.i64.wrap (v14+v10) < (c0.length:Int) then some () else none) fun x=>G22 c0[(IntKind.i64.wrap (v14+v10)).toNat]? fun n=>Jg (if 0<=IntKind.i64.wrap (IntKind.i64.wrap (v14+v10) - 1)/\IntKind.i64.wrap (IntKind.i64.wrap (v14+v10) - 1) < (c0.length:Int) then some () else none) fun x=>G22 c0[(IntKind.i64.wrap (IntKind.i64.wrap (v14+v10) - 1)).toNat]? fun n_1=>Jg (if 0<=IntKind.i64.wrap (v10 - 1)/\IntKind.i64.wrap (v10 - 1) < (v11.length:Int) then some () else none) fun x=>G22 v11[(IntKind.i64.wrap (v10 - 1)).toNat]? fun n_2=>Jg (if IntKind.u64.wrap n_2=0 then none else some ()) fun x=>Jg (if 0<=IntKind.i64.wrap (v10 - 1)/\IntKind.i64.wrap (v10 - 1) < (v11.length:Int) then some () else none) fun x=>G22 v11[(IntKind.i64.wrap (v10 - 1)).toNat]? fun n_3=>Jg (if IntKind.u64.wrap n_3=0 then none else some ()) fun x=>O my [I v9,I v10,Jl 1 ev11 v11,Jo 0,Jo 1,I v14,AV.t (T.int IntKind.u64 (IntKind.u64.wrap ((IntKind.u64.wrap (↑(BitVec.ofInt 64 (IntKind.u64.wrap (IntKind.u64.wrap n * 2 ^ 32)) ||| BitVec.ofInt 64 (IntKind.u64.wrap n_1)).toNat:Int)).tdiv (IntKind.u64.wrap n_2)))),AV.t (T.int IntKind.u64 ((IntKind.u64.wrap (↑(BitVec.ofInt 64 (IntKind.u64.wrap (IntKind.u64.wrap n * 2 ^ 32)) ||| BitVec.ofInt 64 (IntKind.u64.wrap n_1)).toNat:Int)).tmod (IntKind.u64.wrap n_3)))] (Y3 ec0 c0 ec1 c1) else Jg (inB 0 v10 (c0.length:Int)) fun x=>G4 (O (.call 151) [AV.t (T.lst 1 ec0 (List.take (v10.toNat - 0) c0)),I v9] []) fun p=>some [T.lst 1 ec1 c1,T.lst 1 p.fst p.snd]):=by kernel_rfl
theorem rW(O:Orc)(v9 v10 v14 v16 v17:Int)(ev11 ec0 ec1:Bool)(v11 c0 c1:JL):stepO PROG ann O my [I v9,I v10,Jl 1 ev11 v11,Jo 0,Jo 1,I v14,AV.t (T.int IntKind.u64 v16),AV.t (T.int IntKind.u64 v17)] (Y3 ec0 c0 ec1 c1)=
 (gdK (some !!v16.fdiv (2 ^ 32)==0) (if 0<=IntKind.i64.wrap (v10 - 2)/\IntKind.i64.wrap (v10 - 2) < (v11.length:Int) then some () else none) fun x=>G26 (some !!v16.fdiv (2 ^ 32)==0) v11[(IntKind.i64.wrap (v10 - 2)).toNat]? fun n=>gdK (some !!v16.fdiv (2 ^ 32)==0) (if 0<=IntKind.i64.wrap (IntKind.i64.wrap (v14+v10) - 2)/\IntKind.i64.wrap (IntKind.i64.wrap (v14+v10) - 2) < (c0.length:Int) then some () else none) fun x=>G26 (some !!v16.fdiv (2 ^ 32)==0) c0[(IntKind.i64.wrap (IntKind.i64.wrap (v14+v10) - 2)).toNat]? fun n_1=>bif bif !v16.fdiv (2 ^ 32)==0 then true else decide (IntKind.u64.wrap (v16 * IntKind.u64.wrap n) > IntKind.u64.wrap (↑(BitVec.ofInt 64 (IntKind.u64.wrap (v17 * 2 ^ 32)) ||| BitVec.ofInt 64 (IntKind.u64.wrap n_1)).toNat:Int)) then Jg (if 0<=IntKind.i64.wrap (v10 - 1)/\IntKind.i64.wrap (v10 - 1) < (v11.length:Int) then some () else none) fun x=>G22 v11[(IntKind.i64.wrap (v10 - 1)).toNat]? fun n=>bif !(IntKind.u64.wrap (v17+IntKind.u64.wrap n)).fdiv (2 ^ 32)==0 then O eH [I v9,I v10,Jl 1 ev11 v11,Jo 0,Jo 1,I v14,AV.t (T.int IntKind.u64 (IntKind.u64.wrap (v16 - 1))),AV.t (T.int IntKind.u64 0),AV.t (T.int IntKind.u64 0),Jl 1 ev11 v11,I (v11.length:Int),I 0] (Y3 ec0 c0 ec1 c1) else O my [I v9,I v10,Jl 1 ev11 v11,Jo 0,Jo 1,I v14,AV.t (T.int IntKind.u64 (IntKind.u64.wrap (v16 - 1))),AV.t (T.int IntKind.u64 (IntKind.u64.wrap (v17+IntKind.u64.wrap n)))] (Y3 ec0 c0 ec1 c1) else O eH [I v9,I v10,Jl 1 ev11 v11,Jo 0,Jo 1,I v14,AV.t (T.int IntKind.u64 v16),AV.t (T.int IntKind.u64 0),AV.t (T.int IntKind.u64 0),Jl 1 ev11 v11,I (v11.length:Int),I 0] (Y3 ec0 c0 ec1 c1)):=by kernel_rfl
theorem rX(O:Orc)(v9 v10 v14 v16 v18 v19 v173 v174:Int)(ev11 ev172 ec0 ec1:Bool)(v11 v172 c0 c1:JL):stepO PROG ann O eH [I v9,I v10,Jl 1 ev11 v11,Jo 0,Jo 1,I v14,AV.t (T.int IntKind.u64 v16),AV.t (T.int IntKind.u64 v18),AV.t (T.int IntKind.u64 v19),Jl 1 ev172 v172,I v173,I v174] (Y3 ec0 c0 ec1 c1)=
 (bif decide (v174 < v173) then G21 v174 v172 fun n=>Jg (if 0<=IntKind.i64.wrap (v14+v174)/\IntKind.i64.wrap (v14+v174) < (c0.length:Int) then some () else none) fun x=>G22 c0[(IntKind.i64.wrap (v14+v174)).toNat]? fun n_1=>Jg (if 0<=IntKind.i64.wrap (v14+v174)/\IntKind.i64.wrap (v14+v174) < (c0.length:Int) then some () else none) fun x=>Jg (aB (IntKind.i64.wrap (v14+v174)).toNat 0 [T.int IntKind.u32 (IntKind.u32.wrap (IntKind.u64.wrap (IntKind.u64.wrap (IntKind.u64.wrap n_1 - IntKind.u64.wrap (IntKind.u32.wrap (IntKind.u64.wrap (v18+IntKind.u64.wrap (v16 * IntKind.u64.wrap n))))) - v19)))] c0) fun l=>O eH [I v9,I v10,Jl 1 ev11 v11,Jo 0,Jo 1,I v14,AV.t (T.int IntKind.u64 v16),AV.t (T.int IntKind.u64 ((IntKind.u64.wrap (v18+IntKind.u64.wrap (v16 * IntKind.u64.wrap n))).fdiv (2 ^ 32))),AV.t (T.int IntKind.u64 ((IntKind.u64.wrap (IntKind.u64.wrap (IntKind.u64.wrap n_1 - IntKind.u64.wrap (IntKind.u32.wrap (IntKind.u64.wrap (v18+IntKind.u64.wrap (v16 * IntKind.u64.wrap n))))) - v19)).fdiv (2 ^ 63))),Jl 1 ev172 v172,I v173,I (Jw v174)] (Y3 ec0 l ec1 c1) else Jg (if 0<=IntKind.i64.wrap (v14+v10)/\IntKind.i64.wrap (v14+v10) < (c0.length:Int) then some () else none) fun x=>G22 c0[(IntKind.i64.wrap (v14+v10)).toNat]? fun n=>Jg (if 0<=IntKind.i64.wrap (v14+v10)/\IntKind.i64.wrap (v14+v10) < (c0.length:Int) then some () else none) fun x=>Jg (aB (IntKind.i64.wrap (v14+v10)).toNat 0 [T.int IntKind.u32 (IntKind.u32.wrap (IntKind.u64.wrap (IntKind.u64.wrap (IntKind.u64.wrap n - v18) - v19)))] c0) fun l=>bif (IntKind.u64.wrap (IntKind.u64.wrap (IntKind.u64.wrap n - v18) - v19)).fdiv (2 ^ 63)==1 then O lA [I v9,I v10,Jl 1 ev11 v11,Jo 0,Jo 1,I v14,AV.t (T.int IntKind.u64 (IntKind.u64.wrap (v16 - 1))),AV.t (T.int IntKind.u64 0),Jl 1 ev11 v11,I (v11.length:Int),I 0] (Y3 ec0 l ec1 c1) else gdK none (if 0<=v14/\v14 < (c1.length:Int) then some () else none) fun x=>Jg (aB v14.toNat 0 [T.int IntKind.u32 (IntKind.u32.wrap v16)] c1) fun l_1=>O jf [I v9,I v10,Jl 1 ev11 v11,Jo 0,Jo 1,I (IntKind.i64.wrap (v14 - 1))] (Y3 ec0 l ec1 l_1)):=by kernel_rfl
theorem we(O:Orc)(v9 v10 v14 v16 v18 v234 v235:Int)(ev11 ev233 ec0 ec1:Bool)(v11 v233 c0 c1:JL):stepO PROG ann O lA [I v9,I v10,Jl 1 ev11 v11,Jo 0,Jo 1,I v14,AV.t (T.int IntKind.u64 v16),AV.t (T.int IntKind.u64 v18),Jl 1 ev233 v233,I v234,I v235] (Y3 ec0 c0 ec1 c1)=
 (bif decide (v235 < v234) then G21 v235 v233 fun n=>Jg (if 0<=IntKind.i64.wrap (v14+v235)/\IntKind.i64.wrap (v14+v235) < (c0.length:Int) then some () else none) fun x=>G22 c0[(IntKind.i64.wrap (v14+v235)).toNat]? fun n_1=>Jg (if 0<=IntKind.i64.wrap (v14+v235)/\IntKind.i64.wrap (v14+v235) < (c0.length:Int) then some () else none) fun x=>Jg (aB (IntKind.i64.wrap (v14+v235)).toNat 0 [T.int IntKind.u32 (IntKind.u32.wrap (IntKind.u64.wrap (v18+IntKind.u64.wrap (IntKind.u64.wrap n_1+IntKind.u64.wrap n))))] c0) fun l=>O lA [I v9,I v10,Jl 1 ev11 v11,Jo 0,Jo 1,I v14,AV.t (T.int IntKind.u64 v16),AV.t (T.int IntKind.u64 ((IntKind.u64.wrap (v18+IntKind.u64.wrap (IntKind.u64.wrap n_1+IntKind.u64.wrap n))).fdiv (2 ^ 32))),Jl 1 ev233 v233,I v234,I (Jw v235)] (Y3 ec0 l ec1 c1) else Jg (if 0<=IntKind.i64.wrap (v14+v10)/\IntKind.i64.wrap (v14+v10) < (c0.length:Int) then some () else none) fun x=>G22 c0[(IntKind.i64.wrap (v14+v10)).toNat]? fun n=>Jg (if 0<=IntKind.i64.wrap (v14+v10)/\IntKind.i64.wrap (v14+v10) < (c0.length:Int) then some () else none) fun x=>Jg (aB (IntKind.i64.wrap (v14+v10)).toNat 0 [T.int IntKind.u32 (IntKind.u32.wrap (n+IntKind.u32.wrap v18))] c0) fun l=>gdK none (if 0<=v14/\v14 < (c1.length:Int) then some () else none) fun x=>Jg (aB v14.toNat 0 [T.int IntKind.u32 (IntKind.u32.wrap v16)] c1) fun l_1=>O jf [I v9,I v10,Jl 1 ev11 v11,Jo 0,Jo 1,I (IntKind.i64.wrap (v14 - 1))] (Y3 ec0 l ec1 l_1)):=by kernel_rfl
theorem e53(O:Orc)(s2 eq2:Bool)(d2:JL):stepO PROG ann O (Key.call 111) [AV.t (T.ptr [Jb s2,T.lst 1 eq2 d2])] []=
 (O iW [AV.t (T.ptr [Jb s2,T.lst 1 eq2 d2]),AV.t (T.int IntKind.u64 0),I (IntKind.i64.wrap (mm false (d2.length:Int) 2 - 1))] []):=by kernel_rfl
theorem vM(O:Orc)(v0_0 ev0_1:Bool)(v0_1:JL)(v3 v4:Int):stepO PROG ann O iW [AV.t (T.ptr [Jb v0_0,T.lst 1 ev0_1 v0_1]),AV.t (T.int IntKind.u64 v3),I v4] []=
 (bif decide (v4>=0) then G21 v4 v0_1 fun n=>O iW [AV.t (T.ptr [Jb v0_0,T.lst 1 ev0_1 v0_1]),AV.t (T.int IntKind.u64 (IntKind.u64.wrap (↑(BitVec.ofInt 64 (IntKind.u64.wrap (v3 * 2 ^ 32)) ||| BitVec.ofInt 64 (IntKind.u64.wrap n)).toNat:Int))),I (IntKind.i64.wrap (v4 - 1))] [] else some [T.int IntKind.u64 v3]):=by kernel_rfl
open Go Go.Aev Go.Aev.Gen
def val:List Int->Int
 | []=>0
 | a::r=>a+4294967296 * val r
def Dg(d:List Int):Prop:= ∀a∈d,0<=a/\a < 4294967296
def ac(d:List Int):List (List T):=d.map fun a=> [T.int .u32 a]
theorem af(d:List Int):(ac d).length=d.length:=by simp [ac]
def dat(d:List Int)(i:Nat):Int:=d.getD i 0
theorem aq{d:List Int}{i:Nat}(h:i < d.length):(ac d)[((i:Nat):Int).toNat]? =some [T.int .u32 (dat d i)]:=by
 simp [ac,dat,List.getD_eq_getElem?_getD,h]
theorem bf:∀{d:List Int},Dg d->0<=val d
 | [],_=>Int.le_refl _
 | a::d,h=>by
  have h1:=h a List.mem_cons_self
  have h2:=bf (d:=d) fun b hb=>h b (List.mem_cons_of_mem _ hb)
  simp only [val];omega
theorem bt:∀(a b:List Int),val (a++b)=val a+4294967296 ^ a.length * val b
 | [],b=>by simp [val]
 | x::a,b=>by
  simp only [List.cons_append,val,bt a b,List.length_cons,Int.pow_succ,Int.mul_add]
  rw [Int.mul_assoc,Int.mul_left_comm]
  omega
def bz(d:List Int):Nat->Nat
 | 0=>0
 | k+1=>if dat d k=0 then bz d k else k+1
def ay(d:List Int):List Int:=d.take (bz d d.length)
theorem nJ(d:List Int):∀k,bz d k<=k
 | 0=>Nat.le_refl _
 | k+1=>by
  rw [bz]
  split
  ·have:=nJ d k;omega
  ·exact Nat.le_refl _
theorem uA{d:List Int}:∀k,k<=d.length->val (d.take (bz d k))=val (d.take k)
 | 0,_=>rfl
 | k+1,h=>by
  rw [bz]
  split
  ·rename_i hz
   rw [uA k (by omega),List.take_add_one,bt]
   have:d[k]? =some 0:=by
    have hk:k < d.length:=by omega
    simp only [dat,List.getD_eq_getElem?_getD,List.getElem?_eq_getElem hk,Option.getD_some] at hz
    rw [List.getElem?_eq_getElem hk,hz]
   rw [this]
   simp [val]
  ·rfl
theorem fy(d:List Int):val (ay d)=val d:=by
 rw [ay,uA d.length (Nat.le_refl _),List.take_length]
theorem n51(s e:Bool)(d:List Int)(hd:d.length<=1000):∀(k:Nat),k<=d.length->
  Or lS [r0,I (k:Int)] [Blk.box [AV.t (T.bool s),o1],Blk.sl false 1 e (ac d)]=some [T.nilp,tb (s && decide (bz d k≠0)),T.lst 1 e (ac (d.take (bz d k)))]
 | 0,hk=>by
  refine aa ?_
  rw [ue]
  have hi:inB 0 ((0:Nat):Int) (d.length:Int)=some ():=by unfold inB;rw [if_pos (by omega)]
  have h0:¬((0:Nat):Int) > 0:=by omega
  have h1:((0:Nat):Int)=0:=rfl
  simp only [STL,↓reduceIte,Int.reduceBEq,Int.reduceEq,GD,gdF,h0,af,decide_false,hi]
  simp [bz,ac]
 | k+1,hk=>by
  refine aa ?_
  rw [ue]
  have h0:((k+1:Nat):Int) > 0:=by omega
  have hw:IntKind.i64.wrap (((k+1:Nat):Int) - 1)= (k:Int):=by rw [wr (by omega)];omega
  have h2: 0<=(k:Int)/\(k:Int) < (d.length:Int):=by omega
  have hi:inB 0 ((k+1:Nat):Int) (d.length:Int)=some ():=by unfold inB;rw [if_pos (by omega)]
  have h3:¬((k+1:Nat):Int)=0:=by omega
  by_cases hz:dat d k=0
  ·have:=n51 s e d hd k (by omega)
   rw [bz,if_pos hz]
   simp only [STL,↓reduceIte,Int.reduceBEq,Int.reduceEq,GD,h0,hw,h2,and_self,af,aq (show k < d.length by omega),hz,decide_true]
   exact this
  ·rw [bz,if_neg hz]
   simp only [STL,↓reduceIte,Int.reduceBEq,Int.reduceEq,GD,h0,hw,h2,and_self,af,aq (show k < d.length by omega),hz,decide_true,hi,h3]
   simp [ac,List.map_take]
theorem s51(s e:Bool)(d:List Int)(hd:d.length<=1000):
  Or (.call 125) [r0] [Blk.box [AV.t (T.bool s),o1],Blk.sl false 1 e (ac d)]=some [T.nilp,tb (s && decide (ay d≠[])),T.lst 1 e (ac (ay d))]:=by
 have:=n51 s e d hd d.length (Nat.le_refl _)
 have hne:decide (ay d≠[])=decide (bz d d.length≠0):=by
  refine decide_eq_decide.2 ?_
  have:=nJ d d.length
  unfold ay
  constructor
  ·intro h h'
   rw [h'] at h;exact h rfl
  ·intro h h'
   have:=congrArg List.length h'
   simp only [List.length_take,List.length_nil] at this
   omega
 refine aa ?_
 rw [e51,af,hne]
 exact this
theorem aH(v:Int):IntKind.u32.wrap v=v % 4294967296:=by simp [IntKind.wrap,IntKind.signed,IntKind.bits]
theorem d8(v:Int):IntKind.u64.wrap v=v % 18446744073709551616:=by simp [IntKind.wrap,IntKind.signed,IntKind.bits]
def Can(d:List Int):Prop:= ∀k,d.length=k+1->dat d k≠0
theorem tN{d:List Int}:∀k,k<=d.length->∀j,bz d k=j+1->dat d j≠0
 | 0,_,j,h=>by cases h
 | k+1,hk,j,h=>by
  rw [bz] at h
  split at h
  ·exact tN k (by omega) j h
  ·rename_i hz
   simp only [Nat.add_right_cancel_iff] at h
   subst h;exact hz
theorem DP{d:List Int}{n k:Nat}(h:k < n):dat (d.take n) k=dat d k:=by
 simp only [dat,List.getD_eq_getElem?_getD,List.getElem?_take,if_pos h]
theorem gr(d:List Int):Can (ay d):=by
 intro k hk
 have hle:=nJ d d.length
 have hl:(ay d).length=bz d d.length:=by unfold ay;rw [List.length_take];omega
 rw [hl] at hk
 have:=tN d.length (Nat.le_refl _) k hk
 unfold ay
 rw [DP (by omega)];exact this
theorem eB{d:List Int}(h:Dg d):Dg (ay d):=fun a ha=>h a (List.mem_of_mem_take ha)
theorem ic(d:List Int):(ay d).length<=d.length:=by unfold ay;rw [List.length_take];omega
def num(s:Bool)(d:List Int):Int:=if s=true then -val d else val d
structure Rep (z:Int) (s:Bool) (d:List Int):Prop where
 dg:Dg d
 can:Can d
 sg:s=true->d≠[]
 z:num s d=z
def WI(z:Int)(x:T):Prop:= ∃s e d,x=T.ptr [tb s,T.lst 1 e (ac d)]/\Rep z s d
theorem iY{d:List Int}(h:Dg d)(hc:Can d)(hn:d≠[]): 0 < val d:=by
 have h0:=bf h
 rcases Int.lt_or_eq_of_le h0 with h1 | h1
 ·exact h1
 ·exfalso
  have:∀d:List Int,Dg d->val d=0->∀k,dat d k=0:=by
   intro d
   induction d with
   | nil=>intro _ _ k;simp [dat]
   | cons a d ih=>
    intro h hv k
    have ha:=h a List.mem_cons_self
    have hd:Dg d:=fun b hb=>h b (List.mem_cons_of_mem _ hb)
    have:=bf hd
    simp only [val] at hv
    cases k with
    | zero=>simp only [dat,List.getD_cons_zero];omega
    | succ k=>
     have:=ih hd (by omega) k
     simpa only [dat,List.getD_cons_succ] using this
  have hl:d.length= (d.length - 1)+1:=by have:=List.length_pos_iff.2 hn;omega
  exact hc _ hl (this d h h1.symm _)
theorem s65(s:Bool)(y:T)(n:Int)(hn: 0<=n/\n < 18446744073709551616):∃e d,Or (.call 112) [r0,AV.t (T.int .u64 n)] [Blk.box [AV.t (T.bool s),AV.t y]]=some [T.nilp,tb false,T.lst 1 e (ac d)]/\Dg d/\Can d/\val d=n/\d.length<=2:=by
 have hd:Dg [n % 4294967296,n / 4294967296]:=by
  intro a ha
  simp only [List.mem_cons,List.not_mem_nil,or_false] at ha
  rcases ha with rfl | rfl <;> omega
 have h51:=s51 false false [n % 4294967296,n / 4294967296] (by simp)
 refine⟨false,ay [n % 4294967296,n / 4294967296],aa ?_,eB hd,gr _,by rw [fy];simp only [val];omega,by have:=ic [n % 4294967296,n / 4294967296];simpa using this⟩
 rw [e65]
 have h1:n.fdiv ((2:Int) ^ 32)=n / 4294967296:=by
  rw [show((2:Int) ^ 32)=4294967296 from by decide]
  rw [Int.fdiv_eq_ediv_of_nonneg _ (by omega)]
 have h2:n / 4294967296 % 4294967296=n / 4294967296:=by omega
 have he:ac [n % 4294967296,n / 4294967296]= [[T.int IntKind.u32 (n % 4294967296)],[T.int IntKind.u32 (n / 4294967296)]]:=rfl
 rw [he] at h51
 simp only [Bool.false_and] at h51
 simp only [h1,aH,h2]
 simp only [STL,↓reduceIte,Int.reduceBEq,Int.reduceEq,GD,h51]
theorem s48(s:Bool)(y:T)(n:Int)(hn: -9223372036854775808<=n/\n < 9223372036854775808):∃s' e d,Or (.call 115) [r0,I n] [Blk.box [AV.t (T.bool s),AV.t y]]=some [T.nilp,tb s',T.lst 1 e (ac d)]/\Rep n s' d/\d.length<=2:=by
 by_cases h0:n < 0
 ·have hw:IntKind.u64.wrap (0 - IntKind.u64.wrap n)= -n:=by rw [d8,d8];omega
  obtain⟨e,d,k1,k2,k3,k4,k5⟩:=s65 s y (-n) (by omega)
  refine⟨true,e,d,aa ?_,⟨k2,k3,fun _ h=> ?_,by simp only [num,if_true];omega⟩,k5⟩
  ·rw [e48]
   simp only [STL,↓reduceIte,Int.reduceBEq,Int.reduceEq,GD,h0,hw,k1]
  ·subst h
   simp only [val] at k4;omega
 ·have hw:IntKind.u64.wrap n=n:=by rw [d8];omega
  obtain⟨e,d,k1,k2,k3,k4,k5⟩:=s65 s y n (by omega)
  refine⟨false,e,d,aa ?_,⟨k2,k3,fun h=>(by cases h),by simpa [num] using k4⟩,k5⟩
  rw [e48]
  simp only [STL,↓reduceIte,Int.reduceBEq,Int.reduceEq,GD,h0,hw,k1]
theorem s35(n:Int)(hn: -9223372036854775808<=n/\n < 9223372036854775808):∃x,Or (.call 72) [I n] []=some [x]/\WI n x:=by
 obtain⟨s',e,d,k1,k2,_⟩:=s48 false (T.emp true) n hn
 refine⟨T.ptr [tb s',T.lst 1 e (ac d)],aa ?_,s',e,d,rfl,k2⟩
 rw [e35]
 simp only [STL,↓reduceIte,Int.reduceBEq,Int.reduceEq,GD,k1]
theorem s69(s:Bool)(y:T)(s2 e2:Bool)(d:List Int)(hd:d.length<=1000):Or (.call 114) [r0,AV.t (T.ptr [tb s2,T.lst 1 e2 (ac d)])] [Blk.box [AV.t (T.bool s),AV.t y]]=some [T.nilp,tb s2,T.lst 1 false (ac d)]:=by
 refine aa ?_
 rw [e69]
 have:aA 4 (ac d).length=some ():=d9 (by rw [af];omega)
 simp only [STL,↓reduceIte,Int.reduceBEq,Int.reduceEq,GD,this]
theorem s50(s:Bool)(y:T)(s2 e2:Bool)(d:List Int)(z:Int)(hd:d.length<=1000)(hz:Rep z s2 d):∃s',Or (.call 118) [r0,AV.t (T.ptr [tb s2,T.lst 1 e2 (ac d)])] [Blk.box [AV.t (T.bool s),AV.t y]]=some [T.nilp,tb s',T.lst 1 false (ac d)]/\Rep (-z) s' d:=by
 refine⟨!s2 && decide ((d.length:Int) > 0),aa ?_,hz.dg,hz.can,fun h=> ?_, ?_⟩
 ·rw [e50]
  simp only [STL,↓reduceIte,Int.reduceBEq,Int.reduceEq,GD,s69 s y s2 e2 d hd,af,bh]
 ·simp only [Bool.and_eq_true,decide_eq_true_eq] at h
  intro h';subst h'
  simp at h
 ·have:=hz.z
  unfold num at this⊢
  cases s2 with
  | true=>simp at this⊢;omega
  | false=>
   simp only [Bool.false_eq_true,if_false] at this
   by_cases hl:(d.length:Int) > 0
   ·simp [hl];omega
   ·have:d= []:=List.length_eq_zero_iff.1 (by omega)
    subst this
    simp [val] at *
    omega
theorem w64{v:Int}(h: 0<=v/\v < 18446744073709551616):IntKind.u64.wrap v=v:=by rw [d8];omega
theorem gE{d:List Int}{i:Nat}(hi:i < d.length)(v:Int):aB (i:Int).toNat 0 [T.int .u32 v] (ac d)=some (ac (d.set i v)):=by
 have h1:=aq hi
 simp only [aB,h1]
 simp [repl,ac,List.map_set]
abbrev lu(e:Bool)(d:List Int):AV:=AV.t (T.lst 1 e (ac d))
def aR:List Int->List Int->Int->List Int
 | [],_,c=> [c]
 | a::x,[],c=>((c+a) % 4294967296)::aR x [] ((c+a) / 4294967296)
 | a::x,b::y,c=>((c+a+b) % 4294967296)::aR x y ((c+a+b) / 4294967296)
theorem Dg.tail{a:Int}{d:List Int}(h:Dg (a::d)):Dg d:=fun b hb=>h b (List.mem_cons_of_mem _ hb)
theorem iQ:∀{x y:List Int} {c:Int},y.length<=x.length->val (aR x y c)=c+val x+val y
 | [],[],c,_=>by simp [aR,val]
 | [],b::y,c,h=>by simp at h
 | a::x,[],c,h=>by
  have:=iQ (x:=x) (y:= []) (c:=(c+a) / 4294967296) (by simp)
  simp only [aR,val] at this⊢
  rw [this];omega
 | a::x,b::y,c,h=>by
  have:=iQ (x:=x) (y:=y) (c:=(c+a+b) / 4294967296) (by simpa using h)
  simp only [aR,val] at this⊢
  rw [this];omega
theorem ja:∀{x y:List Int} {c:Int},Dg x->Dg y->0<=c/\c<=1->Dg (aR x y c)
 | [],_,c,_,_,hc=>by
  intro a ha
  simp only [aR,List.mem_singleton] at ha
  subst ha;omega
 | a::x,[],c,hx,hy,hc=>by
  have h1:=hx a List.mem_cons_self
  have:=ja (x:=x) (y:= []) (c:=(c+a) / 4294967296) hx.tail hy (by omega)
  intro b hb
  simp only [aR] at hb
  rcases List.mem_cons.1 hb with rfl | hb
  ·omega
  ·exact this b hb
 | a::x,b::y,c,hx,hy,hc=>by
  have h1:=hx a List.mem_cons_self
  have h2:=hy b List.mem_cons_self
  have:=ja (x:=x) (y:=y) (c:=(c+a+b) / 4294967296) hx.tail hy.tail (by omega)
  intro u hu
  simp only [aR] at hu
  rcases List.mem_cons.1 hu with rfl | hu
  ·omega
  ·exact this u hu
theorem jL:∀{x y:List Int} {c:Int},(aR x y c).length=x.length+1
 | [],_,c=>rfl
 | a::x,[],c=>by simp [aR,jL]
 | a::x,b::y,c=>by simp [aR,jL]
theorem fa(a:List Int)(b v:Int)(r:List Int)(i:Nat)(h:a.length=i):(a++b::r).set i v=a++v::r:=by
 subst h;simp
theorem bG{d:List Int}{i:Nat}{r:Int}{rest:List Int}(h:d.drop i=r::rest):dat d i=r:=by
 obtain⟨g1,_,_⟩:=ar h
 simp [dat,List.getD_eq_getElem?_getD,g1]
theorem bZ{v:Int}:v.fdiv ((2:Int) ^ 32)=v / 4294967296:=by
 rw [show((2:Int) ^ 32)=4294967296 from by decide,Int.fdiv_eq_ediv_of_nonneg _ (by omega)]
theorem n66(x y:List Int)(ex ey:Bool)(hx:Dg x)(hy:Dg y)(hl:y.length<=x.length)(hn:x.length<=1000):∀(xr:List Int) (i:Nat) (c:Int) (done:List Int),x.drop i=xr->done.length=i->i<=x.length->0<=c/\c<=1->
  Or jC [lu ex x,lu ey y,o0,AV.t (T.int .u64 c),lu ex x,I (x.length:Int),I (i:Int)] [Blk.sl false 1 false (ac (done++List.replicate (xr.length+1) 0))]=some [T.lst 1 false (ac (done++aR xr (y.drop i) c))]:=by
 intro xr
 induction xr with
 | nil=>
  intro i c done h hd hi hc
  have hle:=ax h
  obtain rfl:i=x.length:=by omega
  have h1:¬(x.length:Int) < (x.length:Int):=by omega
  have h2: 0<=(x.length:Int)/\(x.length:Int) < ((done++List.replicate (([]:List Int).length+1) 0).length:Int):=by simp;omega
  have hs:=gE (d:=done++List.replicate (([]:List Int).length+1) 0) (i:=x.length) (by simp;omega) c
  rw [show done++List.replicate (([]:List Int).length+1) 0=done++0:: [] from rfl,fa done 0 c [] x.length hd] at hs
  have hw:IntKind.u32.wrap c=c:=by rw [aH];omega
  refine aa ?_
  rw [u5]
  simp only [STL,↓reduceIte,Int.reduceBEq,Int.reduceEq,GD,h1,af,h2,and_self,hw]
  rw [show done++List.replicate (([]:List Int).length+1) 0=done++0:: [] from rfl,hs]
  simp only [STL,↓reduceIte,Int.reduceBEq,Int.reduceEq,GD,aR]
 | cons a xr ih=>
  intro i c done h hd hi hc
  obtain⟨g1,g2,g3⟩:=ar h
  have h1:(i:Int) < (x.length:Int):=by omega
  have h0: 0<=(i:Int):=by omega
  have ha:=hx a (List.mem_of_getElem? g1)
  have hda:=bG h
  have hcl:(i:Int) < ((done++List.replicate ((a::xr).length+1) 0).length:Int):=by simp;omega
  have hset:∀v,aB (i:Int).toNat 0 [T.int .u32 v] (ac (done++List.replicate ((a::xr).length+1) 0))=some (ac ((done++ [v])++List.replicate (xr.length+1) 0)):=fun v=>by
   rw [gE (by simp;omega),show done++List.replicate ((a::xr).length+1) 0=done++0::List.replicate (xr.length+1) 0 from rfl,fa done 0 v _ i hd]
   simp
  refine aa ?_
  rw [u5]
  cases hyr:y.drop i with
  | nil=>
   have hyl:=ax hyr
   have h2:¬(i:Int) < (y.length:Int):=by omega
   have hw1:IntKind.u64.wrap a=a:=w64 (by omega)
   have hw2:IntKind.u64.wrap (c+a)=c+a:=w64 (by omega)
   have hy1:y.drop (i+1)= []:=by simp;omega
   have:=ih (i+1) ((c+a) / 4294967296) (done++ [(c+a) % 4294967296]) g3 (by simp [hd]) (by omega) (by omega)
   rw [hy1,show done++ [(c+a) % 4294967296] ++aR xr [] ((c+a) / 4294967296)=done++aR (a::xr) [] c from by simp [aR]] at this
   simp only [STL,↓reduceIte,Int.reduceBEq,Int.reduceEq,GD,h1,h0,and_self,af,aq g2,hda,h2,hw1,hw2,hcl,aH,hset,bZ,next i (by omega)]
   exact this
  | cons b yr=>
   obtain⟨k1,k2,k3⟩:=ar hyr
   have hb:=hy b (List.mem_of_getElem? k1)
   have hdb:=bG hyr
   have h2:(i:Int) < (y.length:Int):=by omega
   have hw1:IntKind.u64.wrap a=a:=w64 (by omega)
   have hw2:IntKind.u64.wrap (c+a)=c+a:=w64 (by omega)
   have hw3:IntKind.u64.wrap b=b:=w64 (by omega)
   have hw4:IntKind.u64.wrap (c+a+b)=c+a+b:=w64 (by omega)
   have:=ih (i+1) ((c+a+b) / 4294967296) (done++ [(c+a+b) % 4294967296]) g3 (by simp [hd]) (by omega) (by omega)
   rw [k3,show done++ [(c+a+b) % 4294967296] ++aR xr yr ((c+a+b) / 4294967296)=done++aR (a::xr) (b::yr) c from by simp [aR]] at this
   simp only [STL,↓reduceIte,Int.reduceBEq,Int.reduceEq,GD,h1,h0,and_self,af,aq g2,aq k2,hda,hdb,h2,hw1,hw2,hw3,hw4,hcl,aH,hset,bZ,next i (by omega)]
   exact this
theorem s66(x y:List Int)(ex ey:Bool)(hx:Dg x)(hy:Dg y)(hnx:x.length<=900)(hny:y.length<=900):∃d,Or (.call 126) [lu ex x,lu ey y] []=some [T.lst 1 false (ac d)]/\Dg d/\val d=val x+val y/\d.length<=max x.length y.length+1:=by
 by_cases hl:(x.length:Int) < (y.length:Int)
 ·have h1:=n66 y x ey ex hy hx (by omega) (by omega) y 0 0 [] rfl rfl (by omega) (by omega)
  refine⟨aR y x 0,aa ?_,ja hy hx (by omega),by rw [iQ (by omega)];omega,by rw [jL];omega⟩
  have hw:IntKind.i64.wrap ((y.length:Int)+1)= ((y.length+1:Nat):Int):=next y.length (by omega)
  have hmk:ap ((y.length+1:Nat):Int) ((y.length+1:Nat):Int)=some ():=by unfold ap lim;rw [if_pos (by omega)]
  have he:ac ([] ++List.replicate (y.length+1) 0)=List.replicate (y.length+1) [T.int IntKind.u32 0]:=by simp [ac]
  rw [he] at h1
  rw [e66]
  simp only [STL,↓reduceIte,Int.reduceBEq,Int.reduceEq,GD,af,hl,hw,hmk,Int.toNat_natCast]
  exact h1
 ·have h1:=n66 x y ex ey hx hy (by omega) (by omega) x 0 0 [] rfl rfl (by omega) (by omega)
  refine⟨aR x y 0,aa ?_,ja hx hy (by omega),by rw [iQ (by omega)];omega,by rw [jL];omega⟩
  have hw:IntKind.i64.wrap ((x.length:Int)+1)= ((x.length+1:Nat):Int):=next x.length (by omega)
  have hmk:ap ((x.length+1:Nat):Int) ((x.length+1:Nat):Int)=some ():=by unfold ap lim;rw [if_pos (by omega)]
  have he:ac ([] ++List.replicate (x.length+1) 0)=List.replicate (x.length+1) [T.int IntKind.u32 0]:=by simp [ac]
  rw [he] at h1
  rw [e66]
  simp only [STL,↓reduceIte,Int.reduceBEq,Int.reduceEq,GD,af,hl,hw,hmk,Int.toNat_natCast]
  exact h1
theorem bP(n:Nat): 0 < (4294967296:Int) ^ n:=Int.pow_pos (by decide)
theorem bw:∀{d:List Int},Dg d->val d < 4294967296 ^ d.length
 | [],_=>by simp [val]
 | a::d,h=>by
  have h1:=h a List.mem_cons_self
  have h2:=bw h.tail
  simp only [val,List.length_cons,Int.pow_succ]
  omega
theorem Dg.take{d:List Int}(h:Dg d)(n:Nat):Dg (d.take n):=fun a ha=>h a (List.mem_of_mem_take ha)
theorem fJ{d:List Int}{k:Nat}(hk:k < d.length):val (d.take (k+1))=val (d.take k)+4294967296 ^ k * dat d k:=by
 have:d.take (k+1)=d.take k++ [dat d k]:=by
  rw [List.take_add_one,List.getElem?_eq_getElem hk]
  simp [dat,List.getD_eq_getElem?_getD,hk]
 rw [this,bt,List.length_take,Nat.min_eq_left (by omega)]
 simp [val]
theorem pc{d:List Int}{k:Nat}(h:Dg d)(hc:Can d)(hl:d.length=k+1): 4294967296 ^ k<=val d:=by
 have h1:=fJ (d:=d) (k:=k) (by omega)
 rw [<-hl,List.take_length] at h1
 have h2:=hc k hl
 have h3:=bf (h.take k)
 have h4: 0<=dat d k:=by
  have hk:k < d.length:=by omega
  have:dat d k∈d:=by
   simp only [dat,List.getD_eq_getElem?_getD,List.getElem?_eq_getElem hk,Option.getD_some]
   exact List.getElem_mem hk
  exact(h _ this).1
 have h5:(4294967296:Int) ^ k * 1<=4294967296 ^ k * dat d k:=Int.mul_le_mul_of_nonneg_left (by omega) (Int.le_of_lt (bP k))
 omega
def ao(u v:Int):Int:=if u < v then -1 else if u=v then 0 else 1
theorem uX(u v w:Int):ao (u+w) (v+w)=ao u v:=by
 have h1:u+w < v+w↔u < v:=by omega
 have h2:u+w=v+w↔u=v:=by omega
 unfold ao
 simp only [h1,h2]
theorem nX{a b:List Int}{k:Nat}(ha:Dg a)(hb:Dg b)(hka:k < a.length)(hkb:k < b.length)(h:dat a k < dat b k):val (a.take (k+1)) < val (b.take (k+1)):=by
 rw [fJ hka,fJ hkb]
 have h1:=bw (ha.take k)
 rw [List.length_take,Nat.min_eq_left (by omega)] at h1
 have h2:=bf (hb.take k)
 have h3:(4294967296:Int) ^ k * (dat a k+1)<=4294967296 ^ k * dat b k:=Int.mul_le_mul_of_nonneg_left (by omega) (Int.le_of_lt (bP k))
 rw [Int.mul_add,Int.mul_one] at h3
 omega
theorem n67(a b:List Int)(sa ea sb eb:Bool)(ha:Dg a)(hb:Dg b)(hl:a.length=b.length)(hn:a.length<=1000):∀(k:Nat) (z:Int),z= (k:Int) - 1->k<=a.length->
  Or mS [AV.t (T.ptr [tb sa,T.lst 1 ea (ac a)]),AV.t (T.ptr [tb sb,T.lst 1 eb (ac b)]),I z] []=some [ti (ao (val (a.take k)) (val (b.take k)))]
 | 0,z,hz,hk=>by
  refine aa ?_
  rw [sN]
  have h1:¬z>=0:=by omega
  simp only [STL,↓reduceIte,Int.reduceBEq,Int.reduceEq,GD,h1]
  simp [ao]
 | k+1,z,hz,hk=>by
  obtain rfl:z= (k:Int):=by omega
  have h1:(k:Int)>=0:=by omega
  have h2: 0<=(k:Int)/\(k:Int) < (a.length:Int):=by omega
  have h3:(k:Int) < (b.length:Int):=by omega
  have hw:IntKind.i64.wrap ((k:Int) - 1)= (k:Int) - 1:=wr (by omega)
  refine aa ?_
  rw [sN]
  by_cases he:dat a k=dat b k
  ·have:=n67 a b sa ea sb eb ha hb hl hn k ((k:Int) - 1) rfl (by omega)
   have hv:ao (val (a.take (k+1))) (val (b.take (k+1)))=ao (val (a.take k)) (val (b.take k)):=by
    rw [fJ (by omega),fJ (by omega),he,uX]
   rw [hv]
   simp only [STL,↓reduceIte,Int.reduceBEq,Int.reduceEq,GD,h1,h2,h3,and_self,af,aq (show k < a.length by omega),aq (show k < b.length by omega),he,hw]
   exact this
  ·by_cases hlt:dat a k < dat b k
   ·have:=nX ha hb (show k < a.length by omega) (by omega) hlt
    simp only [STL,↓reduceIte,Int.reduceBEq,Int.reduceEq,GD,h1,h2,h3,and_self,af,aq (show k < a.length by omega),aq (show k < b.length by omega),he,hlt]
    unfold ao
    rw [if_pos this]
   ·have:=nX hb ha (show k < b.length by omega) (by omega) (show dat b k < dat a k by omega)
    simp only [STL,↓reduceIte,Int.reduceBEq,Int.reduceEq,GD,h1,h2,h3,and_self,af,aq (show k < a.length by omega),aq (show k < b.length by omega),he,hlt]
    unfold ao
    rw [if_neg (by omega),if_neg (by omega)]
theorem eQ{a b:List Int}(ha:Dg a)(hb:Dg b)(hc:Can b)(h:a.length < b.length):val a < val b:=by
 have h1:=bw ha
 have h2:=pc (k:=b.length - 1) hb hc (by omega)
 have h3:(4294967296:Int) ^ a.length<=4294967296 ^ (b.length - 1):=by
  have:b.length - 1=a.length+ (b.length - 1 - a.length):=by omega
  rw [this,Int.pow_add]
  have h4:(4294967296:Int) ^ a.length * 1<=4294967296 ^ a.length * 4294967296 ^ (b.length - 1 - a.length):=Int.mul_le_mul_of_nonneg_left (by have:=bP (b.length - 1 - a.length);omega) (Int.le_of_lt (bP _))
  omega
 omega
theorem s67(a b:List Int)(sa ea sb eb:Bool)(ha:Dg a)(hb:Dg b)(ca:Can a)(cb:Can b)(hna:a.length<=1000)(hnb:b.length<=1000):
  Or (.call 116) [AV.t (T.ptr [tb sa,T.lst 1 ea (ac a)]),AV.t (T.ptr [tb sb,T.lst 1 eb (ac b)])] []=some [ti (ao (val a) (val b))]:=by
 refine aa ?_
 rw [e67]
 by_cases hl:(a.length:Int)= (b.length:Int)
 ·have:=n67 a b sa ea sb eb ha hb (by omega) hna a.length _ rfl (Nat.le_refl _)
  rw [List.take_length,show b.take a.length=b from List.take_of_length_le (by omega)] at this
  have hw:IntKind.i64.wrap ((a.length:Int) - 1)= (a.length:Int) - 1:=wr (by omega)
  simp only [af,hw]
  simp only [STL,↓reduceIte,Int.reduceBEq,Int.reduceEq,GD,hl]
  rw [hl] at this
  exact this
 ·by_cases hlt:(a.length:Int) < (b.length:Int)
  ·have:=eQ ha hb cb (by omega)
   simp only [STL,↓reduceIte,Int.reduceBEq,Int.reduceEq,GD,af,hl,hlt]
   unfold ao
   rw [if_pos this]
  ·have:=eQ hb ha ca (by omega)
   simp only [STL,↓reduceIte,Int.reduceBEq,Int.reduceEq,GD,af,hl,hlt]
   unfold ao
   rw [if_neg (by omega),if_neg (by omega)]
def bor(v:Int):Int:=if v < 0 then 1 else 0
def aV:List Int->List Int->Int->List Int
 | [],_,_=> []
 | a::x,[],c=>((a - c) % 4294967296)::aV x [] (bor (a - c))
 | a::x,b::y,c=>((a - c - b) % 4294967296)::aV x y (bor (a - c - b))
theorem m5:∀{x y:List Int} {c:Int},Dg x->Dg y->y.length<=x.length->0<=c/\c<=1->val y+c<=val x->val (aV x y c)=val x - val y - c
 | [],[],c,_,_,_,hc,h=>by simp [aV,val] at h⊢;omega
 | [],b::y,c,_,_,h,_,_=>by simp at h
 | a::x,[],c,hx,hy,hl,hc,h=>by
  have h1:=hx a List.mem_cons_self
  simp only [val] at h
  have:=m5 (x:=x) (y:= []) (c:=bor (a - c)) hx.tail hy (by simp) (by unfold bor;split <;> omega) (by simp only [val];unfold bor;split <;> omega)
  simp only [aV,val] at this⊢
  rw [this]
  unfold bor
  split <;> omega
 | a::x,b::y,c,hx,hy,hl,hc,h=>by
  have h1:=hx a List.mem_cons_self
  have h2:=hy b List.mem_cons_self
  simp only [val] at h
  have:=m5 (x:=x) (y:=y) (c:=bor (a - c - b)) hx.tail hy.tail (by simpa using hl) (by unfold bor;split <;> omega) (by unfold bor;split <;> omega)
  simp only [aV,val] at this⊢
  rw [this]
  unfold bor
  split <;> omega
theorem oo:∀{x y:List Int} {c:Int},Dg (aV x y c)
 | [],_,c=>by intro a ha;simp [aV] at ha
 | a::x,[],c=>by
  intro u hu
  simp only [aV] at hu
  rcases List.mem_cons.1 hu with rfl | hu
  ·omega
  ·exact oo u hu
 | a::x,b::y,c=>by
  intro u hu
  simp only [aV] at hu
  rcases List.mem_cons.1 hu with rfl | hu
  ·omega
  ·exact oo u hu
theorem nK:∀{x y:List Int} {c:Int},(aV x y c).length=x.length
 | [],_,c=>rfl
 | a::x,[],c=>by simp [aV,nK]
 | a::x,b::y,c=>by simp [aV,nK]
theorem gc{v:Int}(h: -1000000000000<=v/\v<=1000000000000):(IntKind.u64.wrap v).fdiv ((2:Int) ^ 63)=bor v:=by
 rw [show((2:Int) ^ 63)=9223372036854775808 from by decide,Int.fdiv_eq_ediv_of_nonneg _ (by omega),d8]
 unfold bor
 split <;> omega
theorem lQ(v:Int):IntKind.u32.wrap (IntKind.u64.wrap v)=v % 4294967296:=by rw [aH,d8];omega
theorem gN(v b:Int):IntKind.u64.wrap (IntKind.u64.wrap v - b)=IntKind.u64.wrap (v - b):=by simp only [d8];omega
theorem n68(x y:List Int)(ex ey:Bool)(hx:Dg x)(hy:Dg y)(hn:x.length<=1000):∀(xr:List Int) (i:Nat) (c:Int) (done:List Int),x.drop i=xr->done.length=i->0<=c/\c<=1->
  Or lB [lu ey y,o0,AV.t (T.int .u64 c),lu ex x,I (x.length:Int),I (i:Int)] [Blk.sl false 1 false (ac (done++List.replicate xr.length 0))]=some [T.lst 1 false (ac (done++aV xr (y.drop i) c))]:=by
 intro xr
 induction xr with
 | nil=>
  intro i c done h hd hc
  have hle:=ax h
  have h1:¬(i:Int) < (x.length:Int):=by omega
  refine aa ?_
  rw [xc]
  simp only [STL,↓reduceIte,Int.reduceBEq,Int.reduceEq,GD,h1]
  simp [aV]
 | cons a xr ih=>
  intro i c done h hd hc
  obtain⟨g1,g2,g3⟩:=ar h
  have h1:(i:Int) < (x.length:Int):=by omega
  have h0: 0<=(i:Int):=by omega
  have ha:=hx a (List.mem_of_getElem? g1)
  have hda:=bG h
  have hcl:(i:Int) < ((done++List.replicate (a::xr).length 0).length:Int):=by simp;omega
  have hset:∀v,aB (i:Int).toNat 0 [T.int .u32 v] (ac (done++List.replicate (a::xr).length 0))=some (ac ((done++ [v])++List.replicate xr.length 0)):=fun v=>by
   rw [gE (by simp;omega),show done++List.replicate (a::xr).length 0=done++0::List.replicate xr.length 0 from rfl,fa done 0 v _ i hd]
   simp
  have hw1:IntKind.u64.wrap a=a:=w64 (by omega)
  refine aa ?_
  rw [xc]
  cases hyr:y.drop i with
  | nil=>
   have hyl:=ax hyr
   have h2:¬(i:Int) < (y.length:Int):=by omega
   have hy1:y.drop (i+1)= []:=by simp;omega
   have:=ih (i+1) (bor (a - c)) (done++ [(a - c) % 4294967296]) g3 (by simp [hd]) (by unfold bor;split <;> omega)
   rw [hy1,show done++ [(a - c) % 4294967296] ++aV xr [] (bor (a - c))=done++aV (a::xr) [] c from by simp [aV]] at this
   simp only [STL,↓reduceIte,Int.reduceBEq,Int.reduceEq,GD,h1,h0,and_self,af,aq g2,hda,h2,hw1,hcl,lQ,hset,gc (v:=a - c) (by omega),next i (by omega)]
   exact this
  | cons b yr=>
   obtain⟨k1,k2,k3⟩:=ar hyr
   have hb:=hy b (List.mem_of_getElem? k1)
   have hdb:=bG hyr
   have h2:(i:Int) < (y.length:Int):=by omega
   have hw3:IntKind.u64.wrap b=b:=w64 (by omega)
   have:=ih (i+1) (bor (a - c - b)) (done++ [(a - c - b) % 4294967296]) g3 (by simp [hd]) (by unfold bor;split <;> omega)
   rw [k3,show done++ [(a - c - b) % 4294967296] ++aV xr yr (bor (a - c - b))=done++aV (a::xr) (b::yr) c from by simp [aV]] at this
   simp only [STL,↓reduceIte,Int.reduceBEq,Int.reduceEq,GD,h1,h0,and_self,af,aq g2,aq k2,hda,hdb,h2,hw1,hw3,gN,hcl,lQ,hset,gc (v:=a - c - b) (by omega),next i (by omega)]
   exact this
theorem s68(x y:List Int)(ex ey:Bool)(hx:Dg x)(hy:Dg y)(hl:y.length<=x.length)(hv:val y<=val x)(hn:x.length<=900):∃d,Or (.call 127) [lu ex x,lu ey y] []=some [T.lst 1 false (ac d)]/\Dg d/\val d=val x - val y/\d.length=x.length:=by
 have h1:=n68 x y ex ey hx hy (by omega) x 0 0 [] rfl rfl (by omega)
 refine⟨aV x y 0,aa ?_,oo,by rw [m5 hx hy hl (by omega) (by omega)];omega,nK⟩
 have hmk:ap (x.length:Int) (x.length:Int)=some ():=by unfold ap lim;rw [if_pos (by omega)]
 have he:ac ([] ++List.replicate x.length 0)=List.replicate x.length [T.int IntKind.u32 0]:=by simp [ac]
 rw [he] at h1
 rw [e68]
 simp only [STL,↓reduceIte,Int.reduceBEq,Int.reduceEq,GD,af,hmk,Int.toNat_natCast]
 exact h1
open Go Go.Aev Go.Aev.Gen
theorem DR{d:List Int}(h:ay d= []):val d=0:=by rw [<-fy,h];rfl
theorem fV{s:Bool}{d:List Int}{z:Int}(hd:Dg d)(hz:num s d=z):Rep z (s && decide (ay d≠[])) (ay d):=by
 refine⟨eB hd,gr d,fun h=> ?_, ?_⟩
 ·simp only [Bool.and_eq_true,decide_eq_true_eq] at h
  exact h.2
 ·unfold num at hz⊢
  rw [fy]
  by_cases ht:ay d= []
  ·have:=DR ht
   simp only [ht,ne_eq,not_true_eq_false,decide_false,Bool.and_false,Bool.false_eq_true,if_false]
   split at hz <;> omega
  ·simp only [ne_eq,ht,not_false_eq_true,decide_true,Bool.and_true]
   exact hz
def Sets(z:Int)(n:Nat)(r:Option (List T)):Prop:= ∃s e d,r=some [T.nilp,tb s,T.lst 1 e (ac d)]/\Rep z s d/\d.length<=n
theorem tt:(true==true)=true:=rfl
theorem tf:(true==false)=false:=rfl
theorem ft:(false==true)=false:=rfl
theorem ff:(false==false)=true:=rfl
theorem ke(s2 e2 s3 e3:Bool)(a b:List Int)(u v:Int)(ha:Rep u s2 a)(hb:Rep v s3 b)(la:a.length<=400)(lb:b.length<=400):
  Sets (u+v) (max a.length b.length+1) (Or (.call 94) [r0,r0,AV.t (T.ptr [tb s3,T.lst 1 e3 (ac b)])] [Blk.box [AV.t (T.bool s2),AV.t (T.lst 1 e2 (ac a))]]):=by
 have hu:=ha.z
 have hv:=hb.z
 by_cases hs:s2=s3
 ·subst hs
  obtain⟨d,h66,k1,k2,k3⟩:=s66 a b e2 e3 ha.dg hb.dg (by omega) (by omega)
  have h51:=s51 s2 false d (by omega)
  refine⟨s2 && decide (ay d≠[]),false,ay d,aa ?_,fV (s:=s2) k1 ?_,by have:=ic d;omega⟩
  ·rw [rk]
   have hq:(s2==s2)=true:=by cases s2 <;> rfl
   simp only [STL,↓reduceIte,Int.reduceBEq,Int.reduceEq,GD,hq,h66,h51]
  ·unfold num at hu hv⊢
   split at hu <;> split at hv <;> (try split) <;> first | omega | simp_all
 ·have hq:(s2==s3)=false:=by cases s2 <;> cases s3 <;> simp_all
  have h67:=s67 a b s2 e2 s3 e3 ha.dg hb.dg ha.can hb.can (by omega) (by omega)
  by_cases hc:val b<=val a
  ·have hl:b.length<=a.length:=by
    rcases Nat.lt_or_ge a.length b.length with h | h
    ·have:=eQ ha.dg hb.dg hb.can h;omega
    ·exact h
   obtain⟨d,h68,k1,k2,k3⟩:=s68 a b e2 e3 ha.dg hb.dg hl hc (by omega)
   have h51:=s51 s2 false d (by omega)
   have hge:ao (val a) (val b)>=0:=by unfold ao;split <;> (try split) <;> omega
   refine⟨s2 && decide (ay d≠[]),false,ay d,aa ?_,fV (s:=s2) k1 ?_,by have:=ic d;omega⟩
   ·rw [rk]
    simp only [STL,↓reduceIte,Int.reduceBEq,Int.reduceEq,GD,hq,h67,hge,h68,h51]
   ·unfold num at hu hv⊢
    cases s2 <;> cases s3 <;> simp at * <;> omega
  ·have hl:a.length<=b.length:=by
    rcases Nat.lt_or_ge b.length a.length with h | h
    ·have:=eQ hb.dg ha.dg ha.can h;omega
    ·exact h
   obtain⟨d,h68,k1,k2,k3⟩:=s68 b a e3 e2 hb.dg ha.dg hl (by omega) (by omega)
   have h51:=s51 s3 false d (by omega)
   have hge:¬ao (val a) (val b)>=0:=by unfold ao;rw [if_pos (by omega)];omega
   refine⟨s3 && decide (ay d≠[]),false,ay d,aa ?_,fV (s:=s3) k1 ?_,by have:=ic d;omega⟩
   ·rw [rk]
    simp only [STL,↓reduceIte,Int.reduceBEq,Int.reduceEq,GD,hq,h67,hge,h68,h51]
   ·unfold num at hu hv⊢
    cases s2 <;> cases s3 <;> simp at * <;> omega
theorem uV(s2 e2 s3 e3:Bool)(a b:List Int)(u v:Int)(ha:Rep u s2 a)(hb:Rep v s3 b)(la:a.length<=400)(lb:b.length<=400):
  Sets (u - v) (max a.length b.length+1) (Or (.call 148) [r0,r0,AV.t (T.ptr [tb s3,T.lst 1 e3 (ac b)])] [Blk.box [AV.t (T.bool s2),AV.t (T.lst 1 e2 (ac a))]]):=by
 obtain⟨s',h50,hn⟩:=s50 false (T.emp true) s3 e3 b v (by omega) hb
 obtain⟨sr,er,d,k1,k2,k3⟩:=ke s2 e2 s' false a b u (-v) ha hn la lb
 refine⟨sr,er,d,aa ?_,by rw [Int.sub_eq_add_neg];exact k2,k3⟩
 rw [zU]
 simp only [STL,↓reduceIte,Int.reduceBEq,Int.reduceEq,GD,h50,k1]
open Go Go.Aev Go.Aev.Gen
def bN(a:Int):List Int->List Int->Int->List Int
 | [],[],_=> []
 | [],_::r,c=>c::r
 | _::_,[],_=> []
 | b::y,o::r,c=>((c+a * b+o) % 4294967296)::bN a y r ((c+a * b+o) / 4294967296)
theorem dI{a b:Int}(ha: 0<=a/\a < 4294967296)(hb: 0<=b/\b < 4294967296): 0<=a * b/\a * b<=18446744065119617025:=by
 have h1: 0<=a * b:=Int.mul_nonneg ha.1 hb.1
 have h2:a * b<=4294967295 * 4294967295:=Int.mul_le_mul (by omega) (by omega) hb.1 (by omega)
 omega
theorem qX{a:Int}(ha: 0<=a/\a < 4294967296):∀{y o r:List Int} {c:Int},y.length=o.length->val (bN a y (o++0::r) c)=c+a * val y+val (o++0::r)
 | [],[],r,c,_=>by simp [bN,val]
 | [],o::os,r,c,h=>by simp at h
 | b::y,[],r,c,h=>by simp at h
 | b::y,o::os,r,c,h=>by
  have:=qX ha (y:=y) (o:=os) (r:=r) (c:=(c+a * b+o) / 4294967296) (by simpa using h)
  simp only [List.cons_append,bN,val] at this⊢
  have e1:a * (b+4294967296 * val y)=a * b+4294967296 * (a * val y):=by rw [Int.mul_add,Int.mul_left_comm]
  rw [this,e1]
  omega
theorem qn{a:Int}:∀{y o:List Int} {c:Int},(bN a y o c).length=o.length
 | [],[],_=>rfl
 | [],_::r,c=>rfl
 | _::_,[],_=>rfl
 | b::y,o::r,c=>by simp [bN,qn]
theorem o8{a:Int}(ha: 0<=a/\a < 4294967296):∀{y o:List Int} {c:Int},Dg y->Dg o->0<=c/\c < 4294967296->Dg (bN a y o c)
 | [],[],_,_,_,_=>by intro u hu;simp [bN] at hu
 | [],_::r,c,_,ho,hc=>by
  intro u hu
  simp only [bN] at hu
  rcases List.mem_cons.1 hu with rfl | hu
  ·exact hc
  ·exact ho u (List.mem_cons_of_mem _ hu)
 | _::_,[],_,_,_,_=>by intro u hu;simp [bN] at hu
 | b::y,o::r,c,hy,ho,hc=>by
  have h1:=ho o List.mem_cons_self
  have h2:=dI ha (hy b List.mem_cons_self)
  have:=o8 ha (y:=y) (o:=r) (c:=(c+a * b+o) / 4294967296) hy.tail ho.tail (by omega)
  intro u hu
  simp only [bN] at hu
  rcases List.mem_cons.1 hu with rfl | hu
  ·omega
  ·exact this u hu
theorem jK(a:List Int)(b:Int)(r:List Int)(i:Nat)(h:a.length=i):dat (a++b::r) i=b:=by
 subst h;simp [dat,List.getD_eq_getElem?_getD]
theorem yZ(s:Bool)(yy:T)(s2 e2 s3 e3:Bool)(x y:List Int)(a:Int)(ha: 0<=a/\a < 4294967296)(hy:Dg y)(i:Nat)(hi:i<=1000)(hny:y.length<=1000)(R:List T):∀(yr:List Int) (j:Nat) (c:Int) (pre mid:List Int),y.drop j=yr->j<=y.length->pre.length=i+j->yr.length < mid.length->Dg mid->0<=c/\c < 4294967296->
  Or kM [r0,AV.t (T.ptr [tb s2,T.lst 1 e2 (ac x)]),AV.t (T.ptr [tb s3,T.lst 1 e3 (ac y)]),o1,lu e2 x,I (x.length:Int),I ((i+1:Nat):Int)] [Blk.box [AV.t (T.bool s),AV.t yy],Blk.sl false 1 false (ac (pre++bN a yr mid c))]=some R->
  Or mK [r0,AV.t (T.ptr [tb s2,T.lst 1 e2 (ac x)]),AV.t (T.ptr [tb s3,T.lst 1 e3 (ac y)]),o1,I (i:Int),AV.t (T.int .u32 a),AV.t (T.int .u64 c),lu e2 x,I (x.length:Int),I (i:Int),lu e3 y,I (y.length:Int),I (j:Int)] [Blk.box [AV.t (T.bool s),AV.t yy],Blk.sl false 1 false (ac (pre++mid))]=some R:=by
 intro yr
 induction yr with
 | nil=>
  intro j c pre mid h hj hp hm hmd hc hR
  have hle:=ax h
  obtain rfl:j=y.length:=by omega
  match mid,hm with
  | o::r,_=>
   have h1:¬(y.length:Int) < (y.length:Int):=by omega
   have hw:IntKind.i64.wrap ((i:Int)+ (y.length:Int))= ((i+y.length:Nat):Int):=by rw [wr (by omega)];omega
   have h2: 0<=((i+y.length:Nat):Int)/\((i+y.length:Nat):Int) < ((pre++o::r).length:Int):=by simp;omega
   have hs:=gE (d:=pre++o::r) (i:=i+y.length) (by simp;omega) c
   rw [fa pre o c r _ hp] at hs
   have hw2:IntKind.u32.wrap c=c:=by rw [aH];omega
   refine aa ?_
   rw [sU]
   simp only [STL,↓reduceIte,Int.reduceBEq,Int.reduceEq,GD,h1,af,hw,h2,and_self,hw2,hs,next i (by omega)]
   exact hR
 | cons b yr ih=>
  intro j c pre mid h hj hp hm hmd hc hR
  obtain⟨g1,g2,g3⟩:=ar h
  have hb:=hy b (List.mem_of_getElem? g1)
  have hdb:=bG h
  match mid,hm,hmd,hR with
  | o::r,hm,hmd,hR=>
   have ho:=hmd o List.mem_cons_self
   have hab:=dI ha hb
   have h1:(j:Int) < (y.length:Int):=by omega
   have h0: 0<=(j:Int):=by omega
   have hw:IntKind.i64.wrap ((i:Int)+ (j:Int))= ((i+j:Nat):Int):=by rw [wr (by omega)];omega
   have h2: 0<=((i+j:Nat):Int)/\((i+j:Nat):Int) < ((pre++o::r).length:Int):=by simp;omega
   have hg:(ac (pre++o::r))[((i+j:Nat):Int).toNat]? =some [T.int .u32 o]:=by
    rw [aq (by simp;omega),jK pre o r _ hp]
   have hs:∀v,aB ((i+j:Nat):Int).toNat 0 [T.int .u32 v] (ac (pre++o::r))=some (ac ((pre++ [v])++r)):=fun v=>by
    rw [gE (by simp;omega),fa pre o v r _ hp]
    simp
   have w1:IntKind.u64.wrap a=a:=w64 (by omega)
   have w2:IntKind.u64.wrap b=b:=w64 (by omega)
   have w3:IntKind.u64.wrap o=o:=w64 (by omega)
   have w4:IntKind.u64.wrap (a * b)=a * b:=w64 (by omega)
   have w5:IntKind.u64.wrap (a * b+o)=a * b+o:=w64 (by omega)
   have w6:IntKind.u64.wrap (c+ (a * b+o))=c+a * b+o:=by rw [w64 (by omega)];omega
   have:=ih (j+1) ((c+a * b+o) / 4294967296) (pre++ [(c+a * b+o) % 4294967296]) r g3 (by omega) (by simp;omega) (by simpa using hm) hmd.tail (by omega) (by
    rw [bN] at hR
    rw [List.append_assoc];exact hR)
   refine aa ?_
   rw [sU]
   simp only [STL,↓reduceIte,Int.reduceBEq,Int.reduceEq,GD,h1,h0,and_self,af,aq g2,hdb,hw,h2,hg,w1,w2,w3,w4,w5,w6,aH,hs,bZ,next j (by omega)]
   exact this
theorem pv{a:Int}:∀{y o r:List Int} {q c:Int},y.length=o.length->bN a y (o++q::r) c=bN a y (o++ [q]) c++r
 | [],[],r,q,c,_=>rfl
 | [],o::os,r,q,c,h=>by simp at h
 | b::y,[],r,q,c,h=>by simp at h
 | b::y,o::os,r,q,c,h=>by
  simp only [List.cons_append,bN]
  rw [pv (by simpa using h)]
theorem A8(s:Bool)(yy:T)(s2 e2 s3 e3:Bool)(x y:List Int)(hx:Dg x)(hy:Dg y)(hnx:x.length<=400)(hny:y.length<=400):∀(xr:List Int) (i:Nat) (lo mid:List Int),x.drop i=xr->i<=x.length->lo.length=i->mid.length=y.length->Dg lo->Dg mid->
  ∃d,Or kM [r0,AV.t (T.ptr [tb s2,T.lst 1 e2 (ac x)]),AV.t (T.ptr [tb s3,T.lst 1 e3 (ac y)]),o1,lu e2 x,I (x.length:Int),I (i:Int)] [Blk.box [AV.t (T.bool s),AV.t yy],Blk.sl false 1 false (ac (lo++ (mid++List.replicate xr.length 0)))]=some [T.nilp,tb ((!s2==s3) && decide (ay d≠[])),T.lst 1 false (ac (ay d))]/\
   Dg d/\d.length=x.length+y.length/\val d=val (lo++mid)+4294967296 ^ i * (val xr * val y):=by
 intro xr
 induction xr with
 | nil=>
  intro i lo mid h hi hlo hmid hdl hdm
  have hle:=ax h
  have h1:¬(i:Int) < (x.length:Int):=by omega
  have hlen:(lo++mid).length=x.length+y.length:=by simp;omega
  have h51:=s51 (!s2==s3) false (lo++mid) (by omega)
  refine⟨lo++mid,aa ?_,fun u hu=> ?_,hlen,by simp [val]⟩
  ·rw [uB]
   simp only [List.length_nil,List.replicate_zero,List.append_nil]
   simp only [STL,↓reduceIte,Int.reduceBEq,Int.reduceEq,GD,h1,h51]
  ·rcases List.mem_append.1 hu with hu | hu
   ·exact hdl u hu
   ·exact hdm u hu
 | cons a xr ih=>
  intro i lo mid h hi hlo hmid hdl hdm
  obtain⟨g1,g2,g3⟩:=ar h
  have ha:=hx a (List.mem_of_getElem? g1)
  have hda:=bG h
  have h1:(i:Int) < (x.length:Int):=by omega
  have h0: 0<=(i:Int):=by omega
  have hd0:Dg (mid++ [0]):=fun u hu=>by
   rcases List.mem_append.1 hu with hu | hu
   ·exact hdm u hu
   ·simp only [List.mem_singleton] at hu;subst hu;omega
  have hv0:=qX ha (y:=y) (o:=mid) (r:= []) (c:=0) hmid.symm
  have hl0:=qn (a:=a) (y:=y) (o:=mid++ [0]) (c:=0)
  have hg0:=o8 ha (y:=y) (o:=mid++ [0]) (c:=0) hy hd0 (by omega)
  have hsp:=pv (a:=a) (y:=y) (o:=mid) (r:=List.replicate xr.length 0) (q:=0) (c:=0) hmid.symm
  have hdz:Dg (mid++List.replicate (a::xr).length 0):=fun u hu=>by
   rcases List.mem_append.1 hu with hu | hu
   ·exact hdm u hu
   ·have:=List.eq_of_mem_replicate hu;omega
  generalize bN a y (mid++ [0]) 0=res at *
  cases res with
  | nil=>simp at hl0
  | cons hd t=>
   simp only [List.length_cons,List.length_append,List.length_nil] at hl0
   obtain⟨d,k1,k2,k3,k4⟩:=ih (i+1) (lo++ [hd]) t g3 (by omega) (by simp [hlo]) (by omega) (fun u hu=>by
    rcases List.mem_append.1 hu with hu | hu
    ·exact hdl u hu
    ·simp only [List.mem_singleton] at hu;subst hu;exact hg0 u List.mem_cons_self) hg0.tail
   have hin:=yZ s yy s2 e2 s3 e3 x y a ha hy i (by omega) (by omega) _ y 0 0 lo (mid++List.replicate (a::xr).length 0) rfl (by omega) (by omega) (by simp;omega) hdz (by omega) (by
    rw [show mid++List.replicate (a::xr).length 0=mid++0::List.replicate xr.length 0 from rfl,hsp]
    rw [show lo++ (hd::t++List.replicate xr.length 0)=lo++ [hd] ++ (t++List.replicate xr.length 0) from by simp]
    exact k1)
   refine⟨d,aa ?_,k2,k3, ?_⟩
   ·rw [uB]
    simp only [STL,↓reduceIte,Int.reduceBEq,Int.reduceEq,GD,h1,h0,and_self,af,aq g2,hda]
    exact hin
   ·rw [k4]
    have e1:lo++ [hd] ++t=lo++hd::t:=by simp
    have e2:val (mid++ [0])=val mid:=by rw [bt];simp [val]
    have e3:(4294967296:Int) ^ i * ((a+4294967296 * val xr) * val y)=4294967296 ^ i * (a * val y)+4294967296 ^ i * 4294967296 * (val xr * val y):=by
     rw [Int.add_mul,Int.mul_add];simp only [Int.mul_assoc]
    rw [e1,bt,bt,hlo,hv0,e2,Int.pow_succ]
    simp only [val]
    rw [e3,Int.zero_add,Int.mul_add]
    omega
theorem l8:∀n:Nat,val (List.replicate n 0)=0
 | 0=>rfl
 | n+1=>by simp only [List.replicate_succ,val,l8 n];omega
theorem s37(s:Bool)(yy:T)(s2 e2 s3 e3:Bool)(a b:List Int)(u v:Int)(ha:Rep u s2 a)(hb:Rep v s3 b)(la:a.length<=400)(lb:b.length<=400):
  Sets (u * v) (a.length+b.length) (Or (.call 91) [r0,AV.t (T.ptr [tb s2,T.lst 1 e2 (ac a)]),AV.t (T.ptr [tb s3,T.lst 1 e3 (ac b)])] [Blk.box [AV.t (T.bool s),AV.t yy]]):=by
 obtain⟨d,k1,k2,k3,k4⟩:=A8 s yy s2 e2 s3 e3 a b ha.dg hb.dg la lb a 0 [] (List.replicate b.length 0) rfl (by omega) rfl (by simp) (fun u hu=>by cases hu) (fun u hu=>by
  have:=List.eq_of_mem_replicate hu;omega)
 have hv:val d=val a * val b:=by
  rw [k4,List.nil_append,l8];simp
 have hw:IntKind.i64.wrap ((a.length:Int)+ (b.length:Int))= ((b.length+a.length:Nat):Int):=by rw [wr (by omega)];omega
 have hmk:ap ((b.length+a.length:Nat):Int) ((b.length+a.length:Nat):Int)=some ():=by unfold ap lim;rw [if_pos (by omega)]
 have he:ac ([] ++ (List.replicate b.length 0++List.replicate a.length 0))=List.replicate (b.length+a.length) [T.int IntKind.u32 0]:=by
  rw [List.nil_append,List.replicate_append_replicate];simp [ac]
 rw [he] at k1
 have hu:=ha.z
 have hv':=hb.z
 refine⟨(!s2==s3) && decide (ay d≠[]),false,ay d,aa ?_,fV (s:= !s2==s3) k2 ?_,by have:=ic d;omega⟩
 ·rw [e37]
  simp only [af,hw]
  simp only [STL,↓reduceIte,Int.reduceBEq,Int.reduceEq,GD,hmk,Int.toNat_natCast]
  exact k1
 ·unfold num at hu hv'⊢
  rw [hv,<-hu,<-hv']
  cases s2 <;> cases s3 <;> simp [Int.mul_neg,Int.neg_mul]
end Go.Aev.Wd
