import Derived.Test.YticjdhgokemdlaaGreatMostTakesQ10
import Derived.Test.YticjdhgokemdlaaGreatMostTakesQ6
import Derived.Test.YticjdhgokemdlaaGreatMostTakesQ7
set_option linter.unusedSimpArgs false
set_option linter.unusedVariables false
namespace Go.Aev.Wd.Lg
open Go Go.Aev Go.Aev.Gen Go.Aev.Wd
def dgs:Nat->Nat->List Int
 | 0,_=> []
 | f+1,n=>if n=0 then [] else((n % 4294967296:Nat):Int)::dgs f (n / 4294967296)
theorem mz:∀(f n:Nat),n<=f->Dg (dgs f n)/\Can (dgs f n)/\val (dgs f n)= (n:Int)
 | 0,n,h=>by
  obtain rfl:n=0:=by omega
  exact⟨fun a ha=>by simp [dgs] at ha,fun k hk=>by simp [dgs] at hk,rfl⟩
 | f+1,n,h=>by
  rw [dgs]
  by_cases hn:n=0
  ·subst hn
   rw [if_pos rfl]
   exact⟨(fun a ha=>by cases ha),(fun k hk=>by cases hk),rfl⟩
  ·rw [if_neg hn]
   have hlt:n / 4294967296 < n:=Nat.div_lt_self (by omega) (by omega)
   obtain⟨h1,h2,h3⟩:=mz f (n / 4294967296) (by omega)
   have hm:n % 4294967296 < 4294967296:=Nat.mod_lt _ (by omega)
   refine⟨fun a ha=> ?_,fun k hk=> ?_, ?_⟩
   ·rcases List.mem_cons.1 ha with rfl | ha
    ·omega
    ·exact h1 a ha
   ·cases k with
    | zero=>
     have hl:dgs f (n / 4294967296)= []:=List.length_eq_zero_iff.1 (by simpa using hk)
     rw [hl] at h3
     have hv:val []=0:=rfl
     rw [hv] at h3
     show(_:Int)≠0
     simp only [dat,List.getD_cons_zero]
     omega
    | succ k=>
     have:=h2 k (by simpa using hk)
     simpa [dat] using this
   ·rw [val,h3];omega
def dz(z:Int):List Int:=dgs z.natAbs z.natAbs
theorem aZ(z:Int):Dg (dz z):=(mz _ _ (Nat.le_refl _)).1
theorem cg(z:Int):Can (dz z):=(mz _ _ (Nat.le_refl _)).2.1
theorem bc(z:Int):val (dz z)= (z.natAbs:Int):=(mz _ _ (Nat.le_refl _)).2.2
theorem tZ{a:Int}{d:List Int}(h:Can (a::d)):Can d:=fun k hk=>by
 have:=h (k+1) (by simp [hk])
 simpa [dat] using this
theorem iC:∀{a b:List Int},Dg a->Dg b->Can a->Can b->val a=val b->a=b
 | [],[],_,_,_,_,_=>rfl
 | [],y::b,_,hb,_,cb,h=>by
  have:=iY hb cb (by simp)
  rw [<-h] at this
  simp [val] at this
 | x::a,[],ha,_,ca,_,h=>by
  have:=iY ha ca (by simp)
  rw [h] at this
  simp [val] at this
 | x::a,y::b,ha,hb,ca,cb,h=>by
  have h1:=ha x List.mem_cons_self
  have h2:=hb y List.mem_cons_self
  rw [val,val] at h
  have hxy:x=y:=by omega
  subst hxy
  have:=iC (fun u hu=>ha u (List.mem_cons_of_mem _ hu)) (fun u hu=>hb u (List.mem_cons_of_mem _ hu)) (tZ ca) (tZ cb) (by omega)
  rw [this]
theorem Ay{d:List Int}{z:Int}(h:Dg d)(c:Can d)(hv:val d= (z.natAbs:Int)):d=dz z:=iC h (aZ z) c (cg z) (by rw [hv,bc])
theorem dz_nil{z:Int}:dz z= []↔z=0:=by
 constructor
 ·intro h
  have:=bc z
  rw [h] at this
  simp [val] at this
  exact this.symm▸by omega
 ·rintro rfl;rfl
theorem kY(z:Int):dz (-z)=dz z:=by unfold dz;rw [Int.natAbs_neg]
theorem nR{z:Int}{k:Nat}(h:(z.natAbs:Int) < 4294967296 ^ k):(dz z).length<=k:=by
 rcases Nat.lt_or_ge k (dz z).length with h1 | h1
 ·exfalso
  obtain⟨m,hm⟩:∃m,(dz z).length=m+1:=⟨(dz z).length - 1,by omega⟩
  have h2:=pc (aZ z) (cg z) hm
  rw [bc] at h2
  have h3:(4294967296:Int) ^ k<=4294967296 ^ m:=kD (by omega)
  omega
 ·exact h1
theorem pN{z:Int}(h:Lim z):(dz z).length<=200:=nR h
def bO(a:Int):List UInt8:= [UInt8.ofNat (a.toNat % 256),UInt8.ofNat (a.toNat / 256 % 256),UInt8.ofNat (a.toNat / 65536 % 256),UInt8.ofNat (a.toNat / 16777216 % 256)]
def bys:List Int->List UInt8
 | []=> []
 | a::d=>bO a++bys d
def aI(d:List Int):ByteArray:=⟨(bys d).toArray⟩
theorem vU:∀d:List Int,(bys d).length=4 * d.length
 | []=>rfl
 | a::d=>by rw [bys,List.length_append,vU d,List.length_cons];simp [bO];omega
theorem vp:∀(i:Nat) (d:List Int),(bys d).drop (4 * i)=bys (d.drop i)
 | 0,d=>by simp
 | i+1,[]=>by simp [bys]
 | i+1,a::d=>by
  rw [bys,show 4 * (i+1)= (bO a).length+4 * i from by simp [bO];omega,List.drop_append,List.drop_of_length_le (by omega),List.nil_append,List.drop_succ_cons]
  rw [show(bO a).length+4 * i - (bO a).length=4 * i from by omega]
  exact vp i d
theorem yF(d:List Int):(aI d).size=4 * d.length:=by
 show(bys d).toArray.size=_
 rw [List.size_toArray,vU]
theorem zI(A:Array UInt8)(lo n x y:Nat)(h:A.size<=lo+n):((#[]:Array UInt8).extract 0 0++A.extract lo (lo+n)++ (#[]:Array UInt8).extract x y).toList=A.toList.drop lo:=by
 simp only [Array.toList_append,Array.toList_extract,List.extract_eq_take_drop,List.take_nil,List.drop_nil,List.nil_append,List.append_nil]
 rw [List.take_of_length_le (by simp;omega)]
theorem Bv(s:ByteArray)(lo n:Nat)(h:n=s.size):(s.extract lo n).size=n - lo:=by
 subst h
 have:(s.extract lo s.size).size=min s.size s.size - lo:=ByteArray.size_extract
 rw [this];omega
theorem sF{n:Nat}(h:n < 256):((UInt8.ofNat n).toNat:Int)= (n:Int):=by
 rw [UInt8.toNat_ofNat']
 omega
theorem pw8:(2:Int) ^ 8=256:=by decide
theorem rv:(2:Int) ^ 16=65536:=by decide
theorem rd:(2:Int) ^ 24=16777216:=by decide
theorem w32{v:Int}(h: 0<=v/\v < 4294967296):IntKind.u32.wrap v=v:=by rw [aH];omega
theorem B7{a:Int}(h: 0<=a/\a < 4294967296)(x0 x2 x4 x6:Int)(h0:x0= ((a.toNat % 256:Nat):Int))(h2:x2= ((a.toNat / 256 % 256:Nat):Int))(h4:x4= ((a.toNat / 65536 % 256:Nat):Int))(h6:x6= ((a.toNat / 16777216 % 256:Nat):Int)):
  IntKind.u32.wrap (((BitVec.ofInt 32 (IntKind.u32.wrap (((BitVec.ofInt 32 (IntKind.u32.wrap (((BitVec.ofInt 32 (IntKind.u32.wrap x0) ||| BitVec.ofInt 32 (IntKind.u32.wrap (IntKind.u32.wrap x2 * (2:Int) ^ 8))).toNat:Nat):Int)) ||| BitVec.ofInt 32 (IntKind.u32.wrap (IntKind.u32.wrap x4 * (2:Int) ^ 16))).toNat:Nat):Int)) ||| BitVec.ofInt 32 (IntKind.u32.wrap (IntKind.u32.wrap x6 * (2:Int) ^ 24))).toNat:Nat):Int)=a:=by
 have b0: 0<=x0/\x0 < 256:=by omega
 have b2: 0<=x2/\x2 < 256:=by omega
 have b4: 0<=x4/\x4 < 256:=by omega
 have b6: 0<=x6/\x6 < 256:=by omega
 rw [w32 (v:=x0) (by omega),w32 (v:=x2) (by omega),w32 (v:=x4) (by omega),w32 (v:=x6) (by omega),pw8,rv,rd]
 rw [w32 (v:=x2 * 256) (by omega),w32 (v:=x4 * 65536) (by omega),w32 (v:=x6 * 16777216) (by omega)]
 rw [hH (y:=x0) (z:=x2 * 256) (n:=8) (t:=x2.toNat) (by omega) (by rw [pw8];omega) (by show x2 * 256= ((256 * x2.toNat:Nat):Int);omega) (by omega) (by omega)]
 rw [hH (y:=x2 * 256+x0) (z:=x4 * 65536) (n:=16) (t:=x4.toNat) (by omega) (by rw [rv];omega) (by show x4 * 65536= ((65536 * x4.toNat:Nat):Int);omega) (by omega) (by omega)]
 rw [hH (y:=x4 * 65536+ (x2 * 256+x0)) (z:=x6 * 16777216) (n:=24) (t:=x6.toNat) (by omega) (by rw [rd];omega) (by show x6 * 16777216= ((16777216 * x6.toNat:Nat):Int);omega) (by omega) (by omega)]
 omega
abbrev LS(s:Bool)(d:List Int):AV:=AV.agg [B s,AV.t (T.str (aI d))]
theorem n97(s:Bool)(d:List Int)(hd:Dg d)(hl:d.length<=1000):∀(rest:List Int) (i:Nat) (done:List Int),d.drop i=rest->done.length=i->d=done++rest->
  Or lV [r0,o1,I (d.length:Int),I (i:Int)] [Blk.box [B s,AV.t (T.str (aI d))],Blk.sl false 1 false (ac (done++List.replicate rest.length 0))]=some [T.lst 1 false (ac d)]:=by
 intro rest
 induction rest with
 | nil=>
  intro i done h hi hf
  have h1:¬(i:Int) < (d.length:Int):=by have:=ax h;omega
  refine aa ?_
  rw [t8]
  simp only [STL,↓reduceIte,Int.reduceBEq,Int.reduceEq,GD,h1,List.length_nil,List.replicate_zero]
  rw [hf]
 | cons a rest ih=>
  intro i done h hi hf
  obtain⟨g1,g2,g3⟩:=ar h
  have ha:=hd a (List.mem_of_getElem? g1)
  have h1:(i:Int) < (d.length:Int):=by omega
  have hw:IntKind.i64.wrap (4 * (i:Int))= ((4 * i:Nat):Int):=by rw [Go.Aev.wr (by omega)];omega
  have hsz:=yF d
  have hin:inB ((4 * i:Nat):Int) ((aI d).size:Int) ((aI d).size:Int)=some ():=uP (by omega)
  have hex:((aI d).extract (4 * i) (aI d).size).size=4 * d.length - 4 * i:=by rw [Bv _ _ _ rfl,hsz]
  have hL:∀x y:Nat,((#[]:Array UInt8).extract 0 0++ (aI d).data.extract (4 * i) (4 * i+ ((aI d).size - 4 * i))++ (#[]:Array UInt8).extract x y).toList=bO a++bys rest:=fun x y=>by
   rw [zI _ _ _ _ _ (by show(aI d).size<=_;omega)]
   show(bys d).toArray.toList.drop (4 * i)=_
   rw [List.toList_toArray,vp,h,bys]
  have c0:(0:Int)<=0/\(0:Int) < ((4 * d.length - 4 * i:Nat):Int):=by omega
  have c1:(0:Int)<=1/\(1:Int) < ((4 * d.length - 4 * i:Nat):Int):=by omega
  have c2:(0:Int)<=2/\(2:Int) < ((4 * d.length - 4 * i:Nat):Int):=by omega
  have c3:(0:Int)<=3/\(3:Int) < ((4 * d.length - 4 * i:Nat):Int):=by omega
  have d0:(bO a++bys rest)[0]? =some (UInt8.ofNat (a.toNat % 256)):=rfl
  have d1:(bO a++bys rest)[1]? =some (UInt8.ofNat (a.toNat / 256 % 256)):=rfl
  have d2:(bO a++bys rest)[2]? =some (UInt8.ofNat (a.toNat / 65536 % 256)):=rfl
  have d3:(bO a++bys rest)[3]? =some (UInt8.ofNat (a.toNat / 16777216 % 256)):=rfl
  have hj:=B7 ha _ _ _ _ rfl rfl rfl rfl
  have h00: 0<=(i:Int):=by omega
  have hlen:(i:Int) < ((ac (done++List.replicate (a::rest).length 0)).length:Int):=by rw [af];simp;omega
  have hst:aB i 0 [T.int .u32 a] (ac (done++List.replicate (a::rest).length 0))=some (ac ((done++ [a])++List.replicate rest.length 0)):=by
   have:=bv done 0 a (List.replicate rest.length 0) i hi
   rw [Int.toNat_natCast] at this
   rw [List.length_cons,List.replicate_succ,this];simp
  have:=ih (i+1) (done++ [a]) g3 (by simp [hi]) (by rw [hf];simp)
  refine aa ?_
  rw [t8]
  simp only [STL,↓reduceIte,Int.reduceBEq,Int.reduceEq,GD,h1,hw,hin,Int.toNat_natCast,hex,hL,c0,c1,c2,c3,d0,d1,d2,d3,sF (Nat.mod_lt _ (by decide:(0:Nat) < 256)),hj,h00,hlen,and_self,hst,next i (by omega)]
  exact this
theorem s97(s:Bool)(d:List Int)(hd:Dg d)(hl:d.length<=1000):Or (.call 104) [LS s d] []=some [T.lst 1 false (ac d)]:=by
 have hsz:=yF d
 have hw:IntKind.i64.wrap (((aI d).size:Int).tdiv 4)= (d.length:Int):=by
  rw [hsz,Int.tdiv_eq_ediv_of_nonneg (by omega),Go.Aev.wr (by omega)];omega
 have hm:ap (d.length:Int) (d.length:Int)=some ():=by unfold ap;rw [if_pos (by unfold lim;omega)]
 have hr:List.replicate ((d.length:Int)).toNat [T.int .u32 0]=ac (List.replicate d.length 0):=by simp [ac]
 have:=n97 s d hd hl d 0 [] rfl rfl rfl
 refine aa ?_
 rw [e97]
 simp only [STL,↓reduceIte,Int.reduceBEq,Int.reduceEq,GD,hw,hm,hr,af,List.length_replicate]
 exact this
theorem tE(e:Bool)(l:List Int)(hn:l.length<=1000):∀k,k<=l.length->Or nE [lu e (l.take k)] []=some [T.lst 1 e (ac (l.take (bz l k)))]
 | 0,hk=>by
  refine aa ?_
  rw [wX]
  have h0:¬((0:Nat):Int) > 0:=by omega
  simp only [STL,↓reduceIte,Int.reduceBEq,Int.reduceEq,GD,gdF,af,List.take_zero,List.length_nil,h0,decide_false,bz]
 | k+1,hk=>by
  have ih:=tE e l hn k (by omega)
  have h0:((k+1:Nat):Int) > 0:=by omega
  have hw:IntKind.i64.wrap (((k+1:Nat):Int) - 1)= (k:Int):=by rw [Go.Aev.wr (by omega)];omega
  have h2: 0<=(k:Int)/\(k:Int) < ((k+1:Nat):Int):=by omega
  have hi:inB 0 (k:Int) ((k+1:Nat):Int)=some ():=uP (by omega)
  have hlk:(l.take (k+1)).length=k+1:=by rw [List.length_take];omega
  have hg:(ac (l.take (k+1)))[((k:Nat):Int).toNat]? =some [T.int .u32 (dat l k)]:=by
   rw [aq (by omega)]
   simp [dat,List.getD_eq_getElem?_getD,List.getElem?_take]
  have ht:sub 0 (k:Int) (ac (l.take (k+1)))=ac (l.take k):=by
   simp only [sub,ac,Int.toNat_natCast,Int.toNat_zero,List.drop_zero,Nat.sub_zero,<-List.map_take,List.take_take]
   rw [Nat.min_eq_left (by omega)]
  refine aa ?_
  rw [wX,bz]
  by_cases hz:dat l k=0
  ·rw [if_pos hz]
   simp only [STL,↓reduceIte,Int.reduceBEq,Int.reduceEq,GD,af,hlk,h0,decide_true,hw,h2,and_self,hg,hz,hi,ht]
   exact ih
  ·rw [if_neg hz]
   simp only [STL,↓reduceIte,Int.reduceBEq,Int.reduceEq,GD,af,hlk,h0,decide_true,hw,h2,and_self,hg,hz]
theorem gZ(e:Bool)(l:List Int)(hn:l.length<=1000):Or (.call 134) [lu e l] []=some [T.lst 1 e (ac (ay l))]:=by
 have:=tE e l hn l.length (Nat.le_refl _)
 rw [List.take_length] at this
 refine aa ?_
 rw [A9]
 exact this
theorem eB{l:List Int}(h:Dg l):Dg (ay l):=fun a ha=>h a (List.mem_of_mem_take ha)
theorem tQ{l:List Int}{z:Int}(h:Dg l)(hv:val l= (z.natAbs:Int)):ay l=dz z:=Ay (eB h) (gr l) (by rw [fy,hv])
def dv(l:List UInt8):List (List T):=l.map fun b=> [T.int .u8 (b.toNat:Int)]
theorem xx:∀l:List UInt8,bytesOf (dv l)=some l
 | []=>rfl
 | b::l=>by
  have h1:=xx l
  unfold dv at h1⊢
  simp only [List.map_cons,bytesOf,List.head?_cons,Option.bind_some,in1,h1]
  simp
theorem w8(v:Int):IntKind.u8.wrap v=v % 256:=by simp [IntKind.wrap,IntKind.signed,IntKind.bits]
theorem yS(a:Int)(h: 0<=a/\a < 4294967296): [[T.int .u8 (IntKind.u8.wrap a)],[T.int .u8 (IntKind.u8.wrap (a.fdiv (2 ^ 8)))],[T.int .u8 (IntKind.u8.wrap (a.fdiv (2 ^ 16)))],[T.int .u8 (IntKind.u8.wrap (a.fdiv (2 ^ 24)))]]=dv (bO a):=by
 have e:∀n:Nat,n < 256->((UInt8.ofNat n).toNat:Int)= (n:Int):=fun n hn=>sF hn
 simp only [dv,bO,List.map_cons,List.map_nil,e _ (Nat.mod_lt _ (by decide:(0:Nat) < 256)),w8,pw8,rv,rd]
 rw [Int.fdiv_eq_ediv_of_nonneg _ (by omega),Int.fdiv_eq_ediv_of_nonneg _ (by omega),Int.fdiv_eq_ediv_of_nonneg _ (by omega)]
 have q0:a % 256= ((a.toNat % 256:Nat):Int):=by omega
 have q1:a / 256 % 256= ((a.toNat / 256 % 256:Nat):Int):=by omega
 have q2:a / 65536 % 256= ((a.toNat / 65536 % 256:Nat):Int):=by omega
 have q3:a / 16777216 % 256= ((a.toNat / 16777216 % 256:Nat):Int):=by omega
 rw [q0,q1,q2,q3]
theorem n90(s s0 e e1:Bool)(l:List Int)(y:ByteArray)(hd:Dg l)(hl:l.length<=1000):∀(rest:List Int) (i:Nat) (done:List UInt8) (e2:Bool),l.drop i=rest->done.length=4 * i->
  Or mM [B s,lu e l,r0,o1,lu e1 l,I (l.length:Int),I (i:Int)] [Blk.box [B s0,AV.t (T.str y)],Blk.sl false 1 e2 (dv done)]=some [tb (s && decide (l≠[])),T.str ⟨(done++bys rest).toArray⟩]:=by
 intro rest
 induction rest with
 | nil=>
  intro i done e2 h hi
  have h1:¬(i:Int) < (l.length:Int):=by have:=ax h;omega
  refine aa ?_
  rw [sY]
  simp only [STL,↓reduceIte,Int.reduceBEq,Int.reduceEq,GD,h1,xx,af,bys,List.append_nil]
  cases l with
  | nil=>cases s <;> simp
  | cons a l=>cases s <;> (try simp) <;> (try omega)
 | cons a rest ih=>
  intro i done e2 h hi
  obtain⟨g1,g2,g3⟩:=ar h
  have ha:=hd a (List.mem_of_getElem? g1)
  have h1:(i:Int) < (l.length:Int):=by omega
  have h0: 0<=(i:Int):=by omega
  have hg:(ac l)[((i:Nat):Int).toNat]? =some [T.int .u32 a]:=by rw [aq g2,DN g1]
  have hf:=yS a ha
  have hsm:aA 1 ((dv done).length+ (dv (bO a)).length)=some ():=d9 (by simp [dv,bO];omega)
  have happ:dv done++dv (bO a)=dv (done++bO a):=by simp [dv]
  have:=ih (i+1) (done++bO a) (e2 && false) g3 (by simp [bO];omega)
  rw [Bool.and_false,List.append_assoc] at this
  refine aa ?_
  rw [sY,bys]
  simp only [STL,↓reduceIte,Int.reduceBEq,Int.reduceEq,GD,h1,h0,and_self,af,hg,hf,hsm,happ,next i (by omega)]
  exact this
def RZ(z:Int):List T:= [tb (decide (z < 0)),T.str (aI (dz z))]
abbrev LZ(z:Int):AV:=LS (decide (z < 0)) (dz z)
theorem s90(s e:Bool)(l:List Int)(hd:Dg l)(hl:l.length<=1000):Or (.call 109) [B s,lu e l] []=some (RZ (if s then -val l else val l)):=by
 have h0:=bf hd
 have k1:=gZ e l hl
 have ht:ay l=dz (if s then -val l else val l):=tQ hd (by split <;> omega)
 have hlen:(ay l).length<=1000:=by have:(ay l).length<=l.length:=by(unfold ay;rw [List.length_take];omega)
                                   omega
 have hm:ap 0 (IntKind.i64.wrap (4 * ((ay l).length:Int)))=some ():=by
  rw [Go.Aev.wr (by omega)];unfold ap;rw [if_pos (by unfold lim;omega)]
 have k2:=n90 s false e e (ay l) ⟨#[]⟩ (eB hd) hlen (ay l) 0 [] false rfl rfl
 have hv:(s && decide (ay l≠[]))=decide ((if s then -val l else val l) < 0):=by
  have hz:ay l= []↔val l=0:=by
   rw [ht,dz_nil];split <;> omega
  cases s with
  | false=>simp;omega
  | true=>
   simp only [Bool.true_and,if_true]
   refine decide_eq_decide.2 ?_
   rw [ne_eq,hz];omega
 refine aa ?_
 rw [e90]
 simp only [STL,↓reduceIte,Int.reduceBEq,Int.reduceEq,GD,k1,af,hm]
 refine k2.trans ?_
 rw [List.nil_append,hv,ht]
 rfl
open Go Go.Aev Go.Aev.Gen Go.Aev.Wd
theorem aF{v:Int}(h: -9223372036854775808<=v/\v < 9223372036854775808):IntKind.i64.wrap v=v:=Go.Aev.wr h
theorem vA(d:List Int):((aI d).toList== (ByteArray.mk #[]).toList)=decide (d= []):=by
 have h1:∀s:ByteArray,s.toList=s.data.toList:=fun s=>by
  rw [ByteArray.toList_eq]
 cases d with
 | nil=>rw [h1,h1];simp [aI,bys]
 | cons a d=>
  rw [h1,h1]
  simp [aI,bys,bO]
theorem gA(z:Int):Or (.call 70) [LZ z] []=some [ti z.sign]:=by
 refine aa ?_
 rw [e91,vA]
 by_cases h0:z=0
 ·subst h0;rfl
 ·have hn:¬dz z= []:=fun h=>h0 (dz_nil.1 h)
  rcases Int.lt_trichotomy z 0 with h | h | h
  ·simp only [STL,↓reduceIte,Int.reduceBEq,Int.reduceEq,GD,hn,h,decide_true,Int.sign_eq_neg_one_of_neg h]
  ·exact absurd h h0
  ·have h':¬z < 0:=by omega
   simp only [STL,↓reduceIte,Int.reduceBEq,Int.reduceEq,GD,hn,h',decide_false,Int.sign_eq_one_of_pos h]
theorem rL(z:Int):Or (.call 106) [LZ z] []=some (RZ (-z)):=by
 refine aa ?_
 rw [e89,vA]
 unfold RZ
 rw [kY]
 have:(bif !decide (z < 0) then !decide (dz z= []) else false)=decide (-z < 0):=by
  have h:=@dz_nil z
  by_cases h0:z < 0
  ·have:¬ -z < 0:=by omega
   rw [decide_eq_true h0,decide_eq_false this];rfl
  ·by_cases h1:z=0
   ·subst h1;rfl
   ·have h2: -z < 0:=by omega
    rw [decide_eq_false h0,decide_eq_false (mt h.1 h1),decide_eq_true h2];rfl
 rw [this]
theorem dE(z:Int)(h:(dz z).length<=1000):Or (.call 104) [LZ z] []=some [T.lst 1 false (ac (dz z))]:=s97 _ _ (aZ z) h
theorem n96(a b:List Int)(ea eb:Bool)(ha:Dg a)(hb:Dg b)(hl:a.length=b.length)(hn:a.length<=1000):∀(k:Nat) (z:Int),z= (k:Int) - 1->k<=a.length->
  Or mU [lu ea a,lu eb b,I z] []=some [ti (ao (val (a.take k)) (val (b.take k)))]
 | 0,z,hz,hk=>by
  refine aa ?_
  rw [wm]
  have h1:¬z>=0:=by omega
  simp only [STL,↓reduceIte,Int.reduceBEq,Int.reduceEq,GD,h1]
  simp [ao]
 | k+1,z,hz,hk=>by
  obtain rfl:z= (k:Int):=by omega
  have h1:(k:Int)>=0:=by omega
  have h2: 0<=(k:Int)/\(k:Int) < (a.length:Int):=by omega
  have h3:(k:Int) < (b.length:Int):=by omega
  have hw:IntKind.i64.wrap ((k:Int) - 1)= (k:Int) - 1:=aF (by omega)
  refine aa ?_
  rw [wm]
  by_cases hlt:dat a k < dat b k
  ·have:=nX ha hb (show k < a.length by omega) (by omega) hlt
   simp only [STL,↓reduceIte,Int.reduceBEq,Int.reduceEq,GD,h1,h2,h3,and_self,af,aq (show k < a.length by omega),aq (show k < b.length by omega),hlt]
   unfold ao
   rw [if_pos this]
  ·by_cases hgt:dat a k > dat b k
   ·have:=nX hb ha (show k < b.length by omega) (by omega) hgt
    simp only [STL,↓reduceIte,Int.reduceBEq,Int.reduceEq,GD,h1,h2,h3,and_self,af,aq (show k < a.length by omega),aq (show k < b.length by omega),hlt,hgt]
    unfold ao
    rw [if_neg (by omega),if_neg (by omega)]
   ·have he:dat a k=dat b k:=by omega
    have:=n96 a b ea eb ha hb hl hn k ((k:Int) - 1) rfl (by omega)
    have hv:ao (val (a.take (k+1))) (val (b.take (k+1)))=ao (val (a.take k)) (val (b.take k)):=by
     rw [fJ (by omega),fJ (by omega),he,uX]
    rw [hv]
    simp only [STL,↓reduceIte,Int.reduceBEq,Int.reduceEq,GD,h1,h2,h3,and_self,af,aq (show k < a.length by omega),aq (show k < b.length by omega),hlt,hgt,hw]
    exact this
theorem s96(a b:List Int)(ea eb:Bool)(ha:Dg a)(hb:Dg b)(ca:Can a)(cb:Can b)(hna:a.length<=1000)(hnb:b.length<=1000):
  Or (.call 103) [lu ea a,lu eb b] []=some [ti (ao (val a) (val b))]:=by
 refine aa ?_
 rw [e96]
 by_cases hl:(a.length:Int)= (b.length:Int)
 ·have:=n96 a b ea eb ha hb (by omega) hna a.length _ rfl (Nat.le_refl _)
  rw [List.take_length,show b.take a.length=b from List.take_of_length_le (by omega)] at this
  have hw:IntKind.i64.wrap ((a.length:Int) - 1)= (a.length:Int) - 1:=aF (by omega)
  simp only [af,hw]
  simp only [STL,↓reduceIte,Int.reduceBEq,Int.reduceEq,GD,hl]
  rw [hl] at this
  exact this
 ·by_cases hlt:(a.length:Int) < (b.length:Int)
  ·have:=eQ ha hb cb (by omega)
   simp only [STL,↓reduceIte,Int.reduceBEq,Int.reduceEq,GD,af,hl,hlt]
   unfold ao
   rw [if_pos this]
  ·have:=eQ hb ha ca (by omega)
   simp only [STL,↓reduceIte,Int.reduceBEq,Int.reduceEq,GD,af,hl,hlt]
   unfold ao
   rw [if_neg (by omega),if_neg (by omega)]
theorem zy(x y:Int)(hx:(dz x).length<=1000)(hy:(dz y).length<=1000):Or (.call 65) [LZ x,LZ y] []=some [ti (ao x y)]:=by
 have k1:=gA x
 have k2:=gA y
 have k3:=dE x hx
 have k4:=dE y hy
 have k5:=s96 (dz x) (dz y) false false (aZ x) (aZ y) (cg x) (cg y) hx hy
 have k6:=s96 (dz y) (dz x) false false (aZ y) (aZ x) (cg y) (cg x) hy hx
 rw [bc,bc] at k5 k6
 have key:(if x.sign=y.sign then(if x < 0 then ao (y.natAbs:Int) (x.natAbs:Int) else ao (x.natAbs:Int) (y.natAbs:Int)) else if x.sign < y.sign then -1 else 1)=ao x y:=by
  rcases Int.lt_trichotomy x 0 with h | h | h <;> rcases Int.lt_trichotomy y 0 with h' | h' | h' <;>
   (first | rw [Int.sign_eq_neg_one_of_neg h] | rw [Int.sign_eq_one_of_pos h] | rw [h,Int.sign_zero]) <;>
   (first | rw [Int.sign_eq_neg_one_of_neg h'] | rw [Int.sign_eq_one_of_pos h'] | rw [h',Int.sign_zero]) <;> unfold ao <;> (repeat' split) <;> omega
 refine aa ?_
 rw [e55]
 simp only [STL,↓reduceIte,Int.reduceBEq,Int.reduceEq,GD,k1,k2,k3,k4,k5,k6]
 rw [<-key]
 split
 ·split <;> rfl
 ·split <;> rfl
theorem sm4(n:Nat)(h:n<=100000):aA 4 n=some ():=d9 h
theorem fO(d:List Int)(v:Int):ac d++ [[T.int .u32 v]]=ac (d++ [v]):=by simp [ac]
theorem fm(n:Nat)(v:Int):n+ ([[T.int .u32 v]]:List (List T)).length=n+1:=by simp
theorem ut(x y:List Int)(ex ey:Bool)(hx:Dg x)(hy:Dg y)(hl:y.length<=x.length)(hn:x.length<=1000):∀(xr:List Int) (i:Nat) (c:Int) (done:List Int),x.drop i=xr->done.length=i->i<=x.length->0<=c/\c<=1->
  Or js [lu ey y,o0,AV.t (T.int .u64 c),lu ex x,I (x.length:Int),I (i:Int)] [Blk.sl false 1 false (ac done)]=some [T.lst 1 false (ac (done++aR xr (y.drop i) c))]:=by
 intro xr
 induction xr with
 | nil=>
  intro i c done h hd hi hc
  have hle:=ax h
  obtain rfl:i=x.length:=by omega
  have h1:¬(x.length:Int) < (x.length:Int):=by omega
  refine aa ?_
  rw [yd]
  simp only [STL,↓reduceIte,Int.reduceBEq,Int.reduceEq,GD,h1,af,w32 (v:=c) (by omega),fO,fm,sm4 (done.length+1) (by omega),aR]
 | cons a xr ih=>
  intro i c done h hd hi hc
  obtain⟨g1,g2,g3⟩:=ar h
  have h1:(i:Int) < (x.length:Int):=by omega
  have h0: 0<=(i:Int):=by omega
  have ha:=hx a (List.mem_of_getElem? g1)
  have hda:=bG h
  refine aa ?_
  rw [yd]
  cases hyr:y.drop i with
  | nil=>
   have hyl:=ax hyr
   have h2:¬(i:Int) < (y.length:Int):=by omega
   have hw1:IntKind.u64.wrap a=a:=w64 (by omega)
   have hw2:IntKind.u64.wrap (c+a)=c+a:=w64 (by omega)
   have hy1:y.drop (i+1)= []:=by simp;omega
   have:=ih (i+1) ((c+a) / 4294967296) (done++ [(c+a) % 4294967296]) g3 (by simp [hd]) (by omega) (by omega)
   rw [hy1,show done++ [(c+a) % 4294967296] ++aR xr [] ((c+a) / 4294967296)=done++aR (a::xr) [] c from by simp [aR]] at this
   simp only [STL,↓reduceIte,Int.reduceBEq,Int.reduceEq,GD,h1,h0,and_self,af,aq g2,hda,h2,hw1,hw2,aH,bZ,fO,fm,sm4 (done.length+1) (by omega),next i (by omega)]
   exact this
  | cons b yr=>
   obtain⟨k1,k2,k3⟩:=ar hyr
   have hb:=hy b (List.mem_of_getElem? k1)
   have hdb:=bG hyr
   have h2:(i:Int) < (y.length:Int):=by omega
   have hw1:IntKind.u64.wrap a=a:=w64 (by omega)
   have hw2:IntKind.u64.wrap (c+a)=c+a:=w64 (by omega)
   have hw3:IntKind.u64.wrap b=b:=w64 (by omega)
   have hw4:IntKind.u64.wrap (c+a+b)=c+a+b:=w64 (by omega)
   have:=ih (i+1) ((c+a+b) / 4294967296) (done++ [(c+a+b) % 4294967296]) g3 (by simp [hd]) (by omega) (by omega)
   rw [k3,show done++ [(c+a+b) % 4294967296] ++aR xr yr ((c+a+b) / 4294967296)=done++aR (a::xr) (b::yr) c from by simp [aR]] at this
   simp only [STL,↓reduceIte,Int.reduceBEq,Int.reduceEq,GD,h1,h0,and_self,af,aq g2,aq k2,hda,hdb,h2,hw1,hw2,hw3,hw4,aH,bZ,fO,fm,sm4 (done.length+1) (by omega),next i (by omega)]
   exact this
theorem zD(x y:List Int)(ex ey:Bool)(hx:Dg x)(hy:Dg y)(hnx:x.length<=900)(hny:y.length<=900):∃d,Or (.call 146) [lu ex x,lu ey y] []=some [T.lst 1 false (ac d)]/\Dg d/\val d=val x+val y/\d.length<=max x.length y.length+1:=by
 by_cases hl:(x.length:Int) < (y.length:Int)
 ·have h1:=ut y x ey ex hy hx (by omega) (by omega) y 0 0 [] rfl rfl (by omega) (by omega)
  refine⟨aR y x 0,aa ?_,ja hy hx (by omega),by rw [iQ (by omega)];omega,by rw [jL];omega⟩
  have hw:IntKind.i64.wrap ((y.length:Int)+1)= ((y.length+1:Nat):Int):=next y.length (by omega)
  have hmk:ap 0 ((y.length+1:Nat):Int)=some ():=by unfold ap lim;rw [if_pos (by omega)]
  rw [vP]
  simp only [STL,↓reduceIte,Int.reduceBEq,Int.reduceEq,GD,af,hl,hw,hmk]
  exact h1
 ·have h1:=ut x y ex ey hx hy (by omega) (by omega) x 0 0 [] rfl rfl (by omega) (by omega)
  refine⟨aR x y 0,aa ?_,ja hx hy (by omega),by rw [iQ (by omega)];omega,by rw [jL];omega⟩
  have hw:IntKind.i64.wrap ((x.length:Int)+1)= ((x.length+1:Nat):Int):=next x.length (by omega)
  have hmk:ap 0 ((x.length+1:Nat):Int)=some ():=by unfold ap lim;rw [if_pos (by omega)]
  rw [vP]
  simp only [STL,↓reduceIte,Int.reduceBEq,Int.reduceEq,GD,af,hl,hw,hmk]
  exact h1
theorem Dy(x y:List Int)(ex ey:Bool)(hx:Dg x)(hy:Dg y)(hn:x.length<=1000):∀(xr:List Int) (i:Nat) (c:Int) (done:List Int),x.drop i=xr->done.length=i->0<=c/\c<=1->
  Or hZ [lu ey y,o0,I c,lu ex x,I (x.length:Int),I (i:Int)] [Blk.sl false 1 false (ac done)]=some [T.lst 1 false (ac (done++aV xr (y.drop i) c))]:=by
 intro xr
 induction xr with
 | nil=>
  intro i c done h hd hc
  have hle:=ax h
  have h1:¬(i:Int) < (x.length:Int):=by omega
  refine aa ?_
  rw [wI]
  simp only [STL,↓reduceIte,Int.reduceBEq,Int.reduceEq,GD,h1]
  simp [aV]
 | cons a xr ih=>
  intro i c done h hd hc
  obtain⟨g1,g2,g3⟩:=ar h
  have h1:(i:Int) < (x.length:Int):=by omega
  have h0: 0<=(i:Int):=by omega
  have ha:=hx a (List.mem_of_getElem? g1)
  have hda:=bG h
  have hw1:IntKind.i64.wrap a=a:=aF (by omega)
  have hw2:IntKind.i64.wrap (a - c)=a - c:=aF (by omega)
  refine aa ?_
  rw [wI]
  cases hyr:y.drop i with
  | nil=>
   have hyl:=ax hyr
   have h2:¬(i:Int) < (y.length:Int):=by omega
   have hy1:y.drop (i+1)= []:=by simp;omega
   have:=ih (i+1) (bor (a - c)) (done++ [(a - c) % 4294967296]) g3 (by simp [hd]) (by unfold bor;split <;> omega)
   rw [hy1,show done++ [(a - c) % 4294967296] ++aV xr [] (bor (a - c))=done++aV (a::xr) [] c from by simp [aV]] at this
   by_cases hn:a - c < 0
   ·have hv:IntKind.u32.wrap (IntKind.i64.wrap (a - c+4294967296))= (a - c) % 4294967296:=by rw [aH,aF (by omega)];omega
    unfold bor at this
    rw [if_pos hn] at this
    simp only [STL,↓reduceIte,Int.reduceBEq,Int.reduceEq,GD,h1,h0,and_self,af,aq g2,hda,h2,hw1,hw2,hn,hv,fO,fm,sm4 (done.length+1) (by omega),next i (by omega)]
    exact this
   ·have hv:IntKind.u32.wrap (a - c)= (a - c) % 4294967296:=aH _
    unfold bor at this
    rw [if_neg hn] at this
    simp only [STL,↓reduceIte,Int.reduceBEq,Int.reduceEq,GD,h1,h0,and_self,af,aq g2,hda,h2,hw1,hw2,hn,hv,fO,fm,sm4 (done.length+1) (by omega),next i (by omega)]
    exact this
  | cons b yr=>
   obtain⟨k1,k2,k3⟩:=ar hyr
   have hb:=hy b (List.mem_of_getElem? k1)
   have hdb:=bG hyr
   have h2:(i:Int) < (y.length:Int):=by omega
   have hw3:IntKind.i64.wrap b=b:=aF (by omega)
   have hw4:IntKind.i64.wrap (a - c - b)=a - c - b:=aF (by omega)
   have:=ih (i+1) (bor (a - c - b)) (done++ [(a - c - b) % 4294967296]) g3 (by simp [hd]) (by unfold bor;split <;> omega)
   rw [k3,show done++ [(a - c - b) % 4294967296] ++aV xr yr (bor (a - c - b))=done++aV (a::xr) (b::yr) c from by simp [aV]] at this
   by_cases hn:a - c - b < 0
   ·have hv:IntKind.u32.wrap (IntKind.i64.wrap (a - c - b+4294967296))= (a - c - b) % 4294967296:=by rw [aH,aF (by omega)];omega
    unfold bor at this
    rw [if_pos hn] at this
    simp only [STL,↓reduceIte,Int.reduceBEq,Int.reduceEq,GD,h1,h0,and_self,af,aq g2,aq k2,hda,hdb,h2,hw1,hw2,hw3,hw4,hn,hv,fO,fm,sm4 (done.length+1) (by omega),next i (by omega)]
    exact this
   ·have hv:IntKind.u32.wrap (a - c - b)= (a - c - b) % 4294967296:=aH _
    unfold bor at this
    rw [if_neg hn] at this
    simp only [STL,↓reduceIte,Int.reduceBEq,Int.reduceEq,GD,h1,h0,and_self,af,aq g2,aq k2,hda,hdb,h2,hw1,hw2,hw3,hw4,hn,hv,fO,fm,sm4 (done.length+1) (by omega),next i (by omega)]
    exact this
theorem xF(x y:List Int)(ex ey:Bool)(hx:Dg x)(hy:Dg y)(hl:y.length<=x.length)(hv:val y<=val x)(hn:x.length<=900):∃d,Or (.call 147) [lu ex x,lu ey y] []=some [T.lst 1 false (ac d)]/\Dg d/\val d=val x - val y/\d.length=x.length:=by
 have h1:=Dy x y ex ey hx hy (by omega) x 0 0 [] rfl rfl (by omega)
 refine⟨aV x y 0,aa ?_,oo,by rw [m5 hx hy hl (by omega) (by omega)];omega,nK⟩
 have hmk:ap 0 (x.length:Int)=some ():=by unfold ap lim;rw [if_pos (by omega)]
 rw [CU]
 simp only [STL,↓reduceIte,Int.reduceBEq,Int.reduceEq,GD,af,hmk]
 exact h1
theorem nH{x y:Int}(h:y.natAbs<=x.natAbs):(dz y).length<=(dz x).length:=by
 rcases Nat.lt_or_ge (dz x).length (dz y).length with h1 | h1
 ·have:=eQ (aZ x) (aZ y) (cg y) h1
  rw [bc,bc] at this;omega
 ·exact h1
theorem DI(x y:Int)(hx:(dz x).length<=900)(hy:(dz y).length<=900):Or (.call 136) [LZ x,LZ y] []=some (RZ (x+y)):=by
 have k1:=dE x (by omega)
 have k2:=dE y (by omega)
 refine aa ?_
 rw [DO]
 by_cases hs:decide (x < 0)=decide (y < 0)
 ·obtain⟨d,d1,d2,d3,d4⟩:=zD (dz x) (dz y) false false (aZ x) (aZ y) hx hy
  have k3:=s90 (decide (x < 0)) false d d2 (by omega)
  have hb:(decide (x < 0)==decide (y < 0))=true:=by simpa using hs
  have hv:(if decide (x < 0)=true then -val d else val d)=x+y:=by
   rw [d3,bc,bc]
   simp only [decide_eq_true_eq]
   have hs':x < 0↔y < 0:=by simpa using hs
   split <;> omega
  rw [hv] at k3
  unfold RZ at k3
  simp only [STL,↓reduceIte,Int.reduceBEq,Int.reduceEq,GD,k1,k2,hb,d1,k3]
  rfl
 ·have hb:(decide (x < 0)==decide (y < 0))=false:=by simpa using hs
  have hs':¬(x < 0↔y < 0):=by simpa using hs
  have k3:=s96 (dz x) (dz y) false false (aZ x) (aZ y) (cg x) (cg y) (by omega) (by omega)
  rw [bc,bc] at k3
  by_cases hc:(y.natAbs:Int)<=(x.natAbs:Int)
  ·have hge:ao (x.natAbs:Int) (y.natAbs:Int)>=0:=by unfold ao;rw [if_neg (by omega)];split <;> omega
   obtain⟨d,d1,d2,d3,d4⟩:=xF (dz x) (dz y) false false (aZ x) (aZ y) (nH (by omega)) (by rw [bc,bc];exact hc) hx
   have k4:=s90 (decide (x < 0)) false d d2 (by omega)
   have hv:(if decide (x < 0)=true then -val d else val d)=x+y:=by
    rw [d3,bc,bc]
    simp only [decide_eq_true_eq]
    split <;> omega
   rw [hv] at k4
   unfold RZ at k4
   simp only [STL,↓reduceIte,Int.reduceBEq,Int.reduceEq,GD,k1,k2,hb,k3,hge,d1,k4]
   rfl
  ·have hge:¬ao (x.natAbs:Int) (y.natAbs:Int)>=0:=by unfold ao;rw [if_pos (by omega)];omega
   obtain⟨d,d1,d2,d3,d4⟩:=xF (dz y) (dz x) false false (aZ y) (aZ x) (nH (by omega)) (by rw [bc,bc];omega) hy
   have k4:=s90 (decide (y < 0)) false d d2 (by omega)
   have hv:(if decide (y < 0)=true then -val d else val d)=x+y:=by
    rw [d3,bc,bc]
    simp only [decide_eq_true_eq]
    split <;> omega
   rw [hv] at k4
   unfold RZ at k4
   simp only [STL,↓reduceIte,Int.reduceBEq,Int.reduceEq,GD,k1,k2,hb,k3,hge,d1,k4]
   rfl
theorem ml:∀n,n < 256->∃u,L8[n]? =some u/\u.toNat<=8/\n < 2 ^ u.toNat/\(n≠0->2 ^ u.toNat<=2 * n):=by
 have:∀n,n < 256->(match L8[n]? with | some u=>decide (u.toNat<=8/\n < 2 ^ u.toNat/\(n≠0->2 ^ u.toNat<=2 * n)) | none=>false)=true:=by decide+kernel
 intro n hn
 have h:=this n hn
 cases hu:L8[n]? with
 | none=>rw [hu] at h;cases h
 | some u=>rw [hu] at h;exact⟨u,rfl,of_decide_eq_true h⟩
set_option maxRecDepth 100000 in
theorem vZ(a:Int)(ha: 0<=a/\a < 4294967296):∃n:Nat,Or (.call 140) [AV.t (T.int .u32 a)] []=some [ti (n:Int)]/\n<=32/\a < 2 ^ n/\(a≠0->(2:Int) ^ n<=2 * a):=by
 have p8:(2:Int) ^ 8=256:=by decide
 have p16:(2:Int) ^ 16=65536:=by decide
 have f8:∀v:Int,v.fdiv 256=v / 256:=fun v=>Int.fdiv_eq_ediv_of_nonneg _ (by omega)
 have f16:∀v:Int,v.fdiv 65536=v / 65536:=fun v=>Int.fdiv_eq_ediv_of_nonneg _ (by omega)
 have fin:∀(k:Nat) (n:Nat) (u:UInt8),k<=24->n < 256->(n:Int)=a / 2 ^ k->(k≠0->n≠0)->u.toNat<=8/\n < 2 ^ u.toNat/\(n≠0->2 ^ u.toNat<=2 * n)->
   (k+u.toNat)<=32/\a < (2:Int) ^ (k+u.toNat)/\(a≠0->(2:Int) ^ (k+u.toNat)<=2 * a):=by
  intro k n u hk hn he hne h
  have hp:=bS k
  obtain⟨h1,h2,h3⟩:=h
  have h2':(n:Int)+1<=(2:Int) ^ u.toNat:=by rw [pw2];omega
  have d1:a < (2:Int) ^ k * ((n:Int)+1):=by
   rw [he]
   have:=Int.lt_mul_ediv_self_add (x:=a) hp
   rw [Int.mul_add,Int.mul_one];exact this
  have d2:(2:Int) ^ k * (n:Int)<=a:=by rw [he];exact Int.mul_ediv_self_le (by omega)
  refine⟨by omega, ?_,fun h0=> ?_⟩
  ·rw [Int.pow_add]
   have:=Int.mul_le_mul_of_nonneg_left h2' (Int.le_of_lt hp)
   omega
  ·have hn0:n≠0:=by
    rcases Nat.eq_zero_or_pos k with hk0 | hk0
    ·subst hk0
     rw [Int.pow_zero,Int.ediv_one] at he;omega
    ·exact hne (by omega)
   have h3':(2:Int) ^ u.toNat<=2 * (n:Int):=by rw [pw2];have:=h3 hn0;omega
   rw [Int.pow_add]
   have:=Int.mul_le_mul_of_nonneg_left h3' (Int.le_of_lt hp)
   rw [Int.mul_left_comm] at this
   omega
 by_cases h16:a>=65536
 ·by_cases h24:a / 65536>=256
  ·have hn:(a / 65536 / 256).toNat < 256:=by omega
   obtain⟨u,u1,u2⟩:=ml _ hn
   have hw:IntKind.u8.wrap (a / 65536 / 256)=a / 65536 / 256:=by rw [w8];omega
   have hr: 0<=a / 65536 / 256/\a / 65536 / 256 < 256:=by omega
   have hw2:IntKind.i64.wrap (IntKind.i64.wrap (16+8)+IntKind.i64.wrap (u.toNat:Int))= ((24+u.toNat:Nat):Int):=by
    rw [aF (v:=16+8) (by omega),aF (v:=(u.toNat:Int)) (by omega),aF (by omega)];omega
   refine⟨24+u.toNat,aa ?_,fin 24 _ u (by omega) hn (by rw [show((2:Int) ^ 24)=16777216 from by decide];omega) (fun _=>by omega) u2⟩
   rw [nG]
   simp only [STL,↓reduceIte,Int.reduceBEq,Int.reduceEq,GD,h16,p8,p16,f8,f16,h24,hw,hr,and_self,u1,hw2]
  ·have hn:(a / 65536).toNat < 256:=by omega
   obtain⟨u,u1,u2⟩:=ml _ hn
   have hw:IntKind.u8.wrap (a / 65536)=a / 65536:=by rw [w8];omega
   have hr: 0<=a / 65536/\a / 65536 < 256:=by omega
   have hw2:IntKind.i64.wrap (16+IntKind.i64.wrap (u.toNat:Int))= ((16+u.toNat:Nat):Int):=by
    rw [aF (v:=(u.toNat:Int)) (by omega),aF (by omega)];omega
   refine⟨16+u.toNat,aa ?_,fin 16 _ u (by omega) hn (by rw [p16];omega) (fun _=>by omega) u2⟩
   rw [nG]
   simp only [STL,↓reduceIte,Int.reduceBEq,Int.reduceEq,GD,h16,p8,p16,f8,f16,h24,hw,hr,and_self,u1,hw2]
 ·by_cases h24:a>=256
  ·have hn:(a / 256).toNat < 256:=by omega
   obtain⟨u,u1,u2⟩:=ml _ hn
   have hw:IntKind.u8.wrap (a / 256)=a / 256:=by rw [w8];omega
   have hr: 0<=a / 256/\a / 256 < 256:=by omega
   have hw2:IntKind.i64.wrap (IntKind.i64.wrap (0+8)+IntKind.i64.wrap (u.toNat:Int))= ((8+u.toNat:Nat):Int):=by
    rw [aF (v:=0+8) (by omega),aF (v:=(u.toNat:Int)) (by omega),aF (by omega)];omega
   refine⟨8+u.toNat,aa ?_,fin 8 _ u (by omega) hn (by rw [p8];omega) (fun _=>by omega) u2⟩
   rw [nG]
   simp only [STL,↓reduceIte,Int.reduceBEq,Int.reduceEq,GD,h16,p8,p16,f8,f16,h24,hw,hr,and_self,u1,hw2]
  ·have hn:a.toNat < 256:=by omega
   obtain⟨u,u1,u2⟩:=ml _ hn
   have hw:IntKind.u8.wrap a=a:=by rw [w8];omega
   have hr: 0<=a/\a < 256:=by omega
   have hw2:IntKind.i64.wrap (IntKind.i64.wrap (u.toNat:Int))= ((0+u.toNat:Nat):Int):=by
    rw [aF (v:=(u.toNat:Int)) (by omega),aF (by omega)];omega
   have hw3:IntKind.i64.wrap (0+IntKind.i64.wrap (u.toNat:Int))= ((0+u.toNat:Nat):Int):=by
    rw [aF (v:=(u.toNat:Int)) (by omega),aF (by omega)];omega
   refine⟨0+u.toNat,aa ?_,fin 0 _ u (by omega) hn (by rw [Int.pow_zero];omega) (fun h=>absurd rfl h) u2⟩
   rw [nG]
   simp only [STL,↓reduceIte,Int.reduceBEq,Int.reduceEq,GD,h16,p8,p16,f8,f16,h24,hw,hr,and_self,u1,hw2,hw3]
open Go Go.Aev Go.Aev.Gen Go.Aev.Wd
theorem rM(z:Int)(h:(dz z).length<=900):∃m:Int,Or (.call 131) [LZ z] []=some [ti m]/\0<=m/\m<=32 * ((dz z).length:Int):=by
 have k1:=dE z (by omega)
 by_cases h0:(dz z).length=0
 ·refine⟨0,aa ?_,by omega,by omega⟩
  rw [sP]
  have h0':((dz z).length:Int)=0:=by omega
  simp only [STL,↓reduceIte,Int.reduceBEq,Int.reduceEq,GD,k1,af,h0']
 ·have h0':¬((dz z).length:Int)=0:=by omega
  have hw:IntKind.i64.wrap (((dz z).length:Int) - 1)= (((dz z).length - 1:Nat):Int):=by rw [aF (by omega)];omega
  have hr: 0<=(((dz z).length - 1:Nat):Int)/\(((dz z).length - 1:Nat):Int) < ((dz z).length:Int):=by omega
  have hlt:(dz z).length - 1 < (dz z).length:=by omega
  have hd:=aZ z (dat (dz z) ((dz z).length - 1)) (by
   have:(dz z)[(dz z).length - 1]? =some (dat (dz z) ((dz z).length - 1)):=by
    rw [List.getElem?_eq_getElem hlt];simp [dat,List.getD_eq_getElem?_getD,hlt]
   exact List.mem_of_getElem? this)
  obtain⟨n,n1,n2,_,_⟩:=vZ _ hd
  have hw2:IntKind.i64.wrap (32 * (((dz z).length - 1:Nat):Int))=32 * (((dz z).length - 1:Nat):Int):=aF (by omega)
  refine⟨32 * (((dz z).length - 1:Nat):Int)+ (n:Int),aa ?_,by omega,by omega⟩
  rw [sP]
  simp only [STL,↓reduceIte,Int.reduceBEq,Int.reduceEq,GD,k1,af,h0',hw,hr,and_self,aq hlt,n1,hw2,aF (v:=32 * (((dz z).length - 1:Nat):Int)+ (n:Int)) (by omega)]
theorem wR(z:Int)(h:(dz z).length<=900):Or (.call 132) [LZ z] []=some [tb (decide (z < 0)),T.str (aI (dz z)),ti 0]:=by
 obtain⟨m,k1,m1,m2⟩:=rM z h
 have h1:¬m > 131072:=by omega
 refine aa ?_
 rw [AF]
 simp only [STL,↓reduceIte,Int.reduceBEq,Int.reduceEq,GD,k1,h1]
theorem s94(x y:Int)(hx:(dz x).length<=900)(hy:(dz y).length<=900)(hz:(dz (x+y)).length<=900):Or (.call 130) [LZ x,LZ y] []=some [tb (decide (x+y < 0)),T.str (aI (dz (x+y))),ti 0]:=by
 have k1:=DI x y hx hy
 have k2:=wR (x+y) hz
 unfold RZ at k1
 refine aa ?_
 rw [e94]
 simp only [STL,↓reduceIte,Int.reduceBEq,Int.reduceEq,GD,k1,k2]
theorem Cg(ex ey ey':Bool)(x y:List Int)(a:Int)(ha: 0<=a/\a < 4294967296)(hy:Dg y)(i:Nat)(hi:i<=1000)(hny:y.length<=1000)(R:List T):∀(yr:List Int) (j:Nat) (c:Int) (pre mid:List Int),y.drop j=yr->j<=y.length->pre.length=i+j->yr.length < mid.length->Dg mid->0<=c/\c < 4294967296->
  Or lw [lu ey y,o0,lu ex x,I (x.length:Int),I ((i+1:Nat):Int)] [Blk.sl false 1 false (ac (pre++bN a yr mid c))]=some R->
  Or oG [lu ey y,o0,I (i:Int),AV.t (T.int .u32 a),AV.t (T.int .u64 c),lu ex x,I (x.length:Int),I (i:Int),lu ey' y,I (y.length:Int),I (j:Int)] [Blk.sl false 1 false (ac (pre++mid))]=some R:=by
 intro yr
 induction yr with
 | nil=>
  intro j c pre mid h hj hp hm hmd hc hR
  have hle:=ax h
  obtain rfl:j=y.length:=by omega
  match mid,hm with
  | o::r,_=>
   have h1:¬(y.length:Int) < (y.length:Int):=by omega
   have hw:IntKind.i64.wrap ((i:Int)+ (y.length:Int))= ((i+y.length:Nat):Int):=by rw [aF (by omega)];omega
   have h2: 0<=((i+y.length:Nat):Int)/\((i+y.length:Nat):Int) < ((pre++o::r).length:Int):=by simp;omega
   have hs:=gE (d:=pre++o::r) (i:=i+y.length) (by simp;omega) c
   rw [fa pre o c r _ hp] at hs
   have hw2:IntKind.u32.wrap c=c:=by rw [aH];omega
   refine aa ?_
   rw [wo]
   simp only [STL,↓reduceIte,Int.reduceBEq,Int.reduceEq,GD,h1,af,hw,h2,and_self,hw2,hs,next i (by omega)]
   exact hR
 | cons b yr ih=>
  intro j c pre mid h hj hp hm hmd hc hR
  obtain⟨g1,g2,g3⟩:=ar h
  have hb:=hy b (List.mem_of_getElem? g1)
  have hdb:=bG h
  match mid,hm,hmd,hR with
  | o::r,hm,hmd,hR=>
   have ho:=hmd o List.mem_cons_self
   have hab:=dI ha hb
   have h1:(j:Int) < (y.length:Int):=by omega
   have h0: 0<=(j:Int):=by omega
   have hw:IntKind.i64.wrap ((i:Int)+ (j:Int))= ((i+j:Nat):Int):=by rw [aF (by omega)];omega
   have h2: 0<=((i+j:Nat):Int)/\((i+j:Nat):Int) < ((pre++o::r).length:Int):=by simp;omega
   have hg:(ac (pre++o::r))[((i+j:Nat):Int).toNat]? =some [T.int .u32 o]:=by
    rw [aq (by simp;omega),jK pre o r _ hp]
   have hs:∀v,aB ((i+j:Nat):Int).toNat 0 [T.int .u32 v] (ac (pre++o::r))=some (ac ((pre++ [v])++r)):=fun v=>by
    rw [gE (by simp;omega),fa pre o v r _ hp]
    simp
   have w1:IntKind.u64.wrap a=a:=w64 (by omega)
   have w2:IntKind.u64.wrap b=b:=w64 (by omega)
   have w3:IntKind.u64.wrap o=o:=w64 (by omega)
   have w4:IntKind.u64.wrap (a * b)=a * b:=w64 (by omega)
   have w5:IntKind.u64.wrap (a * b+o)=a * b+o:=w64 (by omega)
   have w6:IntKind.u64.wrap (c+ (a * b+o))=c+a * b+o:=by rw [w64 (by omega)];omega
   have:=ih (j+1) ((c+a * b+o) / 4294967296) (pre++ [(c+a * b+o) % 4294967296]) r g3 (by omega) (by simp;omega) (by simpa using hm) hmd.tail (by omega) (by
    rw [bN] at hR
    rw [List.append_assoc];exact hR)
   refine aa ?_
   rw [wo]
   simp only [STL,↓reduceIte,Int.reduceBEq,Int.reduceEq,GD,h1,h0,and_self,af,aq g2,hdb,hw,h2,hg,w1,w2,w3,w4,w5,w6,aH,hs,bZ,next j (by omega)]
   exact this
theorem AZ(ex ey:Bool)(x y:List Int)(hx:Dg x)(hy:Dg y)(hnx:x.length<=400)(hny:y.length<=400):∀(xr:List Int) (i:Nat) (lo mid:List Int),x.drop i=xr->i<=x.length->lo.length=i->mid.length=y.length->Dg lo->Dg mid->
  ∃d,Or lw [lu ey y,o0,lu ex x,I (x.length:Int),I (i:Int)] [Blk.sl false 1 false (ac (lo++ (mid++List.replicate xr.length 0)))]=some [T.lst 1 false (ac d)]/\
   Dg d/\d.length=x.length+y.length/\val d=val (lo++mid)+4294967296 ^ i * (val xr * val y):=by
 intro xr
 induction xr with
 | nil=>
  intro i lo mid h hi hlo hmid hdl hdm
  have hle:=ax h
  have h1:¬(i:Int) < (x.length:Int):=by omega
  have hlen:(lo++mid).length=x.length+y.length:=by simp;omega
  refine⟨lo++mid,aa ?_,fun u hu=> ?_,hlen,by simp [val]⟩
  ·rw [vH]
   simp only [List.length_nil,List.replicate_zero,List.append_nil]
   simp only [STL,↓reduceIte,Int.reduceBEq,Int.reduceEq,GD,h1]
  ·rcases List.mem_append.1 hu with hu | hu
   ·exact hdl u hu
   ·exact hdm u hu
 | cons a xr ih=>
  intro i lo mid h hi hlo hmid hdl hdm
  obtain⟨g1,g2,g3⟩:=ar h
  have ha:=hx a (List.mem_of_getElem? g1)
  have hda:=bG h
  have h1:(i:Int) < (x.length:Int):=by omega
  have h0: 0<=(i:Int):=by omega
  have hd0:Dg (mid++ [0]):=fun u hu=>by
   rcases List.mem_append.1 hu with hu | hu
   ·exact hdm u hu
   ·simp only [List.mem_singleton] at hu;subst hu;omega
  have hv0:=qX ha (y:=y) (o:=mid) (r:= []) (c:=0) hmid.symm
  have hl0:=qn (a:=a) (y:=y) (o:=mid++ [0]) (c:=0)
  have hg0:=o8 ha (y:=y) (o:=mid++ [0]) (c:=0) hy hd0 (by omega)
  have hsp:=pv (a:=a) (y:=y) (o:=mid) (r:=List.replicate xr.length 0) (q:=0) (c:=0) hmid.symm
  have hdz:Dg (mid++List.replicate (a::xr).length 0):=fun u hu=>by
   rcases List.mem_append.1 hu with hu | hu
   ·exact hdm u hu
   ·have:=List.eq_of_mem_replicate hu;omega
  generalize bN a y (mid++ [0]) 0=res at *
  cases res with
  | nil=>simp at hl0
  | cons hd t=>
   simp only [List.length_cons,List.length_append,List.length_nil] at hl0
   obtain⟨d,k1,k2,k3,k4⟩:=ih (i+1) (lo++ [hd]) t g3 (by omega) (by simp [hlo]) (by omega) (fun u hu=>by
    rcases List.mem_append.1 hu with hu | hu
    ·exact hdl u hu
    ·simp only [List.mem_singleton] at hu;subst hu;exact hg0 u List.mem_cons_self) hg0.tail
   have hin:=Cg ex ey ey x y a ha hy i (by omega) (by omega) _ y 0 0 lo (mid++List.replicate (a::xr).length 0) rfl (by omega) (by omega) (by simp;omega) hdz (by omega) (by
    rw [show mid++List.replicate (a::xr).length 0=mid++0::List.replicate xr.length 0 from rfl,hsp]
    rw [show lo++ (hd::t++List.replicate xr.length 0)=lo++ [hd] ++ (t++List.replicate xr.length 0) from by simp]
    exact k1)
   refine⟨d,aa ?_,k2,k3, ?_⟩
   ·rw [vH]
    simp only [STL,↓reduceIte,Int.reduceBEq,Int.reduceEq,GD,h1,h0,and_self,af,aq g2,hda]
    exact hin
   ·rw [k4]
    have e1:lo++ [hd] ++t=lo++hd::t:=by simp
    have e2:val (mid++ [0])=val mid:=by rw [bt];simp [val]
    have e3:(4294967296:Int) ^ i * ((a+4294967296 * val xr) * val y)=4294967296 ^ i * (a * val y)+4294967296 ^ i * 4294967296 * (val xr * val y):=by
     rw [Int.add_mul,Int.mul_add];simp only [Int.mul_assoc]
    rw [e1,bt,bt,hlo,hv0,e2,Int.pow_succ]
    simp only [val]
    rw [e3,Int.zero_add,Int.mul_add]
    omega
theorem Bs(ex ey:Bool)(x y:List Int)(hx:Dg x)(hy:Dg y)(hnx:x.length<=400)(hny:y.length<=400):∃d,Or (.call 133) [lu ex x,lu ey y] []=some [T.lst 1 false (ac d)]/\Dg d/\d.length=x.length+y.length/\val d=val x * val y:=by
 obtain⟨d,k1,k2,k3,k4⟩:=AZ ex ey x y hx hy hnx hny x 0 [] (List.replicate y.length 0) rfl (by omega) rfl (by simp) (fun u hu=>by cases hu) (fun u hu=>by
  have:=List.eq_of_mem_replicate hu;omega)
 have hw:IntKind.i64.wrap ((x.length:Int)+ (y.length:Int))= ((y.length+x.length:Nat):Int):=by rw [aF (by omega)];omega
 have hmk:ap ((y.length+x.length:Nat):Int) ((y.length+x.length:Nat):Int)=some ():=by unfold ap lim;rw [if_pos (by omega)]
 have he:ac ([] ++ (List.replicate y.length 0++List.replicate x.length 0))=List.replicate (y.length+x.length) [T.int IntKind.u32 0]:=by
  rw [List.nil_append,List.replicate_append_replicate];simp [ac]
 rw [he] at k1
 refine⟨d,aa ?_,k2,k3,by rw [k4,List.nil_append,l8];simp⟩
 rw [Dn]
 simp only [af,hw]
 simp only [STL,↓reduceIte,Int.reduceBEq,Int.reduceEq,GD,hmk,Int.toNat_natCast]
 exact k1
theorem s95(x y:Int)(hx:(dz x).length<=300)(hy:(dz y).length<=300):Or (.call 105) [LZ x,LZ y] []=some [tb (decide (x * y < 0)),T.str (aI (dz (x * y))),ti 0]:=by
 obtain⟨m,a1,a2,a3⟩:=rM x (by omega)
 obtain⟨n,b1,b2,b3⟩:=rM y (by omega)
 have hmn:¬m+n > 131073:=by omega
 have k1:=dE x (by omega)
 have k2:=dE y (by omega)
 obtain⟨d,d1,d2,d3,d4⟩:=Bs false false (dz x) (dz y) (aZ x) (aZ y) (by omega) (by omega)
 have k3:=s90 (!decide (x < 0)==decide (y < 0)) false d d2 (by omega)
 have hv:(if(!decide (x < 0)==decide (y < 0))=true then -val d else val d)=x * y:=by
  rw [d4,bc,bc,<-Int.natCast_mul,<-Int.natAbs_mul]
  have hp:∀a b:Int,0<=a->0<=b->0<=a * b:=fun a b=>Int.mul_nonneg
  by_cases h1:x < 0 <;> by_cases h2:y < 0 <;> simp only [h1,h2,decide_true,decide_false]
  ·have:=hp (-x) (-y) (by omega) (by omega)
   rw [Int.neg_mul_neg] at this
   simp;omega
  ·have:=hp (-x) y (by omega) (by omega)
   rw [Int.neg_mul] at this
   simp;omega
  ·have:=hp x (-y) (by omega) (by omega)
   rw [Int.mul_neg] at this
   simp;omega
  ·have:=hp x y (by omega) (by omega)
   simp;omega
 rw [hv] at k3
 have hz:(dz (x * y)).length<=900:=by
  refine Nat.le_trans (nR (k:=d.length) ?_) (by omega)
  have:=bw d2
  rw [d4,bc,bc,<-Int.natCast_mul,<-Int.natAbs_mul] at this
  exact this
 have k4:=wR (x * y) hz
 unfold RZ at k3
 refine aa ?_
 rw [e95]
 simp only [STL,↓reduceIte,Int.reduceBEq,Int.reduceEq,GD,a1,b1,aF (v:=m+n) (by omega),hmn,k1,k2,d1,k3,k4]
theorem s50(x:Int)(h: -9223372036854775808<=x/\x < 9223372036854775808):Or (.call 69) [I x] []=some (RZ x):=by
 refine aa ?_
 rw [e50]
 by_cases hn:x < 0
 ·have hw:IntKind.u64.wrap (0 - IntKind.u64.wrap x)= -x:=by simp only [d8];omega
  have hd:Dg [(-x) % 4294967296,(-x) / 4294967296]:=fun u hu=>by
   simp only [List.mem_cons,List.not_mem_nil,or_false] at hu
   omega
  have hv:val [(-x) % 4294967296,(-x) / 4294967296]= -x:=by simp only [val];omega
  have k:=s90 true false _ hd (by simp)
  rw [hv,if_pos rfl,Int.neg_neg] at k
  have he:ac [(-x) % 4294967296,(-x) / 4294967296]= [[T.int .u32 ((-x) % 4294967296)],[T.int .u32 ((-x) / 4294967296)]]:=rfl
  simp only [lu,he] at k
  unfold RZ at k
  have hw3:IntKind.u32.wrap ((-x) / 4294967296)= (-x) / 4294967296:=w32 (by omega)
  have hdt:decide (x < 0)=true:=decide_eq_true hn
  rw [hdt]
  simp only [STL,↓reduceIte,Int.reduceBEq,Int.reduceEq,GD,hw,bZ,aH (-x),hw3,k]
  rfl
 ·have hw:IntKind.u64.wrap x=x:=w64 (by omega)
  have hd:Dg [x % 4294967296,x / 4294967296]:=fun u hu=>by
   simp only [List.mem_cons,List.not_mem_nil,or_false] at hu
   omega
  have hv:val [x % 4294967296,x / 4294967296]=x:=by simp only [val];omega
  have k:=s90 false false _ hd (by simp)
  rw [hv] at k
  have he:ac [x % 4294967296,x / 4294967296]= [[T.int .u32 (x % 4294967296)],[T.int .u32 (x / 4294967296)]]:=rfl
  simp only [lu,he] at k
  unfold RZ at k
  have hw3:IntKind.u32.wrap (x / 4294967296)=x / 4294967296:=w32 (by omega)
  have hdt:decide (x < 0)=false:=decide_eq_false hn
  simp only [Bool.false_eq_true,↓reduceIte] at k
  rw [hdt]
  simp only [STL,↓reduceIte,Int.reduceBEq,Int.reduceEq,GD,hw,bZ,aH x,hw3,k]
  unfold RZ
  rfl
theorem CF{v n:Int}(hv: 0<=v/\v < 4294967296)(hn: 0<=n/\n < 4294967296):
  IntKind.u64.wrap (((BitVec.ofInt 64 n ||| BitVec.ofInt 64 (IntKind.u64.wrap (v * (2:Int) ^ 32))).toNat:Nat):Int)=v * 4294967296+n:=by
 have h:=fG hv hn
 rw [BitVec.or_comm,w64 (v:=n) (by omega)] at h
 exact h
theorem or0{n:Int}(hn: 0<=n/\n < 4294967296):IntKind.u64.wrap (((BitVec.ofInt 64 0 ||| BitVec.ofInt 64 n).toNat:Nat):Int)=n:=by
 have h:=fG (v:=0) (n:=n) (by omega) hn
 rw [Int.zero_mul,w64 (v:=0) (by omega),w64 (v:=n) (by omega),Int.zero_mul,Int.zero_add] at h
 exact h
theorem rO(u:Int)(s:Bool)(d:List Int)(x:ByteArray)(hu: 0<=u/\u < 18446744073709551616)(i:Nat)(hi:i=d.length)(e:Bool):
  Or iZ [r0,AV.t (T.int .u64 u),lu e d,I (d.length:Int),I (i:Int)] [Blk.box [B s,AV.t (T.str x)]]=
   some (if -9223372036854775808<=(if s then -u else u)/\(if s then -u else u) < 9223372036854775808 then [ti (if s then -u else u),tb true] else [ti 0,tb false]):=by
 subst hi
 refine aa ?_
 rw [nh]
 have h1:¬(d.length:Int) < (d.length:Int):=by omega
 cases s with
 | true=>
  by_cases hc:u<=9223372036854775808
  ·have hw:IntKind.i64.wrap (0 - IntKind.i64.wrap u)= -u:=by
    simp only [IntKind.wrap,IntKind.signed,IntKind.bits]
    simp
    omega
   have h2: -9223372036854775808<= -u/\ -u < 9223372036854775808:=by omega
   simp only [STL,↓reduceIte,Int.reduceBEq,Int.reduceEq,GD,h1,hc,hw,decide_true,h2,and_self]
  ·have h2:¬(-9223372036854775808<= -u/\ -u < 9223372036854775808):=by omega
   simp only [STL,↓reduceIte,Int.reduceBEq,Int.reduceEq,GD,h1,hc,decide_false,h2]
 | false=>
  by_cases hc:u < 9223372036854775808
  ·have hw:IntKind.i64.wrap u=u:=aF (by omega)
   have h2: -9223372036854775808<=u/\u < 9223372036854775808:=by omega
   simp only [STL,↓reduceIte,Int.reduceBEq,Int.reduceEq,GD,h1,hc,hw,decide_true,Bool.false_eq_true,h2,and_self]
  ·have h2:¬(-9223372036854775808<=u/\u < 9223372036854775808):=by omega
   simp only [STL,↓reduceIte,Int.reduceBEq,Int.reduceEq,GD,h1,hc,decide_false,Bool.false_eq_true,h2,and_false]
theorem s56(z:Int)(h:(dz z).length<=900):Or (.call 89) [LZ z] []=some (if -9223372036854775808<=z/\z < 9223372036854775808 then [ti z,tb true] else [ti 0,tb false]):=by
 have k1:=dE z (by omega)
 have hdg:=aZ z
 have hv:=bc z
 have hc:=cg z
 by_cases h2:((dz z).length:Int) > 2
 ·have h3:¬(-9223372036854775808<=z/\z < 9223372036854775808):=by
   intro hz
   have:=@nR z 2 (by
    have:(4294967296:Int) ^ 2=18446744073709551616:=by decide
    rw [this];omega)
   omega
  refine aa ?_
  rw [e56,if_neg h3]
  simp only [STL,↓reduceIte,Int.reduceBEq,Int.reduceEq,GD,k1,af,h2]
 ·have hsg:∀u:Int,u= (z.natAbs:Int)->(if decide (z < 0)=true then -u else u)=z:=fun u hu=>by
   simp only [decide_eq_true_eq];split <;> omega
  have fin:∀(d:List Int),d=dz z->Or iZ [r0,AV.t (T.int .u64 0),lu false d,I (d.length:Int),I 0] [Blk.box [B (decide (z < 0)),AV.t (T.str (aI (dz z)))]]=some (if -9223372036854775808<=z/\z < 9223372036854775808 then [ti z,tb true] else [ti 0,tb false]):=by
   intro d hd
   rw [<-hd] at hv hdg h2
   match d,hd,hv,hdg,h2 with
   | [],_,hv,_,_=>
    have:=rO 0 (decide (z < 0)) [] (aI (dz z)) (by omega) 0 rfl false
    rw [hsg 0 (by rw [<-hv];rfl)] at this
    exact this
   | [a],_,hv,hdg,_=>
    have ha:=hdg a List.mem_cons_self
    simp only [val,Int.mul_zero,Int.add_zero] at hv
    have:=rO a (decide (z < 0)) [a] (aI (dz z)) (by omega) 1 rfl false
    rw [hsg a hv] at this
    refine aa ?_
    rw [nh]
    have p0:IntKind.i64.wrap (32 * 0)=0:=by decide
    have m0:min (0:Int).toNat 64=0:=rfl
    have hw:IntKind.u64.wrap a=a:=w64 (by omega)
    have hl:(0:Int) < (([a]:List Int).length:Int):=by simp
    have hg:(ac [a])[(0:Int).toNat]? =some [T.int .u32 a]:=rfl
    have h00:¬(0:Int) < 0:=by omega
    have hn1:IntKind.i64.wrap (0+1)= ((1:Nat):Int):=by decide
    have hr:(0:Int)<=0/\(0:Int) < (([a]:List Int).length:Int):=⟨by omega,hl⟩
    simp only [STL,↓reduceIte,Int.reduceBEq,Int.reduceEq,GD,af,hl,hr,and_self,hg,p0,m0,h00,Int.pow_zero,Int.mul_one,hw,or0 ha,hn1]
    exact this
   | [a,b],_,hv,hdg,_=>
    have ha:=hdg a List.mem_cons_self
    have hb:=hdg b (List.mem_cons_of_mem _ List.mem_cons_self)
    simp only [val,Int.mul_zero,Int.add_zero] at hv
    have:=rO (b * 4294967296+a) (decide (z < 0)) [a,b] (aI (dz z)) (by omega) 2 rfl false
    rw [hsg (b * 4294967296+a) (by omega)] at this
    have p0:IntKind.i64.wrap (32 * 0)=0:=by decide
    have m0:min (0:Int).toNat 64=0:=rfl
    have p1:IntKind.i64.wrap (32 * ((1:Nat):Int))=32:=by decide
    have m1:min (32:Int).toNat 64=32:=rfl
    have hw:IntKind.u64.wrap a=a:=w64 (by omega)
    have hwb:IntKind.u64.wrap b=b:=w64 (by omega)
    have hl:(0:Int) < (([a,b]:List Int).length:Int):=by simp
    have hl1:((1:Nat):Int) < (([a,b]:List Int).length:Int):=by simp
    have hg:(ac [a,b])[(0:Int).toNat]? =some [T.int .u32 a]:=rfl
    have hg1:(ac [a,b])[((1:Nat):Int).toNat]? =some [T.int .u32 b]:=rfl
    have h00:¬(0:Int) < 0:=by omega
    have h32:¬(32:Int) < 0:=by omega
    have hn1:IntKind.i64.wrap (0+1)= ((1:Nat):Int):=by decide
    have hn2:IntKind.i64.wrap (((1:Nat):Int)+1)= ((2:Nat):Int):=by decide
    have hr:(0:Int)<=0/\(0:Int) < (([a,b]:List Int).length:Int):=⟨by omega,hl⟩
    have hr1:(0:Int)<=((1:Nat):Int)/\((1:Nat):Int) < (([a,b]:List Int).length:Int):=⟨by omega,hl1⟩
    have step:Or iZ [r0,AV.t (T.int .u64 a),lu false [a,b],I (([a,b]:List Int).length:Int),I ((1:Nat):Int)] [Blk.box [B (decide (z < 0)),AV.t (T.str (aI (dz z)))]]=some (if -9223372036854775808<=z/\z < 9223372036854775808 then [ti z,tb true] else [ti 0,tb false]):=by
     refine aa ?_
     rw [nh]
     simp only [STL,↓reduceIte,Int.reduceBEq,Int.reduceEq,GD,af,hl1,hr1,and_self,hg1,p1,m1,h32,hwb,CF hb ha,hn2]
     exact this
    refine aa ?_
    rw [nh]
    simp only [STL,↓reduceIte,Int.reduceBEq,Int.reduceEq,GD,af,hl,hr,and_self,hg,p0,m0,h00,Int.pow_zero,Int.mul_one,hw,or0 ha,hn1]
    exact step
   | a::b::c::d,_,_,_,h2=>simp at h2;omega
  refine aa ?_
  rw [e56]
  simp only [STL,↓reduceIte,Int.reduceBEq,Int.reduceEq,GD,k1,af,h2]
  exact fin _ rfl
end Go.Aev.Wd.Lg
