import Derived.Test.YticjdhgokemdlaaGreatMostTwiceQ14
import Derived.Test.YticjdhgokemdlaaGreatMostTwiceQ6
import Derived.Test.YticjdhgokemdlaaGreatMostTwiceQ18
set_option linter.all false
namespace Go.Aev.Wd.Lg
open Go Go.Aev Go.Aev.Gen Go.Aev.Wd
def ym:List UInt8->Nat
 | []=>0
 | b::bs=>b.toNat+256 * ym bs
def eZ(s:Bool)(a d:ByteArray):Nm:=
 match ym d.data.toList with
 | 0=>none
 | k+1=>some (mkRat (if s then -(ym a.data.toList:Int) else(ym a.data.toList:Int)) (k+1))
def pq(x:Nm)(s:Bool)(a:ByteArray)(c:Bool)(d:ByteArray):Bool:=
 (s==decide ((nv x).num < 0)) && (a.data.toList== (bM (dz (nv x).num)).data.toList) && (c==nc x) && (d.data.toList== (nd x).data.toList) && decide ((nv x).num.natAbs<=2 ^ 60/\(nv x).den<=2 ^ 60)
theorem Ft{a b:ByteArray}(h:a.data.toList=b.data.toList):a=b:=by cases a;cases b;simp only at h;congr 1;exact Array.toList_inj.1 h
theorem Dw{x:Nm}{s c:Bool}{a d:ByteArray}(h:pq x s a c d=true):AV.agg [B s,AV.t (T.str a),B c,AV.t (T.str d)]=EN x/\QN 60 x:=by unfold pq at h;simp only [Ve,beq_iff_eq,decide_eq_true_eq] at h;obtain⟨⟨⟨⟨h1,b⟩,e⟩,f⟩,g⟩:=h;rw [h1,Ft b,e,Ft f];exact⟨rfl,g⟩
def one(k:Nat)(x:Nm):Option (List T):=
 match k with
 | 120=>some (NL (ng x))
 | 33=>some [ti (nv x).num.sign]
 | 43=>some (if cZ (nv x)=true then [ti (nv x).num,ti ((nv x).den:Int),tb true] else [ti 0,ti 0,tb false])
 | _=>none
def LL(k:Nat)(x y:Nm):Option (List T):=
 match k with
 | 63=>some (NL (pl x y))
 | 64=>some (NL (tm x y))
 | 121=>some (NL (mi x y))
 | 83=>if nv y=0 then none else some (NL (ov x y))
 | 29=>some [ti (cq (nv x) (nv y))]
 | _=>none
def Ds(k:Key)(vs:List AV)(bs:List ab):Option (List T):=
 match k,vs,bs with
 | .call f,[.agg [.t (.bool s), .t (.str a), .t (.bool c), .t (.str d)]],[]=>bif pq (eZ s a d) s a c d then one f (eZ s a d) else none
 | .call f,[.agg [.t (.bool s), .t (.str a), .t (.bool c), .t (.str d)], .agg [.t (.bool s'), .t (.str b), .t (.bool c'), .t (.str e)]],[]=>
  bif pq (eZ s a d) s a c d && pq (eZ s' b e) s' b c' e then LL f (eZ s a d) (eZ s' b e) else none
 | .call 32,[.t (.int .i64 x)],[]=>if -9223372036854775808<=x/\x < 9223372036854775808 then some (NL (iN x)) else none
 | _,_,_=>none
theorem RF(k:Key)(vs:List AV)(bs:List ab)(r:List T)(h:Ds k vs bs=some r):Or k vs bs=some r:=by
 unfold Ds at h;split at h
 .rename_i f s a c d;generalize eZ s a d=x at h;cases b:pq x s a c d with
  | false=>rw [b] at h;cases h
  | true=>
   rw [b,uM] at h;obtain⟨e,q⟩:=Dw b;show Or (.call f) [AV.agg [B s,AV.t (T.str a),B c,AV.t (T.str d)]] []=_;rw [e];unfold one at h;split at h
   .rw [<-h];exact Dz x
   .rw [<-h];exact lM x
   .rw [<-h];exact Lw q (by omega)
   .cases h
 .rename_i f s a c d s' i c' j;generalize eZ s a d=x at h;generalize eZ s' i j=y at h;cases b:pq x s a c d with
  | false=>rw [b] at h;cases h
  | true=>
   cases hy:pq y s' i c' j with
   | false=>rw [b,hy] at h;cases h
   | true=>
    rw [b,hy,WS,uM] at h;obtain⟨e,q⟩:=Dw b;obtain⟨e',g⟩:=Dw hy;show Or (.call f) [AV.agg [B s,AV.t (T.str a),B c,AV.t (T.str d)],AV.agg [B s',AV.t (T.str i),B c',AV.t (T.str j)]] []=_;rw [e,e'];unfold LL at h;split at h
    .rw [<-h];exact nU q g (by omega)
    .rw [<-h];exact mo q g (by omega)
    .rw [<-h];exact DA q g (by omega)
    .split at h
     .cases h
     .rename_i l;rw [<-h];exact(mX q g (by omega) l).1
    .rw [<-h];exact oh q g (by omega)
    .cases h
 .split at h
  .rename_i x b;rw [<-h];exact fT _ b
  .cases h
 .cases h
noncomputable def Da:Nat->au
 | 0=>λ_ _ _=>none
 | n+1=>λk vs bs=>match Ds k vs bs with
  | some r=>some r
  | none=>az ao ann (Da n) k vs bs
theorem QW:∀(n:Nat) (k:Key) (vs:List AV) (bs:List ab) (r:List T),Da n k vs bs=some r->Or k vs bs=some r:=by
 intro n;induction n with
 | zero=>intro k vs bs r h;cases h
 | succ n c=>
  intro k vs bs r h;unfold Da at h;split at h
  .rename_i d b;rw [<-h];exact RF _ _ _ _ b
  .obtain⟨L,e,g⟩:=aG.az (P:=ao) (A:=ann) k vs bs _ r h;exact al (g _ λq a=>c _ _ _ _ (e q a))
open Go Go.Aev Go.Aev.Gen
theorem Pa(O:au):az ao ann O (Key.call 7) [] []=
 (kN (O (.call 13) [AV.t (T.aa 3 false [[T.aa 1 false [[Ji 1],[Ji 2]],Ji 1,Ji 4],[T.aa 1 false [[Ji (-1)]],Ji 1,Ji 0],[T.aa 1 false [[Ji 0],[Ji (-1)]],Ji 1,Ji 0]]),I 2,AV.t (T.aa 1 false [[Ji 1],[Ji 1]]),I 2000] []) λl n a c=>fG (List.drop 2 l.tail).head? λp=>fG (List.drop 2 l.tail).tail.head? λd=>dO (List.drop 2 l.tail).tail.tail.head? λf=>dO (List.drop 2 l.tail).tail.tail.tail.head? λi=>pW (O (.call 8) [AV.t (T.aa 3 false [[T.aa 1 false [[Ji 1],[Ji 2]],Ji 1,Ji 4],[T.aa 1 false [[Ji (-1)]],Ji 1,Ji 0],[T.aa 1 false [[Ji 0],[Ji (-1)]],Ji 1,Ji 0]]),I 2,AV.t (T.aa 1 false [[Ji 1],[Ji 1]]),AV.agg [I a,I c],Jl 2 p.fst p.snd,Jl 2 d.fst d.snd] []) λb g j=>pW (O (.call 9) [AV.t (T.aa 3 false [[T.aa 1 false [[Ji (-1)]],Ji 1,Ji 0],[T.aa 1 false [[Ji 0],[Ji (-1)]],Ji 1,Ji 0]]),I 2,AV.t (T.aa 1 false [[Ji 1]]),AV.t (T.aa 2 false [[Ji 1,Ji 1],[Ji 0,Ji 1]])] []) λe h k=>some [Jb (bif bif bif bif bif bif f==0 then g==0 else false then h==0 else false then n==1 else false then a==4 && (c==1 && true) else false then b else false then e else false)]):=by kernel_rfl
open Go Go.Aev Go.Aev.Gen Go.Aev.Wd
def fR:List R:= [⟨false,[1,2],1,4⟩,⟨false,[-1],1,0⟩,⟨false,[0,-1],1,0⟩]
def fP:List Fr:= [(4,1),(0,1)]
def fQ:List Fr:= [(1,1),(0,1),(1,1)]
theorem PA:Or (.call 13) [LR false fR,I 2,aa false [1,1],I 2000] []=some [ti 1,ti 4,ti 1,T.aa 2 false (gX fP),T.aa 2 false (gX fQ),ti 0,ti 0]:=QW 400 _ _ _ _ (by kernel_rfl)
theorem PF:m9 2 fR [1,1] (4,1) fP fQ= (0,0):=by decide+kernel
theorem PD:iJ 2 fR [1,1] (4,1) fP fQ=true:=by decide+kernel
theorem PG:na 2 (fR.drop 1) [1] [(1,1),(0,1)]= (0,0):=by decide+kernel
theorem PE:mq (fR.drop 1) [1] [(1,1),(0,1)]=true:=by decide+kernel
theorem PB:∀r∈fR,r.e=true->r.of= []:=by decide
theorem PC:∀r∈fR.drop 1,r.e=true->r.of= []:=by decide
theorem u7:Or (.call 7) [] []=some [tb true]:=by have b:=PA;have c:=u8 fR false false false false 2 [1,1] (4,1) fP fQ PB;rw [PF] at c;have a:Or (.call 8) [LR false fR,I 2,aa false [1,1],Av (4,1),LN false fP,LN false fQ] []=some [tb (iJ 2 fR [1,1] (4,1) fP fQ),ti 0,ti 0]:=c;rw [PD] at a;have d:=u9 (fR.drop 1) false false false 2 [1] [(1,1),(0,1)] PC;rw [PG,PE] at d;have e:Or (.call 9) [LR false (fR.drop 1),I 2,aa false [1],LN false [(1,1),(0,1)]] []=some [tb true,ti 0,ti 0]:=d;refine al ?_;rw [Pa];show ae none (Or (.call 13) [LR false fR,I 2,aa false [1,1],I 2000] []) _=_;rw [b];show ae none (Or (.call 8) [LR false fR,I 2,aa false [1,1],Av (4,1),LN false fP,LN false fQ] []) _=_;rw [a];show ae none (Or (.call 9) [LR false (fR.drop 1),I 2,aa false [1],LN false [(1,1),(0,1)]] []) _=_;rw [e];rfl
end Go.Aev.Wd.Lg
