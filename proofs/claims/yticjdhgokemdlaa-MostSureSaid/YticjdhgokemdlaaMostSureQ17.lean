import Derived.Test.YticjdhgokemdlaaMostSureQ12
import Derived.Test.YticjdhgokemdlaaMostSureQ6
import Derived.Test.YticjdhgokemdlaaMostSureQ16
set_option linter.all false
namespace Go.Aev.Wd.Lg
open Go Go.Aev Go.Aev.Gen Go.Aev.Wd
def wV:List UInt8->Nat
 | []=>0
 | b::bs=>b.toNat+256 * wV bs
def fE(s:Bool)(a d:ByteArray):Nm:=
 match wV d.data.toList with
 | 0=>none
 | k+1=>some (mkRat (if s then -(wV a.data.toList:Int) else(wV a.data.toList:Int)) (k+1))
def oT(x:Nm)(s:Bool)(a:ByteArray)(c:Bool)(d:ByteArray):Bool:=
 (s==decide ((nv x).num < 0)) && (a.data.toList== (bC (dz (nv x).num)).data.toList) && (c==nc x) && (d.data.toList== (nd x).data.toList) && decide ((nv x).num.natAbs<=2 ^ 60/\(nv x).den<=2 ^ 60)
theorem DT{a b:ByteArray}(h:a.data.toList=b.data.toList):a=b:=by cases a;cases b;simp only at h;congr 1;exact Array.toList_inj.1 h
theorem B2{x:Nm}{s c:Bool}{a d:ByteArray}(h:oT x s a c d=true):AV.agg [B s,AV.t (T.str a),B c,AV.t (T.str d)]=EN x/\QN 60 x:=by unfold oT at h;simp only [S0,beq_iff_eq,decide_eq_true_eq] at h;obtain⟨⟨⟨⟨h1,b⟩,e⟩,f⟩,g⟩:=h;rw [h1,DT b,e,DT f];exact⟨rfl,g⟩
def one(k:Nat)(x:Nm):Option (List T):=
 match k with
 | 66=>some (NL (ng x))
 | 30=>some [ti (nv x).num.sign]
 | 21=>some (if cw (nv x)=true then [ti (nv x).num,ti ((nv x).den:Int),tb true] else [ti 0,ti 0,tb false])
 | _=>none
def JT(k:Nat)(x y:Nm):Option (List T):=
 match k with
 | 46=>some (NL (pl x y))
 | 47=>some (NL (tm x y))
 | 67=>some (NL (mi x y))
 | 43=>if nv y=0 then none else some (NL (ov x y))
 | 26=>some [ti (cq (nv x) (nv y))]
 | _=>none
def BY(k:Key)(vs:List AV)(bs:List aa):Option (List T):=
 match k,vs,bs with
 | .call f,[.agg [.t (.bool s), .t (.str a), .t (.bool c), .t (.str d)]],[]=>bif oT (fE s a d) s a c d then one f (fE s a d) else none
 | .call f,[.agg [.t (.bool s), .t (.str a), .t (.bool c), .t (.str d)], .agg [.t (.bool s'), .t (.str b), .t (.bool c'), .t (.str e)]],[]=>
  bif oT (fE s a d) s a c d && oT (fE s' b e) s' b c' e then JT f (fE s a d) (fE s' b e) else none
 | .call 29,[.t (.int .i64 x)],[]=>if -9223372036854775808<=x/\x < 9223372036854775808 then some (NL (iN x)) else none
 | _,_,_=>none
theorem Pj(k:Key)(vs:List AV)(bs:List aa)(r:List T)(h:BY k vs bs=some r):Or k vs bs=some r:=by
 unfold BY at h;split at h
 .rename_i f s a c d;generalize fE s a d=x at h;cases b:oT x s a c d with
  | false=>rw [b] at h;cases h
  | true=>
   rw [b,tB] at h;obtain⟨e,q⟩:=B2 b;show Or (.call f) [AV.agg [B s,AV.t (T.str a),B c,AV.t (T.str d)]] []=_;rw [e];unfold one at h;split at h
   .rw [<-h];exact B6 x
   .rw [<-h];exact lf x
   .rw [<-h];exact JH q (by omega)
   .cases h
 .rename_i f s a c d s' i c' j;generalize fE s a d=x at h;generalize fE s' i j=y at h;cases b:oT x s a c d with
  | false=>rw [b] at h;cases h
  | true=>
   cases hy:oT y s' i c' j with
   | false=>rw [b,hy] at h;cases h
   | true=>
    rw [b,hy,Uo,tB] at h;obtain⟨e,q⟩:=B2 b;obtain⟨l,g⟩:=B2 hy;show Or (.call f) [AV.agg [B s,AV.t (T.str a),B c,AV.t (T.str d)],AV.agg [B s',AV.t (T.str i),B c',AV.t (T.str j)]] []=_;rw [e,l];unfold JT at h;split at h
    .rw [<-h];exact mG q g (by omega)
    .rw [<-h];exact kT q g (by omega)
    .rw [<-h];exact B7 q g (by omega)
    .split at h
     .cases h
     .rename_i m;rw [<-h];exact(mH q g (by omega) m).1
    .rw [<-h];exact nU q g (by omega)
    .cases h
 .split at h
  .rename_i x b;rw [<-h];exact fy _ b
  .cases h
 .cases h
noncomputable def BL:Nat->aA
 | 0=>λ_ _ _=>none
 | n+1=>λk vs bs=>match BY k vs bs with
  | some r=>some r
  | none=>aE aq ann (BL n) k vs bs
theorem OC:∀(n:Nat) (k:Key) (vs:List AV) (bs:List aa) (r:List T),BL n k vs bs=some r->Or k vs bs=some r:=by
 intro n;induction n with
 | zero=>intro k vs bs r h;cases h
 | succ n b=>
  intro k vs bs r h;unfold BL at h;split at h
  .rename_i c hr;rw [<-h];exact Pj _ _ _ _ hr
  .obtain⟨L,e,g⟩:=aF.aE (P:=aq) (A:=ann) k vs bs _ r h;exact an (g _ λq a=>b _ _ _ _ (e q a))
open Go Go.Aev Go.Aev.Gen
theorem MT(O:aA):aE aq ann O (Key.call 4) [] []=
 (zy (O (.call 7) [AV.t (T.ae 3 false [[T.ae 1 false [[Ji 1],[Ji 2]],Ji 1,Ji 4],[T.ae 1 false [[Ji (-1)]],Ji 1,Ji 0],[T.ae 1 false [[Ji 0],[Ji (-1)]],Ji 1,Ji 0]]),I 2,AV.t (T.ae 1 false [[Ji 1],[Ji 1]]),I 2000] []) λl n a c=>vG (List.drop 2 l.tail).head? λp=>vG (List.drop 2 l.tail).tail.head? λd=>kz (List.drop 2 l.tail).tail.tail.head? λf=>kz (List.drop 2 l.tail).tail.tail.tail.head? λi=>sR (O (.call 9) [AV.t (T.ae 3 false [[T.ae 1 false [[Ji 1],[Ji 2]],Ji 1,Ji 4],[T.ae 1 false [[Ji (-1)]],Ji 1,Ji 0],[T.ae 1 false [[Ji 0],[Ji (-1)]],Ji 1,Ji 0]]),I 2,AV.t (T.ae 1 false [[Ji 1],[Ji 1]]),AV.agg [I a,I c],Jl 2 p.fst p.snd,Jl 2 d.fst d.snd] []) λb g j=>sR (O (.call 10) [AV.t (T.ae 3 false [[T.ae 1 false [[Ji (-1)]],Ji 1,Ji 0],[T.ae 1 false [[Ji 0],[Ji (-1)]],Ji 1,Ji 0]]),I 2,AV.t (T.ae 1 false [[Ji 1]]),AV.t (T.ae 2 false [[Ji 1,Ji 1],[Ji 0,Ji 1]])] []) λe h k=>some [Jb (bif bif bif bif bif bif f==0 then g==0 else false then h==0 else false then n==1 else false then a==4 && (c==1 && true) else false then b else false then e else false)]):=by kernel_rfl
open Go Go.Aev Go.Aev.Gen Go.Aev.Wd
def fR:List R:= [⟨false,[1,2],1,4⟩,⟨false,[-1],1,0⟩,⟨false,[0,-1],1,0⟩]
def fP:List Fr:= [(4,1),(0,1)]
def fQ:List Fr:= [(1,1),(0,1),(1,1)]
theorem Ni:Or (.call 7) [LR false fR,I 2,ae false [1,1],I 2000] []=some [ti 1,ti 4,ti 1,T.ae 2 false (gF fP),T.ae 2 false (gF fQ),ti 0,ti 0]:=OC 400 _ _ _ _ (by kernel_rfl)
theorem Np:mO 2 fR [1,1] (4,1) fP fQ= (0,0):=by decide+kernel
theorem Nl:jf 2 fR [1,1] (4,1) fP fQ=true:=by decide+kernel
theorem Nq:mP 2 (fR.drop 1) [1] [(1,1),(0,1)]= (0,0):=by decide+kernel
theorem Nn:lW (fR.drop 1) [1] [(1,1),(0,1)]=true:=by decide+kernel
theorem Nj:∀r∈fR,r.e=true->r.of= []:=by decide
theorem Nk:∀r∈fR.drop 1,r.e=true->r.of= []:=by decide
theorem u7:Or (.call 4) [] []=some [tb true]:=by have b:=Ni;have c:=u8 fR false false false false 2 [1,1] (4,1) fP fQ Nj;rw [Np] at c;have a:Or (.call 9) [LR false fR,I 2,ae false [1,1],Av (4,1),LN false fP,LN false fQ] []=some [tb (jf 2 fR [1,1] (4,1) fP fQ),ti 0,ti 0]:=c;rw [Nl] at a;have d:=u9 (fR.drop 1) false false false 2 [1] [(1,1),(0,1)] Nk;rw [Nq,Nn] at d;have e:Or (.call 10) [LR false (fR.drop 1),I 2,ae false [1],LN false [(1,1),(0,1)]] []=some [tb true,ti 0,ti 0]:=d;refine an ?_;rw [MT];show ab none (Or (.call 7) [LR false fR,I 2,ae false [1,1],I 2000] []) _=_;rw [b];show ab none (Or (.call 9) [LR false fR,I 2,ae false [1,1],Av (4,1),LN false fP,LN false fQ] []) _=_;rw [a];show ab none (Or (.call 10) [LR false (fR.drop 1),I 2,ae false [1],LN false [(1,1),(0,1)]] []) _=_;rw [e];rfl
end Go.Aev.Wd.Lg
