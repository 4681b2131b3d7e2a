import Derived.Test.YticjdhgokemdlaaGreatMostTakesQ14
import Derived.Test.YticjdhgokemdlaaGreatMostTakesQ6
import Derived.Test.YticjdhgokemdlaaGreatMostTakesQ18
set_option linter.unusedSimpArgs false
set_option linter.unusedVariables false
namespace Go.Aev.Wd.Lg
open Go Go.Aev Go.Aev.Gen Go.Aev.Wd
def byV:List UInt8->Nat
 | []=>0
 | b::bs=>b.toNat+256 * byV bs
def bh(s:Bool)(a d:ByteArray):Nm:=
 match byV d.data.toList with
 | 0=>none
 | k+1=>some (mkRat (if s then -(byV a.data.toList:Int) else(byV a.data.toList:Int)) (k+1))
def okN(x:Nm)(s:Bool)(a:ByteArray)(c:Bool)(d:ByteArray):Bool:=
 (s==decide ((nv x).num < 0)) && (a.data.toList== (aI (dz (nv x).num)).data.toList) && (c==nc x) && (d.data.toList== (nd x).data.toList) && decide ((nv x).num.natAbs<=2 ^ 60/\(nv x).den<=2 ^ 60)
theorem tu{a b:ByteArray}(h:a.data.toList=b.data.toList):a=b:=by
 cases a;cases b
 simp only at h
 congr 1
 exact Array.toList_inj.1 h
theorem p4{x:Nm}{s c:Bool}{a d:ByteArray}(h:okN x s a c d=true):AV.agg [B s,AV.t (T.str a),B c,AV.t (T.str d)]=EN x/\QN 60 x:=by
 unfold okN at h
 simp only [Bool.and_eq_true,beq_iff_eq,decide_eq_true_eq] at h
 obtain⟨⟨⟨⟨h1,h2⟩,h3⟩,h4⟩,h5⟩:=h
 rw [h1,tu h2,h3,tu h4]
 exact⟨rfl,h5⟩
def one(k:Nat)(x:Nm):Option (List T):=
 match k with
 | 120=>some (NL (ng x))
 | 33=>some [ti (nv x).num.sign]
 | 43=>some (if jA (nv x)=true then [ti (nv x).num,ti ((nv x).den:Int),tb true] else [ti 0,ti 0,tb false])
 | _=>none
def two(k:Nat)(x y:Nm):Option (List T):=
 match k with
 | 63=>some (NL (pl x y))
 | 64=>some (NL (tm x y))
 | 121=>some (NL (mi x y))
 | 83=>if nv y=0 then none else some (NL (ov x y))
 | 29=>some [ti (cq (nv x) (nv y))]
 | _=>none
def ru(k:Key)(vs:List AV)(bs:List Blk):Option (List T):=
 match k,vs,bs with
 | .call f,[.agg [.t (.bool s), .t (.str a), .t (.bool c), .t (.str d)]],[]=>bif okN (bh s a d) s a c d then one f (bh s a d) else none
 | .call f,[.agg [.t (.bool s), .t (.str a), .t (.bool c), .t (.str d)], .agg [.t (.bool s'), .t (.str a'), .t (.bool c'), .t (.str d')]],[]=>
  bif okN (bh s a d) s a c d && okN (bh s' a' d') s' a' c' d' then two f (bh s a d) (bh s' a' d') else none
 | .call 32,[.t (.int .i64 x)],[]=>if -9223372036854775808<=x/\x < 9223372036854775808 then some (NL (iN x)) else none
 | _,_,_=>none
theorem Al(k:Key)(vs:List AV)(bs:List Blk)(r:List T)(h:ru k vs bs=some r):Or k vs bs=some r:=by
 unfold ru at h
 split at h
 ·rename_i f s a c d
  generalize bh s a d=x at h
  cases hx:okN x s a c d with
  | false=>rw [hx] at h;cases h
  | true=>
   rw [hx,ct1] at h
   obtain⟨e,q⟩:=p4 hx
   show Or (.call f) [AV.agg [B s,AV.t (T.str a),B c,AV.t (T.str d)]] []=_
   rw [e]
   unfold one at h
   split at h
   ·rw [<-h];exact BT x
   ·rw [<-h];exact t33 x
   ·rw [<-h];exact t43 q (by omega)
   ·cases h
 ·rename_i f s a c d s' a' c' d'
  generalize bh s a d=x at h
  generalize bh s' a' d'=y at h
  cases hx:okN x s a c d with
  | false=>rw [hx] at h;cases h
  | true=>
   cases hy:okN y s' a' c' d' with
   | false=>rw [hx,hy] at h;cases h
   | true=>
    rw [hx,hy,Bool.true_and,ct1] at h
    obtain⟨e,q⟩:=p4 hx
    obtain⟨e',q'⟩:=p4 hy
    show Or (.call f) [AV.agg [B s,AV.t (T.str a),B c,AV.t (T.str d)],AV.agg [B s',AV.t (T.str a'),B c',AV.t (T.str d')]] []=_
    rw [e,e']
    unfold two at h
    split at h
    ·rw [<-h];exact p63 q q' (by omega)
    ·rw [<-h];exact p64 q q' (by omega)
    ·rw [<-h];exact Ch q q' (by omega)
    ·split at h
     ·cases h
     ·rename_i h0
      rw [<-h];exact(p83 q q' (by omega) h0).1
    ·rw [<-h];exact t29 q q' (by omega)
    ·cases h
 ·split at h
  ·rename_i x hx
   rw [<-h];exact p32 _ hx
  ·cases h
 ·cases h
noncomputable def pU:Nat->Orc
 | 0=>fun _ _ _=>none
 | n+1=>fun k vs bs=>match ru k vs bs with
  | some r=>some r
  | none=>stepO PROG ann (pU n) k vs bs
theorem AT:∀(n:Nat) (k:Key) (vs:List AV) (bs:List Blk) (r:List T),pU n k vs bs=some r->Or k vs bs=some r:=by
 intro n
 induction n with
 | zero=>intro k vs bs r h;cases h
 | succ n ih=>
  intro k vs bs r h
  unfold pU at h
  split at h
  ·rename_i r' hr
   rw [<-h];exact Al _ _ _ _ hr
  ·obtain⟨L,e,g⟩:=Det.stepO (P:=PROG) (A:=ann) k vs bs _ r h
   exact aa (g _ fun q hq=>ih _ _ _ _ (e q hq))
open Go Go.Aev Go.Aev.Gen
theorem eq7(O:Orc):stepO PROG ann O (Key.call 7) [] []=
 (G69 (O (.call 13) [AV.t (T.lst 3 false [[T.lst 1 false [[Ji 1],[Ji 2]],Ji 1,Ji 4],[T.lst 1 false [[Ji (-1)]],Ji 1,Ji 0],[T.lst 1 false [[Ji 0],[Ji (-1)]],Ji 1,Ji 0]]),I 2,AV.t (T.lst 1 false [[Ji 1],[Ji 1]]),I 2000] []) fun l n n_1 n_2=>G70 (List.drop 2 l.tail).head? fun p=>G70 (List.drop 2 l.tail).tail.head? fun p_1=>G57 (List.drop 2 l.tail).tail.tail.head? fun n_3=>G57 (List.drop 2 l.tail).tail.tail.tail.head? fun n_4=>G25 (O (.call 8) [AV.t (T.lst 3 false [[T.lst 1 false [[Ji 1],[Ji 2]],Ji 1,Ji 4],[T.lst 1 false [[Ji (-1)]],Ji 1,Ji 0],[T.lst 1 false [[Ji 0],[Ji (-1)]],Ji 1,Ji 0]]),I 2,AV.t (T.lst 1 false [[Ji 1],[Ji 1]]),AV.agg [I n_1,I n_2],Jl 2 p.fst p.snd,Jl 2 p_1.fst p_1.snd] []) fun b n_5 n_6=>G25 (O (.call 9) [AV.t (T.lst 3 false [[T.lst 1 false [[Ji (-1)]],Ji 1,Ji 0],[T.lst 1 false [[Ji 0],[Ji (-1)]],Ji 1,Ji 0]]),I 2,AV.t (T.lst 1 false [[Ji 1]]),AV.t (T.lst 2 false [[Ji 1,Ji 1],[Ji 0,Ji 1]])] []) fun b_1 n_7 n_8=>some [Jb (bif bif bif bif bif bif n_3==0 then n_5==0 else false then n_7==0 else false then n==1 else false then n_1==4 && (n_2==1 && true) else false then b else false then b_1 else false)]):=by kernel_rfl
open Go Go.Aev Go.Aev.Gen Go.Aev.Wd
def fR:List R:= [⟨false,[1,2],1,4⟩,⟨false,[-1],1,0⟩,⟨false,[0,-1],1,0⟩]
def fP:List Fr:= [(4,1),(0,1)]
def fQ:List Fr:= [(1,1),(0,1),(1,1)]
theorem AQ:Or (.call 13) [LR false fR,I 2,lst false [1,1],I 2000] []=some [ti 1,ti 4,ti 1,T.lst 2 false (ch fP),T.lst 2 false (ch fQ),ti 0,ti 0]:=AT 400 _ _ _ _ (by kernel_rfl)
theorem As:aK 2 fR [1,1] (4,1) fP fQ= (0,0):=by decide+kernel
theorem BL:dJ 2 fR [1,1] (4,1) fP fQ=true:=by decide+kernel
theorem Dq:aX 2 (fR.drop 1) [1] [(1,1),(0,1)]= (0,0):=by decide+kernel
theorem zG:eF (fR.drop 1) [1] [(1,1),(0,1)]=true:=by decide+kernel
theorem CN:∀r∈fR,r.e=true->r.of= []:=by decide
theorem Ci:∀r∈fR.drop 1,r.e=true->r.of= []:=by decide
theorem u7:Or (.call 7) [] []=some [tb true]:=by
 have k13:=AQ
 have k8:=u8 fR false false false false 2 [1,1] (4,1) fP fQ CN
 rw [As] at k8
 have k8':Or (.call 8) [LR false fR,I 2,lst false [1,1],Av (4,1),LN false fP,LN false fQ] []=some [tb (dJ 2 fR [1,1] (4,1) fP fQ),ti 0,ti 0]:=k8
 rw [BL] at k8'
 have k9:=u9 (fR.drop 1) false false false 2 [1] [(1,1),(0,1)] Ci
 rw [Dq,zG] at k9
 have k9':Or (.call 9) [LR false (fR.drop 1),I 2,lst false [1],LN false [(1,1),(0,1)]] []=some [tb true,ti 0,ti 0]:=k9
 refine aa ?_
 rw [eq7]
 show gdK none (Or (.call 13) [LR false fR,I 2,lst false [1,1],I 2000] []) _=_
 rw [k13]
 show gdK none (Or (.call 8) [LR false fR,I 2,lst false [1,1],Av (4,1),LN false fP,LN false fQ] []) _=_
 rw [k8']
 show gdK none (Or (.call 9) [LR false (fR.drop 1),I 2,lst false [1],LN false [(1,1),(0,1)]] []) _=_
 rw [k9']
 rfl
end Go.Aev.Wd.Lg
