import Derived.Test.YticjdhgokemdlaaGreatMostTakesQ1
import Derived.ChangeKeysEq
import Derived.Deep.AppendSrc
import Derived.Great.FillDense
set_option linter.unusedSimpArgs false
set_option linter.unusedVariables false
namespace Go.Aev
open Go
section
variable {P:Program} {w:World} {A:Nat->Prop}
theorem T.int?_eq{k:IntKind}{x:T}{n:Int}(h:x.int? k=some n):x= .int k n:=by
 cases x <;> simp only [T.int?,reduceCtorEq] at h
 split at h <;> simp_all
theorem T.bool?_eq{x:T}{b:Bool}(h:x.bool? =some b):x= .bool b:=by
 cases x <;> simp_all [T.bool?]
theorem T.str?_eq{x:T}{s:ByteArray}(h:x.str? =some s):x= .str s:=by
 cases x <;> simp_all [T.str?]
theorem T.ptr?_eq{x:T}{cs:List T}(h:x.ptr? =some cs):x= .ptr cs:=by
 cases x <;> simp_all [T.ptr?]
theorem T.lst?_eq{sz:Nat}{x:T}{p:Bool×List (List T)}(h:x.lst? sz=some p):x= .lst sz p.1 p.2\/(x= .emp p.1/\p.2= []):=by
 cases x <;> simp only [T.lst?,reduceCtorEq,Option.some.injEq] at h
 case lst sz' b xs=>split at h <;> simp_all;subst h;simp
 case emp b=>subst h;simp
theorem zV{w:World}{A:Nat->Prop}{y:T}{v:Value}(h:oN y=true)(hr:RelT w A y v):v= .slice none 0 0:=by
 unfold oN at h
 split at h
 ·simp only [RelT] at hr
  rcases hr with⟨_,h⟩ | ⟨h,_⟩
  ·exact h
  ·cases h
 ·simp only [RelT] at hr
  rcases hr with⟨_,_,h⟩ | ⟨h,_⟩
  ·exact h
  ·cases h
 ·cases h
theorem AV.t?_eq{v:AV}{x:T}(h:v.t? =some x):v= .t x:=by cases v <;> simp_all [AV.t?]
theorem ik{α R:Type}[Inhabited α]{c:Option Bool}{m:Option α}{k:α->Option R}{r:R}(h:gdK c m k=some r):
  ∃a,k a=some r/\(m=some a\/(m=none/\c=some false)):=by
 unfold gdK at h
 cases m with
 | some a=>exact⟨a,h, .inl rfl⟩
 | none=>cases c with
  | none=>simp at h
  | some b=>cases b with
   | true=>simp at h
   | false=>exact⟨_,h, .inr ⟨rfl,rfl⟩⟩
def kz(P:Program)(R:Value->World->Prop):Result Next->Prop
 | .ok (.value x) w'=>R x w'
 | .ok .skip w'=>R undef w'
 | .ok (.enter f args) w'=>Calls P f args w' fun e w''=>∃x,e= .returned x/\R x w''
 | _=>False
def OpRes(P:Program)(o:Oper)(a:Act)(w:World)(R:Value->World->Prop):Prop:=kz P R ((execOp a.eval o).run P w)
theorem OpRes.mono{o:Oper}{a:Act}{R R':Value->World->Prop}(h:OpRes P o a w R)(hr:∀x w',R x w'->R' x w'):OpRes P o a w R':=by
 unfold OpRes at *
 generalize (execOp a.eval o).run P w=r at *
 cases r with
 | ok n w'=>
  cases n <;> simp only [kz] at h⊢
  case enter=>exact h.mono fun e w'' ⟨x,e1,e2⟩=>⟨x,e1,hr _ _ e2⟩
  all_goals exact hr _ _ h
 | halt x w'=>simp [kz] at h
theorem OpRes.wp{o:Oper}{a:Act}{R:Value->World->Prop}{K:Act->World->Prop}{Q:Exit->Act->World->Prop}(h:OpRes P o a w R)(hk:∀x w',R x w'->K (a.put o.dst x) w'):o.wp P a w K Q:=by
 unfold OpRes at h
 unfold Oper.wp
 generalize (execOp a.eval o).run P w=r at *
 cases r with
 | ok n w'=>
  cases n <;> simp only [kz] at h <;> simp only [Oper.upon]
  case enter=>exact h.mono fun e w'' ⟨x,e1,e2⟩=>by subst e1;exact hk _ _ e2
  all_goals first | exact hk _ _ h | exact h.elim
 | halt x w'=>simp [kz] at h
theorem oU{t:TypeId}{d:TypeDesc}(h:P.underlying t=some d):∃i,P.info? t=some i/\P.cellsOf t=i.size:=by
 unfold Program.underlying at h
 cases hi:P.info? t with
 | none=>simp [hi] at h
 | some i=>exact⟨i,rfl,by simp [Program.cellsOf,hi]⟩
theorem cv{t:TypeId}(h:az P t=true)(w:World):(sizeOf t).run P w= .ok (P.cellsOf t) w:=by
 unfold az at h
 obtain⟨d,hd⟩:=Option.isSome_iff_exists.1 h
 obtain⟨i,hi,hs⟩:=oU hd
 rw [hs];simp [sizeOf,typeInfo,hi]
theorem jH{t:TypeId}(h:az P t=true)(w:World):(isAgg t).run P w= .ok (al P t) w:=by
 unfold az at h
 obtain⟨d,hd⟩:=Option.isSome_iff_exists.1 h
 unfold isAgg al
 simp only [Sem.run_bind,run_underlying hd,Result.andThen_ok,hd]
 cases d <;> rfl
theorem bL(k:IntKind)(n:Int)(w:World)(A:Nat->Prop):RelT w A (.int k n) (.int k n):=by simp [RelT]
theorem fp(b:Bool)(w:World)(A:Nat->Prop):RelT w A (.bool b) (.bool b):=by simp [RelT]
theorem ei(b:ByteArray)(w:World)(A:Nat->Prop):RelT w A (.str b) (.string b):=by simp [RelT]
theorem zz{R:Type}{op:BinOp}{k:IntKind}{c:Option Bool}{x y:T}{K:T->Option R}{r:R}{t:TypeId}{vx vy:Value}(hc:c=none\/c=some true)
  (hx:RelT w A x vx) (hy:RelT w A y vy) (h:jx op k c x y K=some r):
  ∃z vz,K z=some r/\(∀w A,RelT w A z vz)/\(binOp op t vx vy).run P w= .ok vz w:=by
 unfold jx at h
 replace h:=ah h hc;obtain⟨a,ha,h⟩:=h
 replace h:=ah h hc;obtain⟨b,hb,h⟩:=h
 have:=T.int?_eq ha;subst this
 have:=T.int?_eq hb;subst this
 simp only [RelT] at hx hy;subst hx;subst hy
 cases op <;> simp only [reduceCtorEq] at h
 case quo=>
  replace h:=ah h hc;obtain⟨_,h0,h⟩:=h
  have hne:b≠0:=by intro e;simp [e] at h0
  exact⟨_,_,h,by first | exact bL _ _ | exact fp _ | exact ei _,by simp [binOp,Op.intDiv,hne]⟩
 case rem=>
  replace h:=ah h hc;obtain⟨_,h0,h⟩:=h
  have hne:b≠0:=by intro e;simp [e] at h0
  exact⟨_,_,h,by first | exact bL _ _ | exact fp _ | exact ei _,by simp [binOp,Op.intDiv,hne]⟩
 all_goals exact⟨_,_,h,by first | exact bL _ _ | exact fp _ | exact ei _,by simp [binOp,Op.intArith,Op.intBits,Op.intCmp]⟩
theorem DS{R:Type}{op:BinOp}{k ky:IntKind}{c:Option Bool}{x y:T}{K:T->Option R}{r:R}{t:TypeId}{vx vy:Value}(hc:c=none\/c=some true)
  (hx:RelT w A x vx) (hy:RelT w A y vy) (h:iF op k ky c x y K=some r):
  ∃z vz,K z=some r/\(∀w A,RelT w A z vz)/\(binOp op t vx vy).run P w= .ok vz w:=by
 unfold iF at h
 replace h:=ah h hc;obtain⟨a,ha,h⟩:=h
 replace h:=ah h hc;obtain⟨b,hb,h⟩:=h
 have:=T.int?_eq ha;subst this
 have:=T.int?_eq hb;subst this
 simp only [RelT] at hx hy;subst hx;subst hy
 replace h:=ah h hc;obtain⟨_,h0,h⟩:=h
 have hne:¬b < 0:=by intro e;simp [e] at h0
 cases op <;> simp only [reduceCtorEq] at h
 all_goals exact⟨_,_,h,by first | exact bL _ _ | exact fp _ | exact ei _,by simp [binOp,Op.shift,hne]⟩
theorem BC{R:Type}{op:BinOp}{c:Option Bool}{x y:T}{K:T->Option R}{r:R}{t:TypeId}{vx vy:Value}(hc:c=none\/c=some true)
  (hx:RelT w A x vx) (hy:RelT w A y vy) (h:jG op c x y K=some r):
  ∃z vz,K z=some r/\(∀w A,RelT w A z vz)/\(binOp op t vx vy).run P w= .ok vz w:=by
 unfold jG at h
 replace h:=ah h hc;obtain⟨a,ha,h⟩:=h
 replace h:=ah h hc;obtain⟨b,hb,h⟩:=h
 have:=T.str?_eq ha;subst this
 have:=T.str?_eq hb;subst this
 simp only [RelT] at hx hy;subst hx;subst hy
 cases op <;> simp only [reduceCtorEq] at h
 case add=>
  replace h:=ah h hc;obtain⟨_,h0,h⟩:=h
  have hne:a.size+b.size<=4294967296:=by
   by_cases e:a.size+b.size<=4294967296
   ·exact e
   ·simp [e] at h0
  have hmax:¬(((a.size+b.size:Nat):Int) > IntKind.i64.max):=by
   have:IntKind.i64.max=9223372036854775807:=by decide
   rw [this];omega
  exact⟨_,_,h,by first | exact bL _ _ | exact fp _ | exact ei _,by simp only [binOp,Op.stringOp,if_neg hmax];rfl⟩
 all_goals exact⟨_,_,h,by first | exact bL _ _ | exact fp _ | exact ei _,by simp [binOp,Op.stringOp]⟩
theorem zM{R:Type}{op:BinOp}{t ty:TypeId}{c:Option Bool}{x y:T}{K:T->Option R}{r:R}{vx vy:Value}(hc:c=none\/c=some true)
  (hx:RelT w A x vx) (hy:RelT w A y vy) (h:jy P op t ty c x y K=some r):
  (op≠ .eql/\op≠ .neq)/\∃z vz,K z=some r/\(∀w A,RelT w A z vz)/\(binOp op t vx vy).run P w= .ok vz w:=by
 unfold jy at h
 cases op <;> simp only [reduceCtorEq] at h <;> refine⟨⟨by simp,by simp⟩, ?_⟩ <;> split at h <;> first | exact zz hc hx hy h | exact DS hc hx hy h | exact BC hc hx hy h | simp at h
theorem y6{R:Type}{op:UnOp}{t:TypeId}{c:Option Bool}{x:T}{K:T->Option R}{r:R}{vx:Value}(hc:c=none\/c=some true)
  (hx:RelT w A x vx) (h:jk P op t c x K=some r):
  ∃z vz,K z=some r/\(∀w A,RelT w A z vz)/\(Op.unary op vx).run P w= .ok vz w:=by
 unfold jk at h
 split at h
 ·replace h:=ah h hc;obtain⟨a,ha,h⟩:=h
  have:=T.int?_eq ha;subst this
  simp only [RelT] at hx;subst hx
  exact⟨_,_,h,by first | exact bL _ _ | exact fp _ | exact ei _,by simp [Op.unary,Op.intArith]⟩
 ·replace h:=ah h hc;obtain⟨a,ha,h⟩:=h
  have:=T.int?_eq ha;subst this
  simp only [RelT] at hx;subst hx
  exact⟨_,_,h,by first | exact bL _ _ | exact fp _ | exact ei _,by simp [Op.unary,Op.intBits]⟩
 ·replace h:=ah h hc;obtain⟨a,ha,h⟩:=h
  have:=T.bool?_eq ha;subst this
  simp only [RelT] at hx;subst hx
  exact⟨_,_,h,by first | exact bL _ _ | exact fp _ | exact ei _,by simp [Op.unary]⟩
 ·simp at h
theorem Dc{R:Type}{d:Nat}{t:TypeId}{c:Option Bool}{x y:T}{K:Bool->Option R}{r:R}{vx vy:Value}(hc:c=none\/c=some true)
  (hx:RelT w A x vx) (hy:RelT w A y vy) (h:eqC P c t x y K=some r):∃b,K b=some r/\(Op.equalIn (d+1) t vx vy).run P w= .ok b w:=by
 unfold eqC at h
 split at h
 ·rename_i k hu
  replace h:=ah h hc;obtain⟨a,ha,h⟩:=h
  replace h:=ah h hc;obtain⟨b,hb,h⟩:=h
  have:=T.int?_eq ha;subst this
  have:=T.int?_eq hb;subst this
  simp only [RelT] at hx hy;subst hx;subst hy
  exact⟨_,h,by simp [Op.equalIn,run_underlying hu]⟩
 ·rename_i hu
  replace h:=ah h hc;obtain⟨a,ha,h⟩:=h
  replace h:=ah h hc;obtain⟨b,hb,h⟩:=h
  have:=T.bool?_eq ha;subst this
  have:=T.bool?_eq hb;subst this
  simp only [RelT] at hx hy;subst hx;subst hy
  exact⟨_,h,by simp [Op.equalIn,run_underlying hu]⟩
 ·rename_i hu
  replace h:=ah h hc;obtain⟨a,ha,h⟩:=h
  replace h:=ah h hc;obtain⟨b,hb,h⟩:=h
  have:=T.str?_eq ha;subst this
  have:=T.str?_eq hb;subst this
  simp only [RelT] at hx hy;subst hx;subst hy
  exact⟨_,h,by simp [Op.equalIn,run_underlying hu]⟩
 ·simp at h
theorem qy{R:Type}{c:Option Bool}(ts':List TypeId):∀(ts:List TypeId) (xs ys:List T) (K:Bool->Option R),
  bp P c (ts++ts') xs ys K=bp P c ts (xs.take ts.length) (ys.take ts.length) (fun q=>bp P c ts' (xs.drop ts.length) (ys.drop ts.length) fun q'=>K (q && q'))
 | [],xs,ys,K=>by simp [bp]
 | t::ts,[],ys,K=>by simp [bp]
 | t::ts,x::xs,[],K=>by simp [bp]
 | t::ts,x::xs,y::ys,K=>by
  simp only [List.cons_append,List.length_cons,List.take_succ_cons,List.drop_succ_cons,bp]
  congr 1;funext b
  rw [qy ts' ts xs ys]
  simp only [Bool.and_assoc]
theorem RelTs.take{cs:List T}{vs:List Value}(h:RelTs w A cs vs):∀n,RelTs w A (cs.take n) (vs.take n):=by
 intro n
 induction n generalizing cs vs with
 | zero=>simp [RelTs]
 | succ n ih=>
  cases cs with
  | nil=>simp only [RelTs] at h;subst h;simp [RelTs]
  | cons c cs=>obtain⟨v,r,rfl,h1,h2⟩:=h;exact⟨v,r.take n,rfl,h1,ih h2⟩
theorem RelTs.drop{cs:List T}{vs:List Value}(h:RelTs w A cs vs):∀n,RelTs w A (cs.drop n) (vs.drop n):=by
 intro n
 induction n generalizing cs vs with
 | zero=>simpa using h
 | succ n ih=>
  cases cs with
  | nil=>simp only [RelTs] at h;subst h;simp [RelTs]
  | cons c cs=>obtain⟨v,r,rfl,h1,h2⟩:=h;exact ih h2
end
open Go
section
variable {P:Program} {w:World} {A:Nat->Prop}
def cN(P:Program)(t:TypeId)(vs:List Value):Value:=if al P t=true then .agg vs.toArray else vs.headD undef
theorem lF{t:TypeId}(ht:az P t=true)(xs:Array Value)(off:Nat)(h1:al P t=false->P.cellsOf t=1)(h2:off+P.cellsOf t<=xs.size)(w:World):
  (part t xs off).run P w= .ok (cN P t ((xs.toList.drop off).take (P.cellsOf t))) w:=by
 unfold part cN
 simp only [Sem.run_bind,jH ht,Result.andThen_ok]
 cases hb:al P t
 ·simp only [Bool.false_eq_true,if_false]
  rw [h1 hb] at h2⊢
  have hlt:off < xs.size:=by omega
  have:xs[off]? =some xs[off]:=Array.getElem?_eq_getElem hlt
  rw [this]
  have hl:off < xs.toList.length:=by simpa using hlt
  rw [List.drop_eq_getElem_cons hl]
  simp
 ·simp only [if_true,Sem.run_bind,cv ht,Result.andThen_ok,Sem.run_pure]
  congr 2
  apply Array.ext'
  simp [Array.toList_extract,List.extract_eq_take_drop]
theorem RelTs.part{xs:List T}{vs:List Value}(h:RelTs w A xs vs)(off n:Nat):RelTs w A ((xs.drop off).take n) ((vs.drop off).take n):=(h.drop off).take n
theorem ju{R:Type}{c:Option Bool}(hc:c=none\/c=some true):∀{ts:List TypeId} {xs ys:List T} {K:Bool->Option R} {r:R},bp P c ts xs ys K=some r->xs.length=ts.length/\ys.length=ts.length
 | [],[],[],_,_,_=>⟨rfl,rfl⟩
 | t::ts,x::xs,y::ys,K,r,h=>by
  simp only [bp] at h
  have:∃b,bp P c ts xs ys (fun r=>K (b && r))=some r:=by
   unfold eqC at h
   split at h
   ·replace h:=ah h hc;obtain⟨_,_,h⟩:=h
    replace h:=ah h hc;obtain⟨_,_,h⟩:=h;exact⟨_,h⟩
   ·replace h:=ah h hc;obtain⟨_,_,h⟩:=h
    replace h:=ah h hc;obtain⟨_,_,h⟩:=h;exact⟨_,h⟩
   ·replace h:=ah h hc;obtain⟨_,_,h⟩:=h
    replace h:=ah h hc;obtain⟨_,_,h⟩:=h;exact⟨_,h⟩
   ·simp at h
  obtain⟨b,hb⟩:=this
  obtain⟨h1,h2⟩:=ju hc hb
  simp [h1,h2]
 | [],[],_::_,_,_,h=>by simp [bp] at h
 | [],_::_,_,_,_,h=>by simp [bp] at h
 | _::_,[],_,_,_,h=>by simp [bp] at h
 | _::_,_::_,[],_,_,h=>by simp [bp] at h
theorem ip{n:Nat}{t:TypeId}{ts:List TypeId}(h:bH P n t=some ts):az P t=true:=by
 cases n with
 | zero=>simp [bH] at h
 | succ n=>
  simp only [bH] at h
  unfold az
  cases hu:P.underlying t with
  | none=>simp [hu] at h
  | some d=>rfl
theorem uY{n:Nat}{t:TypeId}{ts:List TypeId}(h:bH P n t=some ts)(hb:al P t=false):ts= [t]:=by
 cases n with
 | zero=>simp [bH] at h
 | succ n=>
  simp only [bH] at h
  unfold al at hb
  cases hu:P.underlying t with
  | none=>simp [hu] at h
  | some d=>cases d <;> simp_all
def qM(P:Program)(w:World)(A:Nat->Prop)(n:Nat):Prop:= ∀(t:TypeId) (ts:List TypeId),bH P n t=some ts->∀(d:Nat),n<=d->
 ∀(R:Type) (c:Option Bool),c=none\/c=some true->∀(xs ys:List T) (vx vy:List Value) (K:Bool->Option R) (r:R),RelTs w A xs vx->RelTs w A ys vy->bp P c ts xs ys K=some r->
  ∃b,K b=some r/\(Op.equalIn d t (cN P t vx) (cN P t vy)).run P w= .ok b w
theorem uq{n d:Nat}(ih:qM P w A n)(hd:n<=d){X Y:Array Value}{R:Type}{c:Option Bool}(hc:c=none\/c=some true):
  ∀(fs:List Field) (off:Nat) (ts:List TypeId),jo P (bH P n) fs off=some ts->∀(xs ys:List T) (K:Bool->Option R) (r:R),RelTs w A xs (X.toList.drop off)->RelTs w A ys (Y.toList.drop off)->
   bp P c ts xs ys K=some r->∃b,K b=some r/\(Op.eqFields d X Y fs).run P w= .ok b w
 | [],off,ts,h,xs,ys,K,r,hx,hy,hr=>by
  simp only [jo,Option.some.injEq] at h;subst h
  obtain⟨h1,h2⟩:=ju hc hr
  have:=List.length_eq_zero_iff.1 h1;subst this
  have:=List.length_eq_zero_iff.1 h2;subst this
  exact⟨true,by simpa [bp] using hr,by simp [Op.eqFields]⟩
 | f::fs,off,ts,h,xs,ys,K,r,hx,hy,hr=>by
  simp only [jo] at h
  by_cases hf:f.offset=off/\f.name≠ "_"
  ·rw [if_pos hf] at h
   cases hl:bH P n f.type with
   | none=>simp [hl] at h
   | some l=>
    simp only [hl,Option.bind_some] at h
    by_cases hs':P.cellsOf f.type=l.length/\0 < l.length
    ·rw [if_pos hs'] at h
     obtain⟨hs,hpos⟩:=hs'
     cases hq:jo P (bH P n) fs (off+l.length) with
     | none=>simp [hq] at h
     | some q=>
      simp only [hq,Option.bind_some,Option.some.injEq] at h;subst h
      obtain⟨lx,ly⟩:=ju hc hr
      simp only [List.length_append] at lx ly
      rw [qy] at hr
      obtain⟨b1,hb1,e1⟩:=ih f.type l hl d hd R c hc _ _ _ _ _ _ (hx.take l.length) (hy.take l.length) hr
      have hx2:=hx.drop l.length
      have hy2:=hy.drop l.length
      rw [List.drop_drop] at hx2 hy2
      obtain⟨b2,hb2,e2⟩:=uq ih hd hc fs (off+l.length) q hq _ _ _ _ hx2 hy2 hb1
      have sx:=hx.length
      have sy:=hy.length
      simp only [List.length_drop,Array.length_toList] at sx sy
      have one:al P f.type=false->P.cellsOf f.type=1:=fun hb=>by rw [hs,uY hl hb];rfl
      refine⟨b1 && b2,hb2, ?_⟩
      simp only [Op.eqFields,ne_eq,hf.2,not_false_eq_true,if_true,Sem.run_bind]
      rw [hf.1,lF (ip hl) X off one (by rw [hs];omega) w]
      simp only [Result.andThen_ok]
      rw [lF (ip hl) Y off one (by rw [hs];omega) w]
      simp only [Result.andThen_ok,hs,e1]
      cases b1
      ·simp
      ·simp [e2]
    ·rw [if_neg hs'] at h;simp at h
  ·rw [if_neg hf] at h;simp at h
theorem yz{n d:Nat}(ih:qM P w A n)(hd:n<=d){X Y:Array Value}{R:Type}{c:Option Bool}(hc:c=none\/c=some true){e:TypeId}{l:List TypeId}(hl:bH P n e=some l)(hs:P.cellsOf e=l.length):
  ∀(m k:Nat) (xs ys:List T) (K:Bool->Option R) (r:R),RelTs w A xs (X.toList.drop (k * P.cellsOf e))->RelTs w A ys (Y.toList.drop (k * P.cellsOf e))->
   bp P c (List.replicate m l).flatten xs ys K=some r->∃b,K b=some r/\(Op.eqItems d e (P.cellsOf e) X Y (List.range' k m)).run P w= .ok b w
 | 0,k,xs,ys,K,r,hx,hy,hr=>by
  obtain⟨h1,h2⟩:=ju hc hr
  have:=List.length_eq_zero_iff.1 h1;subst this
  have:=List.length_eq_zero_iff.1 h2;subst this
  exact⟨true,by simpa [bp] using hr,by simp [Op.eqItems]⟩
 | m+1,k,xs,ys,K,r,hx,hy,hr=>by
  simp only [List.replicate_succ,List.flatten_cons] at hr
  obtain⟨lx,ly⟩:=ju hc hr
  simp only [List.length_append] at lx ly
  rw [qy] at hr
  obtain⟨b1,hb1,e1⟩:=ih e l hl d hd R c hc _ _ _ _ _ _ (hx.take l.length) (hy.take l.length) hr
  have hx2:=hx.drop l.length
  have hy2:=hy.drop l.length
  have hk:k * P.cellsOf e+l.length= (k+1) * P.cellsOf e:=by rw [hs,Nat.succ_mul]
  rw [List.drop_drop,hk] at hx2 hy2
  obtain⟨b2,hb2,e2⟩:=yz ih hd hc hl hs m (k+1) _ _ _ _ hx2 hy2 hb1
  have sx:=hx.length
  have sy:=hy.length
  simp only [List.length_drop,Array.length_toList] at sx sy
  have one:al P e=false->P.cellsOf e=1:=fun hb=>by rw [hs,uY hl hb];rfl
  by_cases h0:l.length=0
  ·
   refine⟨b1 && b2,hb2, ?_⟩
   have hagg:al P e=true:=by
    cases hb:al P e
    ·have:=one hb;omega
    ·rfl
   have pz:∀(Z:Array Value) (w:World),(part e Z (k * P.cellsOf e)).run P w= .ok (cN P e []) w:=by
    intro Z w
    unfold part cN
    simp only [Sem.run_bind,jH (ip hl),Result.andThen_ok,hagg,if_true,cv (ip hl),Sem.run_pure,hs,h0]
    simp
   simp only [List.range'_succ,Op.eqItems,Sem.run_bind,pz,Result.andThen_ok]
   rw [h0] at e1
   simp only [List.take_zero] at e1
   rw [e1]
   cases b1
   ·simp
   ·simp [e2]
  ·refine⟨b1 && b2,hb2, ?_⟩
   simp only [List.range'_succ,Op.eqItems,Sem.run_bind]
   rw [lF (ip hl) X _ one (by rw [hs] at sx⊢;omega) w]
   simp only [Result.andThen_ok]
   rw [lF (ip hl) Y _ one (by rw [hs] at sy⊢;omega) w]
   simp only [Result.andThen_ok,hs]
   rw [hs] at e1 e2
   simp only [e1,Result.andThen_ok]
   cases b1
   ·simp
   ·simp [e2]
theorem pB:∀n,qM P w A n
 | 0=>by intro t ts h;simp [bH] at h
 | n+1=>by
  intro t ts h d hd R c hc xs ys vx vy K r hx hy hr
  obtain⟨d,rfl⟩:∃d',d=d'+1:=⟨d - 1,by omega⟩
  have ih:=pB n
  simp only [bH] at h
  have scalar:al P t=false->ts= [t]->∃b,K b=some r/\(Op.equalIn (d+1) t (cN P t vx) (cN P t vy)).run P w= .ok b w:=by
   intro hb hts;subst hts
   obtain⟨lx,ly⟩:=ju hc hr
   cases xs with
   | nil=>simp at lx
   | cons x xs=>cases ys with
    | nil=>simp at ly
    | cons y ys=>
     simp only [List.length_cons,List.length_nil,Nat.zero_add,Nat.add_eq_right,List.length_eq_zero_iff] at lx ly
     subst lx;subst ly
     obtain⟨v,q,rfl,h1,hq⟩:=hx
     obtain⟨u,p,rfl,h2,hp⟩:=hy
     simp only [bp,Bool.and_true] at hr
     simpa [cN,hb] using Dc (d:=d) hc h1 h2 hr
  cases hu:P.underlying t with
  | none=>simp [hu] at h
  | some ds=>
   cases ds <;> simp only [hu,reduceCtorEq,Option.some.injEq] at h
   case int=>exact scalar (by simp [al,hu]) h.symm
   case bool=>exact scalar (by simp [al,hu]) h.symm
   case string=>exact scalar (by simp [al,hu]) h.symm
   case struct fs=>
    split at h
    ·simp at h
    ·rename_i hst
     have hagg:al P t=true:=by simp [al,hu]
     have hfo:P.underlying t=some (.struct (P.fieldsOf t)):=by simp [Program.fieldsOf,hu]
     have hfs:P.fieldsOf t=fs:=by simp [Program.fieldsOf,hu]
     simp only [cN,hagg,if_true]
     rw [run_equalIn_struct w d t _ _ hfo (by simpa using hst),hfs]
     exact uq ih (by omega) hc fs.toList 0 ts h xs ys K r (by simpa using hx) (by simpa using hy) hr
   case array m e=>
    cases hl:bH P n e with
    | none=>simp [hl] at h
    | some l=>
     simp only [hl,Option.bind_some] at h
     split at h
     ·rename_i hs
      simp only [Option.some.injEq] at h;subst h
      have hagg:al P t=true:=by simp [al,hu]
      have hok:=ip hl
      unfold az at hok
      obtain⟨dd,hdd⟩:=Option.isSome_iff_exists.1 hok
      obtain⟨i,hi,_⟩:=oU hdd
      simp only [cN,hagg,if_true]
      rw [run_equalIn_array w d _ _ hu hi,List.range_eq_range']
      exact yz ih (by omega) hc hl hs m 0 xs ys K r (by simpa using hx) (by simpa using hy) hr
     ·simp at h
theorem uE{R:Type}{ρ:Id->Option Value}{t:TypeId}{c:Option Bool}{x y:AV}{K:Bool->Option R}{r:R}{vx vy:Value}(hc:c=none\/c=some true)
  (hx:RelV w A ρ x vx) (hy:RelV w A ρ y vy) (h:ij P c t x y K=some r) (ox oy:Operand):
  ∃b,K b=some r/\((eqGuard .eql t ox oy vx vy).run P w= .ok () w/\(binOp .eql t vx vy).run P w= .ok (.bool b) w)/\((eqGuard .neq t ox oy vx vy).run P w= .ok () w/\(binOp .neq t vx vy).run P w= .ok (.bool (!b)) w):=by
 unfold ij at h
 split at h
 ·rename_i x y
  simp only [RelV] at hx hy
  cases hst:qe P t
  ·simp only [hst,cond_false] at h
   have h':=h
   unfold eqC at h'
   split at h'
   ·rename_i k hu
    replace h':=ah h' hc;obtain⟨a,ha,h'⟩:=h'
    replace h':=ah h' hc;obtain⟨b,hb,h'⟩:=h'
    have:=T.int?_eq ha;subst this
    have:=T.int?_eq hb;subst this
    simp only [RelT] at hx hy;subst hx;subst hy
    exact⟨_,h',⟨by simp [eqGuard],by simp [binOp,Op.intCmp]⟩,⟨by simp [eqGuard],by simp [binOp,Op.intCmp,bne]⟩⟩
   ·rename_i hu
    replace h':=ah h' hc;obtain⟨a,ha,h'⟩:=h'
    replace h':=ah h' hc;obtain⟨b,hb,h'⟩:=h'
    have:=T.bool?_eq ha;subst this
    have:=T.bool?_eq hb;subst this
    simp only [RelT] at hx hy;subst hx;subst hy
    exact⟨_,h',⟨by simp [eqGuard],run_eql_bool w t a b hu⟩,⟨by simp [eqGuard],run_neq_bool w t a b hu⟩⟩
   ·rename_i hu
    simp [qe,hu] at hst
   ·simp at h'
  ·simp only [hst,cond_true] at h
   replace h:=ah h hc;obtain⟨a,ha,h⟩:=h
   replace h:=ah h hc;obtain⟨b,hb,h⟩:=h
   have:=T.str?_eq ha;subst this
   have:=T.str?_eq hb;subst this
   simp only [RelT] at hx hy;subst hx;subst hy
   exact⟨_,h,⟨by simp [eqGuard],by simp [binOp,Op.stringOp]⟩,⟨by simp [eqGuard],by simp [binOp,Op.stringOp]⟩⟩
 ·rename_i xs ys
  cases hg:(P.eqGuardType P.depth t || !al P t)
  ·simp only [hg,cond_false] at h
   simp only [Bool.or_eq_false_iff,Bool.not_eq_false'] at hg
   obtain⟨hg,hag⟩:=hg
   cases hxs:bx xs with
   | none=>simp [hxs] at h
   | some xs'=>
    cases hys:bx ys with
    | none=>simp [hxs,hys] at h
    | some ys'=>
     cases hts:bH P 8 t with
     | none=>simp [hxs,hys,hts] at h
     | some ts=>
      simp only [hxs,hys,hts,Option.bind_some] at h
      simp only [RelV] at hx hy
      obtain⟨wx,rfl,hx,_⟩:=hx
      obtain⟨wy,rfl,hy,_⟩:=hy
      have hagg:al P t=true:=hag
      obtain⟨b,hb,e⟩:=pB 8 t ts hts 10000 (by omega) R c hc xs' ys' wx wy K r (RelTs.of_allT hxs hx) (RelTs.of_allT hys hy) h
      simp only [cN,hagg,if_true] at e
      exact⟨b,hb,⟨run_eqGuard_agg w .eql t ox oy _ _ hg,by rw [run_eql_struct,e];rfl⟩,⟨run_eqGuard_agg w .neq t ox oy _ _ hg,by rw [run_neq_struct,e];rfl⟩⟩
  ·simp [hg] at h
 ·simp at h
end
open Go
section
variable {P:Program} {w w':World} {A A':Nat->Prop} {c:Ctx} {ρ:Id->Option Value} {O:Id->Option Nat} {s:St} {cc:Option Bool}
theorem b8(b o j:Nat):(⟨b,o,none⟩:Addr).add j= ⟨b,o+j,none⟩:=by
 unfold Addr.add;split
 ·rename_i h;subst h;rfl
 ·rfl
theorem RelAt.vals{blk:Nat}:∀{off:Nat} {cs:List T},RelAt w A blk off cs->∃vs,RelTs w A cs vs/\∀j v,vs[j]? =some v->w.cell? ⟨blk,off+j,none⟩=some v
 | _,[],_=>⟨[],rfl,by simp⟩
 | off,x::cs,h=>by
  simp only [RelAt] at h
  obtain⟨⟨v,hv,hr⟩,h2⟩:=h
  obtain⟨vs,h3,h4⟩:=RelAt.vals h2
  refine⟨v::vs,⟨v,vs,rfl,hr,h3⟩, ?_⟩
  intro j u hj
  cases j with
  | zero=>simp at hj;subst hj;exact hv
  | succ j=>
   have:=h4 j u (by simpa using hj)
   have e:off+1+j=off+ (j+1):=by omega
   rw [e] at this;exact this
theorem RelTs.one:∀{cs:List T} {vs:List Value},RelTs w A cs vs->∀u∈vs,u.oneCell'=true/\u.cells= #[u]
 | [],vs,h,u,hu=>by simp only [RelTs] at h;subst h;cases hu
 | x::cs,vs,⟨v,r,e,h1,h2⟩,u,hu=>by
  subst e
  rcases List.mem_cons.1 hu with rfl | hu
  ·exact h1.oneCell
  ·exact RelTs.one h2 u hu
theorem l7{R:Type}(hc:cc=none\/cc=some true):∀{n:Nat} {cs:List T} {K:List T->Option R} {r:R},fU cc n cs K=some r->∃l,l=cs.take n/\l.length=n/\K l=some r
 | 0,cs,K,r,h=>⟨[],by simp,rfl,h⟩
 | n+1,cs,K,r,h=>by
  simp only [fU] at h
  replace h:=ah h hc;obtain⟨x,hx,h⟩:=h
  obtain⟨l,h1,h2,h3⟩:=l7 hc h
  cases cs with
  | nil=>simp at hx
  | cons y cs=>
   simp only [List.head?_cons,Option.some.injEq] at hx;subst hx
   exact⟨y::l,by simp [h1],by simp [h2],h3⟩
theorem p7:∀{n:Nat} {cs l:List AV},fF n cs=some l->l=cs.take n/\l.length=n
 | 0,cs,l,h=>by simp only [fF,Option.some.injEq] at h;subst h;simp
 | n+1,[],l,h=>by simp [fF] at h
 | n+1,x::cs,l,h=>by
  simp only [fF] at h
  cases hq:fF n cs with
  | none=>simp [hq] at h
  | some q=>
   simp only [hq,Option.bind_some,Option.some.injEq] at h;subst h
   obtain⟨h1,h2⟩:=p7 hq
   exact⟨by simp [h1],by simp [h2]⟩
theorem qU{t:TypeId}(ht:az P t=true)(hb:al P t=true)(b off:Nat)(vs:List Value)(hl:vs.length=P.cellsOf t)(h:∀j v,vs[j]? =some v->w.cell? ⟨b,off+j,none⟩=some v):
  (loadVar t ⟨b,off,none⟩).run P w= .ok (.agg vs.toArray) w:=by
 unfold loadVar
 simp only [Sem.run_bind,jH ht,Result.andThen_ok,hb,if_true,cv ht,<-hl]
 rw [run_loadCells_list w ⟨b,off,none⟩ vs (fun j v hj=>by rw [b8];exact h j v hj)]
 rfl
theorem nB{t:TypeId}(ht:az P t=true)(hb:al P t=false)(b off:Nat)(v:Value)(h:w.cell? ⟨b,off,none⟩=some v):
  (loadVar t ⟨b,off,none⟩).run P w= .ok v w:=by
 unfold loadVar
 simp only [Sem.run_bind,jH ht,Result.andThen_ok,hb,Bool.false_eq_true,if_false]
 rw [run_load,h]
theorem gf{R:Type}{k:Ck}{x:T}{v:Value}{K:T->Option R}{r:R}(hc:cc=none\/cc=some true)(hr:RelT w A x v)(h:typK k cc x K=some r):
  ∃y,K y=some r/\RelT w A y v:=by
 unfold typK at h
 cases k with
 | i k=>
  simp only at h
  replace h:=ah h hc;obtain⟨n,hn,h⟩:=h
  rw [T.int?_eq hn] at hr;exact⟨_,h,hr⟩
 | b=>
  simp only at h
  replace h:=ah h hc;obtain⟨n,hn,h⟩:=h
  rw [T.bool?_eq hn] at hr;exact⟨_,h,hr⟩
 | s=>
  simp only at h
  replace h:=ah h hc;obtain⟨n,hn,h⟩:=h
  rw [T.str?_eq hn] at hr;exact⟨_,h,hr⟩
 | l sz=>
  simp only at h
  replace h:=ah h hc;obtain⟨p,hp,h⟩:=h
  refine⟨_,h, ?_⟩
  rcases T.lst?_eq hp with rfl | ⟨rfl,hp2⟩
  ·exact hr
  ·rw [hp2]
   simp only [RelT] at hr⊢
   rcases hr with⟨e1,rfl⟩ | ⟨e1,blk,off,sp,rfl⟩
   ·exact .inl ⟨e1,trivial,rfl⟩
   ·exact .inr ⟨e1,blk,off,sp,0,rfl,by simp, .inl trivial,trivial⟩
 | x=>exact⟨_,h,hr⟩
theorem lC{R:Type}(hc:cc=none\/cc=some true):∀{ks:List Ck} {xs:List T} {vs:List Value} {K:List T->Option R} {r:R},RelTs w A xs vs->typKs cc ks xs K=some r->
  ∃ys,K ys=some r/\RelTs w A ys vs
 | [],xs,vs,K,r,hr,h=>⟨_,h,hr⟩
 | _::_,[],vs,K,r,hr,h=>⟨_,h,hr⟩
 | k::ks,x::xs,vs,K,r,hr,h=>by
  obtain⟨v,q,rfl,h1,h2⟩:=hr
  simp only [typKs] at h
  obtain⟨y,h,g1⟩:=gf hc h1 h
  obtain⟨ys,h,g2⟩:=lC hc h2 h
  exact⟨_,h,⟨v,q,rfl,g1,g2⟩⟩
theorem DM{R:Type}{k:Ck}{x:T}{K:T->Option R}{r:R}(hc:cc=none\/cc=some true)(h:typK k cc x K=some r):
  ∃y,K y=some r/\∀(w:World) (A:Nat->Prop) (v:Value),RelT w A x v->RelT w A y v:=by
 have e:typK k cc x K= (typK k cc x some).bind K:=by rw [eW];rfl
 rw [e] at h
 obtain⟨y,hy,h⟩:=Option.bind_eq_some_iff.1 h
 refine⟨y,h,fun w A v hr=> ?_⟩
 obtain⟨z,hz,hr⟩:=gf hc hr hy
 simp only [Option.some.injEq] at hz;subst hz;exact hr
theorem Em{R:Type}{ks:List Ck}{xs:List T}{K:List T->Option R}{r:R}(hc:cc=none\/cc=some true)(h:typKs cc ks xs K=some r):
  ∃y,K y=some r/\∀(w:World) (A:Nat->Prop) (vs:List Value),RelTs w A xs vs->RelTs w A y vs:=by
 have e:typKs cc ks xs K= (typKs cc ks xs some).bind K:=by rw [i0];rfl
 rw [e] at h
 obtain⟨y,hy,h⟩:=Option.bind_eq_some_iff.1 h
 refine⟨y,h,fun w A v hr=> ?_⟩
 obtain⟨z,hz,hr⟩:=lC hc hr hy
 simp only [Option.some.injEq] at hz;subst hz;exact hr
theorem Ct{R:Type}{t:TypeId}{v:AV}{K:AV->Option R}{r:R}(hc:cc=none\/cc=some true)(h:typV P cc t v K=some r):
  ∃y,K y=some r/\∀(w:World) (A:Nat->Prop) (ρ:Id->Option Value) (u:Value),RelV w A ρ v u->RelV w A ρ y u:=by
 unfold typV at h
 split at h
 ·obtain⟨y,h,g⟩:=DM hc h
  exact⟨_,h,fun w A ρ u hr=>by simp only [RelV] at hr⊢;exact g w A u hr⟩
 ·rename_i vs
  split at h
  ·rename_i l hl
   obtain⟨y,h,g⟩:=Em hc h
   refine⟨_,h,fun w A ρ u hr=> ?_⟩
   simp only [RelV] at hr⊢
   obtain⟨ws,e,h1,h2⟩:=hr
   exact⟨ws,e,RelVs.of_ts (g w A ws (RelTs.of_allT hl h1)),h2⟩
  ·exact⟨_,h,fun w A ρ u hr=>hr⟩
 ·exact⟨_,h,fun w A ρ u hr=>hr⟩
theorem oh{R:Type}(hc:cc=none\/cc=some true):∀{ts:List TypeId} {vs:List AV} {K:List AV->Option R} {r:R},typVs P cc ts vs K=some r->
  ∃y,K y=some r/\∀(w:World) (A:Nat->Prop) (ρ:Id->Option Value) (us:List Value),RelVs w A ρ vs us->RelVs w A ρ y us
 | [],vs,K,r,h=>⟨_,h,fun w A ρ u hr=>hr⟩
 | _::_,[],K,r,h=>⟨_,h,fun w A ρ u hr=>hr⟩
 | t::ts,v::vs,K,r,h=>by
  simp only [typVs] at h
  obtain⟨y,h,g1⟩:=Ct hc h
  obtain⟨ys,h,g2⟩:=oh hc h
  refine⟨_,h,fun w A ρ us hr=> ?_⟩
  simp only [RelVs] at hr⊢
  obtain⟨u,q,e,h1,h2⟩:=hr
  exact⟨u,q,e,g1 w A ρ u h1,g2 w A ρ q h2⟩
theorem oq{R:Type}{t:TypeId}(ht:az P t=true){b off:Nat}{cs:List T}{K:AV->Option R}{r:R}(hc:cc=none\/cc=some true)(hr:RelAt w A b off cs)(h:dC P t cc cs K=some r):
  ∃av v,K av=some r/\(loadVar t ⟨b,off,none⟩).run P w= .ok v w/\RelV w A ρ av v:=by
 obtain⟨vs,h1,h2⟩:=hr.vals
 unfold dC at h
 cases hb:al P t
 ·simp only [hb,cond_false] at h
  replace h:=ah h hc;obtain⟨x,hx,h⟩:=h
  cases cs with
  | nil=>simp at hx
  | cons y cs=>
   simp only [List.head?_cons,Option.some.injEq] at hx;subst hx
   obtain⟨v,q,rfl,h3,_⟩:=h1
   obtain⟨z,h,h3⟩:=gf hc h3 h
   exact⟨_,v,h,nB ht hb b off v (by simpa using h2 0 v rfl),by simpa [RelV] using h3⟩
 ·simp only [hb,cond_true] at h
  obtain⟨l,hl,hn,h⟩:=l7 hc h
  have h3:=h1.take (P.cellsOf t)
  rw [<-hl] at h3
  have h4:=h3.length
  obtain⟨ys,h,h5⟩:=lC hc h3 h
  refine⟨_,_,h,qU ht hb b off _ (by rw [h4,hn]) (fun j v hj=>h2 j v ?_), ?_⟩
  ·rw [List.getElem?_take] at hj;split at hj
   ·exact hj
   ·cases hj
  ·simp only [RelV];exact⟨_,rfl,RelVs.of_ts h5,h3.one⟩
theorem BP{R:Type}{t:TypeId}(ht:az P t=true){b off:Nat}{cs:List AV}{vs:List Value}{K:AV->Option R}{r:R}(hr:RelVs w A ρ cs vs)(h1:∀u∈vs,u.oneCell'=true/\u.cells= #[u])
  (h2:∀j v,vs[j]? =some v->w.cell? ⟨b,off+j,none⟩=some v) (h:fk P t cs K=some r):
  ∃av v,K av=some r/\(loadVar t ⟨b,off,none⟩).run P w= .ok v w/\RelV w A ρ av v:=by
 unfold fk at h
 cases hb:al P t
 ·simp only [hb,cond_false] at h
  cases cs with
  | nil=>simp at h
  | cons y cs=>
   simp only [List.head?_cons,Option.bind_some] at h
   simp only [RelVs] at hr
   obtain⟨v,q,rfl,h3,_⟩:=hr
   exact⟨_,v,h,nB ht hb b off v (by simpa using h2 0 v rfl),h3⟩
 ·simp only [hb,cond_true] at h
  cases hq:fF (P.cellsOf t) cs with
  | none=>simp [hq] at h
  | some l=>
   simp only [hq,Option.bind_some] at h
   obtain⟨hl,hn⟩:=p7 hq
   have h3:=hr.take (P.cellsOf t)
   rw [<-hl] at h3
   have h4:=h3.length
   refine⟨_,_,h,qU ht hb b off _ (by rw [h4,hn]) (fun j v hj=>h2 j v ?_), ?_⟩
   ·rw [List.getElem?_take] at hj;split at hj
    ·exact hj
    ·cases hj
   ·simp only [RelV];exact⟨_,rfl,h3,fun u hu=>h1 u (List.mem_of_mem_take hu)⟩
theorem qH{i:Id}{cs:List AV}(hs:HS c w s.h ρ O)(hi:s.h i=some (.box cs)):∃b arr t,ρ i=some (.pointer (some ⟨b,0,none⟩))/\O i=some b/\w.heap[b]? =some (.cells arr t (0,0))/\
  RelVs w (AA c w O) ρ cs arr.toList/\(∀u∈arr.toList,u.oneCell'=true/\u.cells= #[u])/\∀j v,arr.toList[j]? =some v->w.cell? ⟨b,j,none⟩=some v:=by
 obtain⟨b,arr,t,h1,h2,h3,h4,h5⟩:=hs.blk i _ hi
 refine⟨b,arr,t,h1,h2,h3,h4,h5,fun j v hj=> ?_⟩
 simp only [World.cell?,h3]
 simpa using hj
theorem gY{i:Id}{fz b:Bool}{sz:Nat}{l:List (List T)}(hs:HS c w s.h ρ O)(hi:s.h i=some (.sl fz sz b l)):∃v,ρ i=some v/\SlAt w (AA c w O) sz b l v (fun blk=>if fz=true then AA c w O blk else O i=some blk):=by
 obtain⟨v,h1,h2,_⟩:=hs.blk i _ hi
 exact⟨v,h1,h2⟩
theorem RowsAt.get{i:Id}{blk sz col rsz:Nat}:∀{es:List Row} {base k:Nat} {e:Row},RowsAt w A ρ O i blk sz col rsz base es->es[k]? =some e->RowAt w A ρ O i blk sz col rsz (base+k * sz) e
 | [],_,_,_,_,h=>by simp at h
 | x::es,base,0,e,hr,h=>by
  simp only [List.getElem?_cons_zero,Option.some.injEq] at h;subst h
  simpa using hr.1
 | x::es,base,k+1,e,hr,h=>by
  have:=RowsAt.get hr.2 (k:=k) (by simpa using h)
  rw [show base+ (k+1) * sz=base+sz+k * sz by rw [Nat.succ_mul];omega];exact this
theorem RowsAt.own{i:Id}{blk sz col rsz n:Nat}{p:Bool×List (List T)}:∀{es:List Row} {base:Nat},RowsAt w A ρ O i blk sz col rsz base es->cf n es=some p->∃v,ρ (.g i n)=some v/\SlAt w A rsz p.1 p.2 v (fun b=>O (.g i n)=some b)
 | [],_,_,h=>by simp [cf] at h
 | e::es,base,hr,h=>by
  unfold cf at h
  split at h
  ·rename_i en
   obtain⟨_,_,_,v,_,h5,h7⟩:=hr.1
   rw [h] at h7
   rw [en] at h5 h7
   exact⟨v,h5,h7⟩
  ·exact RowsAt.own hr.2 h
theorem mF{i:Id}{b:Bool}{sz col rsz nx n:Nat}{es:List Row}{p:Bool×List (List T)}(hs:HS c w s.h ρ O)(hi:s.h i=some (.rows b sz col rsz nx es))(hf:cf n es=some p):
  ∃v,ρ (.g i n)=some v/\SlAt w (AA c w O) rsz p.1 p.2 v (fun b=>O (.g i n)=some b):=by
 obtain⟨a,cap,h1,h2,h3,h4,h5⟩:=hs.blk i _ hi
 rcases h5 with h5 | ⟨blk,off,arr,t,q1,q2,q3,q4,q5⟩
 ·have:es= []:=List.length_eq_zero_iff.1 (by omega)
  subst this;simp [cf] at hf
 ·exact q5.own hf
theorem qG{R:Type}{i:Id}{n:Nat}{K:Nat->Bool->List (List T)->Option R}{r:R}(hs:HS c w s.h ρ O)(hc:cc=none\/cc=some true)(h:dP s.h cc i n K=some r):
  ∃rsz b xs v,K rsz b xs=some r/\ρ (.g i n)=some v/\SlAt w (AA c w O) rsz b xs v (fun blk=>O (.g i n)=some blk):=by
 unfold dP at h
 split at h
 ·rename_i hi
  replace h:=ah h hc;obtain⟨p,hp,h⟩:=h
  obtain⟨v,h1,h2⟩:=mF hs hi hp
  exact⟨_,_,_,v,h,h1,h2⟩
 ·cases h
theorem RowAt.vals{i:Id}{blk sz col rsz base:Nat}{e:Row}(h:RowAt w A ρ O i blk sz col rsz base e):∃vs:List Value,vs.length=sz/\(∀j v,vs[j]? =some v->w.cell? ⟨blk,base+j,none⟩=some v)/\
  (∀j x v,j≠col->e.cs[j]? =some x->vs[j]? =some v->RelT w A x v)/\∃v,vs[col]? =some v/\ρ (.g i e.n)=some v:=by
 obtain⟨h1,h2,h3,v,h4,h5,h7⟩:=h
 have hex:∀j,j < sz->∃u,w.cell? ⟨blk,base+j,none⟩=some u:=by
  intro j hj
  by_cases e1:j=col
  ·subst e1;exact⟨v,h4⟩
  ·obtain⟨u,g,_⟩:=h3 j (e.cs[j]'(by omega)) e1 (List.getElem?_eq_getElem _)
   exact⟨u,g⟩
 have get:∀j u,((List.range sz).map fun j=>(w.cell? ⟨blk,base+j,none⟩).getD undef)[j]? =some u->w.cell? ⟨blk,base+j,none⟩=some u:=by
  intro j u hj
  rw [List.getElem?_map] at hj
  obtain⟨k,hk,hj⟩:=Option.map_eq_some_iff.1 hj
  obtain⟨hlt,hk⟩:=List.getElem?_eq_some_iff.1 hk
  rw [List.getElem_range] at hk;subst hk
  obtain⟨u',hu'⟩:=hex j (by simpa using hlt)
  rw [hu'] at hj⊢
  simpa using hj
 refine⟨_,by simp,get,fun j x u hj hx hu=> ?_,v, ?_,h5⟩
 ·obtain⟨u',g1,g2⟩:=h3 j x hj hx
  rw [get j u hu] at g1;cases g1;exact g2
 ·rw [List.getElem?_map,List.getElem?_range h2]
  simp [h4]
theorem RelVs.of_get:∀{as:List AV} {vs:List Value},as.length=vs.length->(∀(j:Nat) (a:AV) (v:Value),as[j]? =some a->vs[j]? =some v->RelV w A ρ a v)->RelVs w A ρ as vs
 | [],[],_,_=>by simp [RelVs]
 | [],_::_,h,_=>by simp at h
 | _::_,[],h,_=>by simp at h
 | a::as,v::vs,h,hr=>by
  simp only [RelVs]
  exact⟨v,vs,rfl,hr 0 a v rfl rfl,RelVs.of_get (by simpa using h) fun j a v h1 h2=>hr (j+1) a v (by simpa using h1) (by simpa using h2)⟩
theorem xD{R:Type}(hc:cc=none\/cc=some true):∀{ks:List Ck} {xs:List T} {vs:List Value} {col:Nat} {K:List T->Option R} {r:R},xs.length=vs.length->(∀(j:Nat) (x:T) (v:Value),j≠col->xs[j]? =some x->vs[j]? =some v->RelT w A x v)->
  (∀k,ks[col]? =some k->k= .x)->typKs cc ks xs K=some r->∃ys,K ys=some r/\ys.length=vs.length/\∀j x v,j≠col->ys[j]? =some x->vs[j]? =some v->RelT w A x v
 | [],xs,vs,col,K,r,hl,hr,hk,h=>⟨xs,h,hl,hr⟩
 | k::ks,[],vs,col,K,r,hl,hr,hk,h=>⟨[],h,hl,by simp⟩
 | k::ks,x::xs,[],col,K,r,hl,hr,hk,h=>by simp at hl
 | k::ks,x::xs,v::vs,0,K,r,hl,hr,hk,h=>by
  simp only [typKs] at h
  have:k= .x:=hk k rfl
  subst this
  simp only [typK] at h
  have hts:RelTs w A xs vs:=by
   have gen:∀(xs:List T) (vs:List Value),xs.length=vs.length->(∀(j:Nat) (x:T) (v:Value),xs[j]? =some x->vs[j]? =some v->RelT w A x v)->RelTs w A xs vs:=by
    intro xs
    induction xs with
    | nil=>intro vs hl _;cases vs;rfl;simp at hl
    | cons x xs ih=>
     intro vs hl hr
     cases vs with
     | nil=>simp at hl
     | cons v vs=>exact⟨v,vs,rfl,hr 0 x v rfl rfl,ih vs (by simpa using hl) fun j x v h1 h2=>hr (j+1) x v (by simpa using h1) (by simpa using h2)⟩
   exact gen xs vs (by simpa using hl) fun j x v h1 h2=>hr (j+1) x v (by omega) (by simpa using h1) (by simpa using h2)
  obtain⟨ys,h,g⟩:=lC hc hts h
  have gl:=g.length
  refine⟨_,h,by simp;omega,fun j y u hj hy hu=> ?_⟩
  cases j with
  | zero=>exact(hj rfl).elim
  | succ j=>
   simp only [List.getElem?_cons_succ] at hy hu
   have:∀(ys:List T) (vs:List Value) (j:Nat),RelTs w A ys vs->ys[j]? =some y->vs[j]? =some u->RelT w A y u:=by
    intro ys
    induction ys with
    | nil=>intro vs j _ h;simp at h
    | cons a ys ih=>
     rintro vs j ⟨v',q,rfl,g1,g2⟩ h1 h2
     cases j with
     | zero=>simp at h1 h2;subst h1;subst h2;exact g1
     | succ j=>exact ih q j g2 (by simpa using h1) (by simpa using h2)
   exact this ys vs j g hy hu
 | k::ks,x::xs,v::vs,col+1,K,r,hl,hr,hk,h=>by
  simp only [typKs] at h
  obtain⟨y,h,g1⟩:=gf hc (hr 0 x v (by omega) rfl rfl) h
  obtain⟨ys,h,g2,g3⟩:=xD hc (col:=col) (by simpa using hl) (fun j x v hj h1 h2=>hr (j+1) x v (by omega) (by simpa using h1) (by simpa using h2)) (fun k hk'=>hk k (by simpa using hk')) h
  refine⟨_,h,by simp [g2],fun j y' u hj hy hu=> ?_⟩
  cases j with
  | zero=>simp at hy hu;subst hy;subst hu;exact g1
  | succ j=>exact g3 j y' u (by omega) (by simpa using hy) (by simpa using hu)
theorem yK{R:Type}{t:TypeId}{i:Id}{blk sz col rsz base off:Nat}{e:Row}{h:Id->Option Blk}{K:AV->Option R}{r:R}(hs:HS c w h ρ O)(ht:az P t=true)(hc:cc=none\/cc=some true)(hr:RowAt w (AA c w O) ρ O i blk sz col rsz base e)(hk:iX P t cc i sz col off e K=some r):
  ∃av v,K av=some r/\(loadVar t ⟨blk,base+off,none⟩).run P w= .ok v w/\RelV w (AA c w O) ρ av v:=by
 unfold iX at hk
 cases hb:al P t
 ·simp only [hb,cond_false] at hk
  split at hk
  ·rename_i e1;subst e1
   obtain⟨_,_,_,v,h4,h5,_⟩:=hr
   exact⟨_,v,hk,nB ht hb _ _ v h4,by simp only [RelV];exact h5⟩
  ·rename_i hne
   replace hk:=ah hk hc;obtain⟨x,hx,hk⟩:=hk
   have hx':e.cs[off]? =some x:=by rw [List.head?_drop] at hx;exact hx
   obtain⟨u,g1,g2⟩:=hr.2.2.1 off x hne hx'
   obtain⟨y,hk,g3⟩:=gf hc g2 hk
   exact⟨_,u,hk,nB ht hb _ _ u g1,by simp only [RelV];exact g3⟩
 ·simp only [hb,cond_true] at hk
  split at hk
  ·rename_i hcond
   obtain⟨rfl,hsz⟩:=hcond
   obtain⟨l,hl,hn,hk⟩:=l7 hc hk
   have hlen:=hr.1
   have hl':l=e.cs:=by rw [hl,List.take_of_length_le (by omega)]
   subst hl'
   obtain⟨vs,v1,v2,v3,vc,v4,v5⟩:=hr.vals
   have hcol:=hr.2.1
   obtain⟨ys,hk,g1,g2⟩:=xD hc (ks:=(jU P t).set col .x) (col:=col) (by omega) v3 (fun k hk=>by
    rw [List.getElem?_set] at hk
    simp only [if_true] at hk
    split at hk
    ·simpa using hk.symm
    ·cases hk) hk
   refine⟨_, .agg vs.toArray,hk, ?_, ?_⟩
   ·rw [Nat.add_zero]
    exact qU ht hb _ _ vs (by omega) v2
   ·simp only [RelV]
    refine⟨vs,rfl,RelVs.of_get (by simp [g1]) fun j a v ha hv=> ?_,fun u hu=> ?_⟩
    ·rw [List.getElem?_set] at ha
     by_cases e1:col=j
     ·subst e1
      rw [if_pos rfl] at ha
      split at ha
      ·simp only [Option.some.injEq] at ha;subst ha
       rw [v4] at hv;cases hv
       simp only [RelV];exact v5
      ·cases ha
     ·rw [if_neg e1,List.getElem?_map] at ha
      obtain⟨x,hx,rfl⟩:=Option.map_eq_some_iff.1 ha
      simp only [RelV];exact g2 j x v (fun e=>e1 e.symm) hx hv
    ·obtain⟨j,hj⟩:=List.mem_iff_getElem?.1 hu
     by_cases e1:j=col
     ·subst e1;rw [v4] at hj;cases hj;exact hs.gone _ _ _ v5
     ·have hjl:j < ys.length:=by have:=(List.getElem?_eq_some_iff.1 hj).1;omega
      exact(g2 j _ u e1 (List.getElem?_eq_getElem hjl) hj).oneCell
  ·cases hk
theorem vK{R:Type}{t:TypeId}{a:AV}{va:Value}{K:AV->Option R}{r:R}(hs:HS c w s.h ρ O)(hx:RelV w (AA c w O) ρ a va)(hc:cc=none\/cc=some true)(h:cY P s cc t a K=some r):
  ∃av v,K av=some r/\(Instr.loadAt t va).run P w= .ok v w/\RelV w (AA c w O) ρ av v:=by
 unfold cY at h
 cases ht:az P t
 ·simp [ht] at h
 simp only [ht,cond_true] at h
 split at h
 ·rename_i i off
  split at h
  ·rename_i cs hi
   obtain⟨b,arr,t',h1,h2,h3,h4,h5,h6⟩:=qH hs hi
   simp only [RelV] at hx
   obtain⟨b',e1,rfl⟩:=hx
   rw [h1] at e1;simp only [Option.some.injEq,Value.pointer.injEq,Addr.mk.injEq] at e1
   obtain⟨rfl,_⟩:=e1
   obtain⟨av,v,g1,g2,g3⟩:=BP (b:=b) (off:=off) ht (h4.drop off) (fun u hu=>h5 u (List.mem_of_mem_drop hu)) (fun j v hj=>h6 _ v (by rw [List.getElem?_drop] at hj;exact hj)) h
   exact⟨av,v,g1,by simpa [Instr.loadAt,Instr.sureAddr] using g2,g3⟩
  ·rename_i l hi
   obtain⟨b,h1,h2,h3,h4⟩:=hs.blk i _ hi
   simp only [RelV] at hx
   obtain⟨b',e1,rfl⟩:=hx
   rw [h1] at e1;simp only [Option.some.injEq,Value.pointer.injEq,Addr.mk.injEq] at e1
   obtain⟨rfl,_⟩:=e1
   have h5:=h4.drop off
   rw [Nat.zero_add] at h5
   obtain⟨av,v,g1,g2,g3⟩:=oq ht hc h5 h
   exact⟨av,v,g1,by simpa [Instr.loadAt,Instr.sureAddr] using g2,g3⟩
  ·simp at h
 ·rename_i i sz k off
  split at h
  ·rename_i fz sz' bb xs hi
   split at h
   ·rename_i hsz;subst hsz
    replace h:=ah h hc;obtain⟨cs,hk,h⟩:=h
    obtain⟨v,h1,h2⟩:=gY hs hi
    simp only [RelV] at hx
    obtain⟨b,o,L,cap,e1,rfl⟩:=hx
    rw [h1] at e1;simp only [Option.some.injEq] at e1;subst e1
    obtain⟨a',cap',g1,g2,g3,g4,g5⟩:=h2
    simp only [Value.slice.injEq] at g1
    obtain⟨rfl,rfl,rfl⟩:=g1
    have hlt:k < xs.length:=(List.getElem?_eq_some_iff.1 hk).1
    rcases g5 with g5 | ⟨blk,off',arr,t',g6,g7,g8,g9,g10⟩
    ·omega
    ·simp only [Option.some.injEq,Addr.mk.injEq] at g6
     obtain⟨rfl,rfl,_⟩:=g6
     obtain⟨_,g11⟩:=g10.get hk
     obtain⟨av,v,q1,q2,q3⟩:=oq (ρ:=ρ) ht hc (g11.drop off) h
     exact⟨av,v,q1,by simpa [Instr.loadAt,Instr.sureAddr] using q2,q3⟩
   ·simp at h
  ·rename_i bb sz' col rsz nx es hi
   split at h
   ·rename_i hsz;subst hsz
    replace h:=ah h hc;obtain⟨e,hk,h⟩:=h
    obtain⟨a,cap,h1,h2,h3,h4,h5⟩:=hs.blk i _ hi
    simp only [RelV] at hx
    obtain⟨b,o,L,cap',e1,rfl⟩:=hx
    rw [h1] at e1;simp only [Option.some.injEq,Value.slice.injEq] at e1
    obtain⟨rfl,rfl,rfl⟩:=e1
    have hlt:k < es.length:=(List.getElem?_eq_some_iff.1 hk).1
    rcases h5 with h5 | ⟨blk,off',arr,t',g6,g7,g8,g9,g10⟩
    ·omega
    ·simp only [Option.some.injEq,Addr.mk.injEq] at g6
     obtain⟨rfl,rfl,_⟩:=g6
     obtain⟨av,v,q1,q2,q3⟩:=yK hs ht hc (g10.get hk) h
     exact⟨av,v,q1,by simpa [Instr.loadAt,Instr.sureAddr] using q2,q3⟩
   ·simp at h
  ·simp at h
 ·rename_i i sz n k off
  replace h:=qG hs hc h;obtain⟨rsz,bb,xs,v,h,hv,hsl⟩:=h
  split at h
  ·rename_i hsz;subst hsz
   replace h:=ah h hc;obtain⟨cs,hk,h⟩:=h
   simp only [RelV] at hx
   obtain⟨b,o,L,cap,e1,rfl⟩:=hx
   rw [hv] at e1;simp only [Option.some.injEq] at e1;subst e1
   obtain⟨a',cap',g1,g2,g3,g4,g5⟩:=hsl
   simp only [Value.slice.injEq] at g1
   obtain⟨rfl,rfl,rfl⟩:=g1
   have hlt:k < xs.length:=(List.getElem?_eq_some_iff.1 hk).1
   rcases g5 with g5 | ⟨blk,off',arr,t',g6,g7,g8,g9,g10⟩
   ·omega
   ·simp only [Option.some.injEq,Addr.mk.injEq] at g6
    obtain⟨rfl,rfl,_⟩:=g6
    obtain⟨_,g11⟩:=g10.get hk
    obtain⟨av,v,q1,q2,q3⟩:=oq (ρ:=ρ) ht hc (g11.drop off) h
    exact⟨av,v,q1,by simpa [Instr.loadAt,Instr.sureAddr] using q2,q3⟩
  ·simp at h
 ·rename_i x
  replace h:=ah h hc;obtain⟨cs,hk,h⟩:=h
  have:=T.ptr?_eq hk;subst this
  simp only [RelV,RelT] at hx
  obtain⟨blk,off,rfl,h1,h2⟩:=hx
  obtain⟨av,v,q1,q2,q3⟩:=oq (ρ:=ρ) ht hc h2 h
  exact⟨av,v,q1,by simpa [Instr.loadAt,Instr.sureAddr] using q2,q3⟩
 ·simp at h
theorem pT{t:TypeId}{f:Nat}{p:Nat×TypeId}(h:jY P t f=some p):∃fs x,P.underlying t=some (.struct fs)/\fs[f]? =some x/\p= (x.offset,x.type)/\az P p.2=true:=by
 unfold jY at h
 split at h
 ·rename_i fs hu
  split at h
  ·rename_i x hx
   cases ht:az P x.type
   ·simp [ht] at h
   ·simp only [ht,cond_true,Option.some.injEq] at h
    subst h
    exact⟨fs,x,hu,hx,rfl,ht⟩
  ·simp at h
 ·simp at h
theorem nf{t e:TypeId}(h:fE P t=some e):P.underlying t=some (.slice e)/\az P e=true:=by
 unfold fE at h
 split at h
 ·rename_i e' hu
  cases ht:az P e'
  ·simp [ht] at h
  ·simp only [ht,cond_true,Option.some.injEq] at h;subst h;exact⟨hu,ht⟩
 ·simp at h
theorem wO{t:TypeId}{p:Nat×TypeId}(h:mw P t=some p):P.underlying t=some (.array p.1 p.2)/\az P p.2=true:=by
 unfold mw at h
 split at h
 ·rename_i n e' hu
  cases ht:az P e'
  ·simp [ht] at h
  ·simp only [ht,cond_true,Option.some.injEq] at h;subst h;exact⟨hu,ht⟩
 ·simp at h
theorem zT{R:Type}{t:TypeId}{x:AV}{vx:Value}{f:Nat}{K:AV->Option R}{r:R}(hx:RelV w A ρ x vx)(hc:cc=none\/cc=some true)(h:iV P cc t x f K=some r):
  ∃av v,K av=some r/\(Instr.fieldAt t vx f).run P w= .ok v w/\RelV w A ρ av v:=by
 unfold iV at h
 split at h
 ·rename_i off u hf
  obtain⟨fs,y,h1,h2,h3,h4⟩:=pT hf
  simp only [Prod.mk.injEq] at h3
  obtain⟨rfl,rfl⟩:=h3
  split at h
  ·simp at h
  ·rename_i hz
   have run:∀b o,(Instr.fieldAt t (.pointer (some ⟨b,o,none⟩)) f).run P w= .ok (.pointer (some ⟨b,o+y.offset,none⟩)) w:=by
    intro b o
    simp [Instr.fieldAt,run_underlying h1,h2,Instr.sureAddr,fieldPlace,cv h4,hz,b8]
   split at h
   ·rename_i j o
    simp only [RelV] at hx
    obtain⟨b,e1,rfl⟩:=hx
    exact⟨_,_,h,run _ _,by simp only [RelV];exact⟨b,e1,rfl⟩⟩
   ·rename_i j sz k o
    simp only [RelV] at hx
    obtain⟨b,o',L,cap,e1,rfl⟩:=hx
    exact⟨_,_,h,run _ _,by simp only [RelV];exact⟨b,o',L,cap,e1,by rw [Nat.add_assoc]⟩⟩
   ·rename_i j sz n k o
    simp only [RelV] at hx
    obtain⟨b,o',L,cap,e1,rfl⟩:=hx
    exact⟨_,_,h,run _ _,by simp only [RelV];exact⟨b,o',L,cap,e1,by rw [Nat.add_assoc]⟩⟩
   ·rename_i y'
    replace h:=ah h hc;obtain⟨cs,hk,h⟩:=h
    have:=T.ptr?_eq hk;subst this
    simp only [RelV,RelT] at hx
    obtain⟨blk,o,rfl,g1,g2⟩:=hx
    refine⟨_,_,h,run _ _, ?_⟩
    simp only [RelV,RelT]
    refine⟨blk,_,rfl, ?_,g2.drop _⟩
    rcases g1 with rfl | g1
    ·exact .inl (by simp)
    ·exact .inr g1
   ·simp at h
 ·simp at h
theorem gK{R:Type}{i:Int}{n:Nat}{K:Option R}{r:R}(hc:cc=none\/cc=some true)(h:cW cc i n K=some r): 0<=i/\i < n/\K=some r:=by
 unfold cW at h
 replace h:=ah h hc;obtain⟨_,h1,h⟩:=h
 split at h1
 ·rename_i h2;exact⟨h2.1,h2.2,h⟩
 ·simp at h1
theorem Bn{R:Type}{t:TypeId}{x:AV}{vx:Value}{i:Int}{ki:IntKind}{K:AV->Option R}{r:R}(hs:HS c w s.h ρ O)(hx:RelV w (AA c w O) ρ x vx)(hc:cc=none\/cc=some true)(h:cJ P s cc t x i K=some r):
  ∃av v,K av=some r/\(Instr.indexAt t vx (.int ki i)).run P w= .ok v w/\RelV w (AA c w O) ρ av v:=by
 unfold cJ at h
 split at h
 ·rename_i e he
  obtain⟨hu,hok⟩:=nf he
  have run:∀b o len cap,0<=i->i < (len:Nat)->(Instr.indexAt t (.slice (some ⟨b,o,none⟩) len cap) (.int ki i)).run P w= .ok (.pointer (some ⟨b,o+i.toNat * P.cellsOf e,none⟩)) w:=by
   intro b o len cap h0 h1
   simp [Instr.indexAt,asIntOf,run_underlying hu,h0,h1,cv hok,b8]
  split at h
  ·rename_i j
   split at h
   ·rename_i fz sz bb xs hj
    split at h
    ·rename_i hsz;subst hsz
     obtain⟨h0,h1,h⟩:=gK hc h
     obtain⟨v,g1,g2⟩:=gY hs hj
     simp only [RelV] at hx
     rw [g1] at hx;simp only [Option.some.injEq] at hx;subst hx
     obtain⟨a',cap',q1,q2,q3,q4,q5⟩:=g2
     rcases q5 with q5 | ⟨blk,off',arr,t',q6,q7,q8,q9,q10⟩
     ·omega
     ·subst q6;subst q1
      exact⟨_,_,h,run _ _ _ _ h0 h1,by simp only [RelV];exact⟨blk,off',_,_,g1,by simp⟩⟩
    ·simp at h
   ·rename_i bb sz col rsz nx es hj
    split at h
    ·rename_i hsz;subst hsz
     obtain⟨h0,h1,h⟩:=gK hc h
     obtain⟨a,cap,g1,g2,g3,g4,g5⟩:=hs.blk j _ hj
     simp only [RelV] at hx
     rw [g1] at hx;simp only [Option.some.injEq] at hx;subst hx
     rcases g5 with g5 | ⟨blk,off',arr,t',q6,q7,q8,q9,q10⟩
     ·omega
     ·subst q6
      exact⟨_,_,h,run _ _ _ _ h0 h1,by simp only [RelV];exact⟨blk,off',_,_,g1,by simp⟩⟩
    ·simp at h
   ·simp at h
  ·rename_i j n
   replace h:=qG hs hc h;obtain⟨rsz,bb,xs,v,h,hv,hsl⟩:=h
   split at h
   ·rename_i hsz;subst hsz
    obtain⟨h0,h1,h⟩:=gK hc h
    simp only [RelV] at hx
    rw [hv] at hx;simp only [Option.some.injEq] at hx;subst hx
    obtain⟨a',cap',q1,q2,q3,q4,q5⟩:=hsl
    rcases q5 with q5 | ⟨blk,off',arr,t',q6,q7,q8,q9,q10⟩
    ·omega
    ·subst q6;subst q1
     exact⟨_,_,h,run _ _ _ _ h0 h1,by simp only [RelV];exact⟨blk,off',_,_,hv,by simp⟩⟩
   ·simp at h
  ·rename_i j sz off n
   split at h
   ·rename_i fz sz' bb xs hj
    split at h
    ·rename_i hsz
     obtain⟨rfl,rfl⟩:=hsz
     obtain⟨h0,h1,h⟩:=gK hc h
     obtain⟨v,g1,g2⟩:=gY hs hj
     simp only [RelV] at hx
     obtain⟨a,L,cap,a',e1,e2,e3,rfl,e4⟩:=hx
     rw [g1] at e1;simp only [Option.some.injEq] at e1;subst e1
     obtain⟨a'',cap'',q1,q2,q3,q4,q5⟩:=g2
     simp only [Value.slice.injEq] at q1
     obtain⟨rfl,rfl,rfl⟩:=q1
     rcases q5 with q5 | ⟨blk,off',arr,t',q6,q7,q8,q9,q10⟩
     ·omega
     ·subst q6
      have ea:a'=some ⟨blk,off'+off * P.cellsOf e,none⟩:=by
       rcases e4 with⟨rfl,rfl⟩ | ⟨rfl,_⟩ | ⟨b,o,e5,e6⟩
       ·simp
       ·omega
       ·simp only [Option.some.injEq,Addr.mk.injEq] at e5
        obtain⟨rfl,rfl,_⟩:=e5
        exact e6
      subst ea
      refine⟨_,_,h,run _ _ _ _ h0 h1, ?_⟩
      simp only [RelV]
      exact⟨blk,off',_,_,g1,by congr 3;rw [Nat.add_mul];omega⟩
    ·simp at h
   ·simp at h
  ·rename_i y
   replace h:=ah h hc;obtain⟨p,hp,h⟩:=h
   obtain⟨h0,h1,h⟩:=gK hc h
   replace h:=ah h hc;obtain⟨cs,hk,h⟩:=h
   rcases T.lst?_eq hp with rfl | ⟨rfl,hp2⟩
   ·simp only [RelV,RelT] at hx
    rcases hx with⟨_,e,_⟩ | ⟨_,blk,off,sp,cap,rfl,g1,g2,g3⟩
    ·rw [e] at h1;simp at h1;omega
    ·rcases g2 with g2 | ⟨rfl,g2⟩
     ·rw [g2] at hk;simp at hk
     refine⟨_,_,h,run _ _ _ _ h0 h1, ?_⟩
     obtain⟨g4,g5⟩:=g3.get hk
     simp only [RelV,RelT]
     exact⟨blk,_,rfl, .inr g2,g5⟩
   ·rw [hp2] at h1;simp at h1;omega
  ·simp at h
 ·split at h
  ·rename_i n e he
   obtain⟨hu,hok⟩:=wO he
   obtain⟨h0,h1,h⟩:=gK hc h
   have run:∀b o,(Instr.indexAt t (.pointer (some ⟨b,o,none⟩)) (.int ki i)).run P w= .ok (.pointer (some ⟨b,o+i.toNat * P.cellsOf e,none⟩)) w:=by
    intro b o
    simp [Instr.indexAt,asIntOf,run_underlying hu,Instr.sureAddr,h0,h1,cv hok,b8]
   split at h
   ·rename_i j off
    simp only [RelV] at hx
    obtain⟨b,e1,rfl⟩:=hx
    exact⟨_,_,h,run _ _,by simp only [RelV];exact⟨b,e1,rfl⟩⟩
   ·rename_i j sz k off
    simp only [RelV] at hx
    obtain⟨b,o',L,cap,e1,rfl⟩:=hx
    exact⟨_,_,h,run _ _,by simp only [RelV];exact⟨b,o',L,cap,e1,by rw [Nat.add_assoc]⟩⟩
   ·rename_i y
    replace h:=ah h hc;obtain⟨cs,hk,h⟩:=h
    have:=T.ptr?_eq hk;subst this
    simp only [RelV,RelT] at hx
    obtain⟨blk,o,rfl,g1,g2⟩:=hx
    refine⟨_,_,h,run _ _, ?_⟩
    simp only [RelV,RelT]
    refine⟨blk,_,rfl, ?_,g2.drop _⟩
    rcases g1 with rfl | g1
    ·exact .inl (by simp)
    ·exact .inr g1
   ·simp at h
  ·simp at h
end
open Go
section
variable {P:Program} {w w':World} {A A':Nat->Prop} {c:Ctx} {ρ:Id->Option Value} {O:Id->Option Nat} {s:St} {cc:Option Bool}
theorem CV{R:Type}{t ty:TypeId}{ts:Array TypeId}{x:AV}{vx:Value}{K:AV->Option R}{r:R}(hs:HS c w s.h ρ O)(hx:RelV w (AA c w O) ρ x vx)(hc:cc=none\/cc=some true)(h:eV P s cc t x K=some r)
  (hts:ts[0]? =some t):∃av v,K av=some r/\(Builtin.len_ ts ty #[vx]).run P w= .ok v w/\RelV w (AA c w O) ρ av v:=by
 unfold eV at h
 split at h
 ·rename_i hu
  split at h
  ·rename_i y
   replace h:=ah h hc;obtain⟨b,hb,h⟩:=h
   have:=T.str?_eq hb;subst this
   simp only [RelV,RelT] at hx;subst hx
   exact⟨_,_,h,by simp [Builtin.len_,hts,run_underlying hu];rfl,by simp only [RelV];exact bL _ _ _ _⟩
  ·simp at h
 ·rename_i n e hu
  exact⟨_,_,h,by simp [Builtin.len_,hts,run_underlying hu];rfl,by simp only [RelV];exact bL _ _ _ _⟩
 ·rename_i e hu
  have run:∀a n cap,(Builtin.len_ ts ty #[.slice a n cap]).run P w= .ok (goInt n) w:=by
   intro a n cap;simp [Builtin.len_,hts,run_underlying hu]
  split at h
  ·rename_i j
   split at h
   ·rename_i fz sz bb xs hj
    obtain⟨v,g1,a',cap',q1,q2,q3,q4,q5⟩:=gY hs hj
    simp only [RelV] at hx
    rw [g1] at hx;simp only [Option.some.injEq] at hx;subst hx;subst q1
    exact⟨_,_,h,run _ _ _,by simp only [RelV];exact bL _ _ _ _⟩
   ·rename_i bb sz col rsz nx es hj
    obtain⟨a,cap,g1,_⟩:=hs.blk j _ hj
    simp only [RelV] at hx
    rw [g1] at hx;simp only [Option.some.injEq] at hx;subst hx
    exact⟨_,_,h,run _ _ _,by simp only [RelV];exact bL _ _ _ _⟩
   ·simp at h
  ·rename_i j n
   replace h:=qG hs hc h;obtain⟨rsz,bb,xs,v,h,hv,a',cap',q1,_⟩:=h
   simp only [RelV] at hx
   rw [hv] at hx;simp only [Option.some.injEq] at hx;subst hx;subst q1
   exact⟨_,_,h,run _ _ _,by simp only [RelV];exact bL _ _ _ _⟩
  ·rename_i j sz off n
   simp only [RelV] at hx
   obtain⟨a,L,cap,a',e1,e2,e3,rfl,e4⟩:=hx
   exact⟨_,_,h,run _ _ _,by simp only [RelV];exact bL _ _ _ _⟩
  ·rename_i y
   replace h:=ah h hc;obtain⟨p,hp,h⟩:=h
   rcases T.lst?_eq hp with rfl | ⟨rfl,hp2⟩
   ·simp only [RelV,RelT] at hx
    rcases hx with⟨_,e,rfl⟩ | ⟨_,blk,off,sp,cap,rfl,g1,g2,g3⟩
    ·refine⟨_,_,h,run _ _ _, ?_⟩
     simp only [RelV,e];exact bL _ _ _ _
    ·exact⟨_,_,h,run _ _ _,by simp only [RelV];exact bL _ _ _ _⟩
   ·simp only [RelV,RelT] at hx
    rw [hp2] at h
    rcases hx with⟨_,rfl⟩ | ⟨_,blk,off,sp,rfl⟩ <;> exact⟨_,_,h,run _ _ _,by simp only [RelV];exact bL _ _ _ _⟩
  ·simp at h
 ·simp at h
theorem re{x:T}{n:Int}(h:boundAV.anyInt x=some n):∃k,x= .int k n:=by
 cases x <;> simp_all [boundAV.anyInt]
def IsB(b:Option Int)(v:Option Value):Prop:=match b,v with
 | none,none=>True
 | some n,some (.int _ m)=>m=n
 | _,_=>False
theorem pf{R:Type}{a:Act}{g:Option Gs}{o:Option Operand}{K:Option Int->Option R}{r:R}(ht:SS w A ρ s.t a.tmps)(hr:Runs a.tmps g)(hc:cc=none\/cc=some true)(h:boundAV s cc g o K=some r):
  ∃b,K b=some r/\IsB b (o.map a.eval):=by
 unfold boundAV at h
 split at h
 ·exact⟨none,h,trivial⟩
 ·rename_i o
  cases hx:(s.get g o).t? with
  | none=>simp [hx] at h
  | some x=>
   simp only [hx,Option.bind_some] at h
   replace h:=ah h hc;obtain⟨n,hn,h⟩:=h
   obtain⟨k,rfl⟩:=re hn
   have:=SS.get (h:=s.h) ht hr o
   rw [show(⟨s.t,s.h⟩:St)=s from rfl,AV.t?_eq hx] at this
   simp only [RelV,RelT] at this
   exact⟨some n,h,by simp [IsB,this]⟩
theorem m8{lo hi n:Int}(h:inB lo hi n=some ()): 0<=lo/\lo<=hi/\hi<=n:=by
 unfold inB at h;split at h
 ·assumption
 ·simp at h
theorem md{v:Option Value}(h:IsB none v):v=none:=by cases v <;> simp_all [IsB]
theorem jP{n:Int}{v:Option Value}(h:IsB (some n) v):∃k,v=some (.int k n):=by
 cases v with
 | none=>simp [IsB] at h
 | some v=>cases v <;> simp_all [IsB]
theorem jm(k:IntKind)(n:Int)(y:Nat)(code:BoundsCode)(h0: 0<=n)(h1:n<=y):(Instr.sliceBound (.int k n) y code).run P w= .ok n.toNat w:=run_sliceBound w k n y code h0 h1
theorem sW(isS:Bool){lo hi:Option Int}{vlo vhi:Option Value}{len cap:Nat}(hl:IsB lo vlo)(hh:IsB hi vhi)(h1: 0<=lo.getD 0)(h2:lo.getD 0<=hi.getD len)(h3:hi.getD len<=cap):
  (Instr.sliceBounds isS len cap vlo vhi none).run P w= .ok ((lo.getD 0).toNat,(hi.getD len).toNat,cap) w:=by
 cases hi with
 | none=>
  have:=md hh;subst this
  simp only [Option.getD_none] at h2 h3⊢
  cases lo with
  | none=>have:=md hl;subst this;simp [Instr.sliceBounds]
  | some n=>
   obtain⟨k,rfl⟩:=jP hl
   simp only [Option.getD_some] at h1 h2⊢
   have e:=jm (P:=P) (w:=w) k n len .sliceB h1 h2
   simp [Instr.sliceBounds,e]
 | some m=>
  obtain⟨k',rfl⟩:=jP hh
  simp only [Option.getD_some] at h2 h3⊢
  have e':∀code,(Instr.sliceBound (.int k' m) cap code).run P w= .ok m.toNat w:=fun code=>jm k' m cap code (by omega) h3
  cases lo with
  | none=>have:=md hl;subst this;simp [Instr.sliceBounds,e']
  | some n=>
   obtain⟨k,rfl⟩:=jP hl
   simp only [Option.getD_some] at h1 h2⊢
   have e:=jm (P:=P) (w:=w) k n m.toNat .sliceB h1 (by omega)
   simp [Instr.sliceBounds,e,e']
theorem AS{R:Type}{t:TypeId}{x:AV}{vx:Value}{lo hi mx:Option Int}{vlo vhi vmx:Option Value}{K:AV->Option R}{r:R}(hs:HS c w s.h ρ O)(hx:RelV w (AA c w O) ρ x vx)(hc:cc=none\/cc=some true)
  (hl:IsB lo vlo) (hh:IsB hi vhi) (hm:IsB mx vmx) (h:fq P s cc t x lo hi mx K=some r):
  ∃av v,K av=some r/\(Instr.sliceAt t vx vlo vhi vmx).run P w= .ok v w/\RelV w (AA c w O) ρ av v:=by
 unfold fq at h
 split at h
 ·rename_i hu
  split at h
  ·rename_i y
   replace h:=ah h hc;obtain⟨b,hb,h⟩:=h
   have:=T.str?_eq hb;subst this
   simp only [RelV,RelT] at hx;subst hx
   replace h:=ah h hc;obtain⟨_,hb,h⟩:=h
   obtain⟨h1,h2,h3⟩:=m8 hb
   have hvm:vmx=none:=by cases vmx with | none=>rfl | some v=>simp [IsB] at hm
   subst hvm
   refine⟨_,_,h, ?_,by simp only [RelV];exact ei _ _ _⟩
   have:=sW (P:=P) (w:=w) false (len:=b.size) (cap:=b.size) hl hh h1 h2 h3
   simp [Instr.sliceAt,Instr.slice,run_underlying hu,this]
  ·simp at h
 ·rename_i e hu
  split at h
  ·have hvm:vmx=none:=by cases vmx with | none=>rfl | some v=>simp [IsB] at hm
   subst hvm
   have run:az P e=true->∀(a:Option Addr) (len cap:Nat),0<=lo.getD 0->lo.getD 0<=hi.getD len->hi.getD len<=cap->
     (Instr.sliceAt t (.slice a len cap) vlo vhi none).run P w= .ok (.slice (if cap= (lo.getD 0).toNat then a else a.map (·.add ((lo.getD 0).toNat * P.cellsOf e))) ((hi.getD len).toNat - (lo.getD 0).toNat) (cap - (lo.getD 0).toNat)) w:=by
    intro hok a len cap h1 h2 h3
    have:=sW (P:=P) (w:=w) true hl hh h1 h2 h3
    simp [Instr.sliceAt,Instr.slice,run_underlying hu,this,cv hok]
   split at h
   ·rename_i j
    split at h
    ·rename_i fz sz bb xs hj
     split at h
     ·rename_i hsz
      obtain⟨hsz,hok⟩:=hsz
      subst hsz
      replace h:=ah h hc;obtain⟨_,hb,h⟩:=h
      obtain⟨h1,h2,h3⟩:=m8 hb
      obtain⟨v,g1,a',cap',q1,q2,q3,q4,q5⟩:=gY hs hj
      simp only [RelV] at hx
      rw [g1] at hx;simp only [Option.some.injEq] at hx;subst hx;subst q1
      refine⟨_,_,h,run hok _ _ _ h1 h2 (by omega), ?_⟩
      simp only [RelV]
      refine⟨a',_,cap',_,g1,by omega,q2,rfl, ?_⟩
      by_cases e0:(lo.getD 0).toNat=0
      ·left;refine⟨e0, ?_⟩
       rw [e0];split
       ·rfl
       ·cases a' <;> simp [Addr.add]
      ·by_cases e1:cap'= (lo.getD 0).toNat
       ·right;left;rw [if_pos e1];exact⟨e1.symm,Iff.rfl,q4⟩
       ·right;right;rw [if_neg e1]
        rcases q5 with q5 | ⟨blk,off',arr,t',q6,_⟩
        ·omega
        ·subst q6;exact⟨blk,off',rfl,by simp [b8]⟩
     ·simp at h
    ·simp at h
   ·rename_i j sz off n
    split at h
    ·rename_i fz sz' bb xs hj
     split at h
     ·rename_i hsz
      obtain⟨rfl,rfl,hok⟩:=hsz
      replace h:=ah h hc;obtain⟨_,hb,h⟩:=h
      obtain⟨h1,h2,h3⟩:=m8 hb
      simp only [RelV] at hx
      obtain⟨a,L,cap,a',e1,e2,e3,rfl,e4⟩:=hx
      obtain⟨v,g1,a'',cap'',q1,q2,q3,q4,q5⟩:=gY hs hj
      rw [g1] at e1;simp only [Option.some.injEq] at e1;subst e1
      simp only [Value.slice.injEq] at q1
      obtain⟨rfl,rfl,rfl⟩:=q1
      refine⟨_,_,h,run hok _ _ _ h1 h2 (by omega), ?_⟩
      simp only [RelV]
      refine⟨a,_,cap,_,g1,by omega,e3,by congr 1;omega, ?_⟩
      by_cases e0:(lo.getD 0).toNat=0
      ·have:(if cap - off= (lo.getD 0).toNat then a' else a'.map (·.add ((lo.getD 0).toNat * P.cellsOf e)))=a':=by
        rw [e0];split
        ·rfl
        ·cases a' <;> simp [Addr.add]
       rw [this,e0,Nat.add_zero]
       exact e4
      ·by_cases e5:cap - off= (lo.getD 0).toNat
       ·right;left;rw [if_pos e5]
        refine⟨by omega, ?_, ?_⟩
        ·rcases e4 with⟨_,rfl⟩ | ⟨_,e6,_⟩ | ⟨b,o,rfl,rfl⟩
         ·exact Iff.rfl
         ·exact e6
         ·simp
        ·trivial
       ·right;right;rw [if_neg e5]
        rcases q5 with q5 | ⟨blk,off',arr,t',q6,_⟩
        ·omega
        ·subst q6
         rcases e4 with⟨e7,rfl⟩ | ⟨e7,_⟩ | ⟨b,o,e6,rfl⟩
         ·subst e7;exact⟨blk,off',rfl,by simp [b8]⟩
         ·omega
         ·exact⟨b,o,e6,by simp [b8,Nat.add_mul,Nat.add_assoc]⟩
     ·simp at h
    ·simp at h
   ·rename_i y
    split at h
    ·rename_i hok
     replace h:=ah h hc;obtain⟨p,hp,h⟩:=h
     replace h:=ah h hc;obtain⟨_,hb,h⟩:=h
     obtain⟨h1,h2,h3⟩:=m8 hb
     rcases T.lst?_eq hp with rfl | ⟨rfl,hp2⟩
     ·simp only [RelV,RelT] at hx
      rcases hx with⟨e1,e,rfl⟩ | ⟨e1,blk,off,sp,cap,rfl,g1,g2,g3⟩
      ·rw [e] at h2 h3 h
       refine⟨_,_,h,run hok _ _ _ (by simpa using h1) (by simpa using h2) (by simpa using h3), ?_⟩
       simp only [List.length_nil,Int.natCast_zero] at h2 h3
       have e5:(lo.getD 0).toNat=0:=by omega
       have e6:(hi.getD ((0:Nat):Int)).toNat=0:=by
        have:hi.getD ((0:Nat):Int)=hi.getD 0:=by simp
        rw [this];omega
       simp only [RelV,RelT,sub,List.drop_nil,List.take_nil]
       left;refine⟨e1,trivial, ?_⟩
       rw [e6];simp
      ·refine⟨_,_,h,run hok _ _ _ h1 h2 (by omega), ?_⟩
       simp only [RelV,RelT]
       right;refine⟨e1, ?_⟩
       by_cases e5:cap= (lo.getD 0).toNat
       ·rw [if_pos e5]
        have e6:(hi.getD ((p.2.length:Nat):Int)).toNat - (lo.getD 0).toNat=0:=by omega
        refine⟨blk,off,sp,cap - (lo.getD 0).toNat, ?_, ?_, .inl ?_, ?_⟩
        ·simp only [sub,e6,List.take_zero,List.length_nil]
        ·simp only [sub,e6,List.take_zero,List.length_nil];omega
        ·simp [sub,e6]
        ·simp [sub,e6,RelEls]
       ·rw [if_neg e5]
        have hlen:(sub (lo.getD 0) (hi.getD ((p.2.length:Nat):Int)) p.2).length= (hi.getD ((p.2.length:Nat):Int)).toNat - (lo.getD 0).toNat:=by
         simp only [sub,List.length_take,List.length_drop];omega
        rcases g2 with g2 | ⟨g2,g4⟩
        ·have e7:(lo.getD 0).toNat=0:=by rw [g2] at h3;simp only [List.length_nil] at h3;rw [g2] at h2;simp only [List.length_nil] at h2;omega
         refine⟨blk,off,sp,cap - (lo.getD 0).toNat, ?_, ?_, .inl (by simp [sub,g2]),by simp [sub,g2,RelEls]⟩
         ·rw [hlen,e7];simp [Addr.add]
         ·rw [hlen];omega
        ·subst g2
         refine⟨blk,off+ (lo.getD 0).toNat * P.cellsOf e,none,cap - (lo.getD 0).toNat, ?_, ?_, .inr ⟨rfl,g4⟩, ?_⟩
         ·rw [hlen];simp only [Option.map_some,b8]
         ·rw [hlen];omega
         ·exact(g3.drop _).take _
     ·rw [hp2] at h2 h3 h
      simp only [RelV,RelT] at hx
      simp only [List.length_nil,Int.natCast_zero] at h2 h3
      have e5:(lo.getD 0).toNat=0:=by omega
      have e6:(hi.getD ((0:Nat):Int)).toNat=0:=by
       have:hi.getD ((0:Nat):Int)=hi.getD 0:=by simp
       rw [this];omega
      rcases hx with⟨e1,rfl⟩ | ⟨e1,blk,off,sp,rfl⟩
      ·refine⟨_,_,h,run hok _ _ _ (by simpa using h1) (by simpa using h2) (by simpa using h3), ?_⟩
       simp only [RelV,RelT,sub,List.drop_nil,List.take_nil]
       left;refine⟨e1,trivial, ?_⟩
       rw [e6];simp
      ·refine⟨_,_,h,run hok _ _ _ (by simpa using h1) (by simpa using h2) (by simpa using h3), ?_⟩
       simp only [RelV,RelT,sub,List.drop_nil,List.take_nil,RelEls]
       right;refine⟨e1,blk,off,sp,0, ?_,by simp, .inl trivial,trivial⟩
       rw [e5,e6];simp
    ·simp at h
   ·simp at h
  ·rename_i m
   obtain⟨km,rfl⟩:=jP hm
   have run:az P e=true->lo.getD 0=0->hi.getD 1=0->m=0->∀(a:Option Addr) (len cap:Nat),
     (Instr.sliceAt t (.slice a len cap) vlo vhi (some (.int km m))).run P w= .ok (.slice a 0 0) w:=by
    intro hok h1 h2 h3 a len cap
    cases hi with
    | none=>simp at h2
    | some hn=>
     obtain⟨kh,rfl⟩:=jP hh
     simp only [Option.getD_some] at h2;subst h2;subst h3
     have e1:∀code,(Instr.sliceBound (.int km 0) cap code).run P w= .ok 0 w:=fun code=>jm km 0 cap code (by omega) (by omega)
     have e2:∀code,(Instr.sliceBound (.int kh 0) 0 code).run P w= .ok 0 w:=fun code=>jm kh 0 0 code (by omega) (by omega)
     cases lo with
     | none=>
      have:=md hl;subst this
      simp [Instr.sliceAt,Instr.slice,run_underlying hu,Instr.sliceBounds,e1,e2,cv hok]
     | some ln=>
      obtain⟨kl,rfl⟩:=jP hl
      simp only [Option.getD_some] at h1;subst h1
      have e3:∀code,(Instr.sliceBound (.int kl 0) 0 code).run P w= .ok 0 w:=fun code=>jm kl 0 0 code (by omega) (by omega)
      simp [Instr.sliceAt,Instr.slice,run_underlying hu,Instr.sliceBounds,e1,e2,e3,cv hok]
   have zs:∀{a b d:Int} {u:Unit},mN a b d=some u->a=0/\b=0/\d=0:=by
    intro a b d u hz;unfold mN at hz;split at hz
    ·assumption
    ·simp at hz
   split at h
   ·rename_i y
    split at h
    ·rename_i hok
     replace h:=ah h hc;obtain⟨p,hp,h⟩:=h
     replace h:=ah h hc;obtain⟨_,hz,h⟩:=h
     obtain⟨z1,z2,z3⟩:=zs hz
     rcases T.lst?_eq hp with rfl | ⟨rfl,hp2⟩
     ·simp only [RelV,RelT] at hx
      rcases hx with⟨e1,e,rfl⟩ | ⟨e1,blk,off,sp,cap,rfl,g1,g2,g3⟩
      ·exact⟨_,_,h,run hok z1 z2 z3 _ _ _,by simp only [RelV,RelT];exact .inl ⟨e1,trivial⟩⟩
      ·exact⟨_,_,h,run hok z1 z2 z3 _ _ _,by simp only [RelV,RelT];exact .inr ⟨e1,blk,off,sp,rfl⟩⟩
     ·simp only [RelV,RelT] at hx
      rcases hx with⟨e1,rfl⟩ | ⟨e1,blk,off,sp,rfl⟩
      ·exact⟨_,_,h,run hok z1 z2 z3 _ _ _,by simp only [RelV,RelT];exact .inl ⟨e1,trivial⟩⟩
      ·exact⟨_,_,h,run hok z1 z2 z3 _ _ _,by simp only [RelV,RelT];exact .inr ⟨e1,blk,off,sp,rfl⟩⟩
    ·simp at h
   ·rename_i j
    split at h
    ·rename_i fz sz bb xs hj
     split at h
     ·simp at h
     ·rename_i hok
      simp only [Bool.not_eq_false] at hok
      replace h:=ah h hc;obtain⟨_,hz,h⟩:=h
      obtain⟨z1,z2,z3⟩:=zs hz
      obtain⟨v,g1,a',cap',q1,q2,q3,q4,q5⟩:=gY hs hj
      simp only [RelV] at hx
      rw [g1] at hx;simp only [Option.some.injEq] at hx;subst hx;subst q1
      refine⟨_,_,h,run hok z1 z2 z3 _ _ _, ?_⟩
      simp only [RelV,RelT]
      cases bb
      ·right
       cases a' with
       | none=>simp at q3
       | some x=>
        obtain⟨b,o,sp⟩:=x
        exact⟨rfl,b,o,sp,rfl⟩
      ·left;exact⟨rfl,by rw [q3.2 rfl]⟩
    ·simp at h
   ·simp at h
 ·simp at h
end
open Go
section
variable {P:Program} {w w':World} {A A':Nat->Prop} {c:Ctx} {ρ:Id->Option Value} {O:Id->Option Nat} {s:St} {cc:Option Bool} {h:Id->Option Blk}
def jc(v:AV)(i:Id):Prop:=v= .own i\/(∃sz off n,v= .part i sz off n)\/∃off,v= .ref i off
theorem eY{i:Id}{fz b:Bool}{sz:Nat}{l:List (List T)}(hs:HS c w h ρ O)(hi:h i=some (.sl fz sz b l)):∃v,ρ i=some v/\SlAt w (AA c w O) sz b l v (fun blk=>if fz=true then AA c w O blk else O i=some blk):=by
 obtain⟨v,h1,h2,_⟩:=hs.blk i _ hi
 exact⟨v,h1,h2⟩
theorem eT{v:AV}{x:T}{u:Value}(hs:HS c w h ρ O)(hv:RelV w (AA c w O) ρ v u)(hsn:aS h v=some x)
  (hA:∀b,AA c w O b->A' b) (hO:∀i blk,jc v i->O i=some blk->A' blk):RelT w A' x u:=by
 have mono:∀(t:T) (v:Value),RelT w (AA c w O) t v->RelT w A' t v:=fun t v hr=>RelT.mono (fun b hb=>⟨hA b hb,rfl⟩) t v hr
 cases v <;> simp only [aS,reduceCtorEq,Option.some.injEq] at hsn
 case t y=>subst hsn;simp only [RelV] at hv;exact mono _ _ hv
 case own i=>
  split at hsn
  ·rename_i fz sz b xs hi
   simp only [Option.some.injEq] at hsn;subst hsn
   obtain⟨v',g1,a,cap,q1,q2,q3,q4,q5⟩:=eY hs hi
   simp only [RelV] at hv
   rw [g1] at hv;simp only [Option.some.injEq] at hv;subst hv;subst q1
   simp only [RelT]
   cases b with
   | true=>
    left
    have:a=none:=q3.2 rfl
    subst this
    rcases q5 with q5 | ⟨blk,off,arr,t,q6,_⟩
    ·have:xs= []:=List.length_eq_zero_iff.1 (by omega)
     subst this;subst q5;exact⟨rfl,rfl,rfl⟩
    ·cases q6
   | false=>
    right;refine⟨rfl, ?_⟩
    rcases q5 with q5 | ⟨blk,off,arr,t,q6,q7,q8,q9,q10⟩
    ·have:xs= []:=List.length_eq_zero_iff.1 (by omega)
     subst this
     cases a with
     | none=>simp at q3
     | some y=>
      obtain⟨bk,o,sp⟩:=y
      exact⟨bk,o,sp,cap,rfl,q2, .inl rfl,by simp [RelEls]⟩
    ·subst q6
     refine⟨blk,off,_,cap,rfl,q2, .inr ⟨rfl, ?_⟩,RelEls.mono' (fun b hb=>⟨hA b hb,rfl⟩) blk sz rfl off xs q10⟩
     cases fz
     ·exact hO i blk (.inl rfl) (by simpa using q7)
     ·exact hA _ (by simpa using q7)
  ·simp at hsn
 case part i sz off n=>
  split at hsn
  ·rename_i fz sz' b xs hi
   split at hsn
   ·rename_i hsz;subst hsz
    simp only [Option.some.injEq] at hsn;subst hsn
    obtain⟨v',g1,a,cap,q1,q2,q3,q4,q5⟩:=eY hs hi
    simp only [RelV] at hv
    obtain⟨a1,L,cap1,a',e1,e2,e3,rfl,e4⟩:=hv
    rw [g1] at e1;simp only [Option.some.injEq] at e1;subst e1
    simp only [Value.slice.injEq] at q1
    obtain⟨rfl,rfl,rfl⟩:=q1
    have hlen:((xs.drop off).take n).length=n:=by simp only [List.length_take,List.length_drop];omega
    simp only [RelT,hlen]
    have nilIff:a'=none↔a1=none:=by
     rcases e4 with⟨_,rfl⟩ | ⟨_,e5,_⟩ | ⟨b',o,rfl,rfl⟩
     ·exact Iff.rfl
     ·exact e5
     ·simp
    cases b with
    | true=>
     left
     have e5:a1=none:=q3.2 rfl
     subst e5
     rcases q5 with q5 | ⟨blk,off',arr,t,q6,_⟩
     ·have e6:xs= []:=List.length_eq_zero_iff.1 (by omega)
      subst e6;subst q5
      simp only [List.length_nil] at e2
      have e7:n=0:=by omega
      subst e7
      rw [nilIff.2 rfl]
      exact⟨rfl,by simp,by congr 1;omega⟩
     ·cases q6
    | false=>
     right;refine⟨rfl, ?_⟩
     by_cases hn:n=0
     ·subst hn
      cases a' with
      | none=>have:=nilIff.1 rfl;simp [this] at q3
      | some y=>
       obtain⟨bk,o,sp⟩:=y
       exact⟨bk,o,sp,_,rfl,by omega, .inl (by simp),by simp [RelEls]⟩
     ·rcases q5 with q5 | ⟨blk,off',arr,t,q6,q7,q8,q9,q10⟩
      ·omega
      ·subst q6
       have ea:a'=some ⟨blk,off'+off * sz',none⟩:=by
        rcases e4 with⟨rfl,rfl⟩ | ⟨rfl,_⟩ | ⟨b',o,e5,e6⟩
        ·simp
        ·omega
        ·simp only [Option.some.injEq,Addr.mk.injEq] at e5
         obtain⟨rfl,rfl,_⟩:=e5
         exact e6
       subst ea
       refine⟨blk,_,_,_,rfl,by omega, .inr ⟨rfl, ?_⟩,(RelEls.mono' (fun b hb=>⟨hA b hb,rfl⟩) blk sz' rfl off' xs q10).drop off |>.take n⟩
       cases fz
       ·exact hO i blk (.inr (.inl ⟨_,_,_,rfl⟩)) (by simpa using q7)
       ·exact hA _ (by simpa using q7)
   ·simp at hsn
  ·simp at hsn
 case ref i off=>
  simp only [RelV] at hv
  obtain⟨b',e1,rfl⟩:=hv
  split at hsn
  ·rename_i cs hi
   obtain⟨l,hl,hsn⟩:=Option.bind_eq_some_iff.1 hsn
   simp only [Option.some.injEq] at hsn;subst hsn
   obtain⟨b,arr,t',h1,h2,h3,h4,h5,h6⟩:=qH (s:=⟨fun _=>(none, .top),h⟩) hs hi
   rw [h1] at e1;simp only [Option.some.injEq,Value.pointer.injEq,Addr.mk.injEq] at e1
   obtain⟨rfl,_⟩:=e1
   simp only [RelT]
   refine⟨b,off,rfl, .inr (hO i b (.inr (.inr ⟨_,rfl⟩)) h2), ?_⟩
   have hT:=RelTs.of_allT hl h4
   have key:∀(l:List T) (vs:List Value) (off:Nat),RelTs w (AA c w O) l vs->(∀j v,vs[j]? =some v->w.cell? ⟨b,off+j,none⟩=some v)->RelAt w A' b off l:=by
    intro l
    induction l with
    | nil=>intro vs off _ _;simp [RelAt]
    | cons x l ih=>
     rintro vs off ⟨v,r,rfl,h1,h2⟩ hv
     simp only [RelAt]
     refine⟨⟨v,by simpa using hv 0 v rfl,mono _ _ h1⟩,ih r (off+1) h2 fun j u hj=> ?_⟩
     have:=hv (j+1) u (by simpa using hj)
     rw [show off+1+j=off+ (j+1) by omega];exact this
   have:=(key l _ 0 hT fun j v hj=>by rw [Nat.zero_add];exact h6 j v hj).drop off
   rwa [Nat.zero_add] at this
  ·rename_i l hi
   simp only [Option.some.injEq] at hsn;subst hsn
   obtain⟨b,h1,h2,h3,h4⟩:=hs.blk i _ hi
   rw [h1] at e1;simp only [Option.some.injEq,Value.pointer.injEq,Addr.mk.injEq] at e1
   obtain⟨rfl,_⟩:=e1
   simp only [RelT]
   refine⟨b,off,rfl, .inr (hA b h3), ?_⟩
   have:=(RelAt.mono (fun b hb=>⟨hA b hb,rfl⟩) b h3 0 l h4).drop off
   rwa [Nat.zero_add] at this
  ·simp at hsn
def vD(v:AV)(i:Id):Prop:=jc v i\/∃vs,v= .agg vs/\∃u∈vs,jc u i
theorem xX(hs:HS c w h ρ O)(hA:∀b,AA c w O b->A' b):∀{vs:List AV} {xs:List T} {us:List Value},RelVs w (AA c w O) ρ vs us->df h vs=some xs->
  (∀i blk,(∃u∈vs,jc u i)->O i=some blk->A' blk)->RelTs w A' xs us
 | [],xs,us,hv,hsn,_=>by
  simp only [df,Option.some.injEq] at hsn;subst hsn
  simpa [RelVs,RelTs] using hv
 | v::vs,xs,us,hv,hsn,hO=>by
  simp only [df] at hsn
  cases h1:aS h v with
  | none=>simp [h1] at hsn
  | some x=>
   cases h2:df h vs with
   | none=>simp [h1,h2] at hsn
   | some l=>
    simp only [h1,h2,Option.bind_some,Option.some.injEq] at hsn;subst hsn
    simp only [RelVs] at hv
    obtain⟨u,r,rfl,g1,g2⟩:=hv
    exact⟨u,r,rfl,eT hs g1 h1 hA (fun i blk hi=>hO i blk ⟨v,List.mem_cons_self,hi⟩),xX hs hA g2 h2 (fun i blk ⟨u,hu,hi⟩=>hO i blk ⟨u,List.mem_cons_of_mem _ hu,hi⟩)⟩
theorem B6{v:AV}{x:T}{u:Value}(hs:HS c w h ρ O)(hv:RelV w (AA c w O) ρ v u)(hsn:aS h v=some x):u.oneCell'=true/\u.cells= #[u]:=
 (eT (A':=fun _=>True) hs hv hsn (fun _ _=>trivial) (fun _ _ _ _=>trivial)).oneCell
theorem yX{v:AV}{xs:List T}{u:Value}(hs:HS c w h ρ O)(hv:RelV w (AA c w O) ρ v u)(hsn:dH h v=some xs)(hA:∀b,AA c w O b->A' b)
  (hO:∀i blk,vD v i->O i=some blk->A' blk):RelTs w A' xs u.cells.toList/\∀y∈u.cells.toList,y.oneCell'=true/\y.cells= #[y]:=by
 have one:∀x,aS h v=some x->xs= [x]->RelTs w A' xs u.cells.toList/\∀y∈u.cells.toList,y.oneCell'=true/\y.cells= #[y]:=by
  intro x hx he;subst he
  have hr:=eT hs hv hx hA (fun i blk hi=>hO i blk (.inl hi))
  have h1:=B6 hs hv hx
  rw [h1.2]
  exact⟨⟨u,[],rfl,hr,rfl⟩,by intro y hy;simp at hy;subst hy;exact h1⟩
 cases v
 case agg vs=>
  simp only [dH] at hsn
  simp only [RelV] at hv
  obtain⟨ws,rfl,g1,g2⟩:=hv
  refine⟨?_,by simpa [Value.cells] using g2⟩
  have:=xX hs hA g1 hsn (fun i blk hi=>hO i blk (.inr ⟨vs,rfl,hi⟩))
  simpa [Value.cells] using this
 all_goals
  unfold dH at hsn
  obtain⟨x,hx,he⟩:=Option.bind_eq_some_iff.1 hsn
  exact one x hx (Option.some.inj he).symm
def FrzOk1(p:Id×Blk)(x:Option Blk):Prop:=(∃sz b xs,p.2= .sl true sz b xs/\(x=some (.sl false sz b xs)\/x=some (.sl true sz b xs)))\/
 ∃l,p.2= .fbox l/\((∃cs,x=some (.box cs)/\bx cs=some l)\/x=some (.fbox l))
def FrzOk(h:Id->Option Blk)(us:Upd):Prop:= ∀p∈us,FrzOk1 p (h p.1)
theorem FrzOk1.again{i:Id}{b b':Blk}{x:Option Blk}(h1:FrzOk1 (i,b) x)(h2:FrzOk1 (i,b') x):b'=b/\FrzOk1 (i,b') (some b):=by
 rcases h1 with⟨sz,bb,xs,e1,g1⟩ | ⟨l,e1,g1⟩
 ·rcases h2 with⟨sz',bb',xs',e2,g2⟩ | ⟨l',e2,g2⟩
  ·simp only at e1 e2
   have:sz'=sz/\bb'=bb/\xs'=xs:=by
    rcases g1 with rfl | rfl <;> rcases g2 with g2 | g2 <;> simp at g2 <;> simp [g2]
   obtain⟨rfl,rfl,rfl⟩:=this
   exact⟨by rw [e1,e2], .inl ⟨_,_,_,e2, .inr (by rw [e1])⟩⟩
  ·rcases g1 with rfl | rfl <;> rcases g2 with⟨cs,g2,_⟩ | g2 <;> simp at g2
 ·rcases h2 with⟨sz',bb',xs',e2,g2⟩ | ⟨l',e2,g2⟩
  ·rcases g2 with rfl | rfl <;> rcases g1 with⟨cs,g1,_⟩ | g1 <;> simp at g1
  ·simp only at e1 e2
   have:l'=l:=by
    rcases g1 with⟨cs,rfl,g1⟩ | rfl
    ·rcases g2 with⟨cs',g2,g3⟩ | g2
     ·simp only [Option.some.injEq,Blk.box.injEq] at g2;subst g2
      rw [g1] at g3;simpa using g3.symm
     ·simp at g2
    ·rcases g2 with⟨cs',g2,g3⟩ | g2
     ·simp at g2
     ·simpa using g2.symm
   subst this
   exact⟨by rw [e1,e2], .inr ⟨_,e2, .inr (by rw [e1])⟩⟩
theorem HS.shut(hs:HS c w h ρ O){i:Id}{b:Blk}(hok:FrzOk1 (i,b) (h i)):
  ∃O1,Le w ρ O w ρ O1/\HS c w (upd h i (some b)) ρ O1/\(∀j,O1 j=O j\/O1 j=none)/\O1 i=none/\∀j,j≠i->O1 j=O j:=by
 have self:∀(f:Id->Option Blk) (v:Option Blk),f i=v->upd f i v=f:=by
  intro f v h
  funext j;unfold upd;split
  ·rename_i e;rw [e,h]
  ·rfl
 have rel:∀{x:Option Blk},HS c w (upd h i x) ρ (upd O i none)->∃O1,Le w ρ O w ρ O1/\HS c w (upd h i x) ρ O1/\(∀j,O1 j=O j\/O1 j=none)/\O1 i=none/\∀j,j≠i->O1 j=O j:=by
  intro x hx
  exact⟨_,Le.release,hx,fun j=>by
   by_cases e:j=i
   ·subst e;right;simp
   ·left;exact ab _ _ e,by simp,fun j e=>ab _ _ e⟩
 have same:h i=some b->O i=none->∃O1,Le w ρ O w ρ O1/\HS c w (upd h i (some b)) ρ O1/\(∀j,O1 j=O j\/O1 j=none)/\O1 i=none/\∀j,j≠i->O1 j=O j:=by
  intro h1 h2
  exact⟨O,Le.refl,by rw [self _ _ h1];exact hs,fun j=> .inl rfl,h2,fun _ _=>rfl⟩
 rcases hok with⟨sz,bb,xs,e,hi⟩ | ⟨l,e,hi⟩
 ·simp only at e;subst e
  rcases hi with hi | hi
  ·exact rel (hs.freeze hi)
  ·obtain⟨_,_,_,h3⟩:=hs.blk i _ hi
   exact same hi (h3 rfl)
 ·simp only at e;subst e
  rcases hi with⟨cs,hi,hl⟩ | hi
  ·exact rel (hs.freezeBox hi hl)
  ·obtain⟨_,_,h3,_⟩:=hs.blk i _ hi
   exact same hi h3
theorem lf(v:AV):FrzOk h (b7 h v):=by
 intro p hp
 unfold b7 at hp
 split at hp
 ·split at hp
  ·rename_i i sz b xs hi
   simp only [List.mem_singleton] at hp;subst hp;exact .inl ⟨sz,b,xs,rfl, .inl hi⟩
  ·cases hp
 ·split at hp
  ·rename_i i _ _ _ sz b xs hi
   simp only [List.mem_singleton] at hp;subst hp;exact .inl ⟨sz,b,xs,rfl, .inl hi⟩
  ·cases hp
 ·split at hp
  ·rename_i i _ cs hi
   split at hp
   ·rename_i l hl
    simp only [List.mem_singleton] at hp;subst hp;exact .inr ⟨l,rfl, .inl ⟨cs,hi,hl⟩⟩
   ·cases hp
  ·cases hp
 ·cases hp
theorem FrzOk.append{us vs:Upd}(h1:FrzOk h us)(h2:FrzOk h vs):FrzOk h (us++vs):=by
 intro p hp
 rcases List.mem_append.1 hp with hp | hp
 ·exact h1 p hp
 ·exact h2 p hp
theorem xt:∀(vs:List AV),FrzOk h (fI h vs)
 | []=>by intro p hp;cases hp
 | v::vs=>(lf v).append (xt vs)
theorem rB(v:AV):FrzOk h (frz h v):=by
 unfold frz;split
 ·exact xt _
 ·exact lf v
theorem nw{α:Type}(f:Id->Option α)(i:Id)(v:Option α)(h:f i=v):upd f i v=f:=by
 funext j;unfold upd;split
 ·rename_i e;rw [e,h]
 ·rfl
theorem HS.freezes:∀{us:Upd} {h:Id->Option Blk} {O:Id->Option Nat},HS c w h ρ O->FrzOk h us->
  ∃O',Le w ρ O w ρ O'/\HS c w (ae h us) ρ O'/\(∀i,O' i=O i\/O' i=none)/\(∀p∈us,O' p.1=none)/\∀i,(∀p∈us,p.1≠i)->O' i=O i
 | [],h,O,hs,_=>⟨O,Le.refl,hs,fun i=> .inl rfl,by simp,fun _ _=>rfl⟩
 | (i,b)::us,h,O,hs,hok=>by
  have hi:=hok (i,b) List.mem_cons_self
  obtain⟨O1,g1,g2,g3,g4,g5⟩:=hs.shut hi
  have hok':FrzOk (upd h i (some b)) us:=by
   intro p hp
   have h2:=hok p (List.mem_cons_of_mem _ hp)
   by_cases e:p.1=i
   ·obtain⟨j,x⟩:=p
    simp only at e h2;subst e
    rw [upd_same]
    exact(hi.again h2).2
   ·rw [ab _ _ e];exact h2
  obtain⟨O2,k1,k2,k3,k4,k5⟩:=HS.freezes g2 hok'
  refine⟨O2,g1.trans k1,k2,fun j=> ?_,fun p hp=> ?_,fun j hj=> ?_⟩
  ·rcases k3 j with e | e
   ·rw [e];exact g3 j
   ·exact .inr e
  ·rcases List.mem_cons.1 hp with rfl | hp
   ·rcases k3 i with e | e
    ·rw [e];exact g4
    ·exact e
   ·exact k4 p hp
  ·rw [k5 j (fun p hp=>hj p (List.mem_cons_of_mem _ hp)),g5 j (fun e=>hj (i,b) List.mem_cons_self e.symm)]
theorem oK(hs:HS c w h ρ O){v:AV}{x:T}(hsn:aS h v=some x){i:Id}{blk:Nat}(hi:jc v i)(ho:O i=some blk):∃p∈b7 h v,p.1=i:=by
 rcases hi with rfl | ⟨sz,off,n,rfl⟩ | ⟨off,rfl⟩
 ·simp only [aS] at hsn
  split at hsn
  ·rename_i fz sz b xs hi
   cases fz
   ·exact⟨(i, .sl true sz b xs),by simp [b7,hi],rfl⟩
   ·obtain⟨_,_,_,h3⟩:=hs.blk i _ hi
    rw [h3 rfl] at ho;cases ho
  ·simp at hsn
 ·simp only [aS] at hsn
  split at hsn
  ·rename_i fz sz' b xs hi
   cases fz
   ·exact⟨(i, .sl true sz' b xs),by simp [b7,hi],rfl⟩
   ·obtain⟨_,_,_,h3⟩:=hs.blk i _ hi
    rw [h3 rfl] at ho;cases ho
  ·simp at hsn
 ·simp only [aS] at hsn
  split at hsn
  ·rename_i cs hi
   obtain⟨l,hl,_⟩:=Option.bind_eq_some_iff.1 hsn
   exact⟨(i, .fbox l),by simp [b7,hi,hl],rfl⟩
  ·rename_i l hi
   obtain⟨_,_,h3,_⟩:=hs.blk i _ hi
   rw [h3] at ho;cases ho
  ·simp at hsn
theorem uo(hs:HS c w h ρ O):∀{vs:List AV} {xs:List T},df h vs=some xs->∀{i:Id} {blk:Nat},(∃u∈vs,jc u i)->O i=some blk->∃p∈fI h vs,p.1=i
 | [],_,_,i,blk,⟨u,hu,_⟩,_=>by cases hu
 | v::vs,xs,hsn,i,blk,⟨u,hu,hi⟩,ho=>by
  simp only [df] at hsn
  cases h1:aS h v with
  | none=>simp [h1] at hsn
  | some x=>
   cases h2:df h vs with
   | none=>simp [h1,h2] at hsn
   | some l=>
    rcases List.mem_cons.1 hu with rfl | hu
    ·obtain⟨p,hp,e⟩:=oK hs h1 hi ho
     exact⟨p,List.mem_append_left _ hp,e⟩
    ·obtain⟨p,hp,e⟩:=uo hs h2 ⟨u,hu,hi⟩ ho
     exact⟨p,List.mem_append_right _ hp,e⟩
theorem Ak(hs:HS c w h ρ O){v:AV}{xs:List T}(hsn:dH h v=some xs){i:Id}{blk:Nat}(hi:vD v i)(ho:O i=some blk):∃p∈frz h v,p.1=i:=by
 rcases hi with hi | ⟨vs,rfl,hi⟩
 ·have:∃x,aS h v=some x:=by
   rcases hi with rfl | ⟨_,_,_,rfl⟩ | ⟨_,rfl⟩ <;> exact(Option.bind_eq_some_iff.1 hsn).elim fun x hx=>⟨x,hx.1⟩
  obtain⟨x,hx⟩:=this
  obtain⟨p,hp,e⟩:=oK hs hx hi ho
  refine⟨p, ?_,e⟩
  rcases hi with rfl | ⟨_,_,_,rfl⟩ | ⟨_,rfl⟩ <;> exact hp
 ·exact uo hs hsn hi ho
theorem rQ{v:AV}{xs:List T}{u:Value}{O':Id->Option Nat}(hs:HS c w h ρ O)(hv:RelV w (AA c w O) ρ v u)(hsn:dH h v=some xs)(le:Le w ρ O w ρ O')(hO':∀i,O' i=O i\/O' i=none)
  (hf:∀p∈frz h v,O' p.1=none):RelTs w (AA c w O') xs u.cells.toList/\∀y∈u.cells.toList,y.oneCell'=true/\y.cells= #[y]:=by
 refine yX hs hv hsn (fun b hb=>(le.A b hb).1) (fun i blk hi ho=> ?_)
 obtain⟨p,hp,e⟩:=Ak hs hsn hi ho
 refine⟨.inr (hs.own i blk ho),hs.lt i blk ho,fun j hj=> ?_⟩
 rcases hO' j with e1 | e1
 ·rw [e1] at hj
  have:=hs.inj j i blk hj ho
  subst this
  have:=hf p hp
  rw [e,e1,hj] at this;cases this
 ·rw [e1] at hj;cases hj
theorem cL(hs:HS c w h ρ O){i:Id}{u:Value}(hu:ρ i=some u):u.oneCell'=true/\u.cells= #[u]:=by
 cases hi:h i with
 | none=>
  cases hr:i.real with
  | true=>rw [(hs.nodom i hr hi).1] at hu;cases hu
  | false=>
   cases i with
   | g i n=>exact hs.gone i n u hu
   | _=>cases hr
 | some b=>
  have:=hs.blk i b hi
  cases b with
  | box cs=>
   obtain⟨b,_,_,h1,_⟩:=this
   rw [hu] at h1;simp only [Option.some.injEq] at h1;subst h1;exact⟨rfl,rfl⟩
  | sl fz sz b xs=>
   obtain⟨v,h1,⟨a,cap,h2,_⟩,_⟩:=this
   rw [hu] at h1;simp only [Option.some.injEq] at h1;subst h1;subst h2;exact⟨rfl,rfl⟩
  | fbox l=>
   obtain⟨b,h1,_⟩:=this
   rw [hu] at h1;simp only [Option.some.injEq] at h1;subst h1;exact⟨rfl,rfl⟩
  | mp ag ks vk es=>
   obtain⟨b,_,_,h1,_⟩:=this
   rw [hu] at h1;simp only [Option.some.injEq] at h1;subst h1;exact⟨rfl,rfl⟩
  | arr cs=>
   obtain⟨b,_,_,h1,_⟩:=this
   rw [hu] at h1;simp only [Option.some.injEq] at h1;subst h1;exact⟨rfl,rfl⟩
  | rows b sz col rsz nx es=>
   obtain⟨a,cap,h1,_⟩:=this
   rw [hu] at h1;simp only [Option.some.injEq] at h1;subst h1;exact⟨rfl,rfl⟩
  | dead=>
   obtain⟨⟨v,h1,h2⟩,_⟩:=this
   rw [hu] at h1;simp only [Option.some.injEq] at h1;subst h1;exact h2
theorem Eg(hs:HS c w h ρ O){v:AV}{u:Value}(hv:RelV w A ρ v u)(hc:iw v=true):u.oneCell'=true/\u.cells= #[u]:=by
 cases v <;> simp only [iw,Bool.false_eq_true] at hc <;> simp only [RelV] at hv
 case t=>exact hv.oneCell
 case ref=>obtain⟨b,_,rfl⟩:=hv;exact⟨rfl,rfl⟩
 case el=>obtain⟨_,_,_,_,_,rfl⟩:=hv;exact⟨rfl,rfl⟩
 case own=>exact cL hs hv
 case part=>obtain⟨_,_,_,_,_,_,_,rfl,_⟩:=hv;exact⟨rfl,rfl⟩
 case row=>exact hs.gone _ _ _ hv
 case rel=>obtain⟨_,_,_,_,_,rfl⟩:=hv;exact⟨rfl,rfl⟩
 case fn=>obtain⟨_,_,rfl,_⟩:=hv;exact⟨rfl,rfl⟩
theorem mr(hs:HS c w h ρ O){v:AV}{u:Value}(hv:RelV w A ρ v u)(hc:(b5 v).all iw=true):RelVs w A ρ (b5 v) u.cells.toList/\∀y∈u.cells.toList,y.oneCell'=true/\y.cells= #[y]:=by
 have one:b5 v= [v]->RelVs w A ρ (b5 v) u.cells.toList/\∀y∈u.cells.toList,y.oneCell'=true/\y.cells= #[y]:=by
  intro e
  rw [e] at hc⊢
  simp only [List.all_cons,List.all_nil,Bool.and_true] at hc
  have h1:=Eg hs hv hc
  rw [h1.2]
  refine⟨by simp only [RelVs];exact⟨u,[],rfl,hv,rfl⟩, ?_⟩
  intro y hy;simp at hy;subst hy;exact h1
 cases v
 case agg vs=>
  simp only [RelV] at hv
  obtain⟨ws,rfl,h1,h2⟩:=hv
  exact⟨by simpa [b5,Value.cells] using h1,by simpa [Value.cells] using h2⟩
 all_goals exact one rfl
end
open Go
section
variable {P:Program} {w w':World} {A A':Nat->Prop} {c:Ctx} {ρ:Id->Option Value} {O:Id->Option Nat} {s:St} {cc:Option Bool} {h:Id->Option Blk}
theorem kk{b:Nat}{arr:Array Value}{t:TypeId}{fr:Nat×Nat}(hb:w.heap[b]? =some (.cells arr t fr))(cs:Array Value)(p:Nat):(w.setRow b cs).cell? ⟨b,p,none⟩=cs[p]?:=by
 simp only [World.cell?,setRow_heap w b arr cs t fr hb];rfl
theorem du{b:Nat}{arr:Array Value}{t:TypeId}{fr:Nat×Nat}(hb:w.heap[b]? =some (.cells arr t fr))(p:Nat):w.cell? ⟨b,p,none⟩=arr[p]?:=by
 simp only [World.cell?,hb];rfl
theorem gQ(w:World)(b:Nat)(cs:Array Value):(w.setRow b cs).heap.size=w.heap.size:=by simp [World.setRow]
theorem jn{α:Type}(off:Nat)(new old:List α)(hl:off+new.length<=old.length)(p:Nat):(repl off new old)[p]? =if off<=p/\p < off+new.length then new[p - off]? else old[p]?:=by
 unfold repl
 rw [List.append_assoc]
 have h1:(old.take off).length=off:=by rw [List.length_take];omega
 by_cases h:p < off
 ·rw [List.getElem?_append_left (by omega),if_neg (by omega),List.getElem?_take,if_pos h]
 ·rw [List.getElem?_append_right (by omega),h1]
  by_cases h2:p < off+new.length
  ·rw [List.getElem?_append_left (by omega),if_pos ⟨by omega,h2⟩]
  ·rw [List.getElem?_append_right (by omega),if_neg (by omega),List.getElem?_drop]
   congr 1;omega
theorem iA{α:Type}(off:Nat)(new old:List α)(hl:off+new.length<=old.length):(repl off new old).length=old.length:=by
 simp only [repl,List.length_append,List.length_take,List.length_drop];omega
theorem RelAt.of_vals{blk:Nat}:∀{l:List T} {vs:List Value} {off:Nat},RelTs w A l vs->(∀j v,vs[j]? =some v->w.cell? ⟨blk,off+j,none⟩=some v)->RelAt w A blk off l
 | [],_,_,_,_=>by simp [RelAt]
 | x::l,vs,off,⟨v,r,e,h1,h2⟩,hv=>by
  subst e
  simp only [RelAt]
  refine⟨⟨v,by simpa using hv 0 v rfl,h1⟩,RelAt.of_vals h2 fun j u hj=> ?_⟩
  have:=hv (j+1) u (by simpa using hj)
  rw [show off+1+j=off+ (j+1) by omega];exact this
theorem RelAt.cells{blk:Nat}(hA:∀b,A b->A' b/\w'.heap[b]? =w.heap[b]?):∀{cs:List T} {off:Nat},(∀j,j < cs.length->w'.cell? ⟨blk,off+j,none⟩=w.cell? ⟨blk,off+j,none⟩)->RelAt w A blk off cs->RelAt w' A' blk off cs
 | [],_,_,_=>by simp [RelAt]
 | x::cs,off,hc,hr=>by
  simp only [RelAt] at hr⊢
  obtain⟨⟨v,h1,h2⟩,h3⟩:=hr
  refine⟨⟨v, ?_,RelT.mono hA x v h2⟩,RelAt.cells hA (fun j hj=> ?_) h3⟩
  ·have:=hc 0 (by simp);simp only [Nat.add_zero] at this;rw [this];exact h1
  ·have:=hc (j+1) (by simp;omega)
   rw [show off+1+j=off+ (j+1) by omega];exact this
theorem RelAt.append{blk:Nat}:∀{a b:List T} {off:Nat},RelAt w A blk off a->RelAt w A blk (off+a.length) b->RelAt w A blk off (a++b)
 | [],b,off,_,h=>by simpa using h
 | x::a,b,off,h,h'=>by
  simp only [RelAt,List.cons_append] at h⊢
  refine⟨h.1,RelAt.append h.2 ?_⟩
  have:off+1+a.length=off+ (x::a).length:=by simp;omega
  rw [this];exact h'
theorem RelAt.take{blk:Nat}:∀{cs:List T} {off:Nat},RelAt w A blk off cs->∀n,RelAt w A blk off (cs.take n)
 | _,_,_,0=>by simp [RelAt]
 | [],_,_,n+1=>by simp [RelAt]
 | x::cs,off,h,n+1=>by
  simp only [RelAt,List.take_succ_cons] at h⊢
  exact⟨h.1,RelAt.take h.2 n⟩
theorem RelEls.cells{blk sz:Nat}(hA:∀b,A b->A' b/\w'.heap[b]? =w.heap[b]?):∀{xs:List (List T)} {off:Nat},(∀p,off<=p->p < off+xs.length * sz->w'.cell? ⟨blk,p,none⟩=w.cell? ⟨blk,p,none⟩)->RelEls w A blk sz off xs->RelEls w' A' blk sz off xs
 | [],_,_,_=>by simp [RelEls]
 | cs::xs,off,hc,hr=>by
  simp only [RelEls] at hr⊢
  have e:(cs::xs).length * sz=sz+xs.length * sz:=by simp [Nat.succ_mul];omega
  refine⟨hr.1,RelAt.cells hA (fun j hj=>hc _ (by omega) (by rw [e];omega)) hr.2.1,RelEls.cells hA (fun p h1 h2=>hc p (by omega) (by rw [e];omega)) hr.2.2⟩
theorem RelEls.set{blk sz:Nat}(hA:∀b,A b->A' b/\w'.heap[b]? =w.heap[b]?):∀{xs:List (List T)} {off k:Nat} {new:List T},RelEls w A blk sz off xs->k < xs.length->new.length=sz->RelAt w' A' blk (off+k * sz) new->
  (∀p,off<=p->p < off+xs.length * sz->¬(off+k * sz<=p/\p < off+k * sz+sz)->w'.cell? ⟨blk,p,none⟩=w.cell? ⟨blk,p,none⟩)->RelEls w' A' blk sz off (xs.set k new)
 | [],_,_,_,_,hk,_,_,_=>by simp at hk
 | cs::xs,off,0,new,hr,_,hn,hnew,hc=>by
  simp only [RelEls,List.set_cons_zero] at hr⊢
  have e:(cs::xs).length * sz=sz+xs.length * sz:=by simp [Nat.succ_mul];omega
  exact⟨hn,by simpa using hnew,RelEls.cells hA (fun p h1 h2=>hc p (by omega) (by rw [e];omega) (by omega)) hr.2.2⟩
 | cs::xs,off,k+1,new,hr,hk,hn,hnew,hc=>by
  simp only [RelEls,List.set_cons_succ] at hr⊢
  have e:(cs::xs).length * sz=sz+xs.length * sz:=by simp [Nat.succ_mul];omega
  have e2:(k+1) * sz=sz+k * sz:=by rw [Nat.succ_mul];omega
  refine⟨hr.1,RelAt.cells hA (fun j hj=>hc _ (by omega) (by rw [e];omega) (by rw [e2];omega)) hr.2.1,RelEls.set hA hr.2.2 (by simpa using hk) hn ?_ (fun p h1 h2 h3=>hc p (by omega) (by rw [e];omega) (by rw [e2];omega))⟩
  rw [show off+sz+k * sz=off+ (k+1) * sz by rw [e2];omega];exact hnew
theorem RelVs.repl{as l:List AV}{vs us:List Value}(h:RelVs w A ρ as vs)(h':RelVs w A ρ l us)(off:Nat):RelVs w A ρ (repl off l as) (repl off us vs):=by
 unfold Aev.repl
 have:=h'.length
 rw [this]
 exact((h.take off).append h').append (h.drop _)
theorem RelAt.repl{blk base off:Nat}{cs l:List T}(h1:RelAt w A blk base (cs.take off))(h2:RelAt w A blk (base+off) l)(h3:RelAt w A blk (base+off+l.length) (cs.drop (off+l.length)))(hl:off<=cs.length):RelAt w A blk base (repl off l cs):=by
 unfold Aev.repl
 rw [List.append_assoc]
 have lt:(cs.take off).length=off:=by rw [List.length_take];omega
 exact RelAt.append h1 (RelAt.append (by rw [lt];exact h2) (by rw [lt];exact h3))
theorem oT{t:TypeId}(ht:az P t=true){b off:Nat}{arr:Array Value}{tt:TypeId}{v:Value}(hb:w.heap[b]? =some (.cells arr tt (0,0)))(hl:v.cells.size=P.cellsOf t)(hfit:off+v.cells.toList.length<=arr.size)
  (h1:∀u∈v.cells.toList,u.oneCell'=true):(storeVar t ⟨b,off,none⟩ v).run P w= .ok () (w.setRow b (repl off v.cells.toList arr.toList).toArray):=by
 unfold storeVar
 simp only [Sem.run_bind,cv ht,Result.andThen_ok,hl,ne_eq,not_true_eq_false,if_false]
 have:=run_storeCells_at P b off tt v.cells.toList 0 arr w hb (by simpa using hfit) h1
 simp only [Nat.add_zero] at this
 rw [this];rfl
theorem tJ{v:AV}{p:Id×Blk}(hp:p∈b7 h v):p.1∈v.ids:=by
 unfold b7 at hp
 split at hp
 ·split at hp
  ·simp only [List.mem_singleton] at hp;subst hp;simp [AV.ids]
  ·cases hp
 ·split at hp
  ·simp only [List.mem_singleton] at hp;subst hp;simp [AV.ids]
  ·cases hp
 ·split at hp
  ·split at hp
   ·simp only [List.mem_singleton] at hp;subst hp;simp [AV.ids]
   ·cases hp
  ·cases hp
 ·cases hp
theorem xO:∀{vs:List AV} {p:Id×Blk},p∈fI h vs->p.1∈aD vs
 | [],p,hp=>by cases hp
 | v::vs,p,hp=>by
  simp only [fI,List.mem_append] at hp
  simp only [aD,List.mem_append]
  rcases hp with hp | hp
  ·exact .inl (tJ hp)
  ·exact .inr (xO hp)
theorem tV{v:AV}{p:Id×Blk}(hp:p∈frz h v):p.1∈v.ids:=by
 unfold frz at hp;split at hp
 ·simp only [AV.ids];exact xO hp
 ·exact tJ hp
theorem aY:∀{us:Upd} {h:Id->Option Blk} {i:Id},(∀p∈us,p.1≠i)->ae h us i=h i
 | [],_,_,_=>rfl
 | (j,b)::us,h,i,hn=>by
  rw [aO,aY (fun p hp=>hn p (List.mem_cons_of_mem _ hp)),ab _ _ (fun e=>hn (j,b) List.mem_cons_self e.symm)]
theorem lk:∀{us:Upd} {h:Id->Option Blk} {i:Id} {b:Blk},(∀p∈us,p.1≠i)->ae (upd h i (some b)) us=upd (ae h us) i (some b)
 | [],_,_,_,_=>rfl
 | (j,x)::us,h,i,b,hn=>by
  rw [aO,aO,<-lk (fun p hp=>hn p (List.mem_cons_of_mem _ hp))]
  congr 1
  funext k
  have:j≠i:=fun e=>hn (j,x) List.mem_cons_self e
  by_cases e1:k=j
  ·subst e1;rw [upd_same,ab _ _ this,upd_same]
  ·by_cases e2:k=i
   ·subst e2;rw [ab _ _ e1,upd_same,upd_same]
   ·rw [ab _ _ e1,ab _ _ e2,ab _ _ e2,ab _ _ e1]
theorem HS.freezes'{us:Upd}(hs:HS c w h ρ O)(hok:FrzOk h us):
  ∃O',Le w ρ O w ρ O'/\HS c w (ae h us) ρ O'/\(∀i,O' i=O i\/O' i=none)/\(∀p∈us,O' p.1=none)/\∀i,(∀p∈us,p.1≠i)->O' i=O i:=HS.freezes hs hok
theorem ow{b:Nat}{i:Id}(hi:O i=some b)(cs:Array Value):Le w ρ O (w.setRow b cs) ρ O:=
 Le.write hi rfl rfl rfl (gQ w b cs) fun k hk=>setRow_other w b k cs hk
theorem SlAt.put{t:TypeId}{sz k off b o L cap:Nat}{bb:Bool}{xs ys:List (List T)}{l:List T}{vx:Value}{Q:Nat->Prop}(hq:SlAt w A sz bb xs (.slice (some ⟨b,o,none⟩) L cap) Q)(hy:aB k off l xs=some ys)(ht:az P t=true)
  (c1:l.length=P.cellsOf t) (g1:RelTs w A l vx.cells.toList) (g2:∀u∈vx.cells.toList,u.oneCell'=true/\u.cells= #[u]):
  ∃cs,Q b/\(storeVar t ⟨b,o+k * sz+off,none⟩ vx).run P w= .ok () (w.setRow b cs)/\
   ∀A' Q',(∀b',A b'->A' b'/\(w.setRow b cs).heap[b']? =w.heap[b']?)->Q' b->SlAt (w.setRow b cs) A' sz bb ys (.slice (some ⟨b,o,none⟩) L cap) Q':=by
 obtain⟨a',cap',q1,q2,q3,q4,q5⟩:=hq
 simp only [Value.slice.injEq] at q1
 obtain⟨rfl,rfl,rfl⟩:=q1
 unfold aB at hy
 cases hkx:xs[k]? with
 | none=>simp [hkx] at hy
 | some cs=>
  simp only [hkx] at hy
  split at hy
  ·rename_i hfit0
   simp only [Option.some.injEq] at hy;subst hy
   have hlt:k < xs.length:=(List.getElem?_eq_some_iff.1 hkx).1
   rcases q5 with q5 | ⟨blk,off',arr,t',q6,q7,q8,q9,q10⟩
   ·omega
   ·simp only [Option.some.injEq,Addr.mk.injEq] at q6
    obtain⟨rfl,rfl,_⟩:=q6
    obtain⟨lcs,hcs⟩:=q10.get hkx
    have gl:=g1.length
    have hbnd:(k+1) * sz<=cap * sz:=Nat.mul_le_mul_right _ (by omega)
    have e2:(k+1) * sz=k * sz+sz:=Nat.succ_mul _ _
    have hfit:o+k * sz+off+vx.cells.toList.length<=arr.size:=by omega
    have run:=oT (P:=P) ht q8 (by rw [<-Array.length_toList,gl,c1]) hfit (fun u hu=>(g2 u hu).1)
    refine⟨_,q7,run,fun A' Q' hA2 hQ'=> ?_⟩
    have hl2:(xs.set k (repl off l cs)).length=xs.length:=by simp
    refine⟨some ⟨b,o,none⟩,cap,by rw [hl2],by rw [hl2];exact q2,q3,q4, .inr ⟨b,o,_,t',rfl,hQ',setRow_heap w b arr _ t' (0,0) q8, ?_, ?_⟩⟩
    ·have:=iA (o+k * sz+off) vx.cells.toList arr.toList (by simpa using hfit)
     simp only [List.size_toArray]
     rw [this];simpa using q9
    ·have cellAt:∀p,(w.setRow b (repl (o+k * sz+off) vx.cells.toList arr.toList).toArray).cell? ⟨b,p,none⟩=if o+k * sz+off<=p/\p < o+k * sz+off+vx.cells.toList.length then vx.cells.toList[p - (o+k * sz+off)]? else w.cell? ⟨b,p,none⟩:=by
      intro p
      rw [kk q8,List.getElem?_toArray,jn _ _ _ (by simpa using hfit),du q8]
      simp
     have lrepl:(repl off l cs).length=sz:=by rw [iA off l cs hfit0,lcs]
     refine RelEls.set hA2 q10 hlt lrepl ?_ ?_
     ·refine RelAt.repl (RelAt.cells hA2 (fun j hj=> ?_) (hcs.take off)) ?_ ?_ (by omega)
      ·have lt:(cs.take off).length=off:=by rw [List.length_take];omega
       rw [lt] at hj;rw [cellAt,if_neg (by omega)]
      ·refine RelAt.of_vals (RelTs.mono hA2 _ _ g1) (fun j u hj=> ?_)
       have hj':j < vx.cells.toList.length:=(List.getElem?_eq_some_iff.1 hj).1
       rw [cellAt,if_pos (by omega)]
       rw [show o+k * sz+off+j - (o+k * sz+off)=j by omega];exact hj
      ·have:=hcs.drop (off+l.length)
       rw [show o+k * sz+off+l.length=o+k * sz+ (off+l.length) by omega]
       refine RelAt.cells hA2 (fun j hj=> ?_) this
       rw [cellAt,if_neg (by omega)]
     ·intro p h1 h2 h3
      rw [cellAt,if_neg (by omega)]
  ·simp at hy
theorem n9{n:Nat}{p:Bool×List (List T)}:∀{es:List Row},cf n es=some p->∃k e,es[k]? =some e/\e.n=n/\e.own=some p/\∀q,bW n q es=es.set k {e with own:=q}
 | [],h=>by simp [cf] at h
 | e::es,h=>by
  unfold cf at h
  by_cases c:e.n=n
  ·rw [if_pos c] at h
   exact⟨0,e,rfl,c,h,fun q=>by simp [bW,c]⟩
  ·rw [if_neg c] at h
   obtain⟨k,e',h1,h2,h3,h4⟩:=n9 h
   exact⟨k+1,e',by simpa using h1,h2,h3,fun q=>by simp [bW,c,h4]⟩
theorem lH{es:List Row}(h:(es.map (·.n)).Nodup){j k:Nat}{x y:Row}(hj:es[j]? =some x)(hk:es[k]? =some y)(e:x.n=y.n):j=k:=by
 have h1:(es.map (·.n))[j]? =some x.n:=by simp [hj]
 have h2:(es.map (·.n))[k]? =some x.n:=by simp [hk,e]
 obtain⟨l1,e1⟩:=List.getElem?_eq_some_iff.1 h1
 obtain⟨l2,e2⟩:=List.getElem?_eq_some_iff.1 h2
 exact(List.getElem_inj h).1 (e1.trans e2.symm)
theorem vR:∀{l:List Nat} {k x:Nat},l.Nodup->x∉l->(l.set k x).Nodup
 | [],_,_,_,_=>by simp
 | a::l,0,x,hn,hx=>by
  simp only [List.set_cons_zero,List.nodup_cons,List.mem_cons,not_or] at hn hx⊢
  exact⟨hx.2,hn.2⟩
 | a::l,k+1,x,hn,hx=>by
  simp only [List.set_cons_succ,List.nodup_cons,List.mem_cons,not_or] at hn hx⊢
  refine⟨fun hm=> ?_,vR hn.2 hx.2⟩
  rcases List.mem_or_eq_of_mem_set hm with h | h
  ·exact hn.1 h
  ·exact hx.1 h.symm
theorem Eb{O':Id->Option Nat}(hs:HS c w h ρ O)(τ:Id->Option Id)(hO:∀k b,O' k=some b->∃x,τ k=some x/\O x=some b)(hτ:∀k k' x,τ k=some x->τ k'=some x->k=k'):∀i j b,O' i=some b->O' j=some b->i=j:=by
 intro i j b hi hj
 obtain⟨x,x1,x2⟩:=hO i b hi
 obtain⟨y,y1,y2⟩:=hO j b hj
 have:=hs.inj x y b x2 y2
 subst this
 exact hτ i j x x1 y1
theorem HS.putRow{i j:Id}{b bb:Bool}{sz col rsz nx k blk:Nat}{es:List Row}{e:Row}{xs:List (List T)}{vj:Value}{cs:Array Value}(hs:HS c w h ρ O)(hi:h i=some (.rows b sz col rsz nx es))(hj:h j=some (.sl false rsz bb xs))(hk:es[k]? =some e)(hv:ρ j=some vj)
  {a:Option Addr} {cap:Nat} (hρ:ρ i=some (.slice a es.length cap)) {off:Nat} {arr:Array Value} {t:TypeId} (ha:a=some ⟨blk,off,none⟩) (hO:O i=some blk) (hb:w.heap[blk]? =some (.cells arr t (0,0))) (hfit:off+cap * sz<=arr.size)
  (hcs:cs= (repl (off+k * sz+col) [vj] arr.toList).toArray):
  ∃ρ' O',Le w ρ O (w.setRow blk cs) ρ' O'/\HS c (w.setRow blk cs) (upd (upd h j (some .dead)) i (some (.rows b sz col rsz (nx+1) (es.set k ⟨nx,e.cs,some (bb,xs)⟩)))) ρ' O':=by
 obtain⟨a',cap',r1,r2,r3,⟨n1,n2,n3,n4⟩,r5⟩:=hs.blk i _ hi
 rw [hρ] at r1;simp only [Option.some.injEq,Value.slice.injEq] at r1
 obtain⟨rfl, -,rfl⟩:=r1
 have hlt:k < es.length:=(List.getElem?_eq_some_iff.1 hk).1
 have hrows:RowsAt w (AA c w O) ρ O i blk sz col rsz off es:=by
  rcases r5 with r5 | ⟨blk',off',arr',t',q1,q2,q3,q4,q5⟩
  ·omega
  ·rw [ha] at q1;simp only [Option.some.injEq,Addr.mk.injEq] at q1
   obtain⟨rfl,rfl,_⟩:=q1;exact q5
 have hen:e.n < nx:=n2 e (List.mem_of_getElem? hk)
 have hri:=hs.real (i:=i) (by rw [hi];simp)
 have hrj:=hs.real (i:=j) (by rw [hj];simp)
 have hij:j≠i:=fun e=>by rw [e,hi] at hj;cases hj
 have hgi:∀n,Id.g i n≠j:=fun n=>ai hrj
 obtain⟨v',s1,s2,_⟩:=hs.blk j _ hj
 rw [hv] at s1;cases s1
 have hrow:=hrows.get hk
 have hcol:=hrow.2.1
 have hbnd:(k+1) * sz<=cap * sz:=Nat.mul_le_mul_right _ (by omega)
 have e2:(k+1) * sz=k * sz+sz:=Nat.succ_mul _ _
 have hfit2:off+k * sz+col+ [vj].length<=arr.toList.length:=by simp;omega
 let ρ':Id->Option Value:=upd ρ (.g i nx) (some vj)
 let O':Id->Option Nat:=fun x=>if x= .g i nx then O j else if x=j then none else if x= .g i e.n then none else O x
 have hO':∀x,x≠ .g i nx->x≠j->x≠ .g i e.n->O' x=O x:=fun x h1 h2 h3=>by simp only [O',if_neg h1,if_neg h2,if_neg h3]
 have hOn:O' (.g i nx)=O j:=by simp only [O',if_true]
 have hOj:O' j=none:=by simp only [O',if_neg (hgi nx).symm,if_true]
 have hOe:O' (.g i e.n)=none:=by
  have h1:Id.g i e.n≠ .g i nx:=by intro h;cases h;omega
  simp only [O',if_neg h1,if_neg (hgi e.n),if_true]
 have dec:∀x d,O' x=some d->(x= .g i nx/\O j=some d)\/(x≠ .g i nx/\x≠j/\x≠ .g i e.n/\O x=some d):=by
  intro x d hx
  simp only [O'] at hx
  split at hx
  ·exact .inl ⟨by assumption,hx⟩
  ·split at hx
   ·cases hx
   ·split at hx
    ·cases hx
    ·exact .inr ⟨by assumption,by assumption,by assumption,hx⟩
 have le:Le w ρ O (w.setRow blk cs) ρ' O':=by
  refine⟨rfl,rfl,rfl,by rw [gQ];exact Nat.le_refl _,fun x u hx=> ?_,fun d _ hn=>setRow_other w blk d _ fun e=>hn i (e▸hO),fun x d hx=> ?_⟩
  ·by_cases e:x= .g i nx
   ·subst e;rw [n3 nx (Nat.le_refl _)] at hx;cases hx
   ·simp only [ρ'];rw [ab _ _ e];exact hx
  ·rcases dec x d hx with⟨_,h⟩ | ⟨_,_,_,h⟩
   ·exact .inl ⟨j,h⟩
   ·exact .inl ⟨x,h⟩
 have other:∀x d,x≠i->O x=some d->(w.setRow blk cs).heap[d]? =w.heap[d]?:=fun x d hx hd=>setRow_other w blk d _ fun e=>hx (hs.inj x i blk (e▸hd) hO)
 refine⟨ρ',O',le,hs.goG le (fun x y hx=> ?_) (fun x hr hx=> ?_) (fun x n=> ?_) (fun x n hx=> ?_) (fun x n u hu=> ?_) ?_ (fun x d hx=> ?_)⟩
 ·by_cases e1:x=i
  ·subst e1;rw [upd_same] at hx;cases hx
   right
   have hlen:(es.set k ⟨nx,e.cs,some (bb,xs)⟩).length=es.length:=by simp
   refine⟨a,cap, ?_,by rw [hlen];exact r2,r3,⟨?_,fun f hf=> ?_,fun n hn=> ?_,fun n d hd=> ?_⟩, .inr ⟨blk,off,cs,t,ha, ?_,setRow_heap w blk arr _ t (0,0) hb, ?_, ?_⟩⟩
   ·rw [hlen];simp only [ρ'];rw [ab _ _ (ai hri).symm];exact hρ
   ·rw [List.map_set]
    refine vR n1 ?_
    intro hm
    obtain⟨f,hf,e⟩:=List.mem_map.1 hm
    simp only at e
    have:=n2 f hf;omega
   ·rcases List.mem_or_eq_of_mem_set hf with hf | rfl
    ·have:=n2 f hf;omega
    ·simp
   ·have h1:Id.g x n≠ .g x nx:=by intro h;cases h;omega
    simp only [ρ'];rw [ab _ _ h1];exact n3 n (by omega)
   ·rcases dec _ d hd with⟨h,_⟩ | ⟨h1,_,h3,h4⟩
    ·cases h;exact⟨_,List.mem_set hlt _,rfl⟩
    ·obtain⟨f,hf,hfn⟩:=n4 n d h4
     obtain⟨m,hm⟩:=List.mem_iff_getElem?.1 hf
     have hmk:m≠k:=fun e'=>by rw [e',hk] at hm;cases hm;rw [hfn] at h3;exact h3 rfl
     refine⟨f,List.mem_iff_getElem?.2 ⟨m, ?_⟩,hfn⟩
     rw [List.getElem?_set,if_neg (Ne.symm hmk)];exact hm
   ·rw [hO' x (ai hri).symm (Ne.symm hij) (ai hri).symm];exact hO
   ·rw [hcs,List.size_toArray,iA _ _ _ hfit2];simpa using hfit
   ·have cellAt:∀p,(w.setRow blk cs).cell? ⟨blk,p,none⟩=if off+k * sz+col<=p/\p < off+k * sz+col+1 then some vj else w.cell? ⟨blk,p,none⟩:=by
     intro p
     rw [kk hb,hcs,List.getElem?_toArray,jn _ _ _ hfit2,du hb]
     by_cases hp:off+k * sz+col<=p/\p < off+k * sz+col+1
     ·rw [if_pos (by simpa using hp),if_pos hp,show p - (off+k * sz+col)=0 by omega];rfl
     ·rw [if_neg (by simpa using hp),if_neg hp];simp
    refine RowsAt.set (fun d hd=>le.A d hd) hlt (fun p p1 p2 p3=>by rw [cellAt,if_neg (by omega)]) (fun m f hm hf=> ?_) ?_ hrows
    ·have hfn:f.n≠e.n:=fun e'=>hm (lH n1 hf hk e')
     have hfx:f.n≠nx:=by have:=n2 f (List.mem_of_getElem? hf);omega
     have h1:Id.g x f.n≠ .g x nx:=by intro h;simp only [Id.g.injEq] at h;exact hfx h.2
     have h2:Id.g x f.n≠ .g x e.n:=by intro h;simp only [Id.g.injEq] at h;exact hfn h.2
     refine⟨by simp only [ρ'];exact ab _ _ h1,hO' _ h1 (hgi _) h2,fun d hd=>other _ d (ai hri) hd⟩
    ·refine⟨hrow.1,hcol,fun m y hm hy=> ?_,vj,by rw [cellAt,if_pos (by omega)],by simp only [ρ'];exact upd_same _ _ _, ?_⟩
     ·obtain⟨u,g1,g2⟩:=hrow.2.2.1 m y hm hy
      have hml:m < sz:=by have:=(List.getElem?_eq_some_iff.1 hy).1;rw [hrow.1] at this;exact this
      exact⟨u,by rw [cellAt,if_neg (by omega)];exact g1,RelT.mono (fun d hd=>le.A d hd) y u g2⟩
     ·simp only
      refine SlAt.mono (fun d hd=>le.A d hd) (fun d hd=> ?_) s2
      simp only [Bool.false_eq_true,if_false] at hd
      rw [hOn]
      exact⟨hd,other j d hij hd⟩
  ·rw [ab _ _ e1] at hx
   by_cases e3:x=j
   ·subst e3;rw [upd_same] at hx;cases hx
    exact .inr ⟨⟨vj,by simp only [ρ'];rw [ab _ _ (hgi nx).symm];exact hv,cL hs hv⟩,hOj⟩
   ·rw [ab _ _ e3] at hx
    have hrx:=hs.real (i:=x) (by rw [hx];simp)
    refine .inl ⟨hx,hO' x (ai hrx).symm e3 (ai hrx).symm,fun d hd=>other x d e1 hd,fun n=> ?_⟩
    have h1:∀m,Id.g x n≠ .g i m:=by intro m h;cases h;exact e1 rfl
    exact⟨by simp only [ρ'];exact ab _ _ (h1 _),hO' _ (h1 _) (ai hrj) (h1 _),fun d hd=>other _ d (ai hri) hd⟩
 ·by_cases e1:x=i
  ·subst e1;rw [upd_same] at hx;cases hx
  ·rw [ab _ _ e1] at hx
   by_cases e3:x=j
   ·subst e3;rw [upd_same] at hx;cases hx
   ·rw [ab _ _ e3] at hx
    have:=hs.nodom x hr hx
    refine⟨?_, ?_⟩
    ·simp only [ρ'];rw [ab _ _ (ai hr).symm];exact this.1
    ·rw [hO' x (ai hr).symm e3 (ai hr).symm];exact this.2
 ·rw [ab _ _ (ai hri),ab _ _ (ai hrj)];exact hs.nog x n
 ·by_cases e1:x=i
  ·subst e1;rw [upd_same] at hx;cases hx
  ·rw [ab _ _ e1] at hx
   by_cases e3:x=j
   ·subst e3;rw [upd_same] at hx;cases hx
   ·rw [ab _ _ e3] at hx
    have:=hs.gdom x n hx
    have h1:∀m,Id.g x n≠ .g i m:=by intro m h;cases h;exact e1 rfl
    refine⟨?_, ?_⟩
    ·simp only [ρ'];rw [ab _ _ (h1 _)];exact this.1
    ·rw [hO' _ (h1 _) (ai hrj) (h1 _)];exact this.2
 ·by_cases e1:Id.g x n= .g i nx
  ·rw [e1] at hu;simp only [ρ',upd_same,Option.some.injEq] at hu;subst hu;exact cL hs hv
  ·simp only [ρ'] at hu;rw [ab _ _ e1] at hu;exact hs.gone x n u hu
 ·refine Eb hs (fun x=>if x= .g i nx then some j else if x=j then none else some x) (fun x d hx=> ?_) (fun x y z hx hy=> ?_)
  ·rcases dec x d hx with⟨h1,h2⟩ | ⟨h1,h2,_,h3⟩
   ·exact⟨j,by rw [if_pos h1],h2⟩
   ·exact⟨x,by rw [if_neg h1,if_neg h2],h3⟩
  ·split at hx <;> split at hy
   ·rename_i h1 h2;rw [h1,h2]
   ·split at hy
    ·cases hy
    ·simp only [Option.some.injEq] at hx hy;subst hx;rename_i h;exact(h hy).elim
   ·split at hx
    ·cases hx
    ·simp only [Option.some.injEq] at hx hy;subst hy;rename_i h;exact(h hx).elim
   ·split at hx
    ·cases hx
    ·split at hy
     ·cases hy
     ·simp only [Option.some.injEq] at hx hy;rw [hx,hy]
 ·rw [gQ]
  rcases dec x d hx with⟨_,h⟩ | ⟨_,_,_,h⟩
  ·exact hs.lt _ d h
  ·exact hs.lt _ d h
theorem HS.writeRow{i:Id}{n bk:Nat}{b:Bool}{sz col rsz nx:Nat}{es:List Row}{p:Bool×List (List T)}{ys:List (List T)}{v:Value}{cs:Array Value}(hs:HS c w h ρ O)(hi:h i=some (.rows b sz col rsz nx es))(hf:cf n es=some p)(hO:O (.g i n)=some bk)
  (hv:ρ (.g i n)=some v) (hsl:SlAt (w.setRow bk cs) (AA c (w.setRow bk cs) O) rsz p.1 ys v (fun d=>O (.g i n)=some d)):
  HS c (w.setRow bk cs) (upd h i (some (.rows b sz col rsz nx (bW n (some (p.1,ys)) es)))) ρ O:=by
 have le:Le w ρ O (w.setRow bk cs) ρ O:=ow hO _
 have hri:=hs.real (i:=i) (by rw [hi];simp)
 have other:∀x d,x≠ .g i n->O x=some d->(w.setRow bk cs).heap[d]? =w.heap[d]?:=fun x d hx hd=>setRow_other w bk d _ fun e=>hx (hs.inj x _ bk (e▸hd) hO)
 obtain⟨k,e,hk,hen,heo,hset⟩:=n9 hf
 refine hs.goG le (fun x y hx=> ?_) (fun x hr hx=> ?_) (fun x m=> ?_) (fun x m hx=> ?_) hs.gone hs.inj (fun x d hd=>by rw [gQ];exact hs.lt x d hd)
 ·by_cases e1:x=i
  ·subst e1;rw [upd_same] at hx;cases hx
   right
   obtain⟨a,cap,r1,r2,r3,⟨n1,n2,n3,n4⟩,r5⟩:=hs.blk x _ hi
   rw [hset]
   have hlen:(es.set k {e with own:=some (p.1,ys)}).length=es.length:=by simp
   have hmap:(es.set k {e with own:=some (p.1,ys)}).map (·.n)=es.map (·.n):=by
    rw [List.map_set]
    refine List.ext_getElem? fun m=> ?_
    rw [List.getElem?_set]
    split
    ·rename_i h;subst h
     have:=(List.getElem?_eq_some_iff.1 hk).1
     rw [if_pos (by simpa using this)];simp [hk]
    ·rfl
   refine⟨a,cap,by rw [hlen];exact r1,by rw [hlen];exact r2,r3,⟨by rw [hmap];exact n1,fun f hf'=> ?_,n3,fun m d hd=> ?_⟩, ?_⟩
   ·rcases List.mem_or_eq_of_mem_set hf' with hf' | rfl
    ·exact n2 f hf'
    ·exact n2 e (List.mem_of_getElem? hk)
   ·obtain⟨f,hf',hfn⟩:=n4 m d hd
    have:m∈(es.set k {e with own:=some (p.1,ys)}).map (·.n):=by rw [hmap];exact List.mem_map.2 ⟨f,hf',hfn⟩
    obtain⟨f',h1,h2⟩:=List.mem_map.1 this
    exact⟨f',h1,h2⟩
   ·rcases r5 with r5 | ⟨blk,off,arr,t,q1,q2,q3,q4,q5⟩
    ·exact .inl r5
    ·have hbk:(w.setRow bk cs).heap[blk]? =w.heap[blk]?:=other x blk (ai hri).symm q2
     refine .inr ⟨blk,off,arr,t,q1,q2,by rw [hbk];exact q3,q4, ?_⟩
     have hrow:=q5.get hk
     refine RowsAt.set (fun d hd=>le.A d hd) (List.getElem?_eq_some_iff.1 hk).1 (fun _ _ _ _=>fK hbk) (fun m f hm hf'=>⟨rfl,rfl,fun d hd=>other _ d (fun h=> ?_) hd⟩) ?_ q5
     ·simp only [Id.g.injEq] at h
      exact hm (lH n1 hf' hk (by rw [h.2,hen]))
     ·obtain⟨a1,a2,a3,u,a4,a5,a7⟩:=hrow
      refine⟨a1,a2,fun m y hm hy=> ?_,u,by rw [fK hbk];exact a4,a5, ?_⟩
      ·obtain⟨u',g1,g2⟩:=a3 m y hm hy
       exact⟨u',by rw [fK hbk];exact g1,RelT.mono (fun d hd=>le.A d hd) y u' g2⟩
      ·simp only
       rw [hen] at a5⊢
       rw [a5] at hv;cases hv
       exact hsl
  ·rw [ab _ _ e1] at hx
   have hrx:=hs.real (i:=x) (by rw [hx];simp)
   refine .inl ⟨hx,rfl,fun d hd=>other x d (ai hrx).symm hd,fun m=>⟨rfl,rfl,fun d hd=>other _ d (fun h=> ?_) hd⟩⟩
   simp only [Id.g.injEq] at h
   exact e1 h.1
 ·by_cases e1:x=i
  ·subst e1;rw [upd_same] at hx;cases hx
  ·rw [ab _ _ e1] at hx;exact hs.nodom x hr hx
 ·rw [ab _ _ (ai hri)];exact hs.nog x m
 ·by_cases e1:x=i
  ·subst e1;rw [upd_same] at hx;cases hx
  ·rw [ab _ _ e1] at hx;exact hs.gdom x m hx
theorem Ed{R:Type}{t:TypeId}{a v:AV}{va vx:Value}{K:Upd->Option R}{r:R}(hs:HS c w s.h ρ O)(ha:RelV w (AA c w O) ρ a va)(hx:RelV w (AA c w O) ρ v vx)(hk:cu P s t a v K=some r):
  ∃us w' ρ' O',K us=some r/\(Instr.storeAt t va vx).run P w= .ok () w'/\Le w ρ O w' ρ' O'/\HS c w' (ae s.h us) ρ' O':=by
 unfold cu at hk
 cases ht:az P t
 ·simp [ht] at hk
 simp only [ht,cond_true] at hk
 split at hk
 ·rename_i i off
  split at hk
  ·rename_i cs hi
   split at hk
   ·rename_i hcond
    obtain⟨c1,c2,c3⟩:=hcond
    obtain⟨b,arr,t',h1,h2,h3,h4,h5,h6⟩:=qH hs hi
    simp only [RelV] at ha
    obtain⟨b',e1,rfl⟩:=ha
    rw [h1] at e1;simp only [Option.some.injEq,Value.pointer.injEq,Addr.mk.injEq] at e1
    obtain⟨rfl,_⟩:=e1
    obtain⟨g1,g2⟩:=mr hs hx c2
    have gl:=g1.length
    have hl:=h4.length
    have hfit:off+vx.cells.toList.length<=arr.size:=by rw [gl];simp only [Array.length_toList] at hl;omega
    have run:=oT (P:=P) ht h3 (by rw [<-Array.length_toList,gl,c1]) hfit (fun u hu=>(g2 u hu).1)
    have le:Le w ρ O (w.setRow b (repl off vx.cells.toList arr.toList).toArray) ρ O:=ow h2 _
    refine⟨_,_,ρ,O,hk,by simpa [Instr.storeAt,Instr.sureAddr] using run,le, ?_⟩
    rw [bo]
    refine hs.write h2 le (fun k hk=>setRow_other w b k _ hk) _ ?_ (by rw [hi];simp)
    refine⟨b,_,t',h1,h2,setRow_heap w b arr _ t' (0,0) h3, ?_, ?_⟩
    ·have m:∀(as:List AV) (vs:List Value),RelVs w (AA c w O) ρ as vs->RelVs _ _ ρ as vs:=fun as vs hr=>RelVs.mono (fun b hb=>le.A b hb) le.rho as vs hr
     exact RelVs.repl (m _ _ h4) (m _ _ g1) off
    ·intro u hu
     simp only [repl,List.mem_append] at hu
     rcases hu with(hu | hu) | hu
     ·exact h5 u (List.mem_of_mem_take hu)
     ·exact g2 u hu
     ·exact h5 u (List.mem_of_mem_drop hu)
   ·simp at hk
  ·simp at hk
 ·rename_i i sz k off
  split at hk
  ·rename_i sz' bb xs hi
   obtain⟨l,hsn,hk⟩:=Option.bind_eq_some_iff.1 hk
   split at hk
   ·rename_i hcond
    obtain⟨rfl,c1,c2⟩:=hcond
    replace hk:=ah hk (.inl rfl);obtain⟨ys,hy,hk⟩:=hk
    have hnot:∀p∈frz s.h v,p.1≠i:=by
     intro p hp e
     have:=tV hp
     rw [e] at this
     simp only [List.contains_eq_mem,decide_eq_false_iff_not] at c2
     exact c2 this
    obtain⟨O1,le1,hs1,o1,o2,o3⟩:=HS.freezes' hs (rB (h:=s.h) v)
    obtain⟨g1,g2⟩:=rQ hs hx hsn le1 o1 o2
    have hi1:ae s.h (frz s.h v) i=some (.sl false sz' bb xs):=by rw [aY hnot];exact hi
    obtain⟨vv,q0,a',cap',q1,q2,q3,q4,q5⟩:=eY hs1 hi1
    simp only [RelV] at ha
    obtain⟨b,o,L,cap,e1,rfl⟩:=ha
    rw [q0] at e1;simp only [Option.some.injEq] at e1;subst e1
    simp only [Value.slice.injEq] at q1
    obtain⟨rfl,rfl,rfl⟩:=q1
    unfold aB at hy
    cases hkx:xs[k]? with
    | none=>simp [hkx] at hy
    | some cs=>
     simp only [hkx] at hy
     split at hy
     ·rename_i hfit0
      simp only [Option.some.injEq] at hy;subst hy
      have hlt:k < xs.length:=(List.getElem?_eq_some_iff.1 hkx).1
      rcases q5 with q5 | ⟨blk,off',arr,t',q6,q7,q8,q9,q10⟩
      ·omega
      ·simp only [Option.some.injEq,Addr.mk.injEq] at q6
       obtain⟨rfl,rfl,_⟩:=q6
       simp only [Bool.false_eq_true,if_false] at q7
       obtain⟨lcs,hcs⟩:=q10.get hkx
       have gl:=g1.length
       have hbnd:(k+1) * sz'<=cap * sz':=Nat.mul_le_mul_right _ (by omega)
       have e2:(k+1) * sz'=k * sz'+sz':=Nat.succ_mul _ _
       have hfit:o+k * sz'+off+vx.cells.toList.length<=arr.size:=by omega
       have run:=oT (P:=P) ht q8 (by rw [<-Array.length_toList,gl,c1]) hfit (fun u hu=>(g2 u hu).1)
       have le2:Le w ρ O1 (w.setRow b (repl (o+k * sz'+off) vx.cells.toList arr.toList).toArray) ρ O1:=ow q7 _
       refine⟨_,_,ρ,O1,hk,by simpa [Instr.storeAt,Instr.sureAddr] using run,le1.trans le2, ?_⟩
       rw [aO,lk hnot]
       refine hs1.write q7 le2 (fun k hk=>setRow_other w b k _ hk) _ ?_ (by rw [hi1];simp)
       refine⟨_,q0, ?_,by simp⟩
       have hl2:(xs.set k (repl off l cs)).length=xs.length:=by simp
       refine⟨some ⟨b,o,none⟩,cap,by rw [hl2],by rw [hl2];exact q2,q3,q4, .inr ⟨b,o,_,t',rfl,by simpa using q7,setRow_heap w b arr _ t' (0,0) q8, ?_, ?_⟩⟩
       ·have:=iA (o+k * sz'+off) vx.cells.toList arr.toList (by simpa using hfit)
        simp only [List.size_toArray]
        rw [this];simpa using q9
       ·have cellAt:∀p,(w.setRow b (repl (o+k * sz'+off) vx.cells.toList arr.toList).toArray).cell? ⟨b,p,none⟩=if o+k * sz'+off<=p/\p < o+k * sz'+off+vx.cells.toList.length then vx.cells.toList[p - (o+k * sz'+off)]? else w.cell? ⟨b,p,none⟩:=by
         intro p
         rw [kk q8,List.getElem?_toArray,jn _ _ _ (by simpa using hfit),du q8]
         simp
        have hA2:∀b',AA c w O1 b'->AA c (w.setRow b (repl (o+k * sz'+off) vx.cells.toList arr.toList).toArray) O1 b'/\(w.setRow b (repl (o+k * sz'+off) vx.cells.toList arr.toList).toArray).heap[b']? =w.heap[b']?:=fun b' hb'=>le2.A b' hb'
        have lrepl:(repl off l cs).length=sz':=by rw [iA off l cs hfit0,lcs]
        refine RelEls.set hA2 q10 hlt lrepl ?_ ?_
        ·refine RelAt.repl (RelAt.cells hA2 (fun j hj=> ?_) (hcs.take off)) ?_ ?_ (by omega)
         ·have lt:(cs.take off).length=off:=by rw [List.length_take];omega
          rw [lt] at hj;rw [cellAt,if_neg (by omega)]
         ·refine RelAt.of_vals (RelTs.mono hA2 _ _ g1) (fun j u hj=> ?_)
          have hj':j < vx.cells.toList.length:=(List.getElem?_eq_some_iff.1 hj).1
          rw [cellAt,if_pos (by omega)]
          rw [show o+k * sz'+off+j - (o+k * sz'+off)=j by omega];exact hj
         ·have:=hcs.drop (off+l.length)
          rw [show o+k * sz'+off+l.length=o+k * sz'+ (off+l.length) by omega]
          refine RelAt.cells hA2 (fun j hj=> ?_) this
          rw [cellAt,if_neg (by omega)]
        ·intro p h1 h2 h3
         rw [cellAt,if_neg (by omega)]
     ·simp at hy
   ·simp at hk
  ·rename_i bb sz' col rsz nx es hi
   split at hk
   ·rename_i j
    split at hk
    ·rename_i rsz' b' xs hj
     split at hk
     ·rename_i hcond
      obtain⟨rfl,rfl,rfl,c1,c2⟩:=hcond
      replace hk:=ah hk (.inl rfl);obtain⟨e,he,hk⟩:=hk
      obtain⟨a,cap,r1,r2,r3,r4,r5⟩:=hs.blk i _ hi
      simp only [RelV] at ha hx
      obtain⟨b,o,L,cap',e1,rfl⟩:=ha
      have e1':=e1
      rw [r1] at e1;simp only [Option.some.injEq,Value.slice.injEq] at e1
      obtain⟨rfl,rfl,rfl⟩:=e1
      have hlt:k < es.length:=(List.getElem?_eq_some_iff.1 he).1
      rcases r5 with r5 | ⟨blk,off',arr,t',q1,q2,q3,q4,q5⟩
      ·omega
      ·simp only [Option.some.injEq,Addr.mk.injEq] at q1
       obtain⟨rfl,rfl,_⟩:=q1
       have hone:=cL hs hx
       have hcol:=(q5.get he).2.1
       have hbnd:(k+1) * sz'<=cap * sz':=Nat.mul_le_mul_right _ (by omega)
       have e2:(k+1) * sz'=k * sz'+sz':=Nat.succ_mul _ _
       have hcells:vx.cells.toList= [vx]:=by rw [hone.2]
       have run:=oT (P:=P) (w:=w) (v:=vx) ht q3 (by rw [hone.2,c1];rfl) (off:=o+k * sz'+off) (by rw [hcells];simp;omega) (fun u hu=>by rw [hcells,List.mem_singleton] at hu;subst hu;exact hone.1)
       rw [hcells] at run
       obtain⟨ρ',O',le,hs'⟩:=hs.putRow hi hj he hx r1 rfl q2 q3 q4 rfl
       refine⟨_,_,ρ',O',hk,by simpa [Instr.storeAt,Instr.sureAddr] using run,le, ?_⟩
       rw [aO,bo]
       exact hs'
     ·simp at hk
    ·simp at hk
   ·simp at hk
  ·simp at hk
 ·rename_i i sz n k off
  split at hk
  ·rename_i b sz' col rsz nx es hi
   replace hk:=ah hk (.inl rfl);obtain⟨p,hp,hk⟩:=hk
   replace hk:=Option.bind_eq_some_iff.1 hk;obtain⟨l,hsn,hk⟩:=hk
   split at hk
   ·rename_i hcond
    obtain⟨rfl,c1,c2⟩:=hcond
    replace hk:=ah hk (.inl rfl);obtain⟨ys,hy,hk⟩:=hk
    have hnot:∀p∈frz s.h v,p.1≠i:=by
     intro p hp e
     have:=tV hp
     rw [e] at this
     simp only [List.contains_eq_mem,decide_eq_false_iff_not] at c2
     exact c2 this
    obtain⟨O1,le1,hs1,o1,o2,o3⟩:=HS.freezes' hs (rB (h:=s.h) v)
    obtain⟨g1,g2⟩:=rQ hs hx hsn le1 o1 o2
    have hi1:ae s.h (frz s.h v) i=some (.rows b sz' col rsz nx es):=by rw [aY hnot];exact hi
    obtain⟨vv,q0,q1⟩:=mF (s:=⟨s.t,ae s.h (frz s.h v)⟩) hs1 hi1 hp
    simp only [RelV] at ha
    obtain⟨bk,o,L,cap,e1,rfl⟩:=ha
    rw [q0] at e1;simp only [Option.some.injEq] at e1;subst e1
    obtain⟨cs,hOb,run,hsl⟩:=q1.put (P:=P) hy ht c1 g1 g2
    have le2:Le w ρ O1 (w.setRow bk cs) ρ O1:=ow hOb _
    refine⟨_,_,ρ,O1,hk,by simpa [Instr.storeAt,Instr.sureAddr] using run,le1.trans le2, ?_⟩
    rw [aO,lk hnot]
    exact hs1.writeRow hi1 hp hOb q0 (hsl _ _ (fun d hd=>le2.A d hd) hOb)
   ·simp at hk
  ·simp at hk
 ·simp at hk
theorem te(t:TypeId)(cells:Array Value):(newRow t cells).run P w= .ok ⟨w.heap.size,0,none⟩ (w.alloc (.cells cells t)):=by
 simp [newRow]
theorem de(o:Obj):(w.alloc o).heap[w.heap.size]? =some o:=by
 show(w.heap.push o)[w.heap.size]? =some o
 simp
theorem HS.newBox{i:Id}(hs:HS c w h ρ O)(hi:h i=none){cs:List AV}{vs:List Value}(t:TypeId)(hv:RelVs w (AA c w O) ρ cs vs)(h1:∀u∈vs,u.oneCell'=true/\u.cells= #[u])(hrl:i.real=true:=by rfl):
  Le w ρ O (w.alloc (.cells vs.toArray t)) (upd ρ i (some (.pointer (some ⟨w.heap.size,0,none⟩)))) (upd O i (some w.heap.size))/\
  HS c (w.alloc (.cells vs.toArray t)) (upd h i (some (.box cs))) (upd ρ i (some (.pointer (some ⟨w.heap.size,0,none⟩)))) (upd O i (some w.heap.size)):=by
 have le:=Le.alloc hs hrl hi (.cells vs.toArray t) (.pointer (some ⟨w.heap.size,0,none⟩)) (some w.heap.size) (.inr rfl)
 refine⟨le,hs.alloc hrl hi _ _ _ (.inr rfl) _ ⟨w.heap.size,vs.toArray,t,by simp,by simp,de _, ?_,h1⟩⟩
 exact RelVs.mono (fun b hb=>le.A b hb) le.rho _ _ hv
theorem HS.newArr{i:Id}(hs:HS c w h ρ O)(hi:h i=none){cs:List AV}{arr:Array Value}(t:TypeId)(hv:RelVs w (AA c w O) ρ cs arr.toList)(h1:∀u∈arr.toList,u.oneCell'=true/\u.cells= #[u])(hrl:i.real=true:=by rfl):
  Le w ρ O (w.alloc (.cells arr t)) (upd ρ i (some (.slice (some ⟨w.heap.size,0,none⟩) 1 1))) (upd O i (some w.heap.size))/\
  HS c (w.alloc (.cells arr t)) (upd h i (some (.arr cs))) (upd ρ i (some (.slice (some ⟨w.heap.size,0,none⟩) 1 1))) (upd O i (some w.heap.size)):=by
 have le:=Le.alloc hs hrl hi (.cells arr t) (.slice (some ⟨w.heap.size,0,none⟩) 1 1) (some w.heap.size) (.inr rfl)
 refine⟨le,hs.alloc hrl hi _ _ _ (.inr rfl) _ ⟨w.heap.size,arr,t,by simp,by simp,de _, ?_,h1⟩⟩
 exact RelVs.mono (fun b hb=>le.A b hb) le.rho _ _ hv
theorem uN{u:Value}{x:T}(e:gG u=some x):RelT w A x u:=by
 cases u <;> simp only [gG,Option.some.injEq,reduceCtorEq] at e
 case slice a l cp=>
  split at e <;> simp_all
  subst e;simp [RelT]
 case pointer a=>split at e <;> simp_all;subst e;simp [RelT]
 case map a=>split at e <;> simp_all;subst e;simp [RelT]
 all_goals (subst e;simp [RelT])
theorem gp:∀{us:List Value} {l:List T},ej us=some l->RelTs w A l us
 | [],l,e=>by simp only [ej,Option.some.injEq] at e;subst e;rfl
 | u::us,l,e=>by
  simp only [ej] at e
  obtain⟨x,h1,e⟩:=Option.bind_eq_some_iff.1 e
  obtain⟨l',h2,e⟩:=Option.bind_eq_some_iff.1 e
  simp only [Option.some.injEq] at e;subst e
  exact⟨u,us,rfl,uN h1,gp h2⟩
theorem fu{t:TypeId}{l:List T}(e:cD P t=some l):∃i z,P.info? t=some i/\i.zero=some z/\ej z.cells.toList=some l:=by
 unfold cD at e
 split at e
 ·rename_i i hi
  split at e
  ·rename_i z hz;exact⟨i,z,hi,hz,e⟩
  ·simp at e
 ·simp at e
theorem BG(off:Nat)(v cells:Array Value)(hf:off+v.size<=cells.size):(v.zipIdx.foldl (fun cs (x:Value×Nat)=>cs.setIfInBounds (off+x.2) x.1) cells).toList=repl off v.toList cells.toList:=by
 obtain⟨g1,g2⟩:=Go.Great.foldl_set off v.toList 0 cells
 have e:v.zipIdx.foldl (fun cs (x:Value×Nat)=>cs.setIfInBounds (off+x.2) x.1) cells= (v.toList.zipIdx 0).foldl (fun cs (x:Value×Nat)=>cs.setIfInBounds (off+x.2) x.1) cells:=by
  rw [<-Array.foldl_toList,Array.toList_zipIdx]
 rw [e]
 apply List.ext_getElem?
 intro p
 rw [Array.getElem?_toList,g2 p,jn off v.toList cells.toList (by simpa using hf)]
 simp only [Nat.add_zero,Array.length_toList,Array.getElem?_toList]
 by_cases hp:off<=p/\p < off+v.size
 ·rw [if_pos ⟨hp.1,hp.2,by omega⟩,if_pos hp]
 ·rw [if_neg (by omega),if_neg hp]
inductive lE (w:World) (A:Nat->Prop) (ρ:Id->Option Value) (place:Nat->Option (Nat×Nat)):List (Nat×List AV)->List (Nat×Value)->Prop
 | nil:lE w A ρ place [] []
 | cons {off:Nat} {l:List AV} {f:Nat} {v:Value} {ls:List (Nat×List AV)} {vs:List (Nat×Value)} (hp:place f=some (off,l.length)) (hr:RelVs w A ρ l v.cells.toList) (h1:∀u∈v.cells.toList,u.oneCell'=true/\u.cells= #[u])
   (rest:lE w A ρ place ls vs):lE w A ρ place ((off,l)::ls) ((f,v)::vs)
theorem vW{place:Nat->Option (Nat×Nat)}:∀{ls:List (Nat×List AV)} {vs:List (Nat×Value)} {zs out:List AV} {cells:Array Value},lE w A ρ place ls vs->kV ls zs=some out->RelVs w A ρ zs cells.toList->(∀u∈cells.toList,u.oneCell'=true/\u.cells= #[u])->
  ∃r,Instr.fill place cells vs=some r/\RelVs w A ρ out r.toList/\∀u∈r.toList,u.oneCell'=true/\u.cells= #[u]
 | [],_,zs,out,cells, .nil,hl,hz,h1=>by
  simp only [kV,Option.some.injEq] at hl;subst hl
  exact⟨cells,rfl,hz,h1⟩
 | (off,l)::ls,(f,v)::vs,zs,out,cells, .cons hp hr h1' rest,hl,hz,h1=>by
  simp only [kV] at hl
  split at hl
  ·rename_i hfit
   have lv:=hr.length
   have lz:=hz.length
   simp only [Array.length_toList] at lv lz
   have hfit':off+v.cells.size<=cells.size:=by omega
   have hrep:=BG off v.cells cells hfit'
   obtain⟨r,e1,e2,e3⟩:=vW (cells:=v.cells.zipIdx.foldl (fun cs (x:Value×Nat)=>cs.setIfInBounds (off+x.2) x.1) cells) rest hl (by
    rw [hrep];unfold repl
    rw [show v.cells.toList.length=l.length by simpa using lv]
    exact((hz.take off).append hr).append (hz.drop _)) (by
    intro u hu
    rw [hrep] at hu
    simp only [repl,List.mem_append] at hu
    rcases hu with(hu | hu) | hu
    ·exact h1 u (List.mem_of_mem_take hu)
    ·exact h1' u hu
    ·exact h1 u (List.mem_of_mem_drop hu))
   refine⟨r, ?_,e2,e3⟩
   unfold Instr.fill
   simp only [hp]
   rw [if_neg (by simp [lv];omega)]
   exact e1
  ·simp at hl
theorem xZ{t:TypeId}{f:Nat}{p:Nat×TypeId}(e:kw P t f=some p)(hok:gL P t=true):
  az P p.2=true/\((∃fs,P.underlying t=some (.struct fs)/\(fs.toList.map fun x=>(x.offset,P.cellsOf x.type))[f]? =some (p.1,P.cellsOf p.2))\/
   ∃n e,P.underlying t=some (.array n e)/\p= (f * P.cellsOf e,e)):=by
 unfold kw at e
 split at e
 ·rename_i q hq
  simp only [Option.some.injEq] at e;subst e
  obtain⟨fs,x,h1,h2,h3,h4⟩:=pT hq
  refine⟨h4, .inl ⟨fs,h1, ?_⟩⟩
  rw [List.getElem?_map,Array.getElem?_toList,h2]
  simp [h3]
 ·split at e
  ·rename_i n u hq
   simp only [Option.some.injEq] at e;subst e
   obtain⟨h1,h2⟩:=wO hq
   exact⟨h2, .inr ⟨n,u,h1,rfl⟩⟩
  ·simp at e
theorem xN{a:Act}{g:Option Gs}{t:TypeId}(hs:HS c w s.h ρ O)(ht:SS w (AA c w O) ρ s.t a.tmps)(hr:Runs a.tmps g)(hok:gL P t=true)(place:Nat->Option (Nat×Nat))
  (hplace:∀f p,kw P t f=some p->place f=some (p.1,P.cellsOf p.2)):
  ∀{ps:List (Nat×Operand)} {ls:List (Nat×List AV)},gq P t (s.get g) ps=some ls->lE w (AA c w O) ρ place ls (ps.map fun x=>(x.1,a.eval x.2))
 | [],ls,e=>by simp only [gq,Option.some.injEq] at e;subst e;exact .nil
 | (f,o)::ps,ls,e=>by
  simp only [gq] at e
  obtain⟨p,hp,e⟩:=Option.bind_eq_some_iff.1 e
  split at e
  ·rename_i hcond
   obtain⟨q,hq,e⟩:=Option.bind_eq_some_iff.1 e
   simp only [Option.some.injEq] at e;subst e
   have hv:=SS.get (h:=s.h) ht hr o
   obtain⟨g1,g2⟩:=mr hs hv hcond.2
   exact .cons (by rw [hplace f p hp,show(St.get ⟨s.t,s.h⟩ g o)=s.get g o from rfl,hcond.1]) g1 g2 (xN hs ht hr hok place hplace hq)
  ·simp at e
theorem Bo{a:Act}{g:Option Gs}{t:TypeId}{ps:Array (Nat×Operand)}{av:AV}(hs:HS c w s.h ρ O)(ht:SS w (AA c w O) ρ s.t a.tmps)(hr:Runs a.tmps g)(e:oV P t (s.get g) ps.toList=some av):
  ∃v,(Instr.build t (ps.map fun(i,x)=>(i,a.eval x))).run P w= .ok v w/\RelV w (AA c w O) ρ av v:=by
 unfold oV at e
 split at e
 ·rename_i hok
  obtain⟨z,hz,e⟩:=Option.bind_eq_some_iff.1 e
  obtain⟨l,hl,e⟩:=Option.bind_eq_some_iff.1 e
  obtain⟨cs,hcs,e⟩:=Option.bind_eq_some_iff.1 e
  simp only [Option.some.injEq] at e;subst e
  obtain⟨i,zv,hi,hzv,hof⟩:=fu hz
  have hzr:RelTs w (AA c w O) z zv.cells.toList:=gp hof
  have toL:(ps.map fun(i,x)=>(i,a.eval x)).toList=ps.toList.map fun x=>(x.1,a.eval x.2):=by simp
  have key:∀place:Nat->Option (Nat×Nat),(∀f p,kw P t f=some p->place f=some (p.1,P.cellsOf p.2))->∃r,Instr.fill place zv.cells (ps.map fun(i,x)=>(i,a.eval x)).toList=some r/\RelVs w (AA c w O) ρ cs r.toList/\∀u∈r.toList,u.oneCell'=true/\u.cells= #[u]:=by
   intro place hplace
   rw [toL]
   exact vW (xN hs ht hr hok place hplace hl) hcs (RelVs.of_ts hzr) hzr.one
  have fin:∀r:Array Value,P.built t (ps.map fun(i,x)=>(i,a.eval x)).toList=some r->RelVs w (AA c w O) ρ cs r.toList->(∀u∈r.toList,u.oneCell'=true/\u.cells= #[u])->
    ∃v,(Instr.build t (ps.map fun(i,x)=>(i,a.eval x))).run P w= .ok v w/\RelV w (AA c w O) ρ (.agg cs) v:=by
   intro r hb h1 h2
   exact⟨_,run_build w t _ r hb,by simp only [RelV];exact⟨r.toList,by simp,h1,h2⟩⟩
  cases hu:P.underlying t with
  | none=>simp [gL,hu] at hok
  | some d=>
   cases d <;> simp only [gL,hu,Bool.false_eq_true] at hok
   case struct fs=>
    have hplaces:fs.toList.mapM (fun f=>(P.info? f.type).map fun i=>(f.offset,i.size))=some (fs.toList.map fun x=>(x.offset,P.cellsOf x.type)):=by
     generalize fs.toList=l at hok
     induction l with
     | nil=>rfl
     | cons f l ih=>
      simp only [List.all_cons,Bool.and_eq_true] at hok
      obtain⟨d,hd⟩:=Option.isSome_iff_exists.1 hok.1
      obtain⟨i,hi,hsz⟩:=oU hd
      simp only [List.mapM_cons,hi,Option.map_some,Option.bind_eq_bind,Option.bind_some,ih hok.2,Option.pure_def,List.map_cons,hsz]
    obtain⟨r,e1,e2,e3⟩:=key ((fs.toList.map fun x=>(x.offset,P.cellsOf x.type)).toArray[·]?) (fun f p hp=>by
     obtain⟨_,h | ⟨n,e,h,_⟩⟩:=xZ hp (by simp [gL,hu,hok])
     ·obtain⟨fs',h1,h2⟩:=h
      rw [hu] at h1;simp only [Option.some.injEq,TypeDesc.struct.injEq] at h1;subst h1
      simpa using h2
     ·rw [hu] at h;simp at h)
    refine fin r ?_ e2 e3
    simp only [Program.built,hi,hu,hzv,hplaces];exact e1
   case array n e=>
    obtain⟨d,hd⟩:=Option.isSome_iff_exists.1 hok
    obtain⟨ie,hie,hsz⟩:=oU hd
    obtain⟨r,e1,e2,e3⟩:=key (fun i=>some (i * ie.size,ie.size)) (fun f p hp=>by
     obtain⟨_,⟨fs',h1,_⟩ | ⟨n',e',h,hpe⟩⟩:=xZ hp (by simp [gL,hu,hok])
     ·rw [hu] at h1;simp at h1
     ·rw [hu] at h;simp only [Option.some.injEq,TypeDesc.array.injEq] at h
      obtain⟨rfl,rfl⟩:=h
      subst hpe;simp [hsz])
    refine fin r ?_ e2 e3
    simp only [Program.built,hi,hu,hzv,hie];exact e1
 ·simp at e
end
open Go
section
variable {P:Program} {w w':World} {A A':Nat->Prop} {c:Ctx} {ρ:Id->Option Value} {O:Id->Option Nat} {s:St} {cc:Option Bool} {h:Id->Option Blk}
def RelLs(w:World)(A:Nat->Prop)(sz:Nat):List (List T)->List (List Value)->Prop
 | [],vss=>vss= []
 | cs::xs,vss=>∃vs r,vss=vs::r/\cs.length=sz/\RelTs w A cs vs/\RelLs w A sz xs r
theorem RelLs.mono{sz:Nat}(hA:∀b,A b->A' b/\w'.heap[b]? =w.heap[b]?):∀{xs:List (List T)} {vss:List (List Value)},RelLs w A sz xs vss->RelLs w' A' sz xs vss
 | [],_,h=>h
 | cs::xs,vss,⟨vs,r,e,h1,h2,h3⟩=>⟨vs,r,e,h1,RelTs.mono hA cs vs h2,RelLs.mono hA h3⟩
theorem RelLs.length{sz:Nat}:∀{xs:List (List T)} {vss:List (List Value)},RelLs w A sz xs vss->vss.length=xs.length/\vss.flatten.length=xs.length * sz
 | [],vss,h=>by simp only [RelLs] at h;subst h;simp
 | cs::xs,vss,⟨vs,r,e,h1,h2,h3⟩=>by
  subst e
  obtain⟨g1,g2⟩:=RelLs.length h3
  have:=h2.length
  refine⟨by simp [g1], ?_⟩
  simp only [List.flatten_cons,List.length_append,g2,this,h1,List.length_cons,Nat.succ_mul]
  omega
theorem RelLs.one{sz:Nat}:∀{xs:List (List T)} {vss:List (List Value)},RelLs w A sz xs vss->∀u∈vss.flatten,u.oneCell'=true/\u.cells= #[u]
 | [],vss,h,u,hu=>by simp only [RelLs] at h;subst h;simp at hu
 | cs::xs,vss,⟨vs,r,e,h1,h2,h3⟩,u,hu=>by
  subst e
  simp only [List.flatten_cons,List.mem_append] at hu
  rcases hu with hu | hu
  ·exact h2.one u hu
  ·exact RelLs.one h3 u hu
theorem RelLs.append{sz:Nat}:∀{xs ys:List (List T)} {vss uss:List (List Value)},RelLs w A sz xs vss->RelLs w A sz ys uss->RelLs w A sz (xs++ys) (vss++uss)
 | [],_,vss,_,h,h'=>by simp only [RelLs] at h;subst h;simpa using h'
 | cs::xs,ys,vss,uss,⟨vs,r,e,h1,h2,h3⟩,h'=>by
  subst e
  exact⟨vs,r++uss,rfl,h1,h2,RelLs.append h3 h'⟩
theorem RelEls.vals{blk sz:Nat}:∀{off:Nat} {xs:List (List T)},RelEls w A blk sz off xs->∃vss,RelLs w A sz xs vss/\∀p v,vss.flatten[p]? =some v->w.cell? ⟨blk,off+p,none⟩=some v
 | _,[],_=>⟨[],rfl,by simp⟩
 | off,cs::xs,h=>by
  simp only [RelEls] at h
  obtain⟨vs,h1,h2⟩:=h.2.1.vals
  obtain⟨r,h3,h4⟩:=RelEls.vals h.2.2
  refine⟨vs::r,⟨vs,r,rfl,h.1,h1,h3⟩,fun p v hp=> ?_⟩
  have hl:=h1.length
  rw [h.1] at hl
  rw [List.flatten_cons] at hp
  by_cases hlt:p < sz
  ·rw [List.getElem?_append_left (by omega)] at hp
   exact h2 p v hp
  ·rw [List.getElem?_append_right (by omega),hl] at hp
   have:=h4 _ v hp
   rw [show off+sz+ (p - sz)=off+p by omega] at this
   exact this
theorem RelEls.of_vals{blk sz:Nat}:∀{off:Nat} {xs:List (List T)} {vss:List (List Value)},RelLs w A sz xs vss->(∀p v,vss.flatten[p]? =some v->w.cell? ⟨blk,off+p,none⟩=some v)->RelEls w A blk sz off xs
 | _,[],_,_,_=>by simp [RelEls]
 | off,cs::xs,vss,⟨vs,r,e,h1,h2,h3⟩,hv=>by
  subst e
  have hl:=h2.length
  rw [h1] at hl
  simp only [RelEls]
  refine⟨h1,RelAt.of_vals h2 (fun j v hj=>hv j v ?_),RelEls.of_vals h3 (fun p v hp=> ?_)⟩
  ·rw [List.flatten_cons,List.getElem?_append_left (List.getElem?_eq_some_iff.1 hj).1];exact hj
  ·have:=hv (sz+p) v (by rw [List.flatten_cons,List.getElem?_append_right (by omega),hl,show sz+p - sz=p by omega];exact hp)
   rw [show off+sz+p=off+ (sz+p) by omega];exact this
theorem HS.newSl{i:Id}(hs:HS c w h ρ O)(hi:h i=none){xs:List (List T)}{vss:List (List Value)}{sz:Nat}(t:TypeId)(cells:Array Value)(cap:Nat)(hr:RelLs w (AA c w O) sz xs vss)
  (hc:∀(p:Nat) (v:Value),vss.flatten[p]? =some v->cells[p]? =some v) (hcap:xs.length<=cap) (hsz:cap * sz<=cells.size) (hrl:i.real=true:=by rfl):
  Le w ρ O (w.alloc (.cells cells t)) (upd ρ i (some (.slice (some ⟨w.heap.size,0,none⟩) xs.length cap))) (upd O i (some w.heap.size))/\
  HS c (w.alloc (.cells cells t)) (upd h i (some (.sl false sz false xs))) (upd ρ i (some (.slice (some ⟨w.heap.size,0,none⟩) xs.length cap))) (upd O i (some w.heap.size)):=by
 have le:=Le.alloc hs hrl hi (.cells cells t) (.slice (some ⟨w.heap.size,0,none⟩) xs.length cap) (some w.heap.size) (.inr rfl)
 refine⟨le,hs.alloc hrl hi _ _ _ (.inr rfl) _ ⟨_,by rw [upd_same],⟨some ⟨w.heap.size,0,none⟩,cap,rfl,hcap,by simp,trivial, .inr ⟨w.heap.size,0,cells,t,rfl,by simp,de _,by omega, ?_⟩⟩,by simp⟩⟩
 refine RelEls.of_vals (RelLs.mono (fun b hb=>le.A b hb) hr) (fun p v hp=> ?_)
 rw [du (de _),Nat.zero_add];exact hc p v hp
theorem ve{a:Act}{g:Option Gs}{e:TypeId}(hs:HS c w s.h ρ O)(ht:SS w (AA c w O) ρ s.t a.tmps)(hr:Runs a.tmps g){O':Id->Option Nat}(le:Le w ρ O w ρ O')(hO':∀i,O' i=O i\/O' i=none):
  ∀{ps:List (Nat×Operand)} {n:Nat} {q:List (List T)×Upd},cr P s.h e (s.get g) n ps=some q->(∀p∈q.2,O' p.1=none)->
   ∃vs:List Value,(ps.map fun x=>(x.1,a.eval x.2))= ((vs.zipIdx n).map fun x=>(x.2,x.1))/\RelLs w (AA c w O') (P.cellsOf e) q.1 (vs.map fun v=>v.cells.toList)/\(∀v∈vs,v.cells.size=P.cellsOf e)
 | [],n,q,hq,_=>by simp only [cr,Option.some.injEq] at hq;subst hq;exact⟨[],rfl,by simp [RelLs],by simp⟩
 | (k,o)::ps,n,q,hq,hf=>by
  simp only [cr] at hq
  obtain⟨l,hl,hq⟩:=Option.bind_eq_some_iff.1 hq
  split at hq
  ·rename_i hcond
   obtain⟨rfl,hlen⟩:=hcond
   obtain⟨q',hq',hq⟩:=Option.bind_eq_some_iff.1 hq
   simp only [Option.some.injEq] at hq;subst hq
   simp only [List.mem_append] at hf
   obtain⟨vs,e1,e2,e3⟩:=ve hs ht hr le hO' hq' (fun p hp=>hf p (.inr hp))
   have hv:=SS.get (h:=s.h) ht hr o
   obtain⟨g1,g2⟩:=rQ hs hv hl le hO' (fun p hp=>hf p (.inl hp))
   have gl:=g1.length
   refine⟨a.eval o::vs, ?_,⟨_,_,rfl,hlen,g1,e2⟩, ?_⟩
   ·simp only [List.map_cons,List.zipIdx_cons,e1]
   ·intro v hv'
    rcases List.mem_cons.1 hv' with rfl | hv'
    ·rw [<-Array.length_toList,gl,hlen]
    ·exact e3 v hv'
  ·simp at hq
theorem yu{e:TypeId}{ev:Operand->AV}:∀{ps:List (Nat×Operand)} {n:Nat} {q:List (List T)×Upd},cr P h e ev n ps=some q->FrzOk h q.2/\q.1.length=ps.length
 | [],n,q,hq=>by simp only [cr,Option.some.injEq] at hq;subst hq;exact⟨(fun p hp=>by cases hp),rfl⟩
 | (k,o)::ps,n,q,hq=>by
  simp only [cr] at hq
  obtain⟨l,hl,hq⟩:=Option.bind_eq_some_iff.1 hq
  split at hq
  ·obtain⟨q',hq',hq⟩:=Option.bind_eq_some_iff.1 hq
   simp only [Option.some.injEq] at hq;subst hq
   obtain⟨e1,e2⟩:=yu hq'
   exact⟨(rB _).append e1,by simp [e2]⟩
  ·simp at hq
theorem rF{t e:TypeId}{n:Nat}(hu:P.underlying t=some (.slice e))(hok:az P e=true)(hz:(cD P e).isSome=true)(hpos: 0 < P.cellsOf e)(hb:n<=1000/\P.cellsOf e<=1000)(vs:List Value)(hv:∀v∈vs,v.cells.size=P.cellsOf e)(hn:vs.length=n)
  (ps:Array (Nat×Value)) (hp:ps.toList= (vs.zipIdx 0).map fun x=>(x.2,x.1)):
  (Instr.buildSlice t n ps).run P w= .ok (.slice (some ⟨w.heap.size,0,none⟩) n n) (w.alloc (.cells (vs.flatMap fun v=>v.cells.toList).toArray e)):=by
 obtain⟨z,hz⟩:=Option.isSome_iff_exists.1 hz
 obtain⟨i,zv,hi,hzv,_⟩:=fu hz
 have hle:n * P.cellsOf e<=1000 * 1000:=Nat.mul_le_mul hb.1 hb.2
 have h1:¬(n * P.cellsOf e > 2 ^ 24):=by
  have h24:(2:Nat) ^ 24=16777216:=by decide
  rw [h24];omega
 have fw:=Go.Great.fill_whole hpos vs
 unfold Instr.buildSlice
 simp only [Sem.run_bind,run_underlying hu,Result.andThen_ok,cv hok,if_neg h1,Sem.run_ite]
 by_cases h0:n * P.cellsOf e=0
 ·have hn0:n=0:=by rcases Nat.mul_eq_zero.1 h0 with e | e <;> omega
  subst hn0
  have:vs= []:=List.length_eq_zero_iff.1 hn
  subst this
  simp only [Nat.zero_mul,if_true,Sem.run_pure,Result.andThen_ok]
  simp only [List.zipIdx_nil,List.map_nil] at hp
  simp [hp,Instr.fill,newRow,Array.range_zero']
 ·simp only [if_neg h0,Sem.run_bind,zeroValue,typeInfo,run_program,Result.andThen_ok,hi,Sem.run_pure,hzv]
  rw [hp,fw _ hv (by simp [hn])]
  simp [newRow]
theorem wU{t e:TypeId}{zs:List T}{n m:Int}{kn km:IntKind}(hu:P.underlying t=some (.slice e))(hz:cD P e=some zs)(hb:P.bytesOf e<=8192)(hlen:zs.length=P.cellsOf e)(h0: 0<=n)(h1:n<=m)(h2:m<=lim):
  ∃zv:Value,RelTs w A zs zv.cells.toList/\(Instr.makeSlice t (.int kn n) (.int km m)).run P w= .ok (.slice (some ⟨w.heap.size,0,none⟩) n.toNat m.toNat) (w.alloc (.cells (madeCells zv.cells (m.toNat * P.cellsOf e)) e)):=by
 obtain⟨i,zv,hi,hzv,hof⟩:=fu hz
 have hsz:P.cellsOf e=i.size:=by simp [Program.cellsOf,hi]
 have hby:P.bytesOf e=i.bytes:=by simp [Program.bytesOf,hi]
 refine⟨zv,gp hof, ?_⟩
 rw [hsz]
 refine run_make w t e i zv hu hi hzv kn km n m h0 h1 ?_ ?_
 ·rw [hby] at hb
  have:(i.bytes:Int) * m<=8192 * 4294967296:=by
   have e1:(i.bytes:Int)<=8192:=by omega
   have e2:m<=4294967296:=by simpa [lim] using h2
   calc (i.bytes:Int) * m<=8192 * m:=Int.mul_le_mul_of_nonneg_right e1 (by omega)
    _<=8192 * 4294967296:=Int.mul_le_mul_of_nonneg_left e2 (by omega)
  omega
 ·have e2:m<=4294967296:=by simpa [lim] using h2
  omega
theorem rN{zv:Array Value}{sz:Nat}(hz:zv.size=sz)(n m:Nat)(hnm:n<=m):∀(p:Nat) (v:Value),(List.replicate n zv.toList).flatten[p]? =some v->(madeCells zv (m * sz))[p]? =some v:=by
 intro p v hp
 have hlt:p < n * sz:=by
  have:=(List.getElem?_eq_some_iff.1 hp).1
  simpa [hz] using this
 have hpos: 0 < sz:=by
  rcases Nat.eq_zero_or_pos sz with e | e
  ·rw [e] at hlt;simp at hlt
  ·exact e
 have hm:n * sz<=m * sz:=Nat.mul_le_mul_right _ hnm
 have key:∀n p,p < n * sz->(List.replicate n zv.toList).flatten[p]? =zv[p % sz]?:=by
  intro n
  induction n with
  | zero=>intro p h;simp at h
  | succ n ih=>
   intro p h
   rw [List.replicate_succ,List.flatten_cons]
   by_cases hp:p < sz
   ·rw [List.getElem?_append_left (by simpa [hz] using hp),Nat.mod_eq_of_lt hp];simp
   ·rw [List.getElem?_append_right (by simp [hz];omega)]
    simp only [Array.length_toList,hz]
    have e2:(n+1) * sz=n * sz+sz:=Nat.succ_mul _ _
    rw [ih _ (by omega)]
    congr 1
    exact(Nat.mod_eq_sub_mod (by omega)).symm
 rw [key n p hlt] at hp
 have hmod:p % sz < zv.size:=by rw [hz];exact Nat.mod_lt _ hpos
 simp only [madeCells,Array.getElem?_map]
 rw [Array.getElem?_eq_getElem (by simp;omega)]
 simp only [Array.getElem_range,Option.map_some,hz]
 rw [Array.getElem?_eq_getElem hmod] at hp
 rw [getElem!_pos zv _ hmod]
 exact hp
theorem RelLs.replicate{sz:Nat}{zs:List T}{vs:List Value}(hr:RelTs w A zs vs)(hl:zs.length=sz):∀n,RelLs w A sz (List.replicate n zs) (List.replicate n vs)
 | 0=>rfl
 | n+1=>⟨vs,List.replicate n vs,rfl,hl,hr,RelLs.replicate hr hl n⟩
end
end Go.Aev
