import Derived.Test.YtcjplcpngagalaaGreatDoorBlastDownsQ1
import Derived.ChangeKeysEq
import Derived.Deep.AppendSrc
import Derived.Great.FillDense
set_option linter.all false
namespace Go.Aev
open Go Go.IntKind
section
variable {P:Program} {w:World} {A:Nat->Prop}
theorem T.eR{k:IntKind}{x:T}{n:Int}(h:x.int? k=some n):x= .int k n:=by cases x <;> simp only [T.int?,reduceCtorEq] at h;split at h <;> simp_all
theorem T.gJ{x:T}{b:Bool}(h:x.bool? =some b):x= .bool b:=by cases x <;> simp_all [T.bool?]
theorem T.iQ{x:T}{s:ByteArray}(h:x.bc =some s):x= .str s:=by cases x <;> simp_all [T.bc]
theorem T.tL{x:T}{cs:List T}(h:x.nL =some cs):x= .ptr cs:=by cases x <;> simp_all [T.nL]
theorem T.nD{sz:Nat}{x:T}{p:Bool×List (List T)}(h:x.an sz=some p):x= .ab sz p.1 p.2\/(x= .af p.1/\p.2= []):=by
 cases x <;> simp only [T.an,reduceCtorEq,Mt] at h
 case ab a b xs=>split at h <;> simp_all;subst h;simp
 case af b=>subst h;simp
theorem HK{w:World}{A:Nat->Prop}{y:T}{v:Value}(h:td y=true)(a:ay w A y v):v= .slice none 0 0:=by
 unfold td at h;split at h
 .simp only [ay] at a;rcases a with⟨_,h⟩ | ⟨h,_⟩
  .exact h
  .cases h
 .simp only [ay] at a;rcases a with⟨_,_,h⟩ | ⟨h,_⟩
  .exact h
  .cases h
 .cases h
theorem AV.jP{v:AV}{x:T}(h:v.t? =some x):v= .t x:=by cases v <;> simp_all [AV.t?]
theorem ny{d R:Type}[Inhabited d]{c:Option Bool}{m:Option d}{k:d->Option R}{r:R}(h:aa c m k=some r):
  ∃a,k a=some r/\(m=some a\/(m=none/\c=some false)):=by
 unfold aa at h;cases m with
 | some a=>exact⟨a,h, .inl rfl⟩
 | none=>cases c with
  | none=>simp at h
  | some b=>cases b with
   | true=>simp at h
   | false=>exact⟨_,h, .inr ⟨rfl,rfl⟩⟩
def p4(P:Program)(R:Value->World->Prop):Result Next->Prop
 | .ok (.value x) w'=>R x w'
 | .ok .skip w'=>R undef w'
 | .ok (.enter f args) w'=>Calls P f args w' λe a=>∃x,e= .returned x/\R x a
 | _=>False
def gF(P:Program)(o:Oper)(a:Act)(w:World)(R:Value->World->Prop):Prop:=p4 P R ((execOp a.eval o).run P w)
theorem gF.mono{o:Oper}{a:Act}{R b:Value->World->Prop}(h:gF P o a w R)(d:∀x w',R x w'->b x w'):gF P o a w b:=by
 unfold gF at *
 generalize (execOp a.eval o).run P w=r at *
 cases r with
 | ok n w'=>
  cases n <;> simp only [p4] at h⊢
  case enter=>exact h.mono λe i ⟨x,f,g⟩=>⟨x,f,d _ _ g⟩
  all_goals exact d _ _ h
 | halt x w'=>simp [p4] at h
theorem gF.wp{o:Oper}{a:Act}{R:Value->World->Prop}{K:Act->World->Prop}{Q:Exit->Act->World->Prop}(h:gF P o a w R)(b:∀x w',R x w'->K (a.put o.dst x) w'):o.wp P a w K Q:=by
 unfold gF at h;unfold Oper.wp;generalize (execOp a.eval o).run P w=r at *
 cases r with
 | ok n w'=>
  cases n <;> simp only [p4] at h <;> simp only [Oper.upon]
  case enter=>exact h.mono λe g ⟨x,d,f⟩=>by subst d;exact b _ _ f
  all_goals first | exact b _ _ h | exact h.elim
 | halt x w'=>simp [p4] at h
theorem s6{t:TypeId}{d:TypeDesc}(h:P.underlying t=some d):∃i,P.info? t=some i/\P.cellsOf t=i.size:=by
 unfold Program.underlying at h;cases a:P.info? t with
 | none=>simp [a] at h
 | some i=>exact⟨i,rfl,by simp [Program.cellsOf,a]⟩
theorem gV{t:TypeId}(h:bR P t=true)(w:World):(sizeOf t).run P w= .ok (P.cellsOf t) w:=by unfold bR at h;obtain⟨d,a⟩:=NB.1 h;obtain⟨i,b,hs⟩:=s6 a;rw [hs];simp [sizeOf,typeInfo,b]
theorem pr{t:TypeId}(h:bR P t=true)(w:World):(isAgg t).run P w= .ok (bz P t) w:=by unfold bR at h;obtain⟨d,a⟩:=NB.1 h;unfold isAgg bz;simp only [MV,run_underlying a,MH,a];cases d <;> rfl
theorem eW(k:IntKind)(n:Int)(w:World)(A:Nat->Prop):ay w A (.int k n) (.int k n):=by simp [ay]
theorem lG(b:Bool)(w:World)(A:Nat->Prop):ay w A (.bool b) (.bool b):=by simp [ay]
theorem jJ(b:ByteArray)(w:World)(A:Nat->Prop):ay w A (.str b) (.string b):=by simp [ay]
theorem Ee{R:Type}{op:BinOp}{k:IntKind}{c:Option Bool}{x y:T}{K:T->Option R}{r:R}{t:TypeId}{j l:Value}(f:c=none\/c=some true)
  (g:ay w A x j) (i:ay w A y l) (h:og op k c x y K=some r):
  ∃z m,K z=some r/\(∀w A,ay w A z m)/\(binOp op t j l).run P w= .ok m w:=by
 unfold og at h;replace h:=aL h f;obtain⟨a,n,h⟩:=h;replace h:=aL h f;obtain⟨b,o,h⟩:=h;have:=T.eR n;subst this;have:=T.eR o;subst this;simp only [ay] at g i;subst g;subst i;cases op <;> simp only [reduceCtorEq] at h
 case quo=>
  replace h:=aL h f;obtain⟨_,h0,h⟩:=h;have d:b≠0:=by intro e;simp [e] at h0
  exact⟨_,_,h,by first | exact eW _ _ | exact lG _ | exact jJ _,by simp [binOp,Op.intDiv,d]⟩
 case rem=>
  replace h:=aL h f;obtain⟨_,h0,h⟩:=h;have d:b≠0:=by intro e;simp [e] at h0
  exact⟨_,_,h,by first | exact eW _ _ | exact lG _ | exact jJ _,by simp [binOp,Op.intDiv,d]⟩
 all_goals exact⟨_,_,h,by first | exact eW _ _ | exact lG _ | exact jJ _,by simp [binOp,Op.intArith,Op.intBits,Op.intCmp]⟩
theorem LA{R:Type}{op:BinOp}{k p:IntKind}{c:Option Bool}{x y:T}{K:T->Option R}{r:R}{t:TypeId}{j l:Value}(d:c=none\/c=some true)
  (g:ay w A x j) (i:ay w A y l) (h:pE op k p c x y K=some r):
  ∃z m,K z=some r/\(∀w A,ay w A z m)/\(binOp op t j l).run P w= .ok m w:=by
 unfold pE at h;replace h:=aL h d;obtain⟨a,n,h⟩:=h;replace h:=aL h d;obtain⟨b,o,h⟩:=h;have:=T.eR n;subst this;have:=T.eR o;subst this;simp only [ay] at g i;subst g;subst i;replace h:=aL h d;obtain⟨_,h0,h⟩:=h;have f:¬b < 0:=by intro e;simp [e] at h0
 cases op <;> simp only [reduceCtorEq] at h
 all_goals exact⟨_,_,h,by first | exact eW _ _ | exact lG _ | exact jJ _,by simp [binOp,Op.shift,f]⟩
theorem LZ{R:Type}{op:BinOp}{c:Option Bool}{x y:T}{K:T->Option R}{r:R}{t:TypeId}{j k:Value}(d:c=none\/c=some true)
  (g:ay w A x j) (i:ay w A y k) (h:pK op c x y K=some r):
  ∃z l,K z=some r/\(∀w A,ay w A z l)/\(binOp op t j k).run P w= .ok l w:=by
 unfold pK at h;replace h:=aL h d;obtain⟨a,m,h⟩:=h;replace h:=aL h d;obtain⟨b,n,h⟩:=h;have:=T.iQ m;subst this;have:=T.iQ n;subst this;simp only [ay] at g i;subst g;subst i;cases op <;> simp only [reduceCtorEq] at h
 case add=>
  replace h:=aL h d;obtain⟨_,h0,h⟩:=h;have o:a.size+b.size<=4294967296:=by
   by_cases e:a.size+b.size<=4294967296
   .exact e
   .simp [e] at h0
  have f:¬(((a.size+b.size:Nat):Int) > i64.max):=by
   have:i64.max=9223372036854775807:=by decide
   rw [this];omega
  exact⟨_,_,h,by first | exact eW _ _ | exact lG _ | exact jJ _,by simp only [binOp,Op.stringOp,if_neg f];rfl⟩
 all_goals exact⟨_,_,h,by first | exact eW _ _ | exact lG _ | exact jJ _,by simp [binOp,Op.stringOp]⟩
theorem Ek{R:Type}{op:BinOp}{t ty:TypeId}{c:Option Bool}{x y:T}{K:T->Option R}{r:R}{e f:Value}(a:c=none\/c=some true)
  (b:ay w A x e) (d:ay w A y f) (h:oo P op t ty c x y K=some r):
  (op≠ .eql/\op≠ .neq)/\∃z g,K z=some r/\(∀w A,ay w A z g)/\(binOp op t e f).run P w= .ok g w:=by
 unfold oo at h;cases op <;> simp only [reduceCtorEq] at h <;> refine⟨⟨by simp,by simp⟩, ?_⟩ <;> split at h <;> first | exact Ee a b d h | exact LA a b d h | exact LZ a b d h | simp at h
theorem Mi{R:Type}{op:UnOp}{t:TypeId}{c:Option Bool}{x:T}{K:T->Option R}{r:R}{f:Value}(e:c=none\/c=some true)
  (b:ay w A x f) (h:pQ P op t c x K=some r):
  ∃z g,K z=some r/\(∀w A,ay w A z g)/\(Op.unary op f).run P w= .ok g w:=by
 unfold pQ at h;split at h
 .replace h:=aL h e;obtain⟨a,d,h⟩:=h;have:=T.eR d;subst this;simp only [ay] at b;subst b;exact⟨_,_,h,by first | exact eW _ _ | exact lG _ | exact jJ _,by simp [Op.unary,Op.intArith]⟩
 .replace h:=aL h e;obtain⟨a,d,h⟩:=h;have:=T.eR d;subst this;simp only [ay] at b;subst b;exact⟨_,_,h,by first | exact eW _ _ | exact lG _ | exact jJ _,by simp [Op.unary,Op.intBits]⟩
 .replace h:=aL h e;obtain⟨a,d,h⟩:=h;have:=T.gJ d;subst this;simp only [ay] at b;subst b;exact⟨_,_,h,by first | exact eW _ _ | exact lG _ | exact jJ _,by simp [Op.unary]⟩
 .simp at h
theorem Hh{R:Type}{d:Nat}{t:TypeId}{c:Option Bool}{x y:T}{K:Bool->Option R}{r:R}{m n:Value}(e:c=none\/c=some true)
  (f:ay w A x m) (g:ay w A y n) (h:jz P c t x y K=some r):∃b,K b=some r/\(Op.equalIn (d+1) t m n).run P w= .ok b w:=by
 unfold jz at h;split at h
 .rename_i k l;replace h:=aL h e;obtain⟨a,i,h⟩:=h;replace h:=aL h e;obtain⟨b,j,h⟩:=h;have:=T.eR i;subst this;have:=T.eR j;subst this;simp only [ay] at f g;subst f;subst g;exact⟨_,h,by simp [Op.equalIn,run_underlying l]⟩
 .rename_i l;replace h:=aL h e;obtain⟨a,i,h⟩:=h;replace h:=aL h e;obtain⟨b,j,h⟩:=h;have:=T.gJ i;subst this;have:=T.gJ j;subst this;simp only [ay] at f g;subst f;subst g;exact⟨_,h,by simp [Op.equalIn,run_underlying l]⟩
 .rename_i l;replace h:=aL h e;obtain⟨a,i,h⟩:=h;replace h:=aL h e;obtain⟨b,j,h⟩:=h;have:=T.iQ i;subst this;have:=T.iQ j;subst this;simp only [ay] at f g;subst f;subst g;exact⟨_,h,by simp [Op.equalIn,run_underlying l]⟩
 .simp at h
theorem vV{R:Type}{c:Option Bool}(d:List TypeId):∀(ts:List TypeId) (xs a:List T) (K:Bool->Option R),
  dD P c (ts++d) xs a K=dD P c ts (xs.take ts.length) (a.take ts.length) (λq=>dD P c d (xs.drop ts.length) (a.drop ts.length) λe=>K (q && e))
 | [],xs,a,K=>by simp [dD]
 | t::ts,[],a,K=>by simp [dD]
 | t::ts,x::xs,[],K=>by simp [dD]
 | t::ts,x::xs,y::a,K=>by simp only [Nu,ME,OS,List.drop_succ_cons,dD];congr 1;funext b;rw [vV d ts xs a];simp only [Bool.and_assoc]
theorem aQ.take{cs:List T}{vs:List Value}(h:aQ w A cs vs):∀n,aQ w A (cs.take n) (vs.take n):=by
 intro n;induction n generalizing cs vs with
 | zero=>simp [aQ]
 | succ n d=>
  cases cs with
  | nil=>simp only [aQ] at h;subst h;simp [aQ]
  | cons c cs=>obtain⟨v,r,rfl,a,b⟩:=h;exact⟨v,r.take n,rfl,a,d b⟩
theorem aQ.drop{cs:List T}{vs:List Value}(h:aQ w A cs vs):∀n,aQ w A (cs.drop n) (vs.drop n):=by
 intro n;induction n generalizing cs vs with
 | zero=>simpa using h
 | succ n b=>
  cases cs with
  | nil=>simp only [aQ] at h;subst h;simp [aQ]
  | cons c cs=>obtain⟨v,r,rfl,d,a⟩:=h;exact b a
end
open Go Go.IntKind
section
variable {P:Program} {w:World} {A:Nat->Prop}
def iT(P:Program)(t:TypeId)(vs:List Value):Value:=if bz P t=true then .agg vs.toArray else vs.headD undef
theorem rv{t:TypeId}(b:bR P t=true)(xs:Array Value)(off:Nat)(d:bz P t=false->P.cellsOf t=1)(e:off+P.cellsOf t<=xs.size)(w:World):
  (part t xs off).run P w= .ok (iT P t ((xs.toList.drop off).take (P.cellsOf t))) w:=by
 unfold part iT;simp only [MV,pr b,MH];cases f:bz P t
 .simp only [MZ,if_false];rw [d f] at e⊢;have a:off < xs.size:=by omega
  have:xs[off]? =some xs[off]:=N7 a;rw [this];have hl:off < xs.toList.length:=by simpa using a
  rw [Ov hl];simp
 .simp only [if_true,MV,gV b,MH,M6];congr 2;apply N4;simp [Pb,OT]
theorem aQ.part{xs:List T}{vs:List Value}(h:aQ w A xs vs)(off n:Nat):aQ w A ((xs.drop off).take n) ((vs.drop off).take n):=(h.drop off).take n
theorem oM{R:Type}{c:Option Bool}(a:c=none\/c=some true):∀{ts:List TypeId} {xs d:List T} {K:Bool->Option R} {r:R},dD P c ts xs d K=some r->xs.length=ts.length/\d.length=ts.length
 | [],[],[],_,_,_=>⟨rfl,rfl⟩
 | t::ts,x::xs,y::d,K,r,h=>by
  simp only [dD] at h;have:∃b,dD P c ts xs d (λr=>K (b && r))=some r:=by
   unfold jz at h;split at h
   .replace h:=aL h a;obtain⟨_,_,h⟩:=h;replace h:=aL h a;obtain⟨_,_,h⟩:=h;exact⟨_,h⟩
   .replace h:=aL h a;obtain⟨_,_,h⟩:=h;replace h:=aL h a;obtain⟨_,_,h⟩:=h;exact⟨_,h⟩
   .replace h:=aL h a;obtain⟨_,_,h⟩:=h;replace h:=aL h a;obtain⟨_,_,h⟩:=h;exact⟨_,h⟩
   .simp at h
  obtain⟨b,g⟩:=this;obtain⟨e,f⟩:=oM a g;simp [e,f]
 | [],[],_::_,_,_,h=>by simp [dD] at h
 | [],_::_,_,_,_,h=>by simp [dD] at h
 | _::_,[],_,_,_,h=>by simp [dD] at h
 | _::_,_::_,[],_,_,h=>by simp [dD] at h
theorem nu{n:Nat}{t:TypeId}{ts:List TypeId}(h:eC P n t=some ts):bR P t=true:=by
 cases n with
 | zero=>simp [eC] at h
 | succ n=>
  simp only [eC] at h;unfold bR;cases a:P.underlying t with
  | none=>simp [a] at h
  | some d=>rfl
theorem AS{n:Nat}{t:TypeId}{ts:List TypeId}(h:eC P n t=some ts)(a:bz P t=false):ts= [t]:=by
 cases n with
 | zero=>simp [eC] at h
 | succ n=>
  simp only [eC] at h;unfold bz at a;cases b:P.underlying t with
  | none=>simp [b] at h
  | some d=>cases d <;> simp_all
def uF(P:Program)(w:World)(A:Nat->Prop)(n:Nat):Prop:= ∀(t:TypeId) (ts:List TypeId),eC P n t=some ts->∀(d:Nat),n<=d->
 ∀(R:Type) (c:Option Bool),c=none\/c=some true->∀(xs f:List T) (a e:List Value) (K:Bool->Option R) (r:R),aQ w A xs a->aQ w A f e->dD P c ts xs f K=some r->
  ∃b,K b=some r/\(Op.equalIn d t (iT P t a) (iT P t e)).run P w= .ok b w
theorem AH{n d:Nat}(B:uF P w A n)(z:n<=d){X Y:Array Value}{R:Type}{c:Option Bool}(i:c=none\/c=some true):
  ∀(e:List Field) (off:Nat) (ts:List TypeId),oS P (eC P n) e off=some ts->∀(xs o:List T) (K:Bool->Option R) (r:R),aQ w A xs (X.toList.drop off)->aQ w A o (Y.toList.drop off)->
   dD P c ts xs o K=some r->∃b,K b=some r/\(Op.eqFields d X Y e).run P w= .ok b w
 | [],off,ts,h,xs,o,K,r,k,m,a=>by simp only [oS,Mt] at h;subst h;obtain⟨F,G⟩:=oM i a;have:=MW.1 F;subst this;have:=MW.1 G;subst this;exact⟨true,by simpa [dD] using a,by simp [Op.eqFields]⟩
 | f::e,off,ts,h,xs,o,K,r,k,m,a=>by
  simp only [oS] at h;by_cases j:f.offset=off/\f.name≠ "_"
  .rw [if_pos j] at h;cases hl:eC P n f.type with
   | none=>simp [hl] at h
   | some l=>
    simp only [hl,Mw] at h;by_cases g:P.cellsOf f.type=l.length/\0 < l.length
    .rw [if_pos g] at h;obtain⟨hs,I⟩:=g;cases u:oS P (eC P n) e (off+l.length) with
     | none=>simp [u] at h
     | some q=>
      simp only [u,Mw,Mt] at h;subst h;obtain⟨J,L⟩:=oM i a;simp only [Ny] at J L;rw [vV] at a;obtain⟨v,x,D⟩:=B f.type l hl d z R c i _ _ _ _ _ _ (k.take l.length) (m.take l.length) a;have p:=k.drop l.length;have t:=m.drop l.length;rw [Pj] at p t;obtain⟨C,y,E⟩:=AH B z i e (off+l.length) q u _ _ _ _ p t x;have sx:=k.length;have M:=m.length;simp only [NH,M1] at sx M;have one:bz P f.type=false->P.cellsOf f.type=1:=λH=>by rw [hs,AS hl H];rfl
      refine⟨v && C,y, ?_⟩;simp only [Op.eqFields,ne_eq,j.2,not_false_eq_true,if_true,MV];rw [j.1,rv (nu hl) X off one (by rw [hs];omega) w];simp only [MH];rw [rv (nu hl) Y off one (by rw [hs];omega) w];simp only [MH,hs,D];cases v
      .simp
      .simp [E]
    .rw [if_neg g] at h;simp at h
  .rw [if_neg j] at h;simp at h
theorem AI{n d:Nat}(D:uF P w A n)(C:n<=d){X Y:Array Value}{R:Type}{c:Option Bool}(i:c=none\/c=some true){e:TypeId}{l:List TypeId}(hl:eC P n e=some l)(hs:P.cellsOf e=l.length):
  ∀(m k:Nat) (xs p:List T) (K:Bool->Option R) (r:R),aQ w A xs (X.toList.drop (k * P.cellsOf e))->aQ w A p (Y.toList.drop (k * P.cellsOf e))->
   dD P c (List.replicate m l).flatten xs p K=some r->∃b,K b=some r/\(Op.eqItems d e (P.cellsOf e) X Y (List.range' k m)).run P w= .ok b w
 | 0,k,xs,p,K,r,j,o,a=>by obtain⟨F,G⟩:=oM i a;have:=MW.1 F;subst this;have:=MW.1 G;subst this;exact⟨true,by simpa [dD] using a,by simp [Op.eqItems]⟩
 | m+1,k,xs,p,K,r,j,o,a=>by
  simp only [NV,NY] at a;obtain⟨I,J⟩:=oM i a;simp only [Ny] at I J;rw [vV] at a;obtain⟨g,B,f⟩:=D e l hl d C R c i _ _ _ _ _ _ (j.take l.length) (o.take l.length) a;have t:=j.drop l.length;have u:=o.drop l.length;have H:k * P.cellsOf e+l.length= (k+1) * P.cellsOf e:=by rw [hs,Nr]
  rw [Pj,H] at t u;obtain⟨z,q,v⟩:=AI D C i hl hs m (k+1) _ _ _ _ t u B;have sx:=j.length;have E:=o.length;simp only [NH,M1] at sx E;have one:bz P e=false->P.cellsOf e=1:=λy=>by rw [hs,AS hl y];rfl
  by_cases h0:l.length=0
  ·
   refine⟨g && z,q, ?_⟩;have x:bz P e=true:=by
    cases y:bz P e
    .have:=one y;omega
    .rfl
   have L:∀(Z:Array Value) (w:World),(part e Z (k * P.cellsOf e)).run P w= .ok (iT P e []) w:=by intro Z w;unfold part iT;simp only [MV,pr (nu hl),MH,x,if_true,gV (nu hl),M6,hs,h0];simp
   simp only [OM,Op.eqItems,MV,L,MH];rw [h0] at f;simp only [Pv] at f;rw [f];cases g
   .simp
   .simp [v]
  .refine⟨g && z,q, ?_⟩;simp only [OM,Op.eqItems,MV];rw [rv (nu hl) X _ one (by rw [hs] at sx⊢;omega) w];simp only [MH];rw [rv (nu hl) Y _ one (by rw [hs] at E⊢;omega) w];simp only [MH,hs];rw [hs] at f v;simp only [f,MH];cases g
   .simp
   .simp [v]
theorem vX:∀n,uF P w A n
 | 0=>by intro t ts h;simp [eC] at h
 | n+1=>by
  intro t ts h d Y R c k xs o V W K r B C j;obtain⟨d,rfl⟩:∃N,d=N+1:=⟨d - 1,by omega⟩;have M:=vX n;simp only [eC] at h;have a:bz P t=false->ts= [t]->∃b,K b=some r/\(Op.equalIn (d+1) t (iT P t V) (iT P t W)).run P w= .ok b w:=by
   intro T L;subst L;obtain⟨D,E⟩:=oM k j;cases xs with
   | nil=>simp at D
   | cons x xs=>cases o with
    | nil=>simp at E
    | cons y o=>simp only [ME,MS,Nc,Nat.add_eq_right,MW] at D E;subst D;subst E;obtain⟨v,q,rfl,Q,hq⟩:=B;obtain⟨u,p,rfl,S,Z⟩:=C;simp only [dD,NK] at j;simpa [iT,T] using Hh (d:=d) k Q S j
  cases f:P.underlying t with
  | none=>simp [f] at h
  | some ds=>
   cases ds <;> simp only [f,reduceCtorEq,Mt] at h
   case int=>exact a (by simp [bz,f]) h.symm
   case bool=>exact a (by simp [bz,f]) h.symm
   case string=>exact a (by simp [bz,f]) h.symm
   case struct F=>
    split at h
    .simp at h
    .rename_i J;have g:bz P t=true:=by simp [bz,f]
     have H:P.underlying t=some (.struct (P.fieldsOf t)):=by simp [Program.fieldsOf,f]
     have I:P.fieldsOf t=F:=by simp [Program.fieldsOf,f]
     simp only [iT,g,if_true];rw [run_equalIn_struct w d t _ _ H (by simpa using J),I];exact AH M (by omega) k F.toList 0 ts h xs o K r (by simpa using B) (by simpa using C) j
   case array m e=>
    cases hl:eC P n e with
    | none=>simp [hl] at h
    | some l=>
     simp only [hl,Mw] at h;split at h
     .rename_i hs;simp only [Mt] at h;subst h;have g:bz P t=true:=by simp [bz,f]
      have z:=nu hl;unfold bR at z;obtain⟨X,G⟩:=NB.1 z;obtain⟨i,U,_⟩:=s6 G;simp only [iT,g,if_true];rw [run_equalIn_array w d _ _ f U,Pc];exact AI M (by omega) k hl hs m 0 xs o K r (by simpa using B) (by simpa using C) j
     .simp at h
theorem Ay{R:Type}{ρ:Id->Option Value}{t:TypeId}{c:Option Bool}{x y:AV}{K:Bool->Option R}{r:R}{v z:Value}(l:c=none\/c=some true)
  (f:aj w A ρ x v) (g:aj w A ρ y z) (h:nn P c t x y K=some r) (B C:Operand):
  ∃b,K b=some r/\((eqGuard .eql t B C v z).run P w= .ok () w/\(binOp .eql t v z).run P w= .ok (.bool b) w)/\((eqGuard .neq t B C v z).run P w= .ok () w/\(binOp .neq t v z).run P w= .ok (.bool (!b)) w):=by
 unfold nn at h;split at h
 .rename_i x y;simp only [aj] at f g;cases p:wD P t
  .simp only [p,cond_false] at h;have d:=h;unfold jz at d;split at d
   .rename_i k u;replace d:=aL d l;obtain⟨a,o,d⟩:=d;replace d:=aL d l;obtain⟨b,j,d⟩:=d;have:=T.eR o;subst this;have:=T.eR j;subst this;simp only [ay] at f g;subst f;subst g;exact⟨_,d,⟨by simp [eqGuard],by simp [binOp,Op.intCmp]⟩,⟨by simp [eqGuard],by simp [binOp,Op.intCmp,bne]⟩⟩
   .rename_i u;replace d:=aL d l;obtain⟨a,o,d⟩:=d;replace d:=aL d l;obtain⟨b,j,d⟩:=d;have:=T.gJ o;subst this;have:=T.gJ j;subst this;simp only [ay] at f g;subst f;subst g;exact⟨_,d,⟨by simp [eqGuard],run_eql_bool w t a b u⟩,⟨by simp [eqGuard],run_neq_bool w t a b u⟩⟩
   .rename_i u;simp [wD,u] at p
   .simp at d
  .simp only [p,cond_true] at h;replace h:=aL h l;obtain⟨a,o,h⟩:=h;replace h:=aL h l;obtain⟨b,j,h⟩:=h;have:=T.iQ o;subst this;have:=T.iQ j;subst this;simp only [ay] at f g;subst f;subst g;exact⟨_,h,⟨by simp [eqGuard],by simp [binOp,Op.stringOp]⟩,⟨by simp [eqGuard],by simp [binOp,Op.stringOp]⟩⟩
 .rename_i xs J;cases m:(P.eqGuardType P.depth t || !bz P t)
  .simp only [m,cond_false] at h;simp only [N9,Ol] at m;obtain⟨m,E⟩:=m;cases i:dz xs with
   | none=>simp [i] at h
   | some F=>
    cases n:dz J with
    | none=>simp [i,n] at h
    | some G=>
     cases q:eC P 8 t with
     | none=>simp [i,n,q] at h
     | some ts=>simp only [i,n,q,Mw] at h;simp only [aj] at f g;obtain⟨H,rfl,f,_⟩:=f;obtain⟨I,rfl,g,_⟩:=g;have D:bz P t=true:=E;obtain⟨b,j,e⟩:=vX 8 t ts q 10000 (by omega) R c l F G H I K r (aQ.jf i f) (aQ.jf n g) h;simp only [iT,D,if_true] at e;exact⟨b,j,⟨run_eqGuard_agg w .eql t B C _ _ m,by rw [run_eql_struct,e];rfl⟩,⟨run_eqGuard_agg w .neq t B C _ _ m,by rw [run_neq_struct,e];rfl⟩⟩
  .simp [m] at h
 .simp at h
end
open Go Go.IntKind
section
variable {P:Program} {w w':World} {A A':Nat->Prop} {c:Ctx} {ρ:Id->Option Value} {O:Id->Option Nat} {s:St} {cc:Option Bool}
theorem fx(b o j:Nat):(⟨b,o,none⟩:Addr).add j= ⟨b,o+j,none⟩:=by
 unfold Addr.add;split
 .rename_i h;subst h;rfl
 .rfl
theorem aY.bf{ae:Nat}:∀{off:Nat} {cs:List T},aY w A ae off cs->∃vs,aQ w A cs vs/\∀j v,vs[j]? =some v->w.cell? ⟨ae,off+j,none⟩=some v
 | _,[],_=>⟨[],rfl,by simp⟩
 | off,x::cs,h=>by
  simp only [aY] at h;obtain⟨⟨v,i,g⟩,b⟩:=h;obtain⟨vs,d,f⟩:=aY.bf b;refine⟨v::vs,⟨v,vs,rfl,g,d⟩, ?_⟩;intro j u a;cases j with
  | zero=>simp at a;subst a;exact i
  | succ j=>
   have:=f j u (by simpa using a);have e:off+1+j=off+ (j+1):=by omega
   rw [e] at this;exact this
theorem aQ.one:∀{cs:List T} {vs:List Value},aQ w A cs vs->∀u∈vs,u.oneCell'=true/\u.cells= #[u]
 | [],vs,h,u,hu=>by simp only [aQ] at h;subst h;cases hu
 | x::cs,vs,⟨v,r,e,a,b⟩,u,hu=>by
  subst e;rcases MN.1 hu with rfl | hu
  .exact a.nH
  .exact aQ.one b u hu
theorem uu{R:Type}(b:cc=none\/cc=some true):∀{n:Nat} {cs:List T} {K:List T->Option R} {r:R},mH cc n cs K=some r->∃l,l=cs.take n/\l.length=n/\K l=some r
 | 0,cs,K,r,h=>⟨[],by simp,rfl,h⟩
 | n+1,cs,K,r,h=>by
  simp only [mH] at h;replace h:=aL h b;obtain⟨x,a,h⟩:=h;obtain⟨l,d,e,f⟩:=uu b h;cases cs with
  | nil=>simp at a
  | cons y cs=>simp only [NG,Mt] at a;subst a;exact⟨y::l,by simp [d],by simp [e],f⟩
theorem xP:∀{n:Nat} {cs l:List AV},kJ n cs=some l->l=cs.take n/\l.length=n
 | 0,cs,l,h=>by simp only [kJ,Mt] at h;subst h;simp
 | n+1,[],l,h=>by simp [kJ] at h
 | n+1,x::cs,l,h=>by
  simp only [kJ] at h;cases a:kJ n cs with
  | none=>simp [a] at h
  | some q=>simp only [a,Mw,Mt] at h;subst h;obtain⟨b,d⟩:=xP a;exact⟨by simp [b],by simp [d]⟩
theorem xy{t:TypeId}(a:bR P t=true)(d:bz P t=true)(b off:Nat)(vs:List Value)(hl:vs.length=P.cellsOf t)(h:∀j v,vs[j]? =some v->w.cell? ⟨b,off+j,none⟩=some v):
  (loadVar t ⟨b,off,none⟩).run P w= .ok (.agg vs.toArray) w:=by
 unfold loadVar;simp only [MV,pr a,MH,d,if_true,gV a,<-hl];rw [run_loadCells_list w ⟨b,off,none⟩ vs (λj v e=>by rw [fx];exact h j v e)];rfl
theorem tZ{t:TypeId}(d:bR P t=true)(a:bz P t=false)(b off:Nat)(v:Value)(h:w.cell? ⟨b,off,none⟩=some v):
  (loadVar t ⟨b,off,none⟩).run P w= .ok v w:=by
 unfold loadVar;simp only [MV,pr d,MH,a,MZ,if_false];rw [run_load,h]
theorem mI{R:Type}{k:Ck}{x:T}{v:Value}{K:T->Option R}{r:R}(e:cc=none\/cc=some true)(a:ay w A x v)(h:dX k cc x K=some r):
  ∃y,K y=some r/\ay w A y v:=by
 unfold dX at h;cases k with
 | i k=>simp only at h;replace h:=aL h e;obtain⟨n,d,h⟩:=h;rw [T.eR d] at a;exact⟨_,h,a⟩
 | b=>simp only at h;replace h:=aL h e;obtain⟨n,d,h⟩:=h;rw [T.gJ d] at a;exact⟨_,h,a⟩
 | s=>simp only at h;replace h:=aL h e;obtain⟨n,d,h⟩:=h;rw [T.iQ d] at a;exact⟨_,h,a⟩
 | l sz=>
  simp only at h;replace h:=aL h e;obtain⟨p,j,h⟩:=h;refine⟨_,h, ?_⟩;rcases T.nD j with rfl | ⟨rfl,g⟩
  .exact a
  .rw [g];simp only [ay] at a⊢;rcases a with⟨f,rfl⟩ | ⟨f,ae,off,sp,rfl⟩
   .exact .inl ⟨f,trivial,rfl⟩
   .exact .inr ⟨f,ae,off,sp,0,rfl,by simp, .inl trivial,trivial⟩
 | x=>exact⟨_,h,a⟩
theorem rE{R:Type}(d:cc=none\/cc=some true):∀{ks:List Ck} {xs:List T} {vs:List Value} {K:List T->Option R} {r:R},aQ w A xs vs->dR cc ks xs K=some r->
  ∃b,K b=some r/\aQ w A b vs
 | [],xs,vs,K,r,a,h=>⟨_,h,a⟩
 | _::_,[],vs,K,r,a,h=>⟨_,h,a⟩
 | k::ks,x::xs,vs,K,r,a,h=>by obtain⟨v,q,rfl,g,i⟩:=a;simp only [dR] at h;obtain⟨y,h,e⟩:=mI d g h;obtain⟨b,h,f⟩:=rE d i h;exact⟨_,h,⟨v,q,rfl,e,f⟩⟩
theorem L6{R:Type}{k:Ck}{x:T}{K:T->Option R}{r:R}(d:cc=none\/cc=some true)(h:dX k cc x K=some r):
  ∃y,K y=some r/\∀(w:World) (A:Nat->Prop) (v:Value),ay w A x v->ay w A y v:=by
 have e:dX k cc x K= (dX k cc x some).bind K:=by rw [lO];rfl
 rw [e] at h;obtain⟨y,f,h⟩:=Mu.1 h;refine⟨y,h,λw A v a=> ?_⟩;obtain⟨z,b,a⟩:=mI d a f;simp only [Mt] at b;subst b;exact a
theorem L7{R:Type}{ks:List Ck}{xs:List T}{K:List T->Option R}{r:R}(d:cc=none\/cc=some true)(h:dR cc ks xs K=some r):
  ∃y,K y=some r/\∀(w:World) (A:Nat->Prop) (vs:List Value),aQ w A xs vs->aQ w A y vs:=by
 have e:dR cc ks xs K= (dR cc ks xs some).bind K:=by rw [pP];rfl
 rw [e] at h;obtain⟨y,f,h⟩:=Mu.1 h;refine⟨y,h,λw A v a=> ?_⟩;obtain⟨z,b,a⟩:=rE d a f;simp only [Mt] at b;subst b;exact a
theorem L9{R:Type}{t:TypeId}{v:AV}{K:AV->Option R}{r:R}(b:cc=none\/cc=some true)(h:kK P cc t v K=some r):
  ∃y,K y=some r/\∀(w:World) (A:Nat->Prop) (ρ:Id->Option Value) (u:Value),aj w A ρ v u->aj w A ρ y u:=by
 unfold kK at h;split at h
 .obtain⟨y,h,g⟩:=L6 b h;exact⟨_,h,λw A ρ u a=>by simp only [aj] at a⊢;exact g w A u a⟩
 .rename_i vs;split at h
  .rename_i l hl;obtain⟨y,h,g⟩:=L7 b h;refine⟨_,h,λw A ρ u a=> ?_⟩;simp only [aj] at a⊢;obtain⟨d,e,f,i⟩:=a;exact⟨d,e,az.jH (g w A d (aQ.jf hl f)),i⟩
  .exact⟨_,h,λw A ρ u a=>a⟩
 .exact⟨_,h,λw A ρ u a=>a⟩
theorem uy{R:Type}(b:cc=none\/cc=some true):∀{ts:List TypeId} {vs:List AV} {K:List AV->Option R} {r:R},gY P cc ts vs K=some r->
  ∃y,K y=some r/\∀(w:World) (A:Nat->Prop) (ρ:Id->Option Value) (us:List Value),az w A ρ vs us->az w A ρ y us
 | [],vs,K,r,h=>⟨_,h,λw A ρ u a=>a⟩
 | _::_,[],K,r,h=>⟨_,h,λw A ρ u a=>a⟩
 | t::ts,v::vs,K,r,h=>by simp only [gY] at h;obtain⟨y,h,d⟩:=L9 b h;obtain⟨j,h,f⟩:=uy b h;refine⟨_,h,λw A ρ us a=> ?_⟩;simp only [az] at a⊢;obtain⟨u,q,e,g,i⟩:=a;exact⟨u,q,e,d w A ρ u g,f w A ρ q i⟩
theorem tq{R:Type}{t:TypeId}(n:bR P t=true){b off:Nat}{cs:List T}{K:AV->Option R}{r:R}(e:cc=none\/cc=some true)(B:aY w A b off cs)(h:jd P t cc cs K=some r):
  ∃i v,K i=some r/\(loadVar t ⟨b,off,none⟩).run P w= .ok v w/\aj w A ρ i v:=by
 obtain⟨vs,k,m⟩:=B.bf;unfold jd at h;cases d:bz P t
 .simp only [d,cond_false] at h;replace h:=aL h e;obtain⟨x,g,h⟩:=h;cases cs with
  | nil=>simp at g
  | cons y cs=>simp only [NG,Mt] at g;subst g;obtain⟨v,q,rfl,a,_⟩:=k;obtain⟨z,h,a⟩:=mI e a h;exact⟨_,v,h,tZ n d b off v (by simpa using m 0 v rfl),by simpa [aj] using a⟩
 .simp only [d,cond_true] at h;obtain⟨l,hl,u,h⟩:=uu e h;have a:=k.take (P.cellsOf t);rw [<-hl] at a;have o:=a.length;obtain⟨C,h,p⟩:=rE e a h;refine⟨_,_,h,xy n d b off _ (by rw [o,u]) (λj v f=>m j v ?_), ?_⟩
  .rw [OV] at f;split at f
   .exact f
   .cases f
  .simp only [aj];exact⟨_,rfl,az.jH p,a.one⟩
theorem H3{R:Type}{t:TypeId}(m:bR P t=true){b off:Nat}{cs:List AV}{vs:List Value}{K:AV->Option R}{r:R}(g:az w A ρ cs vs)(n:∀u∈vs,u.oneCell'=true/\u.cells= #[u])
  (k:∀j v,vs[j]? =some v->w.cell? ⟨b,off+j,none⟩=some v) (h:kB P t cs K=some r):
  ∃i v,K i=some r/\(loadVar t ⟨b,off,none⟩).run P w= .ok v w/\aj w A ρ i v:=by
 unfold kB at h;cases d:bz P t
 .simp only [d,cond_false] at h;cases cs with
  | nil=>simp at h
  | cons y cs=>simp only [NG,Mw] at h;simp only [az] at g;obtain⟨v,q,rfl,a,_⟩:=g;exact⟨_,v,h,tZ m d b off v (by simpa using k 0 v rfl),a⟩
 .simp only [d,cond_true] at h;cases f:kJ (P.cellsOf t) cs with
  | none=>simp [f] at h
  | some l=>
   simp only [f,Mw] at h;obtain⟨hl,p⟩:=xP f;have a:=g.take (P.cellsOf t);rw [<-hl] at a;have o:=a.length;refine⟨_,_,h,xy m d b off _ (by rw [o,p]) (λj v e=>k j v ?_), ?_⟩
   .rw [OV] at e;split at e
    .exact e
    .cases e
   .simp only [aj];exact⟨_,rfl,a,λu x=>n u (Ow x)⟩
theorem uU{i:Id}{cs:List AV}(hs:HS c w s.h ρ O)(k:s.h i=some (.box cs)):∃b arr t,ρ i=some (.pointer (some ⟨b,0,none⟩))/\O i=some b/\w.heap[b]? =some (.cells arr t (0,0))/\
  az w (AA c w O) ρ cs arr.toList/\(∀u∈arr.toList,u.oneCell'=true/\u.cells= #[u])/\∀j v,arr.toList[j]? =some v->w.cell? ⟨b,j,none⟩=some v:=by
 obtain⟨b,arr,t,d,e,a,f,g⟩:=hs.ae i _ k;refine⟨b,arr,t,d,e,a,f,g,λj v l=> ?_⟩;simp only [World.cell?,a];simpa using l
theorem nQ{i:Id}{fz b:Bool}{sz:Nat}{l:List (List T)}(hs:HS c w s.h ρ O)(e:s.h i=some (.sl fz sz b l)):∃v,ρ i=some v/\cz w (AA c w O) sz b l v (λae=>if fz=true then AA c w O ae else O i=some ae):=by obtain⟨v,a,d,_⟩:=hs.ae i _ e;exact⟨v,a,d⟩
theorem cg.get{i:Id}{ae sz col rsz:Nat}:∀{es:List Row} {base k:Nat} {e:Row},cg w A ρ O i ae sz col rsz base es->es[k]? =some e->gG w A ρ O i ae sz col rsz (base+k * sz) e
 | [],_,_,_,_,h=>by simp at h
 | x::es,base,0,e,a,h=>by simp only [Ob,Mt] at h;subst h;simpa using a.1
 | x::es,base,k+1,e,a,h=>by have:=cg.get a.2 (k:=k) (by simpa using h);rw [show base+ (k+1) * sz=base+sz+k * sz by rw [Nr];omega];exact this
theorem cg.own{i:Id}{ae sz col rsz n:Nat}{p:Bool×List (List T)}:∀{es:List Row} {base:Nat},cg w A ρ O i ae sz col rsz base es->cq n es=some p->∃v,ρ (.g i n)=some v/\cz w A rsz p.1 p.2 v (λb=>O (.g i n)=some b)
 | [],_,_,h=>by simp [cq] at h
 | e::es,base,f,h=>by
  unfold cq at h;split at h
  .rename_i en;obtain⟨_,_,_,v,_,d,a⟩:=f.1;rw [h] at a;rw [en] at d a;exact⟨v,d,a⟩
  .exact cg.own f.2 h
theorem tX{i:Id}{b:Bool}{sz col rsz j n:Nat}{es:List Row}{p:Bool×List (List T)}(hs:HS c w s.h ρ O)(f:s.h i=some (.rows b sz col rsz j es))(e:cq n es=some p):
  ∃v,ρ (.g i n)=some v/\cz w (AA c w O) rsz p.1 p.2 v (λb=>O (.g i n)=some b):=by
 obtain⟨a,cap,l,m,o,q,d⟩:=hs.ae i _ f;rcases d with d | ⟨ae,off,arr,t,r,u,x,y,k⟩
 .have:es= []:=MW.1 (by omega);subst this;simp [cq] at e
 .exact k.own e
theorem xu{R:Type}{i:Id}{n:Nat}{K:Nat->Bool->List (List T)->Option R}{r:R}(hs:HS c w s.h ρ O)(e:cc=none\/cc=some true)(h:jM s.h cc i n K=some r):
  ∃rsz b xs v,K rsz b xs=some r/\ρ (.g i n)=some v/\cz w (AA c w O) rsz b xs v (λae=>O (.g i n)=some ae):=by
 unfold jM at h;split at h
 .rename_i f;replace h:=aL h e;obtain⟨p,j,h⟩:=h;obtain⟨v,a,d⟩:=tX hs f j;exact⟨_,_,_,v,h,a,d⟩
 .cases h
theorem gG.bf{i:Id}{ae sz col rsz base:Nat}{e:Row}(h:gG w A ρ O i ae sz col rsz base e):∃vs:List Value,vs.length=sz/\(∀j v,vs[j]? =some v->w.cell? ⟨ae,base+j,none⟩=some v)/\
  (∀j x v,j≠col->e.cs[j]? =some x->vs[j]? =some v->ay w A x v)/\∃v,vs[col]? =some v/\ρ (.g i e.n)=some v:=by
 obtain⟨D,t,l,v,m,y,E⟩:=h;have o:∀j,j < sz->∃u,w.cell? ⟨ae,base+j,none⟩=some u:=by
  intro j a;by_cases d:j=col
  .subst d;exact⟨v,m⟩
  .obtain⟨u,g,_⟩:=l j (e.cs[j]'(by omega)) d (MJ _);exact⟨u,g⟩
 have get:∀j u,((List.range sz).map λj=>(w.cell? ⟨ae,base+j,none⟩).getD undef)[j]? =some u->w.cell? ⟨ae,base+j,none⟩=some u:=by intro j u a;rw [Nz] at a;obtain⟨k,b,a⟩:=Og.1 a;obtain⟨p,b⟩:=My.1 b;rw [List.getElem_range] at b;subst b;obtain⟨C,q⟩:=o j (by simpa using p);rw [q] at a⊢;simpa using a
 refine⟨_,by simp,get,λj x u a B z=> ?_,v, ?_,y⟩
 .obtain⟨C,f,r⟩:=l j x a B;rw [get j u z] at f;cases f;exact r
 .rw [Nz,List.getElem?_range t];simp [m]
theorem az.qR:∀{b:List AV} {vs:List Value},b.length=vs.length->(∀(j:Nat) (a:AV) (v:Value),b[j]? =some a->vs[j]? =some v->aj w A ρ a v)->az w A ρ b vs
 | [],[],_,_=>by simp [az]
 | [],_::_,h,_=>by simp at h
 | _::_,[],h,_=>by simp at h
 | a::b,v::vs,h,d=>by simp only [az];exact⟨v,vs,rfl,d 0 a v rfl rfl,az.qR (by simpa using h) λj a v e f=>d (j+1) a v (by simpa using e) (by simpa using f)⟩
theorem DJ{R:Type}(p:cc=none\/cc=some true):∀{ks:List Ck} {xs:List T} {vs:List Value} {col:Nat} {K:List T->Option R} {r:R},xs.length=vs.length->(∀(j:Nat) (x:T) (v:Value),j≠col->xs[j]? =some x->vs[j]? =some v->ay w A x v)->
  (∀k,ks[col]? =some k->k= .x)->dR cc ks xs K=some r->∃b,K b=some r/\b.length=vs.length/\∀j x v,j≠col->b[j]? =some x->vs[j]? =some v->ay w A x v
 | [],xs,vs,col,K,r,hl,d,i,h=>⟨xs,h,hl,d⟩
 | k::ks,[],vs,col,K,r,hl,d,i,h=>⟨[],h,hl,by simp⟩
 | k::ks,x::xs,[],col,K,r,hl,d,i,h=>by simp at hl
 | k::ks,x::xs,v::vs,0,K,r,hl,d,i,h=>by
  simp only [dR] at h;have:k= .x:=i k rfl;subst this;simp only [dX] at h;have D:aQ w A xs vs:=by
   have B:∀(xs:List T) (vs:List Value),xs.length=vs.length->(∀(j:Nat) (x:T) (v:Value),xs[j]? =some x->vs[j]? =some v->ay w A x v)->aQ w A xs vs:=by
    intro xs;induction xs with
    | nil=>intro vs hl _;cases vs;rfl;simp at hl
    | cons x xs z=>
     intro vs hl d;cases vs with
     | nil=>simp at hl
     | cons v vs=>exact⟨v,vs,rfl,d 0 x v rfl rfl,z vs (by simpa using hl) λj x v e f=>d (j+1) x v (by simpa using e) (by simpa using f)⟩
   exact B xs vs (by simpa using hl) λj x v e f=>d (j+1) x v (by omega) (by simpa using e) (by simpa using f)
  obtain⟨b,h,g⟩:=rE p D h;have G:=g.length;refine⟨_,h,by simp;omega,λj y u t m l=> ?_⟩;cases j with
  | zero=>exact(t rfl).elim
  | succ j=>
   simp only [NP] at m l;have:∀(b:List T) (vs:List Value) (j:Nat),aQ w A b vs->b[j]? =some y->vs[j]? =some u->ay w A y u:=by
    intro b;induction b with
    | nil=>intro vs j _ h;simp at h
    | cons a b z=>
     rintro vs j ⟨H,q,rfl,n,o⟩ e f;cases j with
     | zero=>simp at e f;subst e;subst f;exact n
     | succ j=>exact z q j o (by simpa using e) (by simpa using f)
   exact this b vs j g m l
 | k::ks,x::xs,v::vs,col+1,K,r,hl,d,i,h=>by
  simp only [dR] at h;obtain⟨y,h,n⟩:=mI p (d 0 x v (by omega) rfl rfl) h;obtain⟨b,h,o,E⟩:=DJ p (col:=col) (by simpa using hl) (λj x v t e f=>d (j+1) x v (by omega) (by simpa using e) (by simpa using f)) (λk C=>i k (by simpa using C)) h;refine⟨_,h,by simp [o],λj F u t m l=> ?_⟩;cases j with
  | zero=>simp at m l;subst m;subst l;exact n
  | succ j=>exact E j F u (by omega) (by simpa using m) (by simpa using l)
theorem HY{R:Type}{t:TypeId}{i:Id}{ae sz col rsz base off:Nat}{e:Row}{h:Id->Option ad}{K:AV->Option R}{r:R}(hs:HS c w h ρ O)(C:bR P t=true)(o:cc=none\/cc=some true)(m:gG w (AA c w O) ρ O i ae sz col rsz base e)(b:o6 P t cc i sz col off e K=some r):
  ∃E v,K E=some r/\(loadVar t ⟨ae,base+off,none⟩).run P w= .ok v w/\aj w (AA c w O) ρ E v:=by
 unfold o6 at b;cases g:bz P t
 .simp only [g,cond_false] at b;split at b
  .rename_i d;subst d;obtain⟨_,_,_,v,N,Q,_⟩:=m;exact⟨_,v,b,tZ C g _ _ v N,by simp only [aj];exact Q⟩
  .rename_i H;replace b:=aL b o;obtain⟨x,z,b⟩:=b;have I:e.cs[off]? =some x:=by rw [List.head?_drop] at z;exact z
   obtain⟨u,B,n⟩:=m.2.2.1 off x H I;obtain⟨y,b,M⟩:=mI o n b;exact⟨_,u,b,tZ C g _ _ u B,by simp only [aj];exact M⟩
 .simp only [g,cond_true] at b;split at b
  .rename_i p;obtain⟨rfl,Y⟩:=p;obtain⟨l,hl,Z,b⟩:=uu o b;have T:=m.1;have G:l=e.cs:=by rw [hl,O5 (by omega)]
   subst G;obtain⟨vs,v1,V,W,vc,J,L⟩:=m.bf;have S:=m.2.1;obtain⟨X,b,B,n⟩:=DJ o (ks:=(p6 P t).set col .x) (col:=col) (by omega) W (λk b=>by
    rw [NT] at b;simp only [if_true] at b;split at b
    .simpa using b.symm
    .cases b) b
   refine⟨_, .agg vs.toArray,b, ?_, ?_⟩
   .rw [OA];exact xy C g _ _ vs (by omega) V
   .simp only [aj];refine⟨vs,rfl,az.qR (by simp [B]) λj a v f D=> ?_,λu U=> ?_⟩
    .rw [NT] at f;by_cases d:col=j
     .subst d;rw [if_pos rfl] at f;split at f
      .simp only [Mt] at f;subst f;rw [J] at D;cases D;simp only [aj];exact L
      .cases f
     .rw [if_neg d,Nz] at f;obtain⟨x,z,rfl⟩:=Og.1 f;simp only [aj];exact n j x v (λe=>d e.symm) z D
    .obtain⟨j,q⟩:=OJ.1 U;by_cases d:j=col
     .subst d;rw [J] at q;cases q;exact hs.gone _ _ _ L
     .have F:j < X.length:=by have:=(My.1 q).1;omega
      exact(n j _ u d (MJ F) q).nH
  .cases b
theorem BE{R:Type}{t:TypeId}{a:AV}{va:Value}{K:AV->Option R}{r:R}(hs:HS c w s.h ρ O)(g:aj w (AA c w O) ρ a va)(m:cc=none\/cc=some true)(h:fu P s cc t a K=some r):
  ∃f v,K f=some r/\(Instr.loadAt t va).run P w= .ok v w/\aj w (AA c w O) ρ f v:=by
 unfold fu at h;cases D:bR P t
 .simp [D] at h
 simp only [D,cond_true] at h;split at h
 .rename_i i off;split at h
  .rename_i cs F;obtain⟨b,arr,W,B,J,h3,U,E,h6⟩:=uU hs F;simp only [aj] at g;obtain⟨b',d,rfl⟩:=g;rw [B] at d;simp only [Mt,NW,Ns] at d;obtain⟨rfl,_⟩:=d;obtain⟨f,v,q,N,Q⟩:=H3 (b:=b) (off:=off) D (U.drop off) (λu hu=>E u (ON hu)) (λj v hj=>h6 _ v (by rw [OB] at hj;exact hj)) h;exact⟨f,v,q,by simpa [Instr.loadAt,Instr.sureAddr] using N,Q⟩
  .rename_i l F;obtain⟨b,B,J,h3,U⟩:=hs.ae i _ F;simp only [aj] at g;obtain⟨b',d,rfl⟩:=g;rw [B] at d;simp only [Mt,NW,Ns] at d;obtain⟨rfl,_⟩:=d;have E:=U.drop off;rw [Nc] at E;obtain⟨f,v,q,N,Q⟩:=tq D m E h;exact⟨f,v,q,by simpa [Instr.loadAt,Instr.sureAddr] using N,Q⟩
  .simp at h
 .rename_i i sz k off;split at h
  .rename_i fz sz' bb xs F;split at h
   .rename_i C;subst C;replace h:=aL h m;obtain⟨cs,p,h⟩:=h;obtain⟨v,B,J⟩:=nQ hs F;simp only [aj] at g;obtain⟨b,o,L,cap,d,rfl⟩:=g;rw [B] at d;simp only [Mt] at d;subst d;obtain⟨a',cap',q,N,Q,g4,S⟩:=J;simp only [Nw] at q;obtain⟨rfl,rfl,rfl⟩:=q;have V:k < xs.length:=(My.1 p).1;rcases S with S | ⟨ae,off',arr,W,z,X,Y,Z,y⟩
    .omega
    .simp only [Mt,Ns] at z;obtain⟨rfl,rfl,_⟩:=z;obtain⟨_,M⟩:=y.get p;obtain⟨f,v,G,H,I⟩:=tq (ρ:=ρ) D m (M.drop off) h;exact⟨f,v,G,by simpa [Instr.loadAt,Instr.sureAddr] using H,I⟩
   .simp at h
  .rename_i bb sz' col rsz nx es F;split at h
   .rename_i C;subst C;replace h:=aL h m;obtain⟨e,p,h⟩:=h;obtain⟨a,cap,B,J,h3,U,E⟩:=hs.ae i _ F;simp only [aj] at g;obtain⟨b,o,L,cap',d,rfl⟩:=g;rw [B] at d;simp only [Mt,Nw] at d;obtain⟨rfl,rfl,rfl⟩:=d;have V:k < es.length:=(My.1 p).1;rcases E with E | ⟨ae,off',arr,W,z,X,Y,Z,y⟩
    .omega
    .simp only [Mt,Ns] at z;obtain⟨rfl,rfl,_⟩:=z;obtain⟨f,v,G,H,I⟩:=HY hs D m (y.get p) h;exact⟨f,v,G,by simpa [Instr.loadAt,Instr.sureAddr] using H,I⟩
   .simp at h
  .simp at h
 .rename_i i sz n k off;replace h:=xu hs m h;obtain⟨rsz,bb,xs,v,h,hv,hsl⟩:=h;split at h
  .rename_i C;subst C;replace h:=aL h m;obtain⟨cs,p,h⟩:=h;simp only [aj] at g;obtain⟨b,o,L,cap,d,rfl⟩:=g;rw [hv] at d;simp only [Mt] at d;subst d;obtain⟨a',cap',q,N,Q,g4,S⟩:=hsl;simp only [Nw] at q;obtain⟨rfl,rfl,rfl⟩:=q;have V:k < xs.length:=(My.1 p).1;rcases S with S | ⟨ae,off',arr,W,z,X,Y,Z,y⟩
   .omega
   .simp only [Mt,Ns] at z;obtain⟨rfl,rfl,_⟩:=z;obtain⟨_,M⟩:=y.get p;obtain⟨f,v,G,H,I⟩:=tq (ρ:=ρ) D m (M.drop off) h;exact⟨f,v,G,by simpa [Instr.loadAt,Instr.sureAddr] using H,I⟩
  .simp at h
 .rename_i x;replace h:=aL h m;obtain⟨cs,p,h⟩:=h;have:=T.tL p;subst this;simp only [aj,ay] at g;obtain⟨ae,off,rfl,B,J⟩:=g;obtain⟨f,v,G,H,I⟩:=tq (ρ:=ρ) D m J h;exact⟨f,v,G,by simpa [Instr.loadAt,Instr.sureAddr] using H,I⟩
 .simp at h
theorem vY{t:TypeId}{f:Nat}{p:Nat×TypeId}(h:qq P t f=some p):∃a x,P.underlying t=some (.struct a)/\a[f]? =some x/\p= (x.offset,x.type)/\bR P p.2=true:=by
 unfold qq at h;split at h
 .rename_i a d;split at h
  .rename_i x e;cases b:bR P x.type
   .simp [b] at h
   .simp only [b,cond_true,Mt] at h;subst h;exact⟨a,x,d,e,rfl,b⟩
  .simp at h
 .simp at h
theorem sL{t e:TypeId}(h:kU P t=some e):P.underlying t=some (.slice e)/\bR P e=true:=by
 unfold kU at h;split at h
 .rename_i e' b;cases a:bR P e'
  .simp [a] at h
  .simp only [a,cond_true,Mt] at h;subst h;exact⟨b,a⟩
 .simp at h
theorem yq{t:TypeId}{p:Nat×TypeId}(h:sc P t=some p):P.underlying t=some (.array p.1 p.2)/\bR P p.2=true:=by
 unfold sc at h;split at h
 .rename_i n e' b;cases a:bR P e'
  .simp [a] at h
  .simp only [a,cond_true,Mt] at h;subst h;exact⟨b,a⟩
 .simp at h
theorem Hp{R:Type}{t:TypeId}{x:AV}{m:Value}{f:Nat}{K:AV->Option R}{r:R}(a:aj w A ρ x m)(C:cc=none\/cc=some true)(h:oP P cc t x f K=some r):
  ∃i v,K i=some r/\(Instr.fieldAt t m f).run P w= .ok v w/\aj w A ρ i v:=by
 unfold oP at h;split at h
 .rename_i off u D;obtain⟨G,y,q,z,l,B⟩:=vY D;simp only [Ng] at l;obtain⟨rfl,rfl⟩:=l;split at h
  .simp at h
  .rename_i F;have d:∀b o,(Instr.fieldAt t (.pointer (some ⟨b,o,none⟩)) f).run P w= .ok (.pointer (some ⟨b,o+y.offset,none⟩)) w:=by
    intro b o;simp [Instr.fieldAt,run_underlying q,z,Instr.sureAddr,fieldPlace,gV B,F,fx]
   split at h
   .rename_i j o;simp only [aj] at a;obtain⟨b,e,rfl⟩:=a;exact⟨_,_,h,d _ _,by simp only [aj];exact⟨b,e,rfl⟩⟩
   .rename_i j sz k o;simp only [aj] at a;obtain⟨b,g,L,cap,e,rfl⟩:=a;exact⟨_,_,h,d _ _,by simp only [aj];exact⟨b,g,L,cap,e,by rw [Ot]⟩⟩
   .rename_i j sz n k o;simp only [aj] at a;obtain⟨b,g,L,cap,e,rfl⟩:=a;exact⟨_,_,h,d _ _,by simp only [aj];exact⟨b,g,L,cap,e,by rw [Ot]⟩⟩
   .rename_i H;replace h:=aL h C;obtain⟨cs,E,h⟩:=h;have:=T.tL E;subst this;simp only [aj,ay] at a;obtain⟨ae,o,rfl,g1,p⟩:=a;refine⟨_,_,h,d _ _, ?_⟩;simp only [aj,ay];refine⟨ae,_,rfl, ?_,p.drop _⟩;rcases g1 with rfl | g1
    .exact .inl (by simp)
    .exact .inr g1
   .simp at h
 .simp at h
theorem mf{R:Type}{i:Int}{n:Nat}{K:Option R}{r:R}(d:cc=none\/cc=some true)(h:iG cc i n K=some r): 0<=i/\i < n/\K=some r:=by
 unfold iG at h;replace h:=aL h d;obtain⟨_,a,h⟩:=h;split at a
 .rename_i b;exact⟨b.1,b.2,h⟩
 .simp at a
theorem HH{R:Type}{t:TypeId}{x:AV}{vx:Value}{i:Int}{ki:IntKind}{K:AV->Option R}{r:R}(hs:HS c w s.h ρ O)(d:aj w (AA c w O) ρ x vx)(q:cc=none\/cc=some true)(h:ij P s cc t x i K=some r):
  ∃V v,K V=some r/\(Instr.indexAt t vx (.int ki i)).run P w= .ok v w/\aj w (AA c w O) ρ V v:=by
 unfold ij at h;split at h
 .rename_i e J;obtain⟨M,F⟩:=sL J;have g:∀b o len cap,0<=i->i < (len:Nat)->(Instr.indexAt t (.slice (some ⟨b,o,none⟩) len cap) (.int ki i)).run P w= .ok (.pointer (some ⟨b,o+i.toNat * P.cellsOf e,none⟩)) w:=by
   intro b o len cap h0 f;simp [Instr.indexAt,asIntOf,run_underlying M,h0,f,gV F,fx]
  split at h
  .rename_i j;split at h
   .rename_i fz sz bb xs D;split at h
    .rename_i m;subst m;obtain⟨h0,f,h⟩:=mf q h;obtain⟨v,g1,l⟩:=nQ hs D;simp only [aj] at d;rw [g1] at d;simp only [Mt] at d;subst d;obtain⟨I,cap',C,q2,q3,q4,u⟩:=l;rcases u with u | ⟨ae,off',arr,U,B,N,Q,S,G⟩
     .omega
     .subst B;subst C;exact⟨_,_,h,g _ _ _ _ h0 f,by simp only [aj];exact⟨ae,off',_,_,g1,by simp⟩⟩
    .simp at h
   .rename_i bb sz col rsz nx es D;split at h
    .rename_i m;subst m;obtain⟨h0,f,h⟩:=mf q h;obtain⟨a,cap,g1,l,W,g4,H⟩:=hs.ae j _ D;simp only [aj] at d;rw [g1] at d;simp only [Mt] at d;subst d;rcases H with H | ⟨ae,off',arr,U,B,N,Q,S,G⟩
     .omega
     .subst B;exact⟨_,_,h,g _ _ _ _ h0 f,by simp only [aj];exact⟨ae,off',_,_,g1,by simp⟩⟩
    .simp at h
   .simp at h
  .rename_i j n;replace h:=xu hs q h;obtain⟨rsz,bb,xs,v,h,Z,Y⟩:=h;split at h
   .rename_i m;subst m;obtain⟨h0,f,h⟩:=mf q h;simp only [aj] at d;rw [Z] at d;simp only [Mt] at d;subst d;obtain⟨I,cap',C,q2,q3,q4,u⟩:=Y;rcases u with u | ⟨ae,off',arr,U,B,N,Q,S,G⟩
    .omega
    .subst B;subst C;exact⟨_,_,h,g _ _ _ _ h0 f,by simp only [aj];exact⟨ae,off',_,_,Z,by simp⟩⟩
   .simp at h
  .rename_i j sz off n;split at h
   .rename_i fz sz' bb xs D;split at h
    .rename_i m;obtain⟨rfl,rfl⟩:=m;obtain⟨h0,f,h⟩:=mf q h;obtain⟨v,g1,l⟩:=nQ hs D;simp only [aj] at d;obtain⟨a,L,cap,I,z,e2,e3,rfl,e4⟩:=d;rw [g1] at z;simp only [Mt] at z;subst z;obtain⟨a'',cap'',C,q2,q3,q4,u⟩:=l;simp only [Nw] at C;obtain⟨rfl,rfl,rfl⟩:=C;rcases u with u | ⟨ae,off',arr,U,B,N,Q,S,G⟩
     .omega
     .subst B;have ea:I=some ⟨ae,off'+off * P.cellsOf e,none⟩:=by
       rcases e4 with⟨rfl,rfl⟩ | ⟨rfl,_⟩ | ⟨b,o,e5,e6⟩
       .simp
       .omega
       .simp only [Mt,Ns] at e5;obtain⟨rfl,rfl,_⟩:=e5;exact e6
      subst ea;refine⟨_,_,h,g _ _ _ _ h0 f, ?_⟩;simp only [aj];exact⟨ae,off',_,_,g1,by congr 3;rw [Oh];omega⟩
    .simp at h
   .simp at h
  .rename_i y;replace h:=aL h q;obtain⟨p,hp,h⟩:=h;obtain⟨h0,f,h⟩:=mf q h;replace h:=aL h q;obtain⟨cs,E,h⟩:=h;rcases T.nD hp with rfl | ⟨rfl,X⟩
   .simp only [aj,ay] at d;rcases d with⟨_,e,_⟩ | ⟨_,ae,off,sp,cap,rfl,g1,l,W⟩
    .rw [e] at f;simp at f;omega
    .rcases l with l | ⟨rfl,l⟩
     .rw [l] at E;simp at E
     refine⟨_,_,h,g _ _ _ _ h0 f, ?_⟩;obtain⟨g4,H⟩:=W.get E;simp only [aj,ay];exact⟨ae,_,rfl, .inr l,H⟩
   .rw [X] at f;simp at f;omega
  .simp at h
 .split at h
  .rename_i n e J;obtain⟨M,F⟩:=yq J;obtain⟨h0,f,h⟩:=mf q h;have g:∀b o,(Instr.indexAt t (.pointer (some ⟨b,o,none⟩)) (.int ki i)).run P w= .ok (.pointer (some ⟨b,o+i.toNat * P.cellsOf e,none⟩)) w:=by
    intro b o;simp [Instr.indexAt,asIntOf,run_underlying M,Instr.sureAddr,h0,f,gV F,fx]
   split at h
   .rename_i j off;simp only [aj] at d;obtain⟨b,z,rfl⟩:=d;exact⟨_,_,h,g _ _,by simp only [aj];exact⟨b,z,rfl⟩⟩
   .rename_i j sz k off;simp only [aj] at d;obtain⟨b,o',L,cap,z,rfl⟩:=d;exact⟨_,_,h,g _ _,by simp only [aj];exact⟨b,o',L,cap,z,by rw [Ot]⟩⟩
   .rename_i y;replace h:=aL h q;obtain⟨cs,E,h⟩:=h;have:=T.tL E;subst this;simp only [aj,ay] at d;obtain⟨ae,o,rfl,g1,l⟩:=d;refine⟨_,_,h,g _ _, ?_⟩;simp only [aj,ay];refine⟨ae,_,rfl, ?_,l.drop _⟩;rcases g1 with rfl | g1
    .exact .inl (by simp)
    .exact .inr g1
   .simp at h
  .simp at h
end
open Go Go.IntKind
section
variable {P:Program} {w w':World} {A A':Nat->Prop} {c:Ctx} {ρ:Id->Option Value} {O:Id->Option Nat} {s:St} {cc:Option Bool}
theorem HP{R:Type}{t ty:TypeId}{ts:Array TypeId}{x:AV}{B:Value}{K:AV->Option R}{r:R}(hs:HS c w s.h ρ O)(d:aj w (AA c w O) ρ x B)(l:cc=none\/cc=some true)(h:lr P s cc t x K=some r)
  (g:ts[0]? =some t):∃u v,K u=some r/\(Builtin.len_ ts ty #[B]).run P w= .ok v w/\aj w (AA c w O) ρ u v:=by
 unfold lr at h;split at h
 .rename_i i;split at h
  .rename_i y;replace h:=aL h l;obtain⟨b,C,h⟩:=h;have:=T.iQ C;subst this;simp only [aj,ay] at d;subst d;exact⟨_,_,h,by simp [Builtin.len_,g,run_underlying i];rfl,by simp only [aj];exact eW _ _ _ _⟩
  .simp at h
 .rename_i n e i;exact⟨_,_,h,by simp [Builtin.len_,g,run_underlying i];rfl,by simp only [aj];exact eW _ _ _ _⟩
 .rename_i e i;have f:∀a n cap,(Builtin.len_ ts ty #[.slice a n cap]).run P w= .ok (goInt n) w:=by
   intro a n cap;simp [Builtin.len_,g,run_underlying i]
  split at h
  .rename_i j;split at h
   .rename_i fz sz bb xs m;obtain⟨v,k,q,cap',o,M,N,Q,S⟩:=nQ hs m;simp only [aj] at d;rw [k] at d;simp only [Mt] at d;subst d;subst o;exact⟨_,_,h,f _ _ _,by simp only [aj];exact eW _ _ _ _⟩
   .rename_i bb sz col rsz J es m;obtain⟨a,cap,k,_⟩:=hs.ae j _ m;simp only [aj] at d;rw [k] at d;simp only [Mt] at d;subst d;exact⟨_,_,h,f _ _ _,by simp only [aj];exact eW _ _ _ _⟩
   .simp at h
  .rename_i j n;replace h:=xu hs l h;obtain⟨rsz,bb,xs,v,h,E,q,cap',o,_⟩:=h;simp only [aj] at d;rw [E] at d;simp only [Mt] at d;subst d;subst o;exact⟨_,_,h,f _ _ _,by simp only [aj];exact eW _ _ _ _⟩
  .rename_i j sz off n;simp only [aj] at d;obtain⟨a,L,cap,q,F,G,e3,rfl,e4⟩:=d;exact⟨_,_,h,f _ _ _,by simp only [aj];exact eW _ _ _ _⟩
  .rename_i y;replace h:=aL h l;obtain⟨p,D,h⟩:=h;rcases T.nD D with rfl | ⟨rfl,z⟩
   .simp only [aj,ay] at d;rcases d with⟨_,e,rfl⟩ | ⟨_,ae,off,sp,cap,rfl,k,H,I⟩
    .refine⟨_,_,h,f _ _ _, ?_⟩;simp only [aj,e];exact eW _ _ _ _
    .exact⟨_,_,h,f _ _ _,by simp only [aj];exact eW _ _ _ _⟩
   .simp only [aj,ay] at d;rw [z] at h;rcases d with⟨_,rfl⟩ | ⟨_,ae,off,sp,rfl⟩ <;> exact⟨_,_,h,f _ _ _,by simp only [aj];exact eW _ _ _ _⟩
  .simp at h
 .simp at h
theorem uL{x:T}{n:Int}(h:gK.anyInt x=some n):∃k,x= .int k n:=by cases x <;> simp_all [gK.anyInt]
def gZ(b:Option Int)(v:Option Value):Prop:=match b,v with
 | none,none=>True
 | some n,some (.int _ m)=>m=n
 | _,_=>False
theorem uT{R:Type}{a:Act}{g:Option Gs}{o:Option Operand}{K:Option Int->Option R}{r:R}(j:SS w A ρ s.t a.tmps)(i:iV a.tmps g)(e:cc=none\/cc=some true)(h:gK s cc g o K=some r):
  ∃b,K b=some r/\gZ b (o.map a.eval):=by
 unfold gK at h;split at h
 .exact⟨none,h,trivial⟩
 .rename_i o;cases d:(s.get g o).t? with
  | none=>simp [d] at h
  | some x=>simp only [d,Mw] at h;replace h:=aL h e;obtain⟨n,f,h⟩:=h;obtain⟨k,rfl⟩:=uL f;have:=SS.get (h:=s.h) j i o;rw [show(⟨s.t,s.h⟩:St)=s from rfl,AV.jP d] at this;simp only [aj,ay] at this;exact⟨some n,h,by simp [gZ,this]⟩
theorem s5{b a n:Int}(h:fD b a n=some ()): 0<=b/\b<=a/\a<=n:=by
 unfold fD at h;split at h
 .assumption
 .simp at h
theorem rK{v:Option Value}(h:gZ none v):v=none:=by cases v <;> simp_all [gZ]
theorem n5{n:Int}{v:Option Value}(h:gZ (some n) v):∃k,v=some (.int k n):=by
 cases v with
 | none=>simp [gZ] at h
 | some v=>cases v <;> simp_all [gZ]
theorem pq(k:IntKind)(n:Int)(y:Nat)(a:BoundsCode)(h0: 0<=n)(b:n<=y):(Instr.sliceBound (.int k n) y a).run P w= .ok n.toNat w:=run_sliceBound w k n y a h0 b
theorem CS(p:Bool){b f:Option Int}{j i:Option Value}{len cap:Nat}(hl:gZ b j)(o:gZ f i)(g: 0<=b.getD 0)(d:b.getD 0<=f.getD len)(l:f.getD len<=cap):
  (Instr.sliceBounds p len cap j i none).run P w= .ok ((b.getD 0).toNat,(f.getD len).toNat,cap) w:=by
 cases f with
 | none=>
  have:=rK o;subst this;simp only [Pq] at d l⊢;cases b with
  | none=>have:=rK hl;subst this;simp [Instr.sliceBounds]
  | some n=>obtain⟨k,rfl⟩:=n5 hl;simp only [Oc] at g d⊢;have e:=pq (P:=P) (w:=w) k n len .sliceB g d;simp [Instr.sliceBounds,e]
 | some m=>
  obtain⟨q,rfl⟩:=n5 o;simp only [Oc] at d l⊢;have e':∀a,(Instr.sliceBound (.int q m) cap a).run P w= .ok m.toNat w:=λa=>pq q m cap a (by omega) l;cases b with
  | none=>have:=rK hl;subst this;simp [Instr.sliceBounds,e']
  | some n=>obtain⟨k,rfl⟩:=n5 hl;simp only [Oc] at g d⊢;have e:=pq (P:=P) (w:=w) k n m.toNat .sliceB g (by omega);simp [Instr.sliceBounds,e,e']
theorem LG{R:Type}{t:TypeId}{x:AV}{vx:Value}{g C mx:Option Int}{V U F:Option Value}{K:AV->Option R}{r:R}(hs:HS c w s.h ρ O)(q:aj w (AA c w O) ρ x vx)(M:cc=none\/cc=some true)
  (hl:gZ g V) (hh:gZ C U) (hm:gZ mx F) (h:lM P s cc t x g C mx K=some r):
  ∃av v,K av=some r/\(Instr.sliceAt t vx V U F).run P w= .ok v w/\aj w (AA c w O) ρ av v:=by
 unfold lM at h;split at h
 .rename_i hu;split at h
  .rename_i y;replace h:=aL h M;obtain⟨b,J,h⟩:=h;have:=T.iQ J;subst this;simp only [aj,ay] at q;subst q;replace h:=aL h M;obtain⟨_,J,h⟩:=h;obtain⟨D,l,B⟩:=s5 J;have hvm:F=none:=by cases F with | none=>rfl | some v=>simp [gZ] at hm
   subst hvm;refine⟨_,_,h, ?_,by simp only [aj];exact jJ _ _ _⟩;have:=CS (P:=P) (w:=w) false (len:=b.size) (cap:=b.size) hl hh D l B;simp [Instr.sliceAt,Instr.slice,run_underlying hu,this]
  .simp at h
 .rename_i e hu;split at h
  .have hvm:F=none:=by cases F with | none=>rfl | some v=>simp [gZ] at hm
   subst hvm
   have z:bR P e=true->∀(a:Option Addr) (len cap:Nat),0<=g.getD 0->g.getD 0<=C.getD len->C.getD len<=cap->
     (Instr.sliceAt t (.slice a len cap) V U none).run P w= .ok (.slice (if cap= (g.getD 0).toNat then a else a.map (·.add ((g.getD 0).toNat * P.cellsOf e))) ((C.getD len).toNat - (g.getD 0).toNat) (cap - (g.getD 0).toNat)) w:=by
    intro f a len cap D l B;have:=CS (P:=P) (w:=w) true hl hh D l B;simp [Instr.sliceAt,Instr.slice,run_underlying hu,this,gV f]
   split at h
   .rename_i j;split at h
    .rename_i fz sz bb xs hj;split at h
     .rename_i Q;obtain⟨Q,f⟩:=Q;subst Q;replace h:=aL h M;obtain⟨_,J,h⟩:=h;obtain⟨D,l,B⟩:=s5 J;obtain⟨v,H,G,cap',W,q2,q3,q4,X⟩:=nQ hs hj;simp only [aj] at q;rw [H] at q;simp only [Mt] at q;subst q;subst W;refine⟨_,_,h,z f _ _ _ D l (by omega), ?_⟩;simp only [aj];refine⟨G,_,cap',_,H,by omega,q2,rfl, ?_⟩;by_cases e0:(g.getD 0).toNat=0
      .left;refine⟨e0, ?_⟩;rw [e0];split
       .rfl
       .cases G <;> simp [Addr.add]
      .by_cases i:cap'= (g.getD 0).toNat
       .right;left;rw [if_pos i];exact⟨i.symm,OK,q4⟩
       .right;right;rw [if_neg i];rcases X with X | ⟨ae,off',arr,t',q6,_⟩
        .omega
        .subst q6;exact⟨ae,off',rfl,by simp [fx]⟩
     .simp at h
    .simp at h
   .rename_i j sz off n;split at h
    .rename_i fz sz' bb xs hj;split at h
     .rename_i Q;obtain⟨rfl,rfl,f⟩:=Q;replace h:=aL h M;obtain⟨_,J,h⟩:=h;obtain⟨D,l,B⟩:=s5 J;simp only [aj] at q;obtain⟨a,L,cap,G,i,e2,e3,rfl,e4⟩:=q;obtain⟨v,H,a'',cap'',W,q2,q3,q4,X⟩:=nQ hs hj;rw [H] at i;simp only [Mt] at i;subst i;simp only [Nw] at W;obtain⟨rfl,rfl,rfl⟩:=W;refine⟨_,_,h,z f _ _ _ D l (by omega), ?_⟩;simp only [aj];refine⟨a,_,cap,_,H,by omega,e3,by congr 1;omega, ?_⟩;by_cases e0:(g.getD 0).toNat=0
      .have:(if cap - off= (g.getD 0).toNat then G else G.map (·.add ((g.getD 0).toNat * P.cellsOf e)))=G:=by
        rw [e0];split
        .rfl
        .cases G <;> simp [Addr.add]
       rw [this,e0,OA];exact e4
      .by_cases e5:cap - off= (g.getD 0).toNat
       .right;left;rw [if_pos e5];refine⟨by omega, ?_, ?_⟩
        .rcases e4 with⟨_,rfl⟩ | ⟨_,E,_⟩ | ⟨b,o,rfl,rfl⟩
         .exact OK
         .exact E
         .simp
        .trivial
       .right;right;rw [if_neg e5];rcases X with X | ⟨ae,off',arr,t',q6,_⟩
        .omega
        .subst q6;rcases e4 with⟨e7,rfl⟩ | ⟨e7,_⟩ | ⟨b,o,E,rfl⟩
         .subst e7;exact⟨ae,off',rfl,by simp [fx]⟩
         .omega
         .exact⟨b,o,E,by simp [fx,Oh,Ot]⟩
     .simp at h
    .simp at h
   .rename_i y;split at h
    .rename_i f;replace h:=aL h M;obtain⟨p,hp,h⟩:=h;replace h:=aL h M;obtain⟨_,J,h⟩:=h;obtain⟨D,l,B⟩:=s5 J;rcases T.nD hp with rfl | ⟨rfl,hp2⟩
     .simp only [aj,ay] at q;rcases q with⟨i,e,rfl⟩ | ⟨i,ae,off,sp,cap,rfl,H,I,g3⟩
      .rw [e] at l B h;refine⟨_,_,h,z f _ _ _ (by simpa using D) (by simpa using l) (by simpa using B), ?_⟩;simp only [MS,M4] at l B;have e5:(g.getD 0).toNat=0:=by omega
       have E:(C.getD ((0:Nat):Int)).toNat=0:=by
        have:C.getD ((0:Nat):Int)=C.getD 0:=by simp
        rw [this];omega
       simp only [aj,ay,sub,List.drop_nil,List.take_nil];left;refine⟨i,trivial, ?_⟩;rw [E];simp
      .refine⟨_,_,h,z f _ _ _ D l (by omega), ?_⟩;simp only [aj,ay];right;refine⟨i, ?_⟩;by_cases e5:cap= (g.getD 0).toNat
       .rw [if_pos e5];have E:(C.getD ((p.2.length:Nat):Int)).toNat - (g.getD 0).toNat=0:=by omega
        refine⟨ae,off,sp,cap - (g.getD 0).toNat, ?_, ?_, .inl ?_, ?_⟩
        .simp only [sub,E,Pv,MS]
        .simp only [sub,E,Pv,MS];omega
        .simp [sub,E]
        .simp [sub,E,a8]
       .rw [if_neg e5];have N:(sub (g.getD 0) (C.getD ((p.2.length:Nat):Int)) p.2).length= (C.getD ((p.2.length:Nat):Int)).toNat - (g.getD 0).toNat:=by
         simp only [sub,Nv,NH];omega
        rcases I with I | ⟨I,g4⟩
        .have e7:(g.getD 0).toNat=0:=by rw [I] at B;simp only [MS] at B;rw [I] at l;simp only [MS] at l;omega
         refine⟨ae,off,sp,cap - (g.getD 0).toNat, ?_, ?_, .inl (by simp [sub,I]),by simp [sub,I,a8]⟩
         .rw [N,e7];simp [Addr.add]
         .rw [N];omega
        .subst I;refine⟨ae,off+ (g.getD 0).toNat * P.cellsOf e,none,cap - (g.getD 0).toNat, ?_, ?_, .inr ⟨rfl,g4⟩, ?_⟩
         .rw [N];simp only [N1,fx]
         .rw [N];omega
         .exact(g3.drop _).take _
     .rw [hp2] at l B h;simp only [aj,ay] at q;simp only [MS,M4] at l B;have e5:(g.getD 0).toNat=0:=by omega
      have E:(C.getD ((0:Nat):Int)).toNat=0:=by
       have:C.getD ((0:Nat):Int)=C.getD 0:=by simp
       rw [this];omega
      rcases q with⟨i,rfl⟩ | ⟨i,ae,off,sp,rfl⟩
      .refine⟨_,_,h,z f _ _ _ (by simpa using D) (by simpa using l) (by simpa using B), ?_⟩;simp only [aj,ay,sub,List.drop_nil,List.take_nil];left;refine⟨i,trivial, ?_⟩;rw [E];simp
      .refine⟨_,_,h,z f _ _ _ (by simpa using D) (by simpa using l) (by simpa using B), ?_⟩;simp only [aj,ay,sub,List.drop_nil,List.take_nil,a8];right;refine⟨i,ae,off,sp,0, ?_,by simp, .inl trivial,trivial⟩;rw [e5,E];simp
    .simp at h
   .simp at h
  .rename_i m;obtain⟨km,rfl⟩:=n5 hm
   have z:bR P e=true->g.getD 0=0->C.getD 1=0->m=0->∀(a:Option Addr) (len cap:Nat),
     (Instr.sliceAt t (.slice a len cap) V U (some (.int km m))).run P w= .ok (.slice a 0 0) w:=by
    intro f D l B a len cap;cases C with
    | none=>simp at l
    | some hn=>
     obtain⟨kh,rfl⟩:=n5 hh;simp only [Oc] at l;subst l;subst B;have i:∀k,(Instr.sliceBound (.int km 0) cap k).run P w= .ok 0 w:=λk=>pq km 0 cap k (by omega) (by omega);have e2:∀k,(Instr.sliceBound (.int kh 0) 0 k).run P w= .ok 0 w:=λk=>pq kh 0 0 k (by omega) (by omega);cases g with
     | none=>have:=rK hl;subst this;simp [Instr.sliceAt,Instr.slice,run_underlying hu,Instr.sliceBounds,i,e2,gV f]
     | some ln=>obtain⟨kl,rfl⟩:=n5 hl;simp only [Oc] at D;subst D;have e3:∀k,(Instr.sliceBound (.int kl 0) 0 k).run P w= .ok 0 w:=λk=>pq kl 0 0 k (by omega) (by omega);simp [Instr.sliceAt,Instr.slice,run_underlying hu,Instr.sliceBounds,i,e2,e3,gV f]
   have zs:∀{a b d:Int} {u:Unit},uD a b d=some u->a=0/\b=0/\d=0:=by
    intro a b d u S;unfold uD at S;split at S
    .assumption
    .simp at S
   split at h
   .rename_i y;split at h
    .rename_i f;replace h:=aL h M;obtain⟨p,hp,h⟩:=h;replace h:=aL h M;obtain⟨_,S,h⟩:=h;obtain⟨Y,Z,z3⟩:=zs S;rcases T.nD hp with rfl | ⟨rfl,hp2⟩
     .simp only [aj,ay] at q;rcases q with⟨i,e,rfl⟩ | ⟨i,ae,off,sp,cap,rfl,H,I,g3⟩
      .exact⟨_,_,h,z f Y Z z3 _ _ _,by simp only [aj,ay];exact .inl ⟨i,trivial⟩⟩
      .exact⟨_,_,h,z f Y Z z3 _ _ _,by simp only [aj,ay];exact .inr ⟨i,ae,off,sp,rfl⟩⟩
     .simp only [aj,ay] at q;rcases q with⟨i,rfl⟩ | ⟨i,ae,off,sp,rfl⟩
      .exact⟨_,_,h,z f Y Z z3 _ _ _,by simp only [aj,ay];exact .inl ⟨i,trivial⟩⟩
      .exact⟨_,_,h,z f Y Z z3 _ _ _,by simp only [aj,ay];exact .inr ⟨i,ae,off,sp,rfl⟩⟩
    .simp at h
   .rename_i j;split at h
    .rename_i fz sz bb xs hj;split at h
     .simp at h
     .rename_i f;simp only [Bool.not_eq_false] at f;replace h:=aL h M;obtain⟨_,S,h⟩:=h;obtain⟨Y,Z,z3⟩:=zs S;obtain⟨v,H,G,cap',W,q2,q3,q4,X⟩:=nQ hs hj;simp only [aj] at q;rw [H] at q;simp only [Mt] at q;subst q;subst W;refine⟨_,_,h,z f Y Z z3 _ _ _, ?_⟩;simp only [aj,ay];cases bb
      .right;cases G with
       | none=>simp at q3
       | some x=>obtain⟨b,o,sp⟩:=x;exact⟨rfl,b,o,sp,rfl⟩
      .left;exact⟨rfl,by rw [q3.2 rfl]⟩
    .simp at h
   .simp at h
 .simp at h
end
open Go Go.IntKind
section
variable {P:Program} {w w':World} {A A':Nat->Prop} {c:Ctx} {ρ:Id->Option Value} {O:Id->Option Nat} {s:St} {cc:Option Bool} {h:Id->Option ad}
def pf(v:AV)(i:Id):Prop:=v= .own i\/(∃sz off n,v= .part i sz off n)\/∃off,v= .ref i off
theorem lL{i:Id}{fz b:Bool}{sz:Nat}{l:List (List T)}(hs:HS c w h ρ O)(e:h i=some (.sl fz sz b l)):∃v,ρ i=some v/\cz w (AA c w O) sz b l v (λae=>if fz=true then AA c w O ae else O i=some ae):=by obtain⟨v,a,d,_⟩:=hs.ae i _ e;exact⟨v,a,d⟩
theorem kI{v:AV}{x:T}{u:Value}(hs:HS c w h ρ O)(e:aj w (AA c w O) ρ v u)(d:cX h v=some x)
  (m:∀b,AA c w O b->A' b) (R:∀i ae,pf v i->O i=some ae->A' ae):ay w A' x u:=by
 have mono:∀(t:T) (v:Value),ay w (AA c w O) t v->ay w A' t v:=λt v hr=>ay.mono (λb p=>⟨m b p,rfl⟩) t v hr;cases v <;> simp only [cX,reduceCtorEq,Mt] at d
 case t y=>subst d;simp only [aj] at e;exact mono _ _ e
 case own i=>
  split at d
  .rename_i fz sz b xs q;simp only [Mt] at d;subst d;obtain⟨v',M,a,cap,G,V,D,q4,f⟩:=lL hs q;simp only [aj] at e;rw [M] at e;simp only [Mt] at e;subst e;subst G;simp only [ay];cases b with
   | true=>
    left;have:a=none:=D.2 rfl;subst this;rcases f with f | ⟨ae,off,arr,t,z,_⟩
    .have:xs= []:=MW.1 (by omega);subst this;subst f;exact⟨rfl,rfl,rfl⟩
    .cases z
   | false=>
    right;refine⟨rfl, ?_⟩;rcases f with f | ⟨ae,off,arr,t,z,E,q8,q9,C⟩
    .have:xs= []:=MW.1 (by omega);subst this;cases a with
     | none=>simp at D
     | some y=>obtain⟨J,o,sp⟩:=y;exact⟨J,o,sp,cap,rfl,V, .inl rfl,by simp [a8]⟩
    .subst z;refine⟨ae,off,_,cap,rfl,V, .inr ⟨rfl, ?_⟩,a8.lA (λb p=>⟨m b p,rfl⟩) ae sz rfl off xs C⟩;cases fz
     .exact R i ae (.inl rfl) (by simpa using E)
     .exact m _ (by simpa using E)
  .simp at d
 case part i sz off n=>
  split at d
  .rename_i fz H b xs q;split at d
   .rename_i Y;subst Y;simp only [Mt] at d;subst d;obtain⟨v',M,a,cap,G,V,D,q4,f⟩:=lL hs q;simp only [aj] at e;obtain⟨W,L,Z,I,g,e2,e3,rfl,e4⟩:=e;rw [M] at g;simp only [Mt] at g;subst g;simp only [Nw] at G;obtain⟨rfl,rfl,rfl⟩:=G;have U:((xs.drop off).take n).length=n:=by simp only [Nv,NH];omega
    simp only [ay,U];have k:I=none↔W=none:=by
     rcases e4 with⟨_,rfl⟩ | ⟨_,e5,_⟩ | ⟨X,o,rfl,rfl⟩
     .exact OK
     .exact e5
     .simp
    cases b with
    | true=>
     left;have e5:W=none:=D.2 rfl;subst e5;rcases f with f | ⟨ae,off',arr,t,z,_⟩
     .have K:xs= []:=MW.1 (by omega);subst K;subst f;simp only [MS] at e2;have e7:n=0:=by omega
      subst e7;rw [k.2 rfl];exact⟨rfl,by simp,by congr 1;omega⟩
     .cases z
    | false=>
     right;refine⟨rfl, ?_⟩;by_cases hn:n=0
     .subst hn;cases I with
      | none=>have:=k.1 rfl;simp [this] at D
      | some y=>obtain⟨J,o,sp⟩:=y;exact⟨J,o,sp,_,rfl,by omega, .inl (by simp),by simp [a8]⟩
     .rcases f with f | ⟨ae,off',arr,t,z,E,q8,q9,C⟩
      .omega
      .subst z;have ea:I=some ⟨ae,off'+off * H,none⟩:=by
        rcases e4 with⟨rfl,rfl⟩ | ⟨rfl,_⟩ | ⟨X,o,e5,K⟩
        .simp
        .omega
        .simp only [Mt,Ns] at e5;obtain⟨rfl,rfl,_⟩:=e5;exact K
       subst ea;refine⟨ae,_,_,_,rfl,by omega, .inr ⟨rfl, ?_⟩,(a8.lA (λb p=>⟨m b p,rfl⟩) ae H rfl off' xs C).drop off |>.take n⟩;cases fz
       .exact R i ae (.inr (.inl ⟨_,_,_,rfl⟩)) (by simpa using E)
       .exact m _ (by simpa using E)
   .simp at d
  .simp at d
 case ref i off=>
  simp only [aj] at e;obtain⟨X,g,rfl⟩:=e;split at d
  .rename_i cs q;obtain⟨l,hl,d⟩:=Mu.1 d;simp only [Mt] at d;subst d;obtain⟨b,arr,t',B,F,N,Q,h5,h6⟩:=uU (s:=⟨λ_=>(none, .top),h⟩) hs q;rw [B] at g;simp only [Mt,NW,Ns] at g;obtain⟨rfl,_⟩:=g;simp only [ay];refine⟨b,off,rfl, .inr (R i b (.inr (.inr ⟨_,rfl⟩)) F), ?_⟩;have hT:=aQ.jf hl Q;have key:∀(l:List T) (vs:List Value) (off:Nat),aQ w (AA c w O) l vs->(∀j v,vs[j]? =some v->w.cell? ⟨b,off+j,none⟩=some v)->aY w A' b off l:=by
    intro l;induction l with
    | nil=>intro vs off _ _;simp [aY]
    | cons x l ih=>rintro vs off ⟨v,r,rfl,B,F⟩ e;simp only [aY];refine⟨⟨v,by simpa using e 0 v rfl,mono _ _ B⟩,ih r (off+1) F λj u S=> ?_⟩;have:=e (j+1) u (by simpa using S);rw [show off+1+j=off+ (j+1) by omega];exact this
   have:=(key l _ 0 hT λj v S=>by rw [Nc];exact h6 j v S).drop off;rwa [Nc] at this
  .rename_i l q;simp only [Mt] at d;subst d;obtain⟨b,B,F,N,Q⟩:=hs.ae i _ q;rw [B] at g;simp only [Mt,NW,Ns] at g;obtain⟨rfl,_⟩:=g;simp only [ay];refine⟨b,off,rfl, .inr (m b N), ?_⟩;have:=(aY.mono (λb p=>⟨m b p,rfl⟩) b N 0 l Q).drop off;rwa [Nc] at this
  .simp at d
def Cs(v:AV)(i:Id):Prop:=pf v i\/∃vs,v= .agg vs/\∃u∈vs,pf u i
theorem Di(hs:HS c w h ρ O)(j:∀b,AA c w O b->A' b):∀{vs:List AV} {xs:List T} {us:List Value},az w (AA c w O) ρ vs us->jm h vs=some xs->
  (∀i ae,(∃u∈vs,pf u i)->O i=some ae->A' ae)->aQ w A' xs us
 | [],xs,us,e,a,_=>by simp only [jm,Mt] at a;subst a;simpa [az,aQ] using e
 | v::vs,xs,us,e,a,k=>by
  simp only [jm] at a;cases d:cX h v with
  | none=>simp [d] at a
  | some x=>
   cases f:jm h vs with
   | none=>simp [d,f] at a
   | some l=>simp only [d,f,Mw,Mt] at a;subst a;simp only [az] at e;obtain⟨u,r,rfl,m,n⟩:=e;exact⟨u,r,rfl,kI hs m d j (λi ae g=>k i ae ⟨v,Mv,g⟩),Di hs j n f (λi ae ⟨u,o,g⟩=>k i ae ⟨u,Mx _ o,g⟩)⟩
theorem LJ{v:AV}{x:T}{u:Value}(hs:HS c w h ρ O)(b:aj w (AA c w O) ρ v u)(a:cX h v=some x):u.oneCell'=true/\u.cells= #[u]:=
 (kI (A':=λ_=>True) hs b a (λ_ _=>trivial) (λ_ _ _ _=>trivial)).nH
theorem LK{v:AV}{xs:List T}{u:Value}(hs:HS c w h ρ O)(d:aj w (AA c w O) ρ v u)(a:jl h v=some xs)(k:∀b,AA c w O b->A' b)
  (l:∀i ae,Cs v i->O i=some ae->A' ae):aQ w A' xs u.cells.toList/\∀y∈u.cells.toList,y.oneCell'=true/\y.cells= #[y]:=by
 have one:∀x,cX h v=some x->xs= [x]->aQ w A' xs u.cells.toList/\∀y∈u.cells.toList,y.oneCell'=true/\y.cells= #[y]:=by intro x e f;subst f;have p:=kI hs d e k (λi ae g=>l i ae (.inl g));have j:=LJ hs d e;rw [j.2];exact⟨⟨u,[],rfl,p,rfl⟩,by intro y m;simp at m;subst m;exact j⟩
 cases v
 case agg vs=>simp only [jl] at a;simp only [aj] at d;obtain⟨q,rfl,n,o⟩:=d;refine⟨?_,by simpa [Value.cells] using o⟩;have:=Di hs k n a (λi ae g=>l i ae (.inr ⟨vs,rfl,g⟩));simpa [Value.cells] using this
 all_goals
  unfold jl at a;obtain⟨x,e,f⟩:=Mu.1 a;exact one x e (Option.some.inj f).symm
def nW(p:Id×ad)(x:Option ad):Prop:=(∃sz b xs,p.2= .sl true sz b xs/\(x=some (.sl false sz b xs)\/x=some (.sl true sz b xs)))\/
 ∃l,p.2= .cE l/\((∃cs,x=some (.box cs)/\dz cs=some l)\/x=some (.cE l))
def eZ(h:Id->Option ad)(us:aB):Prop:= ∀p∈us,nW p (h p.1)
theorem nW.again{i:Id}{b j:ad}{x:Option ad}(p:nW (i,b) x)(n:nW (i,j) x):j=b/\nW (i,j) (some b):=by
 rcases p with⟨sz,bb,xs,d,g1⟩ | ⟨l,d,g1⟩
 .rcases n with⟨f,e,g,a,g2⟩ | ⟨o,a,g2⟩
  .simp only at d a;have:f=sz/\e=bb/\g=xs:=by
    rcases g1 with rfl | rfl <;> rcases g2 with g2 | g2 <;> simp at g2 <;> simp [g2]
   obtain⟨rfl,rfl,rfl⟩:=this;exact⟨by rw [d,a], .inl ⟨_,_,_,a, .inr (by rw [d])⟩⟩
  .rcases g1 with rfl | rfl <;> rcases g2 with⟨cs,g2,_⟩ | g2 <;> simp at g2
 .rcases n with⟨f,e,g,a,g2⟩ | ⟨o,a,g2⟩
  .rcases g2 with rfl | rfl <;> rcases g1 with⟨cs,g1,_⟩ | g1 <;> simp at g1
  .simp only at d a;have:o=l:=by
    rcases g1 with⟨cs,rfl,g1⟩ | rfl
    .rcases g2 with⟨m,g2,k⟩ | g2
     .simp only [Mt,ad.box.injEq] at g2;subst g2;rw [g1] at k;simpa using k.symm
     .simp at g2
    .rcases g2 with⟨m,g2,k⟩ | g2
     .simp at g2
     .simpa using g2.symm
   subst this;exact⟨by rw [d,a], .inr ⟨_,a, .inr (by rw [d])⟩⟩
theorem HS.shut(hs:HS c w h ρ O){i:Id}{b:ad}(m:nW (i,b) (h i)):
  ∃a,Le w ρ O w ρ a/\HS c w (aF h i (some b)) ρ a/\(∀j,a j=O j\/a j=none)/\a i=none/\∀j,j≠i->a j=O j:=by
 have k:∀(f:Id->Option ad) (v:Option ad),f i=v->aF f i v=f:=by
  intro f v h;funext j;unfold aF;split
  .rename_i e;rw [e,h]
  .rfl
 have rel:∀{x:Option ad},HS c w (aF h i x) ρ (aF O i none)->∃a,Le w ρ O w ρ a/\HS c w (aF h i x) ρ a/\(∀j,a j=O j\/a j=none)/\a i=none/\∀j,j≠i->a j=O j:=by
  intro x p;exact⟨_,Le.release,p,λj=>by
   by_cases e:j=i
   .subst e;right;simp
   .left;exact au _ _ e,by simp,λj e=>au _ _ e⟩
 have same:h i=some b->O i=none->∃a,Le w ρ O w ρ a/\HS c w (aF h i (some b)) ρ a/\(∀j,a j=O j\/a j=none)/\a i=none/\∀j,j≠i->a j=O j:=by intro n o;exact⟨O,Le.refl,by rw [k _ _ n];exact hs,λj=> .inl rfl,o,λ_ _=>rfl⟩
 rcases m with⟨sz,bb,xs,e,d⟩ | ⟨l,e,d⟩
 .simp only at e;subst e;rcases d with d | d
  .exact rel (hs.freeze d)
  .obtain⟨_,_,_,g⟩:=hs.ae i _ d;exact same d (g rfl)
 .simp only at e;subst e;rcases d with⟨cs,d,hl⟩ | d
  .exact rel (hs.Hu d hl)
  .obtain⟨_,_,g,_⟩:=hs.ae i _ d;exact same d g
theorem qw(v:AV):eZ h (fC h v):=by
 intro p a;unfold fC at a;split at a
 .split at a
  .rename_i i sz b xs d;simp only [MI] at a;subst a;exact .inl ⟨sz,b,xs,rfl, .inl d⟩
  .cases a
 .split at a
  .rename_i i _ _ _ sz b xs d;simp only [MI] at a;subst a;exact .inl ⟨sz,b,xs,rfl, .inl d⟩
  .cases a
 .split at a
  .rename_i i _ cs d;split at a
   .rename_i l hl;simp only [MI] at a;subst a;exact .inr ⟨l,rfl, .inl ⟨cs,d,hl⟩⟩
   .cases a
  .cases a
 .cases a
theorem eZ.append{us vs:aB}(b:eZ h us)(d:eZ h vs):eZ h (us++vs):=by
 intro p a;rcases MQ.1 a with a | a
 .exact b p a
 .exact d p a
theorem wh:∀(vs:List AV),eZ h (kq h vs)
 | []=>by intro p a;cases a
 | v::vs=>(qw v).append (wh vs)
theorem wm(v:AV):eZ h (ft h v):=by
 unfold ft;split
 .exact wh _
 .exact qw v
theorem HS.AW:∀{us:aB} {h:Id->Option ad} {O:Id->Option Nat},HS c w h ρ O->eZ h us->
  ∃O',Le w ρ O w ρ O'/\HS c w (aJ h us) ρ O'/\(∀i,O' i=O i\/O' i=none)/\(∀p∈us,O' p.1=none)/\∀i,(∀p∈us,p.1≠i)->O' i=O i
 | [],h,O,hs,_=>⟨O,Le.refl,hs,λi=> .inl rfl,by simp,λ_ _=>rfl⟩
 | (i,b)::us,h,O,hs,d=>by
  have k:=d (i,b) Mv;obtain⟨C,o,q,r,t,u⟩:=hs.shut k;have g:eZ (aF h i (some b)) us:=by
   intro p a;have f:=d p (Mx _ a);by_cases e:p.1=i
   .obtain⟨j,x⟩:=p;simp only at e f;subst e;rw [aA];exact(k.again f).2
   .rw [au _ _ e];exact f
  obtain⟨n,v,y,m,z,B⟩:=HS.AW q g;refine⟨n,o.trans v,y,λj=> ?_,λp a=> ?_,λj l=> ?_⟩
  .rcases m j with e | e
   .rw [e];exact r j
   .exact .inr e
  .rcases MN.1 a with rfl | a
   .rcases m i with e | e
    .rw [e];exact t
    .exact e
   .exact z p a
  .rw [B j (λp a=>l p (Mx _ a)),u j (λe=>l (i,b) Mv e.symm)]
theorem sW(hs:HS c w h ρ O){v:AV}{x:T}(a:cX h v=some x){i:Id}{ae:Nat}(d:pf v i)(ho:O i=some ae):∃p∈fC h v,p.1=i:=by
 rcases d with rfl | ⟨sz,off,n,rfl⟩ | ⟨off,rfl⟩
 .simp only [cX] at a;split at a
  .rename_i fz sz b xs d;cases fz
   .exact⟨(i, .sl true sz b xs),by simp [fC,d],rfl⟩
   .obtain⟨_,_,_,e⟩:=hs.ae i _ d;rw [e rfl] at ho;cases ho
  .simp at a
 .simp only [cX] at a;split at a
  .rename_i fz f b xs d;cases fz
   .exact⟨(i, .sl true f b xs),by simp [fC,d],rfl⟩
   .obtain⟨_,_,_,e⟩:=hs.ae i _ d;rw [e rfl] at ho;cases ho
  .simp at a
 .simp only [cX] at a;split at a
  .rename_i cs d;obtain⟨l,hl,_⟩:=Mu.1 a;exact⟨(i, .cE l),by simp [fC,d,hl],rfl⟩
  .rename_i l d;obtain⟨_,_,e,_⟩:=hs.ae i _ d;rw [e] at ho;cases ho
  .simp at a
theorem A2(hs:HS c w h ρ O):∀{vs:List AV} {xs:List T},jm h vs=some xs->∀{i:Id} {ae:Nat},(∃u∈vs,pf u i)->O i=some ae->∃p∈kq h vs,p.1=i
 | [],_,_,i,ae,⟨u,hu,_⟩,_=>by cases hu
 | v::vs,xs,a,i,ae,⟨u,hu,g⟩,ho=>by
  simp only [jm] at a;cases b:cX h v with
  | none=>simp [b] at a
  | some x=>
   cases f:jm h vs with
   | none=>simp [b,f] at a
   | some l=>
    rcases MN.1 hu with rfl | hu
    .obtain⟨p,d,e⟩:=sW hs b g ho;exact⟨p,MM _ d,e⟩
    .obtain⟨p,d,e⟩:=A2 hs f ⟨u,hu,g⟩ ho;exact⟨p,MK _ d,e⟩
theorem Hw(hs:HS c w h ρ O){v:AV}{xs:List T}(b:jl h v=some xs){i:Id}{ae:Nat}(a:Cs v i)(ho:O i=some ae):∃p∈ft h v,p.1=i:=by
 rcases a with a | ⟨vs,rfl,a⟩
 .have:∃x,cX h v=some x:=by
   rcases a with rfl | ⟨_,_,_,rfl⟩ | ⟨_,rfl⟩ <;> exact(Mu.1 b).elim λx d=>⟨x,d.1⟩
  obtain⟨x,d⟩:=this;obtain⟨p,f,e⟩:=sW hs d a ho;refine⟨p, ?_,e⟩;rcases a with rfl | ⟨_,_,_,rfl⟩ | ⟨_,rfl⟩ <;> exact f
 .exact A2 hs b a ho
theorem xI{v:AV}{xs:List T}{u:Value}{O':Id->Option Nat}(hs:HS c w h ρ O)(o:aj w (AA c w O) ρ v u)(f:jl h v=some xs)(le:Le w ρ O w ρ O')(g:∀i,O' i=O i\/O' i=none)
  (l:∀p∈ft h v,O' p.1=none):aQ w (AA c w O') xs u.cells.toList/\∀y∈u.cells.toList,y.oneCell'=true/\y.cells= #[y]:=by
 refine LK hs o f (λb k=>(le.A b k).1) (λi ae m ho=> ?_);obtain⟨p,n,e⟩:=Hw hs f m ho;refine⟨.inr (hs.own i ae ho),hs.lt i ae ho,λj a=> ?_⟩;rcases g j with d | d
 .rw [d] at a;have:=hs.inj j i ae a ho;subst this;have:=l p n;rw [e,d,a] at this;cases this
 .rw [d] at a;cases a
theorem iL(hs:HS c w h ρ O){i:Id}{u:Value}(e:ρ i=some u):u.oneCell'=true/\u.cells= #[u]:=by
 cases j:h i with
 | none=>
  cases k:i.real with
  | true=>rw [(hs.cj i k j).1] at e;cases e
  | false=>
   cases i with
   | g i n=>exact hs.gone i n u e
   | _=>cases k
 | some b=>
  have:=hs.ae i b j;cases b with
  | box cs=>obtain⟨b,_,_,d,_⟩:=this;rw [e] at d;simp only [Mt] at d;subst d;exact⟨rfl,rfl⟩
  | sl fz sz b xs=>obtain⟨v,d,⟨a,cap,f,_⟩,_⟩:=this;rw [e] at d;simp only [Mt] at d;subst d;subst f;exact⟨rfl,rfl⟩
  | cE l=>obtain⟨b,d,_⟩:=this;rw [e] at d;simp only [Mt] at d;subst d;exact⟨rfl,rfl⟩
  | mp ag ks vk es=>obtain⟨b,_,_,d,_⟩:=this;rw [e] at d;simp only [Mt] at d;subst d;exact⟨rfl,rfl⟩
  | arr cs=>obtain⟨b,_,_,d,_⟩:=this;rw [e] at d;simp only [Mt] at d;subst d;exact⟨rfl,rfl⟩
  | rows b sz col rsz m es=>obtain⟨a,cap,d,_⟩:=this;rw [e] at d;simp only [Mt] at d;subst d;exact⟨rfl,rfl⟩
  | dead=>obtain⟨⟨v,d,f⟩,_⟩:=this;rw [e] at d;simp only [Mt] at d;subst d;exact f
theorem J1(hs:HS c w h ρ O){v:AV}{u:Value}(a:aj w A ρ v u)(d:mZ v=true):u.oneCell'=true/\u.cells= #[u]:=by
 cases v <;> simp only [mZ,MZ] at d <;> simp only [aj] at a
 case t=>exact a.nH
 case ref=>obtain⟨b,_,rfl⟩:=a;exact⟨rfl,rfl⟩
 case el=>obtain⟨_,_,_,_,_,rfl⟩:=a;exact⟨rfl,rfl⟩
 case own=>exact iL hs a
 case part=>obtain⟨_,_,_,_,_,_,_,rfl,_⟩:=a;exact⟨rfl,rfl⟩
 case row=>exact hs.gone _ _ _ a
 case rel=>obtain⟨_,_,_,_,_,rfl⟩:=a;exact⟨rfl,rfl⟩
 case fn=>obtain⟨_,_,rfl,_⟩:=a;exact⟨rfl,rfl⟩
theorem sn(hs:HS c w h ρ O){v:AV}{u:Value}(a:aj w A ρ v u)(g:(fk v).all mZ=true):az w A ρ (fk v) u.cells.toList/\∀y∈u.cells.toList,y.oneCell'=true/\y.cells= #[y]:=by
 have one:fk v= [v]->az w A ρ (fk v) u.cells.toList/\∀y∈u.cells.toList,y.oneCell'=true/\y.cells= #[y]:=by intro e;rw [e] at g⊢;simp only [NL,List.all_nil,NK] at g;have d:=J1 hs a g;rw [d.2];refine⟨by simp only [az];exact⟨u,[],rfl,a,rfl⟩, ?_⟩;intro y b;simp at b;subst b;exact d
 cases v
 case agg vs=>simp only [aj] at a;obtain⟨j,rfl,d,i⟩:=a;exact⟨by simpa [fk,Value.cells] using d,by simpa [Value.cells] using i⟩
 case fn f x y=>
  cases x with
  | cons _ _=>exact one rfl
  | nil=>cases y with
   | cons _ _=>exact one rfl
   | nil=>simp only [aj,az] at a;obtain⟨k,l,rfl,rfl,rfl⟩:=a;refine⟨by simp [fk,Value.cells,az,aj,ay], ?_⟩;intro y b;simp [Value.cells] at b;subst b;exact⟨rfl,rfl⟩
 all_goals exact one rfl
end
open Go Go.IntKind
section
variable {P:Program} {w w':World} {A A':Nat->Prop} {c:Ctx} {ρ:Id->Option Value} {O:Id->Option Nat} {s:St} {cc:Option Bool} {h:Id->Option ad}
theorem qd{b:Nat}{arr:Array Value}{t:TypeId}{a:Nat×Nat}(d:w.heap[b]? =some (.cells arr t a))(cs:Array Value)(p:Nat):(w.setRow b cs).cell? ⟨b,p,none⟩=cs[p]?:=by simp only [World.cell?,setRow_heap w b arr cs t a d];rfl
theorem iZ{b:Nat}{arr:Array Value}{t:TypeId}{a:Nat×Nat}(d:w.heap[b]? =some (.cells arr t a))(p:Nat):w.cell? ⟨b,p,none⟩=arr[p]?:=by simp only [World.cell?,d];rfl
theorem nP(w:World)(b:Nat)(cs:Array Value):(w.setRow b cs).heap.size=w.heap.size:=by simp [World.setRow]
theorem pg{e:Type}(off:Nat)(new a:List e)(hl:off+new.length<=a.length)(p:Nat):(cb off new a)[p]? =if off<=p/\p < off+new.length then new[p - off]? else a[p]?:=by
 unfold cb;rw [MY];have b:(a.take off).length=off:=by rw [Nv];omega
 by_cases h:p < off
 .rw [Nb (by omega),if_neg (by omega),OV,if_pos h]
 .rw [Nt (by omega),b];by_cases d:p < off+new.length
  .rw [Nb (by omega),if_pos ⟨by omega,d⟩]
  .rw [Nt (by omega),if_neg (by omega),OB];congr 1;omega
theorem nN{b:Type}(off:Nat)(new a:List b)(hl:off+new.length<=a.length):(cb off new a).length=a.length:=by simp only [cb,Ny,Nv,NH];omega
theorem aY.jg{ae:Nat}:∀{l:List T} {vs:List Value} {off:Nat},aQ w A l vs->(∀j v,vs[j]? =some v->w.cell? ⟨ae,off+j,none⟩=some v)->aY w A ae off l
 | [],_,_,_,_=>by simp [aY]
 | x::l,vs,off,⟨v,r,e,b,d⟩,a=>by subst e;simp only [aY];refine⟨⟨v,by simpa using a 0 v rfl,b⟩,aY.jg d λj u f=> ?_⟩;have:=a (j+1) u (by simpa using f);rw [show off+1+j=off+ (j+1) by omega];exact this
theorem aY.cells{ae:Nat}(a:∀b,A b->A' b/\w'.heap[b]? =w.heap[b]?):∀{cs:List T} {off:Nat},(∀j,j < cs.length->w'.cell? ⟨ae,off+j,none⟩=w.cell? ⟨ae,off+j,none⟩)->aY w A ae off cs->aY w' A' ae off cs
 | [],_,_,_=>by simp [aY]
 | x::cs,off,d,e=>by
  simp only [aY] at e⊢;obtain⟨⟨v,f,g⟩,i⟩:=e;refine⟨⟨v, ?_,ay.mono a x v g⟩,aY.cells a (λj k=> ?_) i⟩
  .have:=d 0 (by simp);simp only [OA] at this;rw [this];exact f
  .have:=d (j+1) (by simp;omega);rw [show off+1+j=off+ (j+1) by omega];exact this
theorem aY.append{ae:Nat}:∀{a b:List T} {off:Nat},aY w A ae off a->aY w A ae (off+a.length) b->aY w A ae off (a++b)
 | [],b,off,_,h=>by simpa using h
 | x::a,b,off,h,d=>by
  simp only [aY,Nu] at h⊢;refine⟨h.1,aY.append h.2 ?_⟩;have:off+1+a.length=off+ (x::a).length:=by simp;omega
  rw [this];exact d
theorem aY.take{ae:Nat}:∀{cs:List T} {off:Nat},aY w A ae off cs->∀n,aY w A ae off (cs.take n)
 | _,_,_,0=>by simp [aY]
 | [],_,_,n+1=>by simp [aY]
 | x::cs,off,h,n+1=>by simp only [aY,OS] at h⊢;exact⟨h.1,aY.take h.2 n⟩
theorem a8.cells{ae sz:Nat}(d:∀b,A b->A' b/\w'.heap[b]? =w.heap[b]?):∀{xs:List (List T)} {off:Nat},(∀p,off<=p->p < off+xs.length * sz->w'.cell? ⟨ae,p,none⟩=w.cell? ⟨ae,p,none⟩)->a8 w A ae sz off xs->a8 w' A' ae sz off xs
 | [],_,_,_=>by simp [a8]
 | cs::xs,off,f,a=>by
  simp only [a8] at a⊢;have e:(cs::xs).length * sz=sz+xs.length * sz:=by simp [Nr];omega
  refine⟨a.1,aY.cells d (λj k=>f _ (by omega) (by rw [e];omega)) a.2.1,a8.cells d (λp g i=>f p (by omega) (by rw [e];omega)) a.2.2⟩
theorem a8.set{ae sz:Nat}(i:∀b,A b->A' b/\w'.heap[b]? =w.heap[b]?):∀{xs:List (List T)} {off k:Nat} {new:List T},a8 w A ae sz off xs->k < xs.length->new.length=sz->aY w' A' ae (off+k * sz) new->
  (∀p,off<=p->p < off+xs.length * sz->¬(off+k * sz<=p/\p < off+k * sz+sz)->w'.cell? ⟨ae,p,none⟩=w.cell? ⟨ae,p,none⟩)->a8 w' A' ae sz off (xs.set k new)
 | [],_,_,_,_,l,_,_,_=>by simp at l
 | cs::xs,off,0,new,d,_,m,a,f=>by
  simp only [a8,OW] at d⊢;have e:(cs::xs).length * sz=sz+xs.length * sz:=by simp [Nr];omega
  exact⟨m,by simpa using a,a8.cells i (λp n o=>f p (by omega) (by rw [e];omega) (by omega)) d.2.2⟩
 | cs::xs,off,k+1,new,d,l,m,a,f=>by
  simp only [a8,OC] at d⊢;have e:(cs::xs).length * sz=sz+xs.length * sz:=by simp [Nr];omega
  have g:(k+1) * sz=sz+k * sz:=by rw [Nr];omega
  refine⟨d.1,aY.cells i (λj r=>f _ (by omega) (by rw [e];omega) (by rw [g];omega)) d.2.1,a8.set i d.2.2 (by simpa using l) m ?_ (λp n o q=>f p (by omega) (by rw [e];omega) (by rw [g];omega))⟩;rw [show off+sz+k * sz=off+ (k+1) * sz by rw [g];omega];exact a
theorem az.cb{a l:List AV}{vs us:List Value}(h:az w A ρ a vs)(b:az w A ρ l us)(off:Nat):az w A ρ (cb off l a) (cb off us vs):=by unfold Aev.cb;have:=b.length;rw [this];exact((h.take off).append b).append (h.drop _)
theorem aY.cb{ae base off:Nat}{cs l:List T}(a:aY w A ae base (cs.take off))(b:aY w A ae (base+off) l)(d:aY w A ae (base+off+l.length) (cs.drop (off+l.length)))(hl:off<=cs.length):aY w A ae base (cb off l cs):=by
 unfold Aev.cb;rw [MY];have lt:(cs.take off).length=off:=by rw [Nv];omega
 exact aY.append a (aY.append (by rw [lt];exact b) (by rw [lt];exact d))
theorem uc{t:TypeId}(g:bR P t=true){b off:Nat}{arr:Array Value}{d:TypeId}{v:Value}(f:w.heap[b]? =some (.cells arr d (0,0)))(hl:v.cells.size=P.cellsOf t)(a:off+v.cells.toList.length<=arr.size)
  (e:∀u∈v.cells.toList,u.oneCell'=true):(storeVar t ⟨b,off,none⟩ v).run P w= .ok () (w.setRow b (cb off v.cells.toList arr.toList).toArray):=by
 unfold storeVar;simp only [MV,gV g,MH,hl,ne_eq,not_true_eq_false,if_false];have:=run_storeCells_at P b off d v.cells.toList 0 arr w f (by simpa using a) e;simp only [OA] at this;rw [this];rfl
theorem AY{v:AV}{p:Id×ad}(a:p∈fC h v):p.1∈v.ids:=by
 unfold fC at a;split at a
 .split at a
  .simp only [MI] at a;subst a;simp [AV.ids]
  .cases a
 .split at a
  .simp only [MI] at a;subst a;simp [AV.ids]
  .cases a
 .split at a
  .split at a
   .simp only [MI] at a;subst a;simp [AV.ids]
   .cases a
  .cases a
 .cases a
theorem A3:∀{vs:List AV} {p:Id×ad},p∈kq h vs->p.1∈bS vs
 | [],p,a=>by cases a
 | v::vs,p,a=>by
  simp only [kq,MQ] at a;simp only [bS,MQ];rcases a with a | a
  .exact .inl (AY a)
  .exact .inr (A3 a)
theorem A5{v:AV}{p:Id×ad}(a:p∈ft h v):p.1∈v.ids:=by
 unfold ft at a;split at a
 .simp only [AV.ids];exact A3 a
 .exact AY a
theorem cR:∀{us:aB} {h:Id->Option ad} {i:Id},(∀p∈us,p.1≠i)->aJ h us i=h i
 | [],_,_,_=>rfl
 | (j,b)::us,h,i,a=>by rw [cD,cR (λp d=>a p (Mx _ d)),au _ _ (λe=>a (j,b) Mv e.symm)]
theorem rG:∀{us:aB} {h:Id->Option ad} {i:Id} {b:ad},(∀p∈us,p.1≠i)->aJ (aF h i (some b)) us=aF (aJ h us) i (some b)
 | [],_,_,_,_=>rfl
 | (j,x)::us,h,i,b,f=>by
  rw [cD,cD,<-rG (λp g=>f p (Mx _ g))];congr 1;funext k;have:j≠i:=λe=>f (j,x) Mv e;by_cases a:k=j
  .subst a;rw [aA,au _ _ this,aA]
  .by_cases d:k=i
   .subst d;rw [au _ _ a,aA,aA]
   .rw [au _ _ a,au _ _ d,au _ _ d,au _ _ a]
theorem HS.nv{us:aB}(hs:HS c w h ρ O)(a:eZ h us):
  ∃O',Le w ρ O w ρ O'/\HS c w (aJ h us) ρ O'/\(∀i,O' i=O i\/O' i=none)/\(∀p∈us,O' p.1=none)/\∀i,(∀p∈us,p.1≠i)->O' i=O i:=HS.AW hs a
theorem uo{b:Nat}{i:Id}(a:O i=some b)(cs:Array Value):Le w ρ O (w.setRow b cs) ρ O:=
 Le.write a rfl rfl rfl (nP w b cs) λk d=>setRow_other w b k cs d
theorem cz.put{t:TypeId}{sz k off b o L cap:Nat}{bb:Bool}{xs M:List (List T)}{l:List T}{d:Value}{Q:Nat->Prop}(V:cz w A sz bb xs (.slice (some ⟨b,o,none⟩) L cap) Q)(f:fT k off l xs=some M)(W:bR P t=true)
  (N:l.length=P.cellsOf t) (C:aQ w A l d.cells.toList) (R:∀u∈d.cells.toList,u.oneCell'=true/\u.cells= #[u]):
  ∃cs,Q b/\(storeVar t ⟨b,o+k * sz+off,none⟩ d).run P w= .ok () (w.setRow b cs)/\
   ∀A' B,(∀n,A n->A' n/\(w.setRow b cs).heap[n]? =w.heap[n]?)->B b->cz (w.setRow b cs) A' sz bb M (.slice (some ⟨b,o,none⟩) L cap) B:=by
 obtain⟨a',cap',G,Y,Z,q4,H⟩:=V;simp only [Nw] at G;obtain⟨rfl,rfl,rfl⟩:=G;unfold fT at f;cases i:xs[k]? with
 | none=>simp [i] at f
 | some cs=>
  simp only [i] at f;split at f
  .rename_i q;simp only [Mt] at f;subst f;have E:k < xs.length:=(My.1 i).1;rcases H with H | ⟨ae,off',arr,K,I,q7,v,q9,z⟩
   .omega
   .simp only [Mt,Ns] at I;obtain⟨rfl,rfl,_⟩:=I;obtain⟨F,x⟩:=z.get i;have S:=C.length;have U:(k+1) * sz<=cap * sz:=Nq _ (by omega);have e2:(k+1) * sz=k * sz+sz:=Nr _ _;have e:o+k * sz+off+d.cells.toList.length<=arr.size:=by omega
    have J:=uc (P:=P) W v (by rw [<-M1,S,N]) e (λu X=>(R u X).1);refine⟨_,q7,J,λA' B g D=> ?_⟩;have y:(xs.set k (cb off l cs)).length=xs.length:=by simp
    refine⟨some ⟨b,o,none⟩,cap,by rw [y],by rw [y];exact Y,Z,q4, .inr ⟨b,o,_,K,rfl,D,setRow_heap w b arr _ K (0,0) v, ?_, ?_⟩⟩
    .have:=nN (o+k * sz+off) d.cells.toList arr.toList (by simpa using e);simp only [NI];rw [this];simpa using q9
    .have a:∀p,(w.setRow b (cb (o+k * sz+off) d.cells.toList arr.toList).toArray).cell? ⟨b,p,none⟩=if o+k * sz+off<=p/\p < o+k * sz+off+d.cells.toList.length then d.cells.toList[p - (o+k * sz+off)]? else w.cell? ⟨b,p,none⟩:=by
      intro p;rw [qd v,On,pg _ _ _ (by simpa using e),iZ v];simp
     have r:(cb off l cs).length=sz:=by rw [nN off l cs q,F]
     refine a8.set g z E r ?_ ?_
     .refine aY.cb (aY.cells g (λj m=> ?_) (x.take off)) ?_ ?_ (by omega)
      .have lt:(cs.take off).length=off:=by rw [Nv];omega
       rw [lt] at m;rw [a,if_neg (by omega)]
      .refine aY.jg (aQ.mono g _ _ C) (λj u m=> ?_);have hj':j < d.cells.toList.length:=(My.1 m).1;rw [a,if_pos (by omega)];rw [show o+k * sz+off+j - (o+k * sz+off)=j by omega];exact m
      .have:=x.drop (off+l.length);rw [show o+k * sz+off+l.length=o+k * sz+ (off+l.length) by omega];refine aY.cells g (λj m=> ?_) this;rw [a,if_neg (by omega)]
     .intro p h1 h2 h3;rw [a,if_neg (by omega)]
  .simp at f
theorem sQ{n:Nat}{p:Bool×List (List T)}:∀{es:List Row},cq n es=some p->∃k e,es[k]? =some e/\e.n=n/\e.own=some p/\∀q,cH n q es=es.set k {e with own:=q}
 | [],h=>by simp [cq] at h
 | e::es,h=>by
  unfold cq at h;by_cases c:e.n=n
  .rw [if_pos c] at h;exact⟨0,e,rfl,c,h,λq=>by simp [cH,c]⟩
  .rw [if_neg c] at h;obtain⟨k,e',a,b,d,f⟩:=sQ h;exact⟨k+1,e',by simpa using a,b,d,λq=>by simp [cH,c,f]⟩
theorem qN{es:List Row}(h:(es.map (·.n)).Nodup){j k:Nat}{x y:Row}(g:es[j]? =some x)(i:es[k]? =some y)(e:x.n=y.n):j=k:=by
 have d:(es.map (·.n))[j]? =some x.n:=by simp [g]
 have f:(es.map (·.n))[k]? =some x.n:=by simp [i,e]
 obtain⟨l,a⟩:=My.1 d;obtain⟨m,b⟩:=My.1 f;exact(List.getElem_inj h).1 (a.trans b.symm)
theorem B0:∀{l:List Nat} {k x:Nat},l.Nodup->x∉l->(l.set k x).Nodup
 | [],_,_,_,_=>by simp
 | a::l,0,x,b,d=>by simp only [OW,NC,MN,not_or] at b d⊢;exact⟨d.2,b.2⟩
 | a::l,k+1,x,b,d=>by
  simp only [OC,NC,MN,not_or] at b d⊢;refine⟨λhm=> ?_,B0 b.2 d.2⟩;rcases N8 hm with h | h
  .exact b.1 h
  .exact d.1 h.symm
theorem HI{O':Id->Option Nat}(hs:HS c w h ρ O)(a:Id->Option Id)(d:∀k b,O' k=some b->∃x,a k=some x/\O x=some b)(e:∀k f x,a k=some x->a f=some x->k=f):∀i j b,O' i=some b->O' j=some b->i=j:=by intro i j b g l;obtain⟨x,m,x2⟩:=d i b g;obtain⟨y,n,o⟩:=d j b l;have:=hs.inj x y b x2 o;subst this;exact e i j x m n
theorem HS.putRow{i j:Id}{b bb:Bool}{sz col rsz q k ae:Nat}{es:List Row}{e:Row}{xs:List (List T)}{J:Value}{cs:Array Value}(hs:HS c w h ρ O)(hi:h i=some (.rows b sz col rsz q es))(X:h j=some (.sl false rsz bb xs))(V:es[k]? =some e)(hv:ρ j=some J)
  {a:Option Addr} {cap:Nat} (hρ:ρ i=some (.slice a es.length cap)) {off:Nat} {arr:Array Value} {t:TypeId} (ha:a=some ⟨ae,off,none⟩) (hO:O i=some ae) (hb:w.heap[ae]? =some (.cells arr t (0,0))) (hfit:off+cap * sz<=arr.size)
  (hcs:cs= (cb (off+k * sz+col) [J] arr.toList).toArray):
  ∃ρ' O',Le w ρ O (w.setRow ae cs) ρ' O'/\HS c (w.setRow ae cs) (aF (aF h j (some .dead)) i (some (.rows b sz col rsz (q+1) (es.set k ⟨q,e.cs,some (bb,xs)⟩)))) ρ' O':=by
 obtain⟨a',cap',r1,r2,r3,⟨n1,n2,n3,n4⟩,r5⟩:=hs.ae i _ hi;rw [hρ] at r1;simp only [Mt,Nw] at r1;obtain⟨rfl, -,rfl⟩:=r1;have hlt:k < es.length:=(My.1 V).1;have R:cg w (AA c w O) ρ O i ae sz col rsz off es:=by
  rcases r5 with r5 | ⟨blk',off',arr',t',q1,q2,q3,q4,q5⟩
  .omega
  .rw [ha] at q1;simp only [Mt,Ns] at q1;obtain⟨rfl,rfl,_⟩:=q1;exact q5
 have hen:e.n < q:=n2 e (MD V);have G:=hs.real (i:=i) (by rw [hi];simp);have Q:=hs.real (i:=j) (by rw [X];simp);have hij:j≠i:=λe=>by rw [e,hi] at X;cases X
 have N:∀n,Id.g i n≠j:=λn=>aN Q;obtain⟨v',s1,s2,_⟩:=hs.ae j _ X;rw [hv] at s1;cases s1;have I:=R.get V;have hcol:=I.2.1;have hbnd:(k+1) * sz<=cap * sz:=Nq _ (by omega);have e2:(k+1) * sz=k * sz+sz:=Nr _ _;have L:off+k * sz+col+ [J].length<=arr.toList.length:=by simp;omega
 let ρ':Id->Option Value:=aF ρ (.g i q) (some J);let O':Id->Option Nat:=λx=>if x= .g i q then O j else if x=j then none else if x= .g i e.n then none else O x;have F:∀x,x≠ .g i q->x≠j->x≠ .g i e.n->O' x=O x:=λx o H S=>by simp only [O',if_neg o,if_neg H,if_neg S]
 have hOn:O' (.g i q)=O j:=by simp only [O',if_true]
 have hOj:O' j=none:=by simp only [O',if_neg (N q).symm,if_true]
 have hOe:O' (.g i e.n)=none:=by
  have o:Id.g i e.n≠ .g i q:=by intro h;cases h;omega
  simp only [O',if_neg o,if_neg (N e.n),if_true]
 have K:∀x d,O' x=some d->(x= .g i q/\O j=some d)\/(x≠ .g i q/\x≠j/\x≠ .g i e.n/\O x=some d):=by
  intro x d l;simp only [O'] at l;split at l
  .exact .inl ⟨by assumption,l⟩
  .split at l
   .cases l
   .split at l
    .cases l
    .exact .inr ⟨by assumption,by assumption,by assumption,l⟩
 have le:Le w ρ O (w.setRow ae cs) ρ' O':=by
  refine⟨rfl,rfl,rfl,by rw [nP];exact M2 _,λx u l=> ?_,λd _ hn=>setRow_other w ae d _ λe=>hn i (e▸hO),λx d l=> ?_⟩
  .by_cases e:x= .g i q
   .subst e;rw [n3 q (M2 _)] at l;cases l
   .simp only [ρ'];rw [au _ _ e];exact l
  .rcases K x d l with⟨_,h⟩ | ⟨_,_,_,h⟩
   .exact .inl ⟨j,h⟩
   .exact .inl ⟨x,h⟩
 have C:∀x d,x≠i->O x=some d->(w.setRow ae cs).heap[d]? =w.heap[d]?:=λx d l r=>setRow_other w ae d _ λe=>l (hs.inj x i ae (e▸r) hO);refine⟨ρ',O',le,hs.me le (λx y l=> ?_) (λx Z l=> ?_) (λx n=> ?_) (λx n l=> ?_) (λx n u U=> ?_) ?_ (λx d l=> ?_)⟩
 .by_cases v:x=i
  .subst v;rw [aA] at l;cases l;right;have W:(es.set k ⟨q,e.cs,some (bb,xs)⟩).length=es.length:=by simp
   refine⟨a,cap, ?_,by rw [W];exact r2,r3,⟨?_,λf E=> ?_,λn hn=> ?_,λn d r=> ?_⟩, .inr ⟨ae,off,cs,t,ha, ?_,setRow_heap w ae arr _ t (0,0) hb, ?_, ?_⟩⟩
   .rw [W];simp only [ρ'];rw [au _ _ (aN G).symm];exact hρ
   .rw [Pr];refine B0 n1 ?_;intro hm;obtain⟨f,E,e⟩:=M7.1 hm;simp only at e;have:=n2 f E;omega
   .rcases N8 E with E | rfl
    .have:=n2 f E;omega
    .simp
   .have o:Id.g x n≠ .g x q:=by intro h;cases h;omega
    simp only [ρ'];rw [au _ _ o];exact n3 n (by omega)
   .rcases K _ d r with⟨h,_⟩ | ⟨o,_,S,h4⟩
    .cases h;exact⟨_,List.mem_set hlt _,rfl⟩
    .obtain⟨f,E,M⟩:=n4 n d h4;obtain⟨m,hm⟩:=OJ.1 E;have hmk:m≠k:=λe'=>by rw [e',V] at hm;cases hm;rw [M] at S;exact S rfl
     refine⟨f,OJ.2 ⟨m, ?_⟩,M⟩;rw [NT,if_neg (O9 hmk)];exact hm
   .rw [F x (aN G).symm (O9 hij) (aN G).symm];exact hO
   .rw [hcs,NI,nN _ _ _ L];simpa using hfit
   .have D:∀p,(w.setRow ae cs).cell? ⟨ae,p,none⟩=if off+k * sz+col<=p/\p < off+k * sz+col+1 then some J else w.cell? ⟨ae,p,none⟩:=by
     intro p;rw [qd hb,hcs,On,pg _ _ _ L,iZ hb];by_cases Y:off+k * sz+col<=p/\p < off+k * sz+col+1
     .rw [if_pos (by simpa using Y),if_pos Y,show p - (off+k * sz+col)=0 by omega];rfl
     .rw [if_neg (by simpa using Y),if_neg Y];simp
    refine cg.set (λd r=>le.A d r) hlt (λp p1 p2 p3=>by rw [D,if_neg (by omega)]) (λm f hm E=> ?_) ?_ R
    .have M:f.n≠e.n:=λe'=>hm (qN n1 E V e');have hfx:f.n≠q:=by have:=n2 f (MD E);omega
     have o:Id.g x f.n≠ .g x q:=by intro h;simp only [Id.g.injEq] at h;exact hfx h.2
     have H:Id.g x f.n≠ .g x e.n:=by intro h;simp only [Id.g.injEq] at h;exact M h.2
     refine⟨by simp only [ρ'];exact au _ _ o,F _ o (N _) H,λd r=>C _ d (aN G) r⟩
    .refine⟨I.1,hcol,λm y hm B=> ?_,J,by rw [D,if_pos (by omega)],by simp only [ρ'];exact aA _ _ _, ?_⟩
     .obtain⟨u,g1,g2⟩:=I.2.2.1 m y hm B;have hml:m < sz:=by have:=(My.1 B).1;rw [I.1] at this;exact this
      exact⟨u,by rw [D,if_neg (by omega)];exact g1,ay.mono (λd r=>le.A d r) y u g2⟩
     .simp only;refine cz.mono (λd r=>le.A d r) (λd r=> ?_) s2;simp only [MZ,if_false] at r;rw [hOn];exact⟨r,C j d hij r⟩
  .rw [au _ _ v] at l;by_cases e3:x=j
   .subst e3;rw [aA] at l;cases l;exact .inr ⟨⟨J,by simp only [ρ'];rw [au _ _ (N q).symm];exact hv,iL hs hv⟩,hOj⟩
   .rw [au _ _ e3] at l;have hrx:=hs.real (i:=x) (by rw [l];simp);refine .inl ⟨l,F x (aN hrx).symm e3 (aN hrx).symm,λd r=>C x d v r,λn=> ?_⟩;have o:∀m,Id.g x n≠ .g i m:=by intro m h;cases h;exact v rfl
    exact⟨by simp only [ρ'];exact au _ _ (o _),F _ (o _) (aN Q) (o _),λd r=>C _ d (aN G) r⟩
 .by_cases v:x=i
  .subst v;rw [aA] at l;cases l
  .rw [au _ _ v] at l;by_cases e3:x=j
   .subst e3;rw [aA] at l;cases l
   .rw [au _ _ e3] at l;have:=hs.cj x Z l;refine⟨?_, ?_⟩
    .simp only [ρ'];rw [au _ _ (aN Z).symm];exact this.1
    .rw [F x (aN Z).symm e3 (aN Z).symm];exact this.2
 .rw [au _ _ (aN G),au _ _ (aN Q)];exact hs.dr x n
 .by_cases v:x=i
  .subst v;rw [aA] at l;cases l
  .rw [au _ _ v] at l;by_cases e3:x=j
   .subst e3;rw [aA] at l;cases l
   .rw [au _ _ e3] at l;have:=hs.eD x n l;have o:∀m,Id.g x n≠ .g i m:=by intro m h;cases h;exact v rfl
    refine⟨?_, ?_⟩
    .simp only [ρ'];rw [au _ _ (o _)];exact this.1
    .rw [F _ (o _) (aN Q) (o _)];exact this.2
 .by_cases v:Id.g x n= .g i q
  .rw [v] at U;simp only [ρ',aA,Mt] at U;subst U;exact iL hs hv
  .simp only [ρ'] at U;rw [au _ _ v] at U;exact hs.gone x n u U
 .refine HI hs (λx=>if x= .g i q then some j else if x=j then none else some x) (λx d l=> ?_) (λx y z l B=> ?_)
  .rcases K x d l with⟨o,H⟩ | ⟨o,H,_,S⟩
   .exact⟨j,by rw [if_pos o],H⟩
   .exact⟨x,by rw [if_neg o,if_neg H],S⟩
  .split at l <;> split at B
   .rename_i o H;rw [o,H]
   .split at B
    .cases B
    .simp only [Mt] at l B;subst l;rename_i h;exact(h B).elim
   .split at l
    .cases l
    .simp only [Mt] at l B;subst B;rename_i h;exact(h l).elim
   .split at l
    .cases l
    .split at B
     .cases B
     .simp only [Mt] at l B;rw [l,B]
 .rw [nP];rcases K x d l with⟨_,h⟩ | ⟨_,_,_,h⟩
  .exact hs.lt _ d h
  .exact hs.lt _ d h
theorem HS.Mo{i:Id}{n r:Nat}{b:Bool}{sz col rsz X:Nat}{es:List Row}{p:Bool×List (List T)}{F:List (List T)}{v:Value}{cs:Array Value}(hs:HS c w h ρ O)(Q:h i=some (.rows b sz col rsz X es))(hf:cq n es=some p)(M:O (.g i n)=some r)
  (U:ρ (.g i n)=some v) (S:cz (w.setRow r cs) (AA c (w.setRow r cs) O) rsz p.1 F v (λd=>O (.g i n)=some d)):
  HS c (w.setRow r cs) (aF h i (some (.rows b sz col rsz X (cH n (some (p.1,F)) es)))) ρ O:=by
 have le:Le w ρ O (w.setRow r cs) ρ O:=uo M _;have H:=hs.real (i:=i) (by rw [Q];simp);have o:∀x d,x≠ .g i n->O x=some d->(w.setRow r cs).heap[d]? =w.heap[d]?:=λx d j l=>setRow_other w r d _ λe=>j (hs.inj x _ r (e▸l) M);obtain⟨k,e,C,G,heo,K⟩:=sQ hf;refine hs.me le (λx y j=> ?_) (λx hr j=> ?_) (λx m=> ?_) (λx m j=> ?_) hs.gone hs.inj (λx d l=>by rw [nP];exact hs.lt x d l)
 .by_cases z:x=i
  .subst z;rw [aA] at j;cases j;right;obtain⟨a,cap,r1,r2,r3,⟨V,W,n3,n4⟩,L⟩:=hs.ae x _ Q;rw [K];have D:(es.set k {e with own:=some (p.1,F)}).length=es.length:=by simp
   have E:(es.set k {e with own:=some (p.1,F)}).map (·.n)=es.map (·.n):=by
    rw [Pr];refine NJ λm=> ?_;rw [NT];split
    .rename_i h;subst h;have:=(My.1 C).1;rw [if_pos (by simpa using this)];simp [C]
    .rfl
   refine⟨a,cap,by rw [D];exact r1,by rw [D];exact r2,r3,⟨by rw [E];exact V,λf q=> ?_,n3,λm d l=> ?_⟩, ?_⟩
   .rcases N8 q with q | rfl
    .exact W f q
    .exact W e (MD C)
   .obtain⟨f,q,N⟩:=n4 m d l;have:m∈(es.set k {e with own:=some (p.1,F)}).map (·.n):=by rw [E];exact M7.2 ⟨f,q,N⟩
    obtain⟨f',h1,h2⟩:=M7.1 this;exact⟨f',h1,h2⟩
   .rcases L with L | ⟨ae,off,arr,t,q1,Y,q3,q4,Z⟩
    .exact .inl L
    .have B:(w.setRow r cs).heap[ae]? =w.heap[ae]?:=o x ae (aN H).symm Y;refine .inr ⟨ae,off,arr,t,q1,Y,by rw [B];exact q3,q4, ?_⟩;have J:=Z.get C;refine cg.set (λd l=>le.A d l) (My.1 C).1 (λ_ _ _ _=>kQ B) (λm f hm q=>⟨rfl,rfl,λd l=>o _ d (λh=> ?_) l⟩) ?_ Z
     .simp only [Id.g.injEq] at h;exact hm (qN V q C (by rw [h.2,G]))
     .obtain⟨a1,a2,a3,u,a4,I,a7⟩:=J;refine⟨a1,a2,λm y hm hy=> ?_,u,by rw [kQ B];exact a4,I, ?_⟩
      .obtain⟨u',g1,g2⟩:=a3 m y hm hy;exact⟨u',by rw [kQ B];exact g1,ay.mono (λd l=>le.A d l) y u' g2⟩
      .simp only;rw [G] at I⊢;rw [I] at U;cases U;exact S
  .rw [au _ _ z] at j;have R:=hs.real (i:=x) (by rw [j];simp);refine .inl ⟨j,rfl,λd l=>o x d (aN R).symm l,λm=>⟨rfl,rfl,λd l=>o _ d (λh=> ?_) l⟩⟩;simp only [Id.g.injEq] at h;exact z h.1
 .by_cases z:x=i
  .subst z;rw [aA] at j;cases j
  .rw [au _ _ z] at j;exact hs.cj x hr j
 .rw [au _ _ (aN H)];exact hs.dr x m
 .by_cases z:x=i
  .subst z;rw [aA] at j;cases j
  .rw [au _ _ z] at j;exact hs.eD x m j
theorem LW{R:Type}{t:TypeId}{a v:AV}{va y:Value}{K:aB->Option R}{r:R}(hs:HS c w s.h ρ O)(N:aj w (AA c w O) ρ a va)(hx:aj w (AA c w O) ρ v y)(f:gX P s t a v K=some r):
  ∃us w' ρ' O',K us=some r/\(Instr.storeAt t va y).run P w= .ok () w'/\Le w ρ O w' ρ' O'/\HS c w' (aJ s.h us) ρ' O':=by
 unfold gX at f;cases ht:bR P t
 .simp [ht] at f
 simp only [ht,cond_true] at f;split at f
 .rename_i i off;split at f
  .rename_i cs H;split at f
   .rename_i q;obtain⟨T,M,c3⟩:=q;obtain⟨b,arr,t',h1,h2,h3,h4,h5,h6⟩:=uU hs H;simp only [aj] at N;obtain⟨J,x,rfl⟩:=N;rw [h1] at x;simp only [Mt,NW,Ns] at x;obtain⟨rfl,_⟩:=x;obtain⟨U,g2⟩:=sn hs hx M;have gl:=U.length;have hl:=h4.length;have D:off+y.cells.toList.length<=arr.size:=by rw [gl];simp only [M1] at hl;omega
    have B:=uc (P:=P) ht h3 (by rw [<-M1,gl,T]) D (λu hu=>(g2 u hu).1);have le:Le w ρ O (w.setRow b (cb off y.cells.toList arr.toList).toArray) ρ O:=uo h2 _;refine⟨_,_,ρ,O,f,by simpa [Instr.storeAt,Instr.sureAddr] using B,le, ?_⟩;rw [dc];refine hs.write h2 le (λk f=>setRow_other w b k _ f) _ ?_ (by rw [H];simp);refine⟨b,_,t',h1,h2,setRow_heap w b arr _ t' (0,0) h3, ?_, ?_⟩
    .have m:∀(Y:List AV) (vs:List Value),az w (AA c w O) ρ Y vs->az _ _ ρ Y vs:=λY vs hr=>az.mono (λb hb=>le.A b hb) le.dG Y vs hr;exact az.cb (m _ _ h4) (m _ _ U) off
    .intro u hu;simp only [cb,MQ] at hu;rcases hu with(hu | hu) | hu
     .exact h5 u (Ow hu)
     .exact g2 u hu
     .exact h5 u (ON hu)
   .simp at f
  .simp at f
 .rename_i i sz k off;split at f
  .rename_i g bb xs H;obtain⟨l,hsn,f⟩:=Mu.1 f;split at f
   .rename_i q;obtain⟨rfl,T,M⟩:=q;replace f:=aL f (.inl rfl);obtain⟨ys,I,f⟩:=f;have E:∀p∈ft s.h v,p.1≠i:=by
     intro p hp e;have:=A5 hp;rw [e] at this;simp only [List.contains_eq_mem,decide_eq_false_iff_not] at M;exact M this
    obtain⟨G,bY,S,o1,o2,o3⟩:=HS.nv hs (wm (h:=s.h) v);obtain⟨U,g2⟩:=xI hs hx hsn bY o1 o2;have Q:aJ s.h (ft s.h v) i=some (.sl false g bb xs):=by rw [cR E];exact H
    obtain⟨vv,q0,a',cap',X,q2,q3,q4,q5⟩:=lL S Q;simp only [aj] at N;obtain⟨b,o,L,cap,x,rfl⟩:=N;rw [q0] at x;simp only [Mt] at x;subst x;simp only [Nw] at X;obtain⟨rfl,rfl,rfl⟩:=X;unfold fT at I;cases hkx:xs[k]? with
    | none=>simp [hkx] at I
    | some cs=>
     simp only [hkx] at I;split at I
     .rename_i hfit0;simp only [Mt] at I;subst I;have hlt:k < xs.length:=(My.1 hkx).1;rcases q5 with q5 | ⟨ae,off',arr,t',q6,q7,q8,q9,q10⟩
      .omega
      .simp only [Mt,Ns] at q6;obtain⟨rfl,rfl,_⟩:=q6;simp only [MZ,if_false] at q7;obtain⟨lcs,hcs⟩:=q10.get hkx;have gl:=U.length;have hbnd:(k+1) * g<=cap * g:=Nq _ (by omega);have e2:(k+1) * g=k * g+g:=Nr _ _;have D:o+k * g+off+y.cells.toList.length<=arr.size:=by omega
       have B:=uc (P:=P) ht q8 (by rw [<-M1,gl,T]) D (λu hu=>(g2 u hu).1);have F:Le w ρ G (w.setRow b (cb (o+k * g+off) y.cells.toList arr.toList).toArray) ρ G:=uo q7 _;refine⟨_,_,ρ,G,f,by simpa [Instr.storeAt,Instr.sureAddr] using B,bY.trans F, ?_⟩;rw [cD,rG E];refine S.write q7 F (λk f=>setRow_other w b k _ f) _ ?_ (by rw [Q];simp);refine⟨_,q0, ?_,by simp⟩;have hl2:(xs.set k (cb off l cs)).length=xs.length:=by simp
       refine⟨some ⟨b,o,none⟩,cap,by rw [hl2],by rw [hl2];exact q2,q3,q4, .inr ⟨b,o,_,t',rfl,by simpa using q7,setRow_heap w b arr _ t' (0,0) q8, ?_, ?_⟩⟩
       .have:=nN (o+k * g+off) y.cells.toList arr.toList (by simpa using D);simp only [NI];rw [this];simpa using q9
       .have z:∀p,(w.setRow b (cb (o+k * g+off) y.cells.toList arr.toList).toArray).cell? ⟨b,p,none⟩=if o+k * g+off<=p/\p < o+k * g+off+y.cells.toList.length then y.cells.toList[p - (o+k * g+off)]? else w.cell? ⟨b,p,none⟩:=by
         intro p;rw [qd q8,On,pg _ _ _ (by simpa using D),iZ q8];simp
        have Z:∀J,AA c w G J->AA c (w.setRow b (cb (o+k * g+off) y.cells.toList arr.toList).toArray) G J/\(w.setRow b (cb (o+k * g+off) y.cells.toList arr.toList).toArray).heap[J]? =w.heap[J]?:=λJ hb'=>F.A J hb';have lrepl:(cb off l cs).length=g:=by rw [nN off l cs hfit0,lcs]
        refine a8.set Z q10 hlt lrepl ?_ ?_
        .refine aY.cb (aY.cells Z (λj V=> ?_) (hcs.take off)) ?_ ?_ (by omega)
         .have lt:(cs.take off).length=off:=by rw [Nv];omega
          rw [lt] at V;rw [z,if_neg (by omega)]
         .refine aY.jg (aQ.mono Z _ _ U) (λj u V=> ?_);have hj':j < y.cells.toList.length:=(My.1 V).1;rw [z,if_pos (by omega)];rw [show o+k * g+off+j - (o+k * g+off)=j by omega];exact V
         .have:=hcs.drop (off+l.length);rw [show o+k * g+off+l.length=o+k * g+ (off+l.length) by omega];refine aY.cells Z (λj V=> ?_) this;rw [z,if_neg (by omega)]
        .intro p h1 h2 h3;rw [z,if_neg (by omega)]
     .simp at I
   .simp at f
  .rename_i bb g col rsz nx es H;split at f
   .rename_i j;split at f
    .rename_i rsz' J xs V;split at f
     .rename_i q;obtain⟨rfl,rfl,rfl,T,M⟩:=q;replace f:=aL f (.inl rfl);obtain⟨e,he,f⟩:=f;obtain⟨a,cap,r1,r2,r3,r4,r5⟩:=hs.ae i _ H;simp only [aj] at N hx;obtain⟨b,o,L,cap',x,rfl⟩:=N;have e1':=x;rw [r1] at x;simp only [Mt,Nw] at x;obtain⟨rfl,rfl,rfl⟩:=x;have hlt:k < es.length:=(My.1 he).1;rcases r5 with r5 | ⟨ae,off',arr,t',X,q2,q3,q4,q5⟩
      .omega
      .simp only [Mt,Ns] at X;obtain⟨rfl,rfl,_⟩:=X;have W:=iL hs hx;have hcol:=(q5.get he).2.1;have hbnd:(k+1) * g<=cap * g:=Nq _ (by omega);have e2:(k+1) * g=k * g+g:=Nr _ _;have C:y.cells.toList= [y]:=by rw [W.2]
       have B:=uc (P:=P) (w:=w) (v:=y) ht q3 (by rw [W.2,T];rfl) (off:=o+k * g+off) (by rw [C];simp;omega) (λu hu=>by rw [C,MI] at hu;subst hu;exact W.1);rw [C] at B;obtain⟨ρ',O',le,hs'⟩:=hs.putRow H V he hx r1 rfl q2 q3 q4 rfl;refine⟨_,_,ρ',O',f,by simpa [Instr.storeAt,Instr.sureAddr] using B,le, ?_⟩;rw [cD,dc];exact hs'
     .simp at f
    .simp at f
   .simp at f
  .simp at f
 .rename_i i sz n k off;split at f
  .rename_i b g col rsz nx es H;replace f:=aL f (.inl rfl);obtain⟨p,hp,f⟩:=f;replace f:=Mu.1 f;obtain⟨l,hsn,f⟩:=f;split at f
   .rename_i q;obtain⟨rfl,T,M⟩:=q;replace f:=aL f (.inl rfl);obtain⟨ys,I,f⟩:=f;have E:∀p∈ft s.h v,p.1≠i:=by
     intro p hp e;have:=A5 hp;rw [e] at this;simp only [List.contains_eq_mem,decide_eq_false_iff_not] at M;exact M this
    obtain⟨G,bY,S,o1,o2,o3⟩:=HS.nv hs (wm (h:=s.h) v);obtain⟨U,g2⟩:=xI hs hx hsn bY o1 o2;have Q:aJ s.h (ft s.h v) i=some (.rows b g col rsz nx es):=by rw [cR E];exact H
    obtain⟨vv,q0,X⟩:=tX (s:=⟨s.t,aJ s.h (ft s.h v)⟩) S Q hp;simp only [aj] at N;obtain⟨bk,o,L,cap,x,rfl⟩:=N;rw [q0] at x;simp only [Mt] at x;subst x;obtain⟨cs,hOb,B,hsl⟩:=X.put (P:=P) I ht T U g2;have F:Le w ρ G (w.setRow bk cs) ρ G:=uo hOb _;refine⟨_,_,ρ,G,f,by simpa [Instr.storeAt,Instr.sureAddr] using B,bY.trans F, ?_⟩;rw [cD,rG E];exact S.Mo Q hp hOb q0 (hsl _ _ (λd hd=>F.A d hd) hOb)
   .simp at f
  .simp at f
 .simp at f
theorem CV(t:TypeId)(cells:Array Value):(newRow t cells).run P w= .ok ⟨w.heap.size,0,none⟩ (w.alloc (.cells cells t)):=by simp [newRow]
theorem ja(o:Obj):(w.alloc o).heap[w.heap.size]? =some o:=by show(w.heap.push o)[w.heap.size]? =some o;simp
theorem HS.BW{i:Id}(hs:HS c w h ρ O)(a:h i=none){cs:List AV}{vs:List Value}(t:TypeId)(f:az w (AA c w O) ρ cs vs)(d:∀u∈vs,u.oneCell'=true/\u.cells= #[u])(hrl:i.real=true:=by rfl):
  Le w ρ O (w.alloc (.cells vs.toArray t)) (aF ρ i (some (.pointer (some ⟨w.heap.size,0,none⟩)))) (aF O i (some w.heap.size))/\
  HS c (w.alloc (.cells vs.toArray t)) (aF h i (some (.box cs))) (aF ρ i (some (.pointer (some ⟨w.heap.size,0,none⟩)))) (aF O i (some w.heap.size)):=by
 have le:=Le.alloc hs hrl a (.cells vs.toArray t) (.pointer (some ⟨w.heap.size,0,none⟩)) (some w.heap.size) (.inr rfl);refine⟨le,hs.alloc hrl a _ _ _ (.inr rfl) _ ⟨w.heap.size,vs.toArray,t,by simp,by simp,ja _, ?_,d⟩⟩;exact az.mono (λb e=>le.A b e) le.dG _ _ f
theorem HS.JB{i:Id}(hs:HS c w h ρ O)(a:h i=none){cs:List AV}{arr:Array Value}(t:TypeId)(f:az w (AA c w O) ρ cs arr.toList)(d:∀u∈arr.toList,u.oneCell'=true/\u.cells= #[u])(hrl:i.real=true:=by rfl):
  Le w ρ O (w.alloc (.cells arr t)) (aF ρ i (some (.slice (some ⟨w.heap.size,0,none⟩) 1 1))) (aF O i (some w.heap.size))/\
  HS c (w.alloc (.cells arr t)) (aF h i (some (.arr cs))) (aF ρ i (some (.slice (some ⟨w.heap.size,0,none⟩) 1 1))) (aF O i (some w.heap.size)):=by
 have le:=Le.alloc hs hrl a (.cells arr t) (.slice (some ⟨w.heap.size,0,none⟩) 1 1) (some w.heap.size) (.inr rfl);refine⟨le,hs.alloc hrl a _ _ _ (.inr rfl) _ ⟨w.heap.size,arr,t,by simp,by simp,ja _, ?_,d⟩⟩;exact az.mono (λb e=>le.A b e) le.dG _ _ f
theorem B4{u:Value}{x:T}(e:mw u=some x):ay w A x u:=by
 cases u <;> simp only [mw,Mt,reduceCtorEq] at e
 case slice a l b=>split at e <;> simp_all;subst e;simp [ay]
 case pointer a=>split at e <;> simp_all;subst e;simp [ay]
 case map a=>split at e <;> simp_all;subst e;simp [ay]
 all_goals (subst e;simp [ay])
theorem my:∀{us:List Value} {l:List T},jG us=some l->aQ w A l us
 | [],l,e=>by simp only [jG,Mt] at e;subst e;rfl
 | u::us,l,e=>by simp only [jG] at e;obtain⟨x,a,e⟩:=Mu.1 e;obtain⟨d,b,e⟩:=Mu.1 e;simp only [Mt] at e;subst e;exact⟨u,us,rfl,B4 a,my b⟩
theorem lQ{t:TypeId}{l:List T}(e:gy P t=some l):∃i z,P.info? t=some i/\i.zero=some z/\jG z.cells.toList=some l:=by
 unfold gy at e;split at e
 .rename_i i a;split at e
  .rename_i z b;exact⟨i,z,a,b,e⟩
  .simp at e
 .simp at e
theorem Hs(off:Nat)(v cells:Array Value)(d:off+v.size<=cells.size):(v.zipIdx.foldl (λcs (x:Value×Nat)=>cs.setIfInBounds (off+x.2) x.1) cells).toList=cb off v.toList cells.toList:=by
 obtain⟨f,b⟩:=Go.Great.foldl_set off v.toList 0 cells;have e:v.zipIdx.foldl (λcs (x:Value×Nat)=>cs.setIfInBounds (off+x.2) x.1) cells= (v.toList.zipIdx 0).foldl (λcs (x:Value×Nat)=>cs.setIfInBounds (off+x.2) x.1) cells:=by rw [<-Array.foldl_toList,Array.toList_zipIdx]
 rw [e];apply NJ;intro p;rw [Nn,b p,pg off v.toList cells.toList (by simpa using d)];simp only [OA,M1,Nn];by_cases a:off<=p/\p < off+v.size
 .rw [if_pos ⟨a.1,a.2,by omega⟩,if_pos a]
 .rw [if_neg (by omega),if_neg a]
inductive pZ (w:World) (A:Nat->Prop) (ρ:Id->Option Value) (place:Nat->Option (Nat×Nat)):List (Nat×List AV)->List (Nat×Value)->Prop
 | nil:pZ w A ρ place [] []
 | cons {off:Nat} {l:List AV} {f:Nat} {v:Value} {ls:List (Nat×List AV)} {vs:List (Nat×Value)} (hp:place f=some (off,l.length)) (hr:az w A ρ l v.cells.toList) (h1:∀u∈v.cells.toList,u.oneCell'=true/\u.cells= #[u])
   (rest:pZ w A ρ place ls vs):pZ w A ρ place ((off,l)::ls) ((f,v)::vs)
theorem AM{a:Nat->Option (Nat×Nat)}:∀{j:List (Nat×List AV)} {vs:List (Nat×Value)} {i out:List AV} {cells:Array Value},pZ w A ρ a j vs->qF j i=some out->az w A ρ i cells.toList->(∀u∈cells.toList,u.oneCell'=true/\u.cells= #[u])->
  ∃r,Instr.fill a cells vs=some r/\az w A ρ out r.toList/\∀u∈r.toList,u.oneCell'=true/\u.cells= #[u]
 | [],_,i,out,cells, .nil,hl,d,e=>by simp only [qF,Mt] at hl;subst hl;exact⟨cells,rfl,d,e⟩
 | (off,l)::j,(f,v)::vs,i,out,cells, .cons y o n m,hl,d,e=>by
  simp only [qF] at hl;split at hl
  .rename_i t;have k:=o.length;have z:=d.length;simp only [M1] at k z;have g:off+v.cells.size<=cells.size:=by omega
   have b:=Hs off v.cells cells g;obtain⟨r,p,q,e3⟩:=AM (cells:=v.cells.zipIdx.foldl (λcs (x:Value×Nat)=>cs.setIfInBounds (off+x.2) x.1) cells) m hl (by
    rw [b];unfold cb;rw [show v.cells.toList.length=l.length by simpa using k];exact((d.take off).append o).append (d.drop _)) (by
    intro u hu;rw [b] at hu;simp only [cb,MQ] at hu;rcases hu with(hu | hu) | hu
    .exact e u (Ow hu)
    .exact n u hu
    .exact e u (ON hu))
   refine⟨r, ?_,q,e3⟩;unfold Instr.fill;simp only [y];rw [if_neg (by simp [k];omega)];exact p
  .simp at hl
theorem Cc{t:TypeId}{f:Nat}{p:Nat×TypeId}(e:qV P t f=some p)(k:nJ P t=true):
  bR P p.2=true/\((∃a,P.underlying t=some (.struct a)/\(a.toList.map λx=>(x.offset,P.cellsOf x.type))[f]? =some (p.1,P.cellsOf p.2))\/
   ∃n e,P.underlying t=some (.array n e)/\p= (f * P.cellsOf e,e)):=by
 unfold qV at e;split at e
 .rename_i q g;simp only [Mt] at e;subst e;obtain⟨a,x,b,d,i,j⟩:=vY g;refine⟨j, .inl ⟨a,b, ?_⟩⟩;rw [Nz,Nn,d];simp [i]
 .split at e
  .rename_i n u g;simp only [Mt] at e;subst e;obtain⟨b,d⟩:=yq g;exact⟨d, .inr ⟨n,u,b,rfl⟩⟩
  .simp at e
theorem Ce{a:Act}{g:Option Gs}{t:TypeId}(hs:HS c w s.h ρ O)(n:SS w (AA c w O) ρ s.t a.tmps)(m:iV a.tmps g)(l:nJ P t=true)(b:Nat->Option (Nat×Nat))
  (d:∀f p,qV P t f=some p->b f=some (p.1,P.cellsOf p.2)):
  ∀{k:List (Nat×Operand)} {j:List (Nat×List AV)},mC P t (s.get g) k=some j->pZ w (AA c w O) ρ b j (k.map λx=>(x.1,a.eval x.2))
 | [],j,e=>by simp only [mC,Mt] at e;subst e;exact .nil
 | (f,o)::k,j,e=>by
  simp only [mC] at e;obtain⟨p,v,e⟩:=Mu.1 e;split at e
  .rename_i i;obtain⟨q,y,e⟩:=Mu.1 e;simp only [Mt] at e;subst e;have z:=SS.get (h:=s.h) n m o;obtain⟨r,u⟩:=sn hs z i.2;exact .cons (by rw [d f p v,show(St.get ⟨s.t,s.h⟩ g o)=s.get g o from rfl,i.1]) r u (Ce hs n m l b d y)
  .simp at e
theorem Er{a:Act}{g:Option Gs}{t:TypeId}{o:Array (Nat×Operand)}{M:AV}(hs:HS c w s.h ρ O)(Y:SS w (AA c w O) ρ s.t a.tmps)(X:iV a.tmps g)(e:sd P t (s.get g) o.toList=some M):
  ∃v,(Instr.build t (o.map λ(i,x)=>(i,a.eval x))).run P w= .ok v w/\aj w (AA c w O) ρ M v:=by
 unfold sd at e;split at e
 .rename_i b;obtain⟨z,Z,e⟩:=Mu.1 e;obtain⟨l,hl,e⟩:=Mu.1 e;obtain⟨cs,Q,e⟩:=Mu.1 e;simp only [Mt] at e;subst e;obtain⟨i,zv,D,G,S⟩:=lQ Z;have F:aQ w (AA c w O) z zv.cells.toList:=my S;have V:(o.map λ(i,x)=>(i,a.eval x)).toList=o.toList.map λx=>(x.1,a.eval x.2):=by simp
  have key:∀j:Nat->Option (Nat×Nat),(∀f p,qV P t f=some p->j f=some (p.1,P.cellsOf p.2))->∃r,Instr.fill j zv.cells (o.map λ(i,x)=>(i,a.eval x)).toList=some r/\az w (AA c w O) ρ cs r.toList/\∀u∈r.toList,u.oneCell'=true/\u.cells= #[u]:=by intro j y;rw [V];exact AM (Ce hs Y X b j y hl) Q (az.jH F) F.one
  have E:∀r:Array Value,P.built t (o.map λ(i,x)=>(i,a.eval x)).toList=some r->az w (AA c w O) ρ cs r.toList->(∀u∈r.toList,u.oneCell'=true/\u.cells= #[u])->
    ∃v,(Instr.build t (o.map λ(i,x)=>(i,a.eval x))).run P w= .ok v w/\aj w (AA c w O) ρ (.agg cs) v:=by
   intro r W m J;exact⟨_,run_build w t _ r W,by simp only [aj];exact⟨r.toList,by simp,m,J⟩⟩
  cases k:P.underlying t with
  | none=>simp [nJ,k] at b
  | some d=>
   cases d <;> simp only [nJ,k,MZ] at b
   case struct C=>
    have q:C.toList.mapM (λf=>(P.info? f.type).map λi=>(f.offset,i.size))=some (C.toList.map λx=>(x.offset,P.cellsOf x.type)):=by
     generalize C.toList=l at b;induction l with
     | nil=>rfl
     | cons f l ih=>simp only [NL,MB] at b;obtain⟨d,K⟩:=NB.1 b.1;obtain⟨i,D,B⟩:=s6 K;simp only [Pw,D,N1,Option.bind_eq_bind,Mw,ih b.2,Option.pure_def,Nh,B]
    obtain⟨r,H,I,e3⟩:=key ((C.toList.map λx=>(x.offset,P.cellsOf x.type)).toArray[·]?) (λf p L=>by
     obtain⟨_,h | ⟨n,e,h,_⟩⟩:=Cc L (by simp [nJ,k,b])
     .obtain⟨N,m,J⟩:=h;rw [k] at m;simp only [Mt,TypeDesc.struct.injEq] at m;subst m;simpa using J
     .rw [k] at h;simp at h)
    refine E r ?_ I e3;simp only [Program.built,D,k,G,q];exact H
   case array n e=>
    obtain⟨d,K⟩:=NB.1 b;obtain⟨U,R,B⟩:=s6 K;obtain⟨r,H,I,e3⟩:=key (λi=>some (i * U.size,U.size)) (λf p L=>by
     obtain⟨_,⟨N,m,_⟩ | ⟨n',e',h,T⟩⟩:=Cc L (by simp [nJ,k,b])
     .rw [k] at m;simp at m
     .rw [k] at h;simp only [Mt,TypeDesc.array.injEq] at h;obtain⟨rfl,rfl⟩:=h;subst T;simp [B])
    refine E r ?_ I e3;simp only [Program.built,D,k,G,R];exact H
 .simp at e
end
open Go Go.IntKind
section
variable {P:Program} {w w':World} {A A':Nat->Prop} {c:Ctx} {ρ:Id->Option Value} {O:Id->Option Nat} {s:St} {cc:Option Bool} {h:Id->Option ad}
def cn(w:World)(A:Nat->Prop)(sz:Nat):List (List T)->List (List Value)->Prop
 | [],vss=>vss= []
 | cs::xs,vss=>∃vs r,vss=vs::r/\cs.length=sz/\aQ w A cs vs/\cn w A sz xs r
theorem cn.mono{sz:Nat}(a:∀b,A b->A' b/\w'.heap[b]? =w.heap[b]?):∀{xs:List (List T)} {vss:List (List Value)},cn w A sz xs vss->cn w' A' sz xs vss
 | [],_,h=>h
 | cs::xs,vss,⟨vs,r,e,d,f,g⟩=>⟨vs,r,e,d,aQ.mono a cs vs f,cn.mono a g⟩
theorem cn.length{sz:Nat}:∀{xs:List (List T)} {vss:List (List Value)},cn w A sz xs vss->vss.length=xs.length/\vss.flatten.length=xs.length * sz
 | [],vss,h=>by simp only [cn] at h;subst h;simp
 | cs::xs,vss,⟨vs,r,e,d,f,g⟩=>by subst e;obtain⟨a,b⟩:=cn.length g;have:=f.length;refine⟨by simp [a], ?_⟩;simp only [NY,Ny,b,this,d,ME,Nr];omega
theorem cn.one{sz:Nat}:∀{xs:List (List T)} {vss:List (List Value)},cn w A sz xs vss->∀u∈vss.flatten,u.oneCell'=true/\u.cells= #[u]
 | [],vss,h,u,hu=>by simp only [cn] at h;subst h;simp at hu
 | cs::xs,vss,⟨vs,r,e,d,a,b⟩,u,hu=>by
  subst e;simp only [NY,MQ] at hu;rcases hu with hu | hu
  .exact a.one u hu
  .exact cn.one b u hu
theorem cn.append{sz:Nat}:∀{xs d:List (List T)} {vss a:List (List Value)},cn w A sz xs vss->cn w A sz d a->cn w A sz (xs++d) (vss++a)
 | [],_,vss,_,h,b=>by simp only [cn] at h;subst h;simpa using b
 | cs::xs,d,vss,a,⟨vs,r,e,f,g,i⟩,b=>by subst e;exact⟨vs,r++a,rfl,f,g,cn.append i b⟩
theorem a8.bf{ae sz:Nat}:∀{off:Nat} {xs:List (List T)},a8 w A ae sz off xs->∃vss,cn w A sz xs vss/\∀p v,vss.flatten[p]? =some v->w.cell? ⟨ae,off+p,none⟩=some v
 | _,[],_=>⟨[],rfl,by simp⟩
 | off,cs::xs,h=>by
  simp only [a8] at h;obtain⟨vs,b,d⟩:=h.2.1.bf;obtain⟨r,e,f⟩:=a8.bf h.2.2;refine⟨vs::r,⟨vs,r,rfl,h.1,b,e⟩,λp v a=> ?_⟩;have hl:=b.length;rw [h.1] at hl;rw [NY] at a;by_cases g:p < sz
  .rw [Nb (by omega)] at a;exact d p v a
  .rw [Nt (by omega),hl] at a;have:=f _ v a;rw [show off+sz+ (p - sz)=off+p by omega] at this;exact this
theorem a8.jg{ae sz:Nat}:∀{off:Nat} {xs:List (List T)} {vss:List (List Value)},cn w A sz xs vss->(∀p v,vss.flatten[p]? =some v->w.cell? ⟨ae,off+p,none⟩=some v)->a8 w A ae sz off xs
 | _,[],_,_,_=>by simp [a8]
 | off,cs::xs,vss,⟨vs,r,e,a,b,g⟩,f=>by
  subst e;have hl:=b.length;rw [a] at hl;simp only [a8];refine⟨a,aY.jg b (λj v d=>f j v ?_),a8.jg g (λp v i=> ?_)⟩
  .rw [NY,Nb (My.1 d).1];exact d
  .have:=f (sz+p) v (by rw [NY,Nt (by omega),hl,show sz+p - sz=p by omega];exact i);rw [show off+sz+p=off+ (sz+p) by omega];exact this
theorem HS.tC{i:Id}(hs:HS c w h ρ O)(d:h i=none){xs:List (List T)}{vss:List (List Value)}{sz:Nat}(t:TypeId)(cells:Array Value)(cap:Nat)(j:cn w (AA c w O) sz xs vss)
  (f:∀(p:Nat) (v:Value),vss.flatten[p]? =some v->cells[p]? =some v) (a:xs.length<=cap) (k:cap * sz<=cells.size) (hrl:i.real=true:=by rfl):
  Le w ρ O (w.alloc (.cells cells t)) (aF ρ i (some (.slice (some ⟨w.heap.size,0,none⟩) xs.length cap))) (aF O i (some w.heap.size))/\
  HS c (w.alloc (.cells cells t)) (aF h i (some (.sl false sz false xs))) (aF ρ i (some (.slice (some ⟨w.heap.size,0,none⟩) xs.length cap))) (aF O i (some w.heap.size)):=by
 have le:=Le.alloc hs hrl d (.cells cells t) (.slice (some ⟨w.heap.size,0,none⟩) xs.length cap) (some w.heap.size) (.inr rfl);refine⟨le,hs.alloc hrl d _ _ _ (.inr rfl) _ ⟨_,by rw [aA],⟨some ⟨w.heap.size,0,none⟩,cap,rfl,a,by simp,trivial, .inr ⟨w.heap.size,0,cells,t,rfl,by simp,ja _,by omega, ?_⟩⟩,by simp⟩⟩;refine a8.jg (cn.mono (λb e=>le.A b e) j) (λp v g=> ?_);rw [iZ (ja _),Nc];exact f p v g
theorem At{a:Act}{g:Option Gs}{e:TypeId}(hs:HS c w s.h ρ O)(D:SS w (AA c w O) ρ s.t a.tmps)(C:iV a.tmps g){O':Id->Option Nat}(le:Le w ρ O w ρ O')(m:∀i,O' i=O i\/O' i=none):
  ∀{y:List (Nat×Operand)} {n:Nat} {q:List (List T)×aB},gh P s.h e (s.get g) n y=some q->(∀p∈q.2,O' p.1=none)->
   ∃vs:List Value,(y.map λx=>(x.1,a.eval x.2))= ((vs.zipIdx n).map λx=>(x.2,x.1))/\cn w (AA c w O') (P.cellsOf e) q.1 (vs.map λv=>v.cells.toList)/\(∀v∈vs,v.cells.size=P.cellsOf e)
 | [],n,q,b,_=>by simp only [gh,Mt] at b;subst b;exact⟨[],rfl,by simp [cn],by simp⟩
 | (k,o)::y,n,q,b,r=>by
  simp only [gh] at b;obtain⟨l,hl,b⟩:=Mu.1 b;split at b
  .rename_i j;obtain⟨rfl,d⟩:=j;obtain⟨J,B,b⟩:=Mu.1 b;simp only [Mt] at b;subst b;simp only [MQ] at r;obtain⟨vs,E,F,e3⟩:=At hs D C le m B (λp u=>r p (.inr u));have H:=SS.get (h:=s.h) D C o;obtain⟨z,I⟩:=xI hs H hl le m (λp u=>r p (.inl u));have G:=z.length;refine⟨a.eval o::vs, ?_,⟨_,_,rfl,d,z,F⟩, ?_⟩
   .simp only [Nh,List.zipIdx_cons,E]
   .intro v f;rcases MN.1 f with rfl | f
    .rw [<-M1,G,d]
    .exact e3 v f
  .simp at b
theorem Ar{e:TypeId}{ev:Operand->AV}:∀{b:List (Nat×Operand)} {n:Nat} {q:List (List T)×aB},gh P h e ev n b=some q->eZ h q.2/\q.1.length=b.length
 | [],n,q,a=>by simp only [gh,Mt] at a;subst a;exact⟨(λp i=>by cases i),rfl⟩
 | (k,o)::b,n,q,a=>by
  simp only [gh] at a;obtain⟨l,hl,a⟩:=Mu.1 a;split at a
  .obtain⟨j,d,a⟩:=Mu.1 a;simp only [Mt] at a;subst a;obtain⟨f,g⟩:=Ar d;exact⟨(wm _).append f,by simp [g]⟩
  .simp at a
theorem tY{t e:TypeId}{n:Nat}(u:P.underlying t=some (.slice e))(l:bR P e=true)(d:(gy P e).isSome=true)(b: 0 < P.cellsOf e)(g:n<=1000/\P.cellsOf e<=1000)(vs:List Value)(y:∀v∈vs,v.cells.size=P.cellsOf e)(j:vs.length=n)
  (o:Array (Nat×Value)) (a:o.toList= (vs.zipIdx 0).map λx=>(x.2,x.1)):
  (Instr.buildSlice t n o).run P w= .ok (.slice (some ⟨w.heap.size,0,none⟩) n n) (w.alloc (.cells (vs.flatMap λv=>v.cells.toList).toArray e)):=by
 obtain⟨z,d⟩:=NB.1 d;obtain⟨i,zv,r,m,_⟩:=lQ d;have B:n * P.cellsOf e<=1000 * 1000:=Px g.1 g.2;have q:¬(n * P.cellsOf e > 2 ^ 24):=by
  have f:(2:Nat) ^ 24=16777216:=by decide
  rw [f];omega
 have p:=Go.Great.fill_whole b vs;unfold Instr.buildSlice;simp only [MV,run_underlying u,MH,gV l,if_neg q,Sem.run_ite];by_cases h0:n * P.cellsOf e=0
 .have k:n=0:=by rcases Nat.mul_eq_zero.1 h0 with e | e <;> omega
  subst k;have:vs= []:=MW.1 j;subst this;simp only [Nat.zero_mul,if_true,M6,MH];simp only [List.zipIdx_nil,ND] at a;simp [a,Instr.fill,newRow,Array.range_zero']
 .simp only [if_neg h0,MV,zeroValue,typeInfo,run_program,MH,r,M6,m];rw [a,p _ y (by simp [j])];simp [newRow]
theorem CU{t e:TypeId}{b:List T}{n m:Int}{kn km:IntKind}(u:P.underlying t=some (.slice e))(v:gy P e=some b)(q:P.bytesOf e<=8192)(r:b.length=P.cellsOf e)(h0: 0<=n)(p:n<=m)(f:m<=kA):
  ∃zv:Value,aQ w A b zv.cells.toList/\(Instr.makeSlice t (.int kn n) (.int km m)).run P w= .ok (.slice (some ⟨w.heap.size,0,none⟩) n.toNat m.toNat) (w.alloc (.cells (madeCells zv.cells (m.toNat * P.cellsOf e)) e)):=by
 obtain⟨i,zv,a,l,j⟩:=lQ v;have k:P.cellsOf e=i.size:=by simp [Program.cellsOf,a]
 have g:P.bytesOf e=i.bytes:=by simp [Program.bytesOf,a]
 refine⟨zv,my j, ?_⟩;rw [k];refine run_make w t e i zv u a l kn km n m h0 p ?_ ?_
 .rw [g] at q;have:(i.bytes:Int) * m<=8192 * 4294967296:=by
   have o:(i.bytes:Int)<=8192:=by omega
   have d:m<=4294967296:=by simpa [kA] using f
   calc (i.bytes:Int) * m<=8192 * m:=Pd o (by omega)
    _<=8192 * 4294967296:=Ph d (by omega)
  omega
 .have d:m<=4294967296:=by simpa [kA] using f
  omega
theorem wO{zv:Array Value}{sz:Nat}(b:zv.size=sz)(n m:Nat)(i:n<=m):∀(p:Nat) (v:Value),(List.replicate n zv.toList).flatten[p]? =some v->(madeCells zv (m * sz))[p]? =some v:=by
 intro p v a;have d:p < n * sz:=by have:=(My.1 a).1;simpa [b] using this
 have g: 0 < sz:=by
  rcases Nat.eq_zero_or_pos sz with e | e
  .rw [e] at d;simp at d
  .exact e
 have hm:n * sz<=m * sz:=Nq _ i;have key:∀n p,p < n * sz->(List.replicate n zv.toList).flatten[p]? =zv[p % sz]?:=by
  intro n;induction n with
  | zero=>intro p h;simp at h
  | succ n j=>
   intro p h;rw [NV,NY];by_cases a:p < sz
   .rw [Nb (by simpa [b] using a),Nat.mod_eq_of_lt a];simp
   .rw [Nt (by simp [b];omega)];simp only [M1,b];have k:(n+1) * sz=n * sz+sz:=Nr _ _;rw [j _ (by omega)];congr 1;exact(Nat.mod_eq_sub_mod (by omega)).symm
 rw [key n p d] at a;have f:p % sz < zv.size:=by rw [b];exact Pz _ g
 simp only [madeCells,Array.getElem?_map];rw [N7 (by simp;omega)];simp only [Array.getElem_range,N1,b];rw [N7 f] at a;rw [getElem!_pos zv _ f];exact a
theorem cn.replicate{sz:Nat}{a:List T}{vs:List Value}(b:aQ w A a vs)(hl:a.length=sz):∀n,cn w A sz (List.replicate n a) (List.replicate n vs)
 | 0=>rfl
 | n+1=>⟨vs,List.replicate n vs,rfl,hl,b,cn.replicate b hl n⟩
end
end Go.Aev
