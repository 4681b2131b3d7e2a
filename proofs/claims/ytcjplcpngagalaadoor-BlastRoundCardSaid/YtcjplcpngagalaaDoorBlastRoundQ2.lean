import Derived.Test.YtcjplcpngagalaaDoorBlastRoundQ1
import Derived.ChangeKeysEq
import Derived.Deep.AppendSrc
import Derived.Great.FillDense
set_option linter.all false
namespace Go.Aev
open Go Go.IntKind
section
variable {P:Program} {w:World} {A:Nat->Prop}
theorem T.fK{k:IntKind}{x:T}{n:Int}(h:x.int? k=some n):x= .int k n:=by cases x <;> simp only [T.int?,reduceCtorEq] at h;split at h <;> simp_all
theorem T.ir{x:T}{b:Bool}(h:x.bool? =some b):x= .bool b:=by cases x <;> simp_all [T.bool?]
theorem T.jI{x:T}{s:ByteArray}(h:x.bc =some s):x= .str s:=by cases x <;> simp_all [T.bc]
theorem T.vK{x:T}{cs:List T}(h:x.pg =some cs):x= .ptr cs:=by cases x <;> simp_all [T.pg]
theorem T.oZ{sz:Nat}{x:T}{p:Bool×List (List T)}(h:x.an sz=some p):x= .ab sz p.1 p.2\/(x= .ae p.1/\p.2= []):=by
 cases x <;> simp only [T.an,reduceCtorEq,Qy] at h
 case ab a b xs=>split at h <;> simp_all;subst h;simp
 case ae b=>subst h;simp
theorem K8{w:World}{A:Nat->Prop}{y:T}{v:Value}(h:ve y=true)(a:ay w A y v):v= .slice none 0 0:=by
 unfold ve at h;split at h
 .simp only [ay] at a;rcases a with⟨_,h⟩ | ⟨h,_⟩
  .exact h
  .cases h
 .simp only [ay] at a;rcases a with⟨_,_,h⟩ | ⟨h,_⟩
  .exact h
  .cases h
 .cases h
theorem AV.lf{v:AV}{x:T}(h:v.t? =some x):v= .t x:=by cases v <;> simp_all [AV.t?]
theorem oV{d R:Type}[Inhabited d]{c:Option Bool}{m:Option d}{k:d->Option R}{r:R}(h:aa c m k=some r):
  ∃a,k a=some r/\(m=some a\/(m=none/\c=some false)):=by
 unfold aa at h;cases m with
 | some a=>exact⟨a,h, .inl rfl⟩
 | none=>cases c with
  | none=>simp at h
  | some b=>cases b with
   | true=>simp at h
   | false=>exact⟨_,h, .inr ⟨rfl,rfl⟩⟩
def rI(P:Program)(R:Value->World->Prop):Result Next->Prop
 | .ok (.value x) w'=>R x w'
 | .ok .skip w'=>R undef w'
 | .ok (.enter f args) w'=>Calls P f args w' λe a=>∃x,e= .returned x/\R x a
 | _=>False
def ik(P:Program)(o:Oper)(a:Act)(w:World)(R:Value->World->Prop):Prop:=rI P R ((execOp a.eval o).run P w)
theorem ik.mono{o:Oper}{a:Act}{R b:Value->World->Prop}(h:ik P o a w R)(d:∀x w',R x w'->b x w'):ik P o a w b:=by
 unfold ik at *
 generalize (execOp a.eval o).run P w=r at *
 cases r with
 | ok n w'=>
  cases n <;> simp only [rI] at h⊢
  case enter=>exact h.mono λe i ⟨x,f,g⟩=>⟨x,f,d _ _ g⟩
  all_goals exact d _ _ h
 | halt x w'=>simp [rI] at h
theorem ik.wp{o:Oper}{a:Act}{R:Value->World->Prop}{K:Act->World->Prop}{Q:Exit->Act->World->Prop}(h:ik P o a w R)(b:∀x w',R x w'->K (a.put o.dst x) w'):o.wp P a w K Q:=by
 unfold ik at h;unfold Oper.wp;generalize (execOp a.eval o).run P w=r at *
 cases r with
 | ok n w'=>
  cases n <;> simp only [rI] at h <;> simp only [Oper.upon]
  case enter=>exact h.mono λe g ⟨x,d,f⟩=>by subst d;exact b _ _ f
  all_goals first | exact b _ _ h | exact h.elim
 | halt x w'=>simp [rI] at h
theorem uZ{t:TypeId}{d:TypeDesc}(h:P.underlying t=some d):∃i,P.info? t=some i/\P.cellsOf t=i.size:=by
 unfold Program.underlying at h;cases a:P.info? t with
 | none=>simp [a] at h
 | some i=>exact⟨i,rfl,by simp [Program.cellsOf,a]⟩
theorem iD{t:TypeId}(h:bX P t=true)(w:World):(sizeOf t).run P w= .ok (P.cellsOf t) w:=by unfold bX at h;obtain⟨d,a⟩:=Sa.1 h;obtain⟨i,b,hs⟩:=uZ a;rw [hs];simp [sizeOf,typeInfo,b]
theorem qU{t:TypeId}(h:bX P t=true)(w:World):(isAgg t).run P w= .ok (bD P t) w:=by unfold bX at h;obtain⟨d,a⟩:=Sa.1 h;unfold isAgg bD;simp only [QY,run_underlying a,QO,a];cases d <;> rfl
theorem fM(k:IntKind)(n:Int)(w:World)(A:Nat->Prop):ay w A (.int k n) (.int k n):=by simp [ay]
theorem mC(b:Bool)(w:World)(A:Nat->Prop):ay w A (.bool b) (.bool b):=by simp [ay]
theorem kU(b:ByteArray)(w:World)(A:Nat->Prop):ay w A (.str b) (.string b):=by simp [ay]
theorem Hu{R:Type}{op:BinOp}{k:IntKind}{c:Option Bool}{x y:T}{K:T->Option R}{r:R}{t:TypeId}{j l:Value}(f:c=none\/c=some true)
  (g:ay w A x j) (i:ay w A y l) (h:pP op k c x y K=some r):
  ∃z m,K z=some r/\(∀w A,ay w A z m)/\(binOp op t j l).run P w= .ok m w:=by
 unfold pP at h;replace h:=aM h f;obtain⟨a,n,h⟩:=h;replace h:=aM h f;obtain⟨b,o,h⟩:=h;have:=T.fK n;subst this;have:=T.fK o;subst this;simp only [ay] at g i;subst g;subst i;cases op <;> simp only [reduceCtorEq] at h
 case quo=>
  replace h:=aM h f;obtain⟨_,h0,h⟩:=h;have d:b≠0:=by intro e;simp [e] at h0
  exact⟨_,_,h,by first | exact fM _ _ | exact mC _ | exact kU _,by simp [binOp,Op.intDiv,d]⟩
 case rem=>
  replace h:=aM h f;obtain⟨_,h0,h⟩:=h;have d:b≠0:=by intro e;simp [e] at h0
  exact⟨_,_,h,by first | exact fM _ _ | exact mC _ | exact kU _,by simp [binOp,Op.intDiv,d]⟩
 all_goals exact⟨_,_,h,by first | exact fM _ _ | exact mC _ | exact kU _,by simp [binOp,Op.intArith,Op.intBits,Op.intCmp]⟩
theorem PK{R:Type}{op:BinOp}{k ky:IntKind}{c:Option Bool}{x y:T}{K:T->Option R}{r:R}{t:TypeId}{j l:Value}(d:c=none\/c=some true)
  (g:ay w A x j) (i:ay w A y l) (h:qY op k ky c x y K=some r):
  ∃z m,K z=some r/\(∀w A,ay w A z m)/\(binOp op t j l).run P w= .ok m w:=by
 unfold qY at h;replace h:=aM h d;obtain⟨a,n,h⟩:=h;replace h:=aM h d;obtain⟨b,o,h⟩:=h;have:=T.fK n;subst this;have:=T.fK o;subst this;simp only [ay] at g i;subst g;subst i;replace h:=aM h d;obtain⟨_,h0,h⟩:=h;have f:¬b < 0:=by intro e;simp [e] at h0
 cases op <;> simp only [reduceCtorEq] at h
 all_goals exact⟨_,_,h,by first | exact fM _ _ | exact mC _ | exact kU _,by simp [binOp,Op.shift,f]⟩
theorem P6{R:Type}{op:BinOp}{c:Option Bool}{x y:T}{K:T->Option R}{r:R}{t:TypeId}{j k:Value}(d:c=none\/c=some true)
  (g:ay w A x j) (i:ay w A y k) (h:rr op c x y K=some r):
  ∃z l,K z=some r/\(∀w A,ay w A z l)/\(binOp op t j k).run P w= .ok l w:=by
 unfold rr at h;replace h:=aM h d;obtain⟨a,m,h⟩:=h;replace h:=aM h d;obtain⟨b,n,h⟩:=h;have:=T.jI m;subst this;have:=T.jI n;subst this;simp only [ay] at g i;subst g;subst i;cases op <;> simp only [reduceCtorEq] at h
 case add=>
  replace h:=aM h d;obtain⟨_,h0,h⟩:=h;have o:a.size+b.size<=4294967296:=by
   by_cases e:a.size+b.size<=4294967296
   .exact e
   .simp [e] at h0
  have f:¬(((a.size+b.size:Nat):Int) > i64.max):=by
   have:i64.max=9223372036854775807:=by decide
   rw [this];omega
  exact⟨_,_,h,by first | exact fM _ _ | exact mC _ | exact kU _,by simp only [binOp,Op.stringOp,if_neg f];rfl⟩
 all_goals exact⟨_,_,h,by first | exact fM _ _ | exact mC _ | exact kU _,by simp [binOp,Op.stringOp]⟩
theorem HD{R:Type}{op:BinOp}{t ty:TypeId}{c:Option Bool}{x y:T}{K:T->Option R}{r:R}{e f:Value}(a:c=none\/c=some true)
  (b:ay w A x e) (d:ay w A y f) (h:pR P op t ty c x y K=some r):
  (op≠ .eql/\op≠ .neq)/\∃z g,K z=some r/\(∀w A,ay w A z g)/\(binOp op t e f).run P w= .ok g w:=by
 unfold pR at h;cases op <;> simp only [reduceCtorEq] at h <;> refine⟨⟨by simp,by simp⟩, ?_⟩ <;> split at h <;> first | exact Hu a b d h | exact PK a b d h | exact P6 a b d h | simp at h
theorem Qn{R:Type}{op:UnOp}{t:TypeId}{c:Option Bool}{x:T}{K:T->Option R}{r:R}{f:Value}(e:c=none\/c=some true)
  (b:ay w A x f) (h:rz P op t c x K=some r):
  ∃z g,K z=some r/\(∀w A,ay w A z g)/\(Op.unary op f).run P w= .ok g w:=by
 unfold rz at h;split at h
 .replace h:=aM h e;obtain⟨a,d,h⟩:=h;have:=T.fK d;subst this;simp only [ay] at b;subst b;exact⟨_,_,h,by first | exact fM _ _ | exact mC _ | exact kU _,by simp [Op.unary,Op.intArith]⟩
 .replace h:=aM h e;obtain⟨a,d,h⟩:=h;have:=T.fK d;subst this;simp only [ay] at b;subst b;exact⟨_,_,h,by first | exact fM _ _ | exact mC _ | exact kU _,by simp [Op.unary,Op.intBits]⟩
 .replace h:=aM h e;obtain⟨a,d,h⟩:=h;have:=T.ir d;subst this;simp only [ay] at b;subst b;exact⟨_,_,h,by first | exact fM _ _ | exact mC _ | exact kU _,by simp [Op.unary]⟩
 .simp at h
theorem Ky{R:Type}{d:Nat}{t:TypeId}{c:Option Bool}{x y:T}{K:Bool->Option R}{r:R}{m n:Value}(e:c=none\/c=some true)
  (f:ay w A x m) (g:ay w A y n) (h:kJ P c t x y K=some r):∃b,K b=some r/\(Op.equalIn (d+1) t m n).run P w= .ok b w:=by
 unfold kJ at h;split at h
 .rename_i k l;replace h:=aM h e;obtain⟨a,i,h⟩:=h;replace h:=aM h e;obtain⟨b,j,h⟩:=h;have:=T.fK i;subst this;have:=T.fK j;subst this;simp only [ay] at f g;subst f;subst g;exact⟨_,h,by simp [Op.equalIn,run_underlying l]⟩
 .rename_i l;replace h:=aM h e;obtain⟨a,i,h⟩:=h;replace h:=aM h e;obtain⟨b,j,h⟩:=h;have:=T.ir i;subst this;have:=T.ir j;subst this;simp only [ay] at f g;subst f;subst g;exact⟨_,h,by simp [Op.equalIn,run_underlying l]⟩
 .rename_i l;replace h:=aM h e;obtain⟨a,i,h⟩:=h;replace h:=aM h e;obtain⟨b,j,h⟩:=h;have:=T.jI i;subst this;have:=T.jI j;subst this;simp only [ay] at f g;subst f;subst g;exact⟨_,h,by simp [Op.equalIn,run_underlying l]⟩
 .simp at h
theorem yd{R:Type}{c:Option Bool}(d:List TypeId):∀(ts:List TypeId) (xs a:List T) (K:Bool->Option R),
  et P c (ts++d) xs a K=et P c ts (xs.take ts.length) (a.take ts.length) (λq=>et P c d (xs.drop ts.length) (a.drop ts.length) λe=>K (q && e))
 | [],xs,a,K=>by simp [et]
 | t::ts,[],a,K=>by simp [et]
 | t::ts,x::xs,[],K=>by simp [et]
 | t::ts,x::xs,y::a,K=>by simp only [Rs,QJ,S1,List.drop_succ_cons,et];congr 1;funext b;rw [yd d ts xs a];simp only [Bool.and_assoc]
theorem aS.take{cs:List T}{vs:List Value}(h:aS w A cs vs):∀n,aS w A (cs.take n) (vs.take n):=by
 intro n;induction n generalizing cs vs with
 | zero=>simp [aS]
 | succ n d=>
  cases cs with
  | nil=>simp only [aS] at h;subst h;simp [aS]
  | cons c cs=>obtain⟨v,r,rfl,a,b⟩:=h;exact⟨v,r.take n,rfl,a,d b⟩
theorem aS.drop{cs:List T}{vs:List Value}(h:aS w A cs vs):∀n,aS w A (cs.drop n) (vs.drop n):=by
 intro n;induction n generalizing cs vs with
 | zero=>simpa using h
 | succ n b=>
  cases cs with
  | nil=>simp only [aS] at h;subst h;simp [aS]
  | cons c cs=>obtain⟨v,r,rfl,d,a⟩:=h;exact b a
end
open Go Go.IntKind
section
variable {P:Program} {w:World} {A:Nat->Prop}
def jL(P:Program)(t:TypeId)(vs:List Value):Value:=if bD P t=true then .agg vs.toArray else vs.headD undef
theorem tc{t:TypeId}(b:bX P t=true)(xs:Array Value)(off:Nat)(d:bD P t=false->P.cellsOf t=1)(e:off+P.cellsOf t<=xs.size)(w:World):
  (part t xs off).run P w= .ok (jL P t ((xs.toList.drop off).take (P.cellsOf t))) w:=by
 unfold part jL;simp only [QY,qU b,QO];cases f:bD P t
 .simp only [Q9,if_false];rw [d f] at e⊢;have a:off < xs.size:=by omega
  have:xs[off]? =some xs[off]:=Sm a;rw [this];have hl:off < xs.toList.length:=by simpa using a
  rw [SH hl];simp
 .simp only [if_true,QY,iD b,QO,Rj];congr 2;apply Sh;simp []
theorem aS.part{xs:List T}{vs:List Value}(h:aS w A xs vs)(off n:Nat):aS w A ((xs.drop off).take n) ((vs.drop off).take n):=(h.drop off).take n
theorem qn{R:Type}{c:Option Bool}(a:c=none\/c=some true):∀{ts:List TypeId} {xs d:List T} {K:Bool->Option R} {r:R},et P c ts xs d K=some r->xs.length=ts.length/\d.length=ts.length
 | [],[],[],_,_,_=>⟨rfl,rfl⟩
 | t::ts,x::xs,y::d,K,r,h=>by
  simp only [et] at h;have:∃b,et P c ts xs d (λr=>K (b && r))=some r:=by
   unfold kJ at h;split at h
   .replace h:=aM h a;obtain⟨_,_,h⟩:=h;replace h:=aM h a;obtain⟨_,_,h⟩:=h;exact⟨_,h⟩
   .replace h:=aM h a;obtain⟨_,_,h⟩:=h;replace h:=aM h a;obtain⟨_,_,h⟩:=h;exact⟨_,h⟩
   .replace h:=aM h a;obtain⟨_,_,h⟩:=h;replace h:=aM h a;obtain⟨_,_,h⟩:=h;exact⟨_,h⟩
   .simp at h
  obtain⟨b,g⟩:=this;obtain⟨e,f⟩:=qn a g;simp [e,f]
 | [],[],_::_,_,_,h=>by simp [et] at h
 | [],_::_,_,_,_,h=>by simp [et] at h
 | _::_,[],_,_,_,h=>by simp [et] at h
 | _::_,_::_,[],_,_,h=>by simp [et] at h
theorem oS{n:Nat}{t:TypeId}{ts:List TypeId}(h:fk P n t=some ts):bX P t=true:=by
 cases n with
 | zero=>simp [fk] at h
 | succ n=>
  simp only [fk] at h;unfold bX;cases a:P.underlying t with
  | none=>simp [a] at h
  | some d=>rfl
theorem Dh{n:Nat}{t:TypeId}{ts:List TypeId}(h:fk P n t=some ts)(a:bD P t=false):ts= [t]:=by
 cases n with
 | zero=>simp [fk] at h
 | succ n=>
  simp only [fk] at h;unfold bD at a;cases b:P.underlying t with
  | none=>simp [b] at h
  | some d=>cases d <;> simp_all
def wM(P:Program)(w:World)(A:Nat->Prop)(n:Nat):Prop:= ∀(t:TypeId) (ts:List TypeId),fk P n t=some ts->∀(d:Nat),n<=d->
 ∀(R:Type) (c:Option Bool),c=none\/c=some true->∀(xs f:List T) (a e:List Value) (K:Bool->Option R) (r:R),aS w A xs a->aS w A f e->et P c ts xs f K=some r->
  ∃b,K b=some r/\(Op.equalIn d t (jL P t a) (jL P t e)).run P w= .ok b w
theorem C2{n d:Nat}(B:wM P w A n)(z:n<=d){X Y:Array Value}{R:Type}{c:Option Bool}(i:c=none\/c=some true):
  ∀(e:List Field) (off:Nat) (ts:List TypeId),qv P (fk P n) e off=some ts->∀(xs o:List T) (K:Bool->Option R) (r:R),aS w A xs (X.toList.drop off)->aS w A o (Y.toList.drop off)->
   et P c ts xs o K=some r->∃b,K b=some r/\(Op.eqFields d X Y e).run P w= .ok b w
 | [],off,ts,h,xs,o,K,r,k,m,a=>by simp only [qv,Qy] at h;subst h;obtain⟨F,G⟩:=qn i a;have:=Q7.1 F;subst this;have:=Q7.1 G;subst this;exact⟨true,by simpa [et] using a,by simp [Op.eqFields]⟩
 | f::e,off,ts,h,xs,o,K,r,k,m,a=>by
  simp only [qv] at h;by_cases j:f.offset=off/\f.name≠ "_"
  .rw [if_pos j] at h;cases hl:fk P n f.type with
   | none=>simp [hl] at h
   | some l=>
    simp only [hl,QD] at h;by_cases g:P.cellsOf f.type=l.length/\0 < l.length
    .rw [if_pos g] at h;obtain⟨hs,I⟩:=g;cases u:qv P (fk P n) e (off+l.length) with
     | none=>simp [u] at h
     | some q=>
      simp only [u,QD,Qy] at h;subst h;obtain⟨J,L⟩:=qn i a;simp only [Ro] at J L;rw [yd] at a;obtain⟨v,x,D⟩:=B f.type l hl d z R c i _ _ _ _ _ _ (k.take l.length) (m.take l.length) a;have p:=k.drop l.length;have t:=m.drop l.length;rw [S9] at p t;obtain⟨C,y,E⟩:=C2 B z i e (off+l.length) q u _ _ _ _ p t x;have sx:=k.length;have M:=m.length;simp only [RM,Ra] at sx M;have one:bD P f.type=false->P.cellsOf f.type=1:=λH=>by rw [hs,Dh hl H];rfl
      refine⟨v && C,y, ?_⟩;simp only [Op.eqFields,ne_eq,j.2,not_false_eq_true,if_true,QY];rw [j.1,tc (oS hl) X off one (by rw [hs];omega) w];simp only [QO];rw [tc (oS hl) Y off one (by rw [hs];omega) w];simp only [QO,hs,D];cases v
      .simp
      .simp [E]
    .rw [if_neg g] at h;simp at h
  .rw [if_neg j] at h;simp at h
theorem C3{n d:Nat}(D:wM P w A n)(C:n<=d){X Y:Array Value}{R:Type}{c:Option Bool}(i:c=none\/c=some true){e:TypeId}{l:List TypeId}(hl:fk P n e=some l)(hs:P.cellsOf e=l.length):
  ∀(m k:Nat) (xs p:List T) (K:Bool->Option R) (r:R),aS w A xs (X.toList.drop (k * P.cellsOf e))->aS w A p (Y.toList.drop (k * P.cellsOf e))->
   et P c (List.replicate m l).flatten xs p K=some r->∃b,K b=some r/\(Op.eqItems d e (P.cellsOf e) X Y (List.range' k m)).run P w= .ok b w
 | 0,k,xs,p,K,r,j,o,a=>by obtain⟨F,G⟩:=qn i a;have:=Q7.1 F;subst this;have:=Q7.1 G;subst this;exact⟨true,by simpa [et] using a,by simp [Op.eqItems]⟩
 | m+1,k,xs,p,K,r,j,o,a=>by
  simp only [RS,Sd] at a;obtain⟨I,J⟩:=qn i a;simp only [Ro] at I J;rw [yd] at a;obtain⟨g,B,f⟩:=D e l hl d C R c i _ _ _ _ _ _ (j.take l.length) (o.take l.length) a;have t:=j.drop l.length;have u:=o.drop l.length;have H:k * P.cellsOf e+l.length= (k+1) * P.cellsOf e:=by rw [hs,Ry]
  rw [S9,H] at t u;obtain⟨z,q,v⟩:=C3 D C i hl hs m (k+1) _ _ _ _ t u B;have sx:=j.length;have E:=o.length;simp only [RM,Ra] at sx E;have one:bD P e=false->P.cellsOf e=1:=λy=>by rw [hs,Dh hl y];rfl
  by_cases h0:l.length=0
  ·
   refine⟨g && z,q, ?_⟩;have x:bD P e=true:=by
    cases y:bD P e
    .have:=one y;omega
    .rfl
   have L:∀(Z:Array Value) (w:World),(part e Z (k * P.cellsOf e)).run P w= .ok (jL P e []) w:=by intro Z w;unfold part jL;simp only [QY,qU (oS hl),QO,x,if_true,iD (oS hl),Rj,hs,h0];simp
   simp only [SU,Op.eqItems,QY,L,QO];rw [h0] at f;simp only [TI] at f;rw [f];cases g
   .simp
   .simp [v]
  .refine⟨g && z,q, ?_⟩;simp only [SU,Op.eqItems,QY];rw [tc (oS hl) X _ one (by rw [hs] at sx⊢;omega) w];simp only [QO];rw [tc (oS hl) Y _ one (by rw [hs] at E⊢;omega) w];simp only [QO,hs];rw [hs] at f v;simp only [f,QO];cases g
   .simp
   .simp [v]
theorem yf:∀n,wM P w A n
 | 0=>by intro t ts h;simp [fk] at h
 | n+1=>by
  intro t ts h d Y R c k xs o V W K r B C j;obtain⟨d,rfl⟩:∃N,d=N+1:=⟨d - 1,by omega⟩;have M:=yf n;simp only [fk] at h;have a:bD P t=false->ts= [t]->∃b,K b=some r/\(Op.equalIn (d+1) t (jL P t V) (jL P t W)).run P w= .ok b w:=by
   intro T L;subst L;obtain⟨D,E⟩:=qn k j;cases xs with
   | nil=>simp at D
   | cons x xs=>cases o with
    | nil=>simp at E
    | cons y o=>simp only [QJ,QW,Rh,Nat.add_eq_right,Q7] at D E;subst D;subst E;obtain⟨v,q,rfl,Q,hq⟩:=B;obtain⟨u,p,rfl,S,Z⟩:=C;simp only [et,R1] at j;simpa [jL,T] using Ky (d:=d) k Q S j
  cases f:P.underlying t with
  | none=>simp [f] at h
  | some ds=>
   cases ds <;> simp only [f,reduceCtorEq,Qy] at h
   case int=>exact a (by simp [bD,f]) h.symm
   case bool=>exact a (by simp [bD,f]) h.symm
   case string=>exact a (by simp [bD,f]) h.symm
   case struct F=>
    split at h
    .simp at h
    .rename_i J;have g:bD P t=true:=by simp [bD,f]
     have H:P.underlying t=some (.struct (P.fieldsOf t)):=by simp [Program.fieldsOf,f]
     have I:P.fieldsOf t=F:=by simp [Program.fieldsOf,f]
     simp only [jL,g,if_true];rw [run_equalIn_struct w d t _ _ H (by simpa using J),I];exact C2 M (by omega) k F.toList 0 ts h xs o K r (by simpa using B) (by simpa using C) j
   case array m e=>
    cases hl:fk P n e with
    | none=>simp [hl] at h
    | some l=>
     simp only [hl,QD] at h;split at h
     .rename_i hs;simp only [Qy] at h;subst h;have g:bD P t=true:=by simp [bD,f]
      have z:=oS hl;unfold bX at z;obtain⟨X,G⟩:=Sa.1 z;obtain⟨i,U,_⟩:=uZ G;simp only [jL,g,if_true];rw [run_equalIn_array w d _ _ f U,Tj];exact C3 M (by omega) k hl hs m 0 xs o K r (by simpa using B) (by simpa using C) j
     .simp at h
theorem CX{R:Type}{ρ:Id->Option Value}{t:TypeId}{c:Option Bool}{x y:AV}{K:Bool->Option R}{r:R}{v z:Value}(l:c=none\/c=some true)
  (f:ai w A ρ x v) (g:ai w A ρ y z) (h:oN P c t x y K=some r) (B C:Operand):
  ∃b,K b=some r/\((eqGuard .eql t B C v z).run P w= .ok () w/\(binOp .eql t v z).run P w= .ok (.bool b) w)/\((eqGuard .neq t B C v z).run P w= .ok () w/\(binOp .neq t v z).run P w= .ok (.bool (!b)) w):=by
 unfold oN at h;split at h
 .rename_i x y;simp only [ai] at f g;cases p:yC P t
  .simp only [p,cond_false] at h;have d:=h;unfold kJ at d;split at d
   .rename_i k u;replace d:=aM d l;obtain⟨a,o,d⟩:=d;replace d:=aM d l;obtain⟨b,j,d⟩:=d;have:=T.fK o;subst this;have:=T.fK j;subst this;simp only [ay] at f g;subst f;subst g;exact⟨_,d,⟨by simp [eqGuard],by simp [binOp,Op.intCmp]⟩,⟨by simp [eqGuard],by simp [binOp,Op.intCmp,bne]⟩⟩
   .rename_i u;replace d:=aM d l;obtain⟨a,o,d⟩:=d;replace d:=aM d l;obtain⟨b,j,d⟩:=d;have:=T.ir o;subst this;have:=T.ir j;subst this;simp only [ay] at f g;subst f;subst g;exact⟨_,d,⟨by simp [eqGuard],run_eql_bool w t a b u⟩,⟨by simp [eqGuard],run_neq_bool w t a b u⟩⟩
   .rename_i u;simp [yC,u] at p
   .simp at d
  .simp only [p,cond_true] at h;replace h:=aM h l;obtain⟨a,o,h⟩:=h;replace h:=aM h l;obtain⟨b,j,h⟩:=h;have:=T.jI o;subst this;have:=T.jI j;subst this;simp only [ay] at f g;subst f;subst g;exact⟨_,h,⟨by simp [eqGuard],by simp [binOp,Op.stringOp]⟩,⟨by simp [eqGuard],by simp [binOp,Op.stringOp]⟩⟩
 .rename_i xs J;cases m:(P.eqGuardType P.depth t || !bD P t)
  .simp only [m,cond_false] at h;simp only [RD,Sx] at m;obtain⟨m,E⟩:=m;cases i:dR xs with
   | none=>simp [i] at h
   | some F=>
    cases n:dR J with
    | none=>simp [i,n] at h
    | some G=>
     cases q:fk P 8 t with
     | none=>simp [i,n,q] at h
     | some ts=>simp only [i,n,q,QD] at h;simp only [ai] at f g;obtain⟨H,rfl,f,_⟩:=f;obtain⟨I,rfl,g,_⟩:=g;have D:bD P t=true:=E;obtain⟨b,j,e⟩:=yf 8 t ts q 10000 (by omega) R c l F G H I K r (aS.kc i f) (aS.kc n g) h;simp only [jL,D,if_true] at e;exact⟨b,j,⟨run_eqGuard_agg w .eql t B C _ _ m,by rw [run_eql_struct,e];rfl⟩,⟨run_eqGuard_agg w .neq t B C _ _ m,by rw [run_neq_struct,e];rfl⟩⟩
  .simp [m] at h
 .simp at h
end
open Go Go.IntKind
section
variable {P:Program} {w w':World} {A A':Nat->Prop} {c:Ctx} {ρ:Id->Option Value} {O:Id->Option Nat} {s:St} {cc:Option Bool}
theorem gg(b o j:Nat):(⟨b,o,none⟩:Addr).add j= ⟨b,o+j,none⟩:=by
 unfold Addr.add;split
 .rename_i h;subst h;rfl
 .rfl
theorem aZ.bn{af:Nat}:∀{off:Nat} {cs:List T},aZ w A af off cs->∃vs,aS w A cs vs/\∀j v,vs[j]? =some v->w.cell? ⟨af,off+j,none⟩=some v
 | _,[],_=>⟨[],rfl,by simp⟩
 | off,x::cs,h=>by
  simp only [aZ] at h;obtain⟨⟨v,i,g⟩,b⟩:=h;obtain⟨vs,d,f⟩:=aZ.bn b;refine⟨v::vs,⟨v,vs,rfl,g,d⟩, ?_⟩;intro j u a;cases j with
  | zero=>simp at a;subst a;exact i
  | succ j=>
   have:=f j u (by simpa using a);have e:off+1+j=off+ (j+1):=by omega
   rw [e] at this;exact this
theorem aS.one:∀{cs:List T} {vs:List Value},aS w A cs vs->∀u∈vs,u.oneCell'=true/\u.cells= #[u]
 | [],vs,h,u,hu=>by simp only [aS] at h;subst h;cases hu
 | x::cs,vs,⟨v,r,e,a,b⟩,u,hu=>by
  subst e;rcases QN.1 hu with rfl | hu
  .exact a.pc
  .exact aS.one b u hu
theorem wA{R:Type}(b:cc=none\/cc=some true):∀{n:Nat} {cs:List T} {K:List T->Option R} {r:R},nU cc n cs K=some r->∃l,l=cs.take n/\l.length=n/\K l=some r
 | 0,cs,K,r,h=>⟨[],by simp,rfl,h⟩
 | n+1,cs,K,r,h=>by
  simp only [nU] at h;replace h:=aM h b;obtain⟨x,a,h⟩:=h;obtain⟨l,d,e,f⟩:=wA b h;cases cs with
  | nil=>simp at a
  | cons y cs=>simp only [RK,Qy] at a;subst a;exact⟨y::l,by simp [d],by simp [e],f⟩
theorem z7:∀{n:Nat} {cs l:List AV},lY n cs=some l->l=cs.take n/\l.length=n
 | 0,cs,l,h=>by simp only [lY,Qy] at h;subst h;simp
 | n+1,[],l,h=>by simp [lY] at h
 | n+1,x::cs,l,h=>by
  simp only [lY] at h;cases a:lY n cs with
  | none=>simp [a] at h
  | some q=>simp only [a,QD,Qy] at h;subst h;obtain⟨b,d⟩:=z7 a;exact⟨by simp [b],by simp [d]⟩
theorem zH{t:TypeId}(a:bX P t=true)(d:bD P t=true)(b off:Nat)(vs:List Value)(hl:vs.length=P.cellsOf t)(h:∀j v,vs[j]? =some v->w.cell? ⟨b,off+j,none⟩=some v):
  (loadVar t ⟨b,off,none⟩).run P w= .ok (.agg vs.toArray) w:=by
 unfold loadVar;simp only [QY,qU a,QO,d,if_true,iD a,<-hl];rw [run_loadCells_list w ⟨b,off,none⟩ vs (λj v e=>by rw [gg];exact h j v e)];rfl
theorem vY{t:TypeId}(d:bX P t=true)(a:bD P t=false)(b off:Nat)(v:Value)(h:w.cell? ⟨b,off,none⟩=some v):
  (loadVar t ⟨b,off,none⟩).run P w= .ok v w:=by
 unfold loadVar;simp only [QY,qU d,QO,a,Q9,if_false];rw [run_load,h]
theorem nX{R:Type}{k:Ck}{x:T}{v:Value}{K:T->Option R}{r:R}(e:cc=none\/cc=some true)(a:ay w A x v)(h:eT k cc x K=some r):
  ∃y,K y=some r/\ay w A y v:=by
 unfold eT at h;cases k with
 | i k=>simp only at h;replace h:=aM h e;obtain⟨n,d,h⟩:=h;rw [T.fK d] at a;exact⟨_,h,a⟩
 | b=>simp only at h;replace h:=aM h e;obtain⟨n,d,h⟩:=h;rw [T.ir d] at a;exact⟨_,h,a⟩
 | s=>simp only at h;replace h:=aM h e;obtain⟨n,d,h⟩:=h;rw [T.jI d] at a;exact⟨_,h,a⟩
 | l sz=>
  simp only at h;replace h:=aM h e;obtain⟨p,j,h⟩:=h;refine⟨_,h, ?_⟩;rcases T.oZ j with rfl | ⟨rfl,g⟩
  .exact a
  .rw [g];simp only [ay] at a⊢;rcases a with⟨f,rfl⟩ | ⟨f,af,off,sp,rfl⟩
   .exact .inl ⟨f,trivial,rfl⟩
   .exact .inr ⟨f,af,off,sp,0,rfl,by simp, .inl trivial,trivial⟩
 | x=>exact⟨_,h,a⟩
theorem tn{R:Type}(d:cc=none\/cc=some true):∀{ks:List Ck} {xs:List T} {vs:List Value} {K:List T->Option R} {r:R},aS w A xs vs->eM cc ks xs K=some r->
  ∃b,K b=some r/\aS w A b vs
 | [],xs,vs,K,r,a,h=>⟨_,h,a⟩
 | _::_,[],vs,K,r,a,h=>⟨_,h,a⟩
 | k::ks,x::xs,vs,K,r,a,h=>by obtain⟨v,q,rfl,g,i⟩:=a;simp only [eM] at h;obtain⟨y,h,e⟩:=nX d g h;obtain⟨b,h,f⟩:=tn d i h;exact⟨_,h,⟨v,q,rfl,e,f⟩⟩
theorem Qc{R:Type}{k:Ck}{x:T}{K:T->Option R}{r:R}(d:cc=none\/cc=some true)(h:eT k cc x K=some r):
  ∃y,K y=some r/\∀(w:World) (A:Nat->Prop) (v:Value),ay w A x v->ay w A y v:=by
 have e:eT k cc x K= (eT k cc x some).bind K:=by rw [mJ];rfl
 rw [e] at h;obtain⟨y,f,h⟩:=Qz.1 h;refine⟨y,h,λw A v a=> ?_⟩;obtain⟨z,b,a⟩:=nX d a f;simp only [Qy] at b;subst b;exact a
theorem Qd{R:Type}{ks:List Ck}{xs:List T}{K:List T->Option R}{r:R}(d:cc=none\/cc=some true)(h:eM cc ks xs K=some r):
  ∃y,K y=some r/\∀(w:World) (A:Nat->Prop) (vs:List Value),aS w A xs vs->aS w A y vs:=by
 have e:eM cc ks xs K= (eM cc ks xs some).bind K:=by rw [ry];rfl
 rw [e] at h;obtain⟨y,f,h⟩:=Qz.1 h;refine⟨y,h,λw A v a=> ?_⟩;obtain⟨z,b,a⟩:=tn d a f;simp only [Qy] at b;subst b;exact a
theorem Qf{R:Type}{t:TypeId}{v:AV}{K:AV->Option R}{r:R}(b:cc=none\/cc=some true)(h:lZ P cc t v K=some r):
  ∃y,K y=some r/\∀(w:World) (A:Nat->Prop) (ρ:Id->Option Value) (u:Value),ai w A ρ v u->ai w A ρ y u:=by
 unfold lZ at h;split at h
 .obtain⟨y,h,g⟩:=Qc b h;exact⟨_,h,λw A ρ u a=>by simp only [ai] at a⊢;exact g w A u a⟩
 .rename_i vs;split at h
  .rename_i l hl;obtain⟨y,h,g⟩:=Qd b h;refine⟨_,h,λw A ρ u a=> ?_⟩;simp only [ai] at a⊢;obtain⟨d,e,f,i⟩:=a;exact⟨d,e,az.kR (g w A d (aS.kc hl f)),i⟩
  .exact⟨_,h,λw A ρ u a=>a⟩
 .exact⟨_,h,λw A ρ u a=>a⟩
theorem wF{R:Type}(b:cc=none\/cc=some true):∀{ts:List TypeId} {vs:List AV} {K:List AV->Option R} {r:R},iJ P cc ts vs K=some r->
  ∃y,K y=some r/\∀(w:World) (A:Nat->Prop) (ρ:Id->Option Value) (us:List Value),az w A ρ vs us->az w A ρ y us
 | [],vs,K,r,h=>⟨_,h,λw A ρ u a=>a⟩
 | _::_,[],K,r,h=>⟨_,h,λw A ρ u a=>a⟩
 | t::ts,v::vs,K,r,h=>by simp only [iJ] at h;obtain⟨y,h,d⟩:=Qf b h;obtain⟨j,h,f⟩:=wF b h;refine⟨_,h,λw A ρ us a=> ?_⟩;simp only [az] at a⊢;obtain⟨u,q,e,g,i⟩:=a;exact⟨u,q,e,d w A ρ u g,f w A ρ q i⟩
theorem vr{R:Type}{t:TypeId}(n:bX P t=true){b off:Nat}{cs:List T}{K:AV->Option R}{r:R}(e:cc=none\/cc=some true)(B:aZ w A b off cs)(h:jX P t cc cs K=some r):
  ∃i v,K i=some r/\(loadVar t ⟨b,off,none⟩).run P w= .ok v w/\ai w A ρ i v:=by
 obtain⟨vs,k,m⟩:=B.bn;unfold jX at h;cases d:bD P t
 .simp only [d,cond_false] at h;replace h:=aM h e;obtain⟨x,g,h⟩:=h;cases cs with
  | nil=>simp at g
  | cons y cs=>simp only [RK,Qy] at g;subst g;obtain⟨v,q,rfl,a,_⟩:=k;obtain⟨z,h,a⟩:=nX e a h;exact⟨_,v,h,vY n d b off v (by simpa using m 0 v rfl),by simpa [ai] using a⟩
 .simp only [d,cond_true] at h;obtain⟨l,hl,u,h⟩:=wA e h;have a:=k.take (P.cellsOf t);rw [<-hl] at a;have o:=a.length;obtain⟨C,h,p⟩:=tn e a h;refine⟨_,_,h,zH n d b off _ (by rw [o,u]) (λj v f=>m j v ?_), ?_⟩
  .rw [Sy] at f;split at f
   .exact f
   .cases f
  .simp only [ai];exact⟨_,rfl,az.kR p,a.one⟩
theorem Lv{R:Type}{t:TypeId}(m:bX P t=true){b off:Nat}{cs:List AV}{vs:List Value}{K:AV->Option R}{r:R}(g:az w A ρ cs vs)(n:∀u∈vs,u.oneCell'=true/\u.cells= #[u])
  (k:∀j v,vs[j]? =some v->w.cell? ⟨b,off+j,none⟩=some v) (h:lQ P t cs K=some r):
  ∃i v,K i=some r/\(loadVar t ⟨b,off,none⟩).run P w= .ok v w/\ai w A ρ i v:=by
 unfold lQ at h;cases d:bD P t
 .simp only [d,cond_false] at h;cases cs with
  | nil=>simp at h
  | cons y cs=>simp only [RK,QD] at h;simp only [az] at g;obtain⟨v,q,rfl,a,_⟩:=g;exact⟨_,v,h,vY m d b off v (by simpa using k 0 v rfl),a⟩
 .simp only [d,cond_true] at h;cases f:lY (P.cellsOf t) cs with
  | none=>simp [f] at h
  | some l=>
   simp only [f,QD] at h;obtain⟨hl,p⟩:=z7 f;have a:=g.take (P.cellsOf t);rw [<-hl] at a;have o:=a.length;refine⟨_,_,h,zH m d b off _ (by rw [o,p]) (λj v e=>k j v ?_), ?_⟩
   .rw [Sy] at e;split at e
    .exact e
    .cases e
   .simp only [ai];exact⟨_,rfl,a,λu x=>n u (Sp x)⟩
theorem xd{i:Id}{cs:List AV}(hs:HS c w s.h ρ O)(k:s.h i=some (.box cs)):∃b arr t,ρ i=some (.pointer (some ⟨b,0,none⟩))/\O i=some b/\w.heap[b]? =some (.cells arr t (0,0))/\
  az w (AA c w O) ρ cs arr.toList/\(∀u∈arr.toList,u.oneCell'=true/\u.cells= #[u])/\∀j v,arr.toList[j]? =some v->w.cell? ⟨b,j,none⟩=some v:=by
 obtain⟨b,arr,t,d,e,a,f,g⟩:=hs.af i _ k;refine⟨b,arr,t,d,e,a,f,g,λj v l=> ?_⟩;simp only [World.cell?,a];simpa using l
theorem pn{i:Id}{fz b:Bool}{sz:Nat}{l:List (List T)}(hs:HS c w s.h ρ O)(e:s.h i=some (.sl fz sz b l)):∃v,ρ i=some v/\cI w (AA c w O) sz b l v (λaf=>if fz=true then AA c w O af else O i=some af):=by obtain⟨v,a,d,_⟩:=hs.af i _ e;exact⟨v,a,d⟩
theorem cq.get{i:Id}{af sz col rsz:Nat}:∀{es:List Row} {base k:Nat} {e:Row},cq w A ρ O i af sz col rsz base es->es[k]? =some e->il w A ρ O i af sz col rsz (base+k * sz) e
 | [],_,_,_,_,h=>by simp at h
 | x::es,base,0,e,a,h=>by simp only [RE,Qy] at h;subst h;simpa using a.1
 | x::es,base,k+1,e,a,h=>by have:=cq.get a.2 (k:=k) (by simpa using h);rw [show base+ (k+1) * sz=base+sz+k * sz by rw [Ry];omega];exact this
theorem cq.own{i:Id}{af sz col rsz n:Nat}{p:Bool×List (List T)}:∀{es:List Row} {base:Nat},cq w A ρ O i af sz col rsz base es->cy n es=some p->∃v,ρ (.g i n)=some v/\cI w A rsz p.1 p.2 v (λb=>O (.g i n)=some b)
 | [],_,_,h=>by simp [cy] at h
 | e::es,base,f,h=>by
  unfold cy at h;split at h
  .rename_i en;obtain⟨_,_,_,v,_,d,a⟩:=f.1;rw [h] at a;rw [en] at d a;exact⟨v,d,a⟩
  .exact cq.own f.2 h
theorem vW{i:Id}{b:Bool}{sz col rsz j n:Nat}{es:List Row}{p:Bool×List (List T)}(hs:HS c w s.h ρ O)(f:s.h i=some (.rows b sz col rsz j es))(e:cy n es=some p):
  ∃v,ρ (.g i n)=some v/\cI w (AA c w O) rsz p.1 p.2 v (λb=>O (.g i n)=some b):=by
 obtain⟨a,cap,l,m,o,q,d⟩:=hs.af i _ f;rcases d with d | ⟨af,off,arr,t,r,u,x,y,k⟩
 .have:es= []:=Q7.1 (by omega);subst this;simp [cy] at e
 .exact k.own e
theorem zC{R:Type}{i:Id}{n:Nat}{K:Nat->Bool->List (List T)->Option R}{r:R}(hs:HS c w s.h ρ O)(e:cc=none\/cc=some true)(h:kZ s.h cc i n K=some r):
  ∃rsz b xs v,K rsz b xs=some r/\ρ (.g i n)=some v/\cI w (AA c w O) rsz b xs v (λaf=>O (.g i n)=some af):=by
 unfold kZ at h;split at h
 .rename_i f;replace h:=aM h e;obtain⟨p,j,h⟩:=h;obtain⟨v,a,d⟩:=vW hs f j;exact⟨_,_,_,v,h,a,d⟩
 .cases h
theorem il.bn{i:Id}{af sz col rsz base:Nat}{e:Row}(h:il w A ρ O i af sz col rsz base e):∃vs:List Value,vs.length=sz/\(∀j v,vs[j]? =some v->w.cell? ⟨af,base+j,none⟩=some v)/\
  (∀j x v,j≠col->e.cs[j]? =some x->vs[j]? =some v->ay w A x v)/\∃v,vs[col]? =some v/\ρ (.g i e.n)=some v:=by
 obtain⟨D,t,l,v,m,y,E⟩:=h;have o:∀j,j < sz->∃u,w.cell? ⟨af,base+j,none⟩=some u:=by
  intro j a;by_cases d:j=col
  .subst d;exact⟨v,m⟩
  .obtain⟨u,g,_⟩:=l j (e.cs[j]'(by omega)) d (QK _);exact⟨u,g⟩
 have get:∀j u,((List.range sz).map λj=>(w.cell? ⟨af,base+j,none⟩).getD undef)[j]? =some u->w.cell? ⟨af,base+j,none⟩=some u:=by intro j u a;rw [RI] at a;obtain⟨k,b,a⟩:=R2.1 a;obtain⟨p,b⟩:=QC.1 b;rw [List.getElem_range] at b;subst b;obtain⟨C,q⟩:=o j (by simpa using p);rw [q] at a⊢;simpa using a
 refine⟨_,by simp,get,λj x u a B z=> ?_,v, ?_,y⟩
 .obtain⟨C,f,r⟩:=l j x a B;rw [get j u z] at f;cases f;exact r
 .rw [RI,List.getElem?_range t];simp [m]
theorem az.sP:∀{b:List AV} {vs:List Value},b.length=vs.length->(∀(j:Nat) (a:AV) (v:Value),b[j]? =some a->vs[j]? =some v->ai w A ρ a v)->az w A ρ b vs
 | [],[],_,_=>by simp [az]
 | [],_::_,h,_=>by simp at h
 | _::_,[],h,_=>by simp at h
 | a::b,v::vs,h,d=>by simp only [az];exact⟨v,vs,rfl,d 0 a v rfl rfl,az.sP (by simpa using h) λj a v e f=>d (j+1) a v (by simpa using e) (by simpa using f)⟩
theorem GX{R:Type}(p:cc=none\/cc=some true):∀{ks:List Ck} {xs:List T} {vs:List Value} {col:Nat} {K:List T->Option R} {r:R},xs.length=vs.length->(∀(j:Nat) (x:T) (v:Value),j≠col->xs[j]? =some x->vs[j]? =some v->ay w A x v)->
  (∀k,ks[col]? =some k->k= .x)->eM cc ks xs K=some r->∃b,K b=some r/\b.length=vs.length/\∀j x v,j≠col->b[j]? =some x->vs[j]? =some v->ay w A x v
 | [],xs,vs,col,K,r,hl,d,i,h=>⟨xs,h,hl,d⟩
 | k::ks,[],vs,col,K,r,hl,d,i,h=>⟨[],h,hl,by simp⟩
 | k::ks,x::xs,[],col,K,r,hl,d,i,h=>by simp at hl
 | k::ks,x::xs,v::vs,0,K,r,hl,d,i,h=>by
  simp only [eM] at h;have:k= .x:=i k rfl;subst this;simp only [eT] at h;have D:aS w A xs vs:=by
   have B:∀(xs:List T) (vs:List Value),xs.length=vs.length->(∀(j:Nat) (x:T) (v:Value),xs[j]? =some x->vs[j]? =some v->ay w A x v)->aS w A xs vs:=by
    intro xs;induction xs with
    | nil=>intro vs hl _;cases vs;rfl;simp at hl
    | cons x xs z=>
     intro vs hl d;cases vs with
     | nil=>simp at hl
     | cons v vs=>exact⟨v,vs,rfl,d 0 x v rfl rfl,z vs (by simpa using hl) λj x v e f=>d (j+1) x v (by simpa using e) (by simpa using f)⟩
   exact B xs vs (by simpa using hl) λj x v e f=>d (j+1) x v (by omega) (by simpa using e) (by simpa using f)
  obtain⟨b,h,g⟩:=tn p D h;have G:=g.length;refine⟨_,h,by simp;omega,λj y u t m l=> ?_⟩;cases j with
  | zero=>exact(t rfl).elim
  | succ j=>
   simp only [RZ] at m l;have:∀(b:List T) (vs:List Value) (j:Nat),aS w A b vs->b[j]? =some y->vs[j]? =some u->ay w A y u:=by
    intro b;induction b with
    | nil=>intro vs j _ h;simp at h
    | cons a b z=>
     rintro vs j ⟨H,q,rfl,n,o⟩ e f;cases j with
     | zero=>simp at e f;subst e;subst f;exact n
     | succ j=>exact z q j o (by simpa using e) (by simpa using f)
   exact this b vs j g m l
 | k::ks,x::xs,v::vs,col+1,K,r,hl,d,i,h=>by
  simp only [eM] at h;obtain⟨y,h,n⟩:=nX p (d 0 x v (by omega) rfl rfl) h;obtain⟨b,h,o,E⟩:=GX p (col:=col) (by simpa using hl) (λj x v t e f=>d (j+1) x v (by omega) (by simpa using e) (by simpa using f)) (λk C=>i k (by simpa using C)) h;refine⟨_,h,by simp [o],λj F u t m l=> ?_⟩;cases j with
  | zero=>simp at m l;subst m;subst l;exact n
  | succ j=>exact E j F u (by omega) (by simpa using m) (by simpa using l)
theorem Ls{R:Type}{t:TypeId}{i:Id}{af sz col rsz base off:Nat}{e:Row}{h:Id->Option ad}{K:AV->Option R}{r:R}(hs:HS c w h ρ O)(C:bX P t=true)(o:cc=none\/cc=some true)(m:il w (AA c w O) ρ O i af sz col rsz base e)(b:qD P t cc i sz col off e K=some r):
  ∃E v,K E=some r/\(loadVar t ⟨af,base+off,none⟩).run P w= .ok v w/\ai w (AA c w O) ρ E v:=by
 unfold qD at b;cases g:bD P t
 .simp only [g,cond_false] at b;split at b
  .rename_i d;subst d;obtain⟨_,_,_,v,N,Q,_⟩:=m;exact⟨_,v,b,vY C g _ _ v N,by simp only [ai];exact Q⟩
  .rename_i H;replace b:=aM b o;obtain⟨x,z,b⟩:=b;have I:e.cs[off]? =some x:=by rw [List.head?_drop] at z;exact z
   obtain⟨u,B,n⟩:=m.2.2.1 off x H I;obtain⟨y,b,M⟩:=nX o n b;exact⟨_,u,b,vY C g _ _ u B,by simp only [ai];exact M⟩
 .simp only [g,cond_true] at b;split at b
  .rename_i p;obtain⟨rfl,Y⟩:=p;obtain⟨l,hl,Z,b⟩:=wA o b;have T:=m.1;have G:l=e.cs:=by rw [hl,Td (by omega)]
   subst G;obtain⟨vs,v1,V,W,vc,J,L⟩:=m.bn;have S:=m.2.1;obtain⟨X,b,B,n⟩:=GX o (ks:=(rL P t).set col .x) (col:=col) (by omega) W (λk b=>by
    rw [RT] at b;simp only [if_true] at b;split at b
    .simpa using b.symm
    .cases b) b
   refine⟨_, .agg vs.toArray,b, ?_, ?_⟩
   .rw [SK];exact zH C g _ _ vs (by omega) V
   .simp only [ai];refine⟨vs,rfl,az.sP (by simp [B]) λj a v f D=> ?_,λu U=> ?_⟩
    .rw [RT] at f;by_cases d:col=j
     .subst d;rw [if_pos rfl] at f;split at f
      .simp only [Qy] at f;subst f;rw [J] at D;cases D;simp only [ai];exact L
      .cases f
     .rw [if_neg d,RI] at f;obtain⟨x,z,rfl⟩:=R2.1 f;simp only [ai];exact n j x v (λe=>d e.symm) z D
    .obtain⟨j,q⟩:=SO.1 U;by_cases d:j=col
     .subst d;rw [J] at q;cases q;exact hs.gone _ _ _ L
     .have F:j < X.length:=by have:=(QC.1 q).1;omega
      exact(n j _ u d (QK F) q).pc
  .cases b
theorem El{R:Type}{t:TypeId}{a:AV}{va:Value}{K:AV->Option R}{r:R}(hs:HS c w s.h ρ O)(g:ai w (AA c w O) ρ a va)(m:cc=none\/cc=some true)(h:fY P s cc t a K=some r):
  ∃f v,K f=some r/\(Instr.loadAt t va).run P w= .ok v w/\ai w (AA c w O) ρ f v:=by
 unfold fY at h;cases D:bX P t
 .simp [D] at h
 simp only [D,cond_true] at h;split at h
 .rename_i i off;split at h
  .rename_i cs F;obtain⟨b,arr,W,B,J,h3,U,E,h6⟩:=xd hs F;simp only [ai] at g;obtain⟨b',d,rfl⟩:=g;rw [B] at d;simp only [Qy,R6,RA] at d;obtain⟨rfl,_⟩:=d;obtain⟨f,v,q,N,Q⟩:=Lv (b:=b) (off:=off) D (U.drop off) (λu hu=>E u (SI hu)) (λj v hj=>h6 _ v (by rw [Sz] at hj;exact hj)) h;exact⟨f,v,q,by simpa [Instr.loadAt,Instr.sureAddr] using N,Q⟩
  .rename_i l F;obtain⟨b,B,J,h3,U⟩:=hs.af i _ F;simp only [ai] at g;obtain⟨b',d,rfl⟩:=g;rw [B] at d;simp only [Qy,R6,RA] at d;obtain⟨rfl,_⟩:=d;have E:=U.drop off;rw [Rh] at E;obtain⟨f,v,q,N,Q⟩:=vr D m E h;exact⟨f,v,q,by simpa [Instr.loadAt,Instr.sureAddr] using N,Q⟩
  .simp at h
 .rename_i i sz k off;split at h
  .rename_i fz sz' bb xs F;split at h
   .rename_i C;subst C;replace h:=aM h m;obtain⟨cs,p,h⟩:=h;obtain⟨v,B,J⟩:=pn hs F;simp only [ai] at g;obtain⟨b,o,L,cap,d,rfl⟩:=g;rw [B] at d;simp only [Qy] at d;subst d;obtain⟨a',cap',q,N,Q,g4,S⟩:=J;simp only [RF] at q;obtain⟨rfl,rfl,rfl⟩:=q;have V:k < xs.length:=(QC.1 p).1;rcases S with S | ⟨af,off',arr,W,z,X,Y,Z,y⟩
    .omega
    .simp only [Qy,RA] at z;obtain⟨rfl,rfl,_⟩:=z;obtain⟨_,M⟩:=y.get p;obtain⟨f,v,G,H,I⟩:=vr (ρ:=ρ) D m (M.drop off) h;exact⟨f,v,G,by simpa [Instr.loadAt,Instr.sureAddr] using H,I⟩
   .simp at h
  .rename_i bb sz' col rsz nx es F;split at h
   .rename_i C;subst C;replace h:=aM h m;obtain⟨e,p,h⟩:=h;obtain⟨a,cap,B,J,h3,U,E⟩:=hs.af i _ F;simp only [ai] at g;obtain⟨b,o,L,cap',d,rfl⟩:=g;rw [B] at d;simp only [Qy,RF] at d;obtain⟨rfl,rfl,rfl⟩:=d;have V:k < es.length:=(QC.1 p).1;rcases E with E | ⟨af,off',arr,W,z,X,Y,Z,y⟩
    .omega
    .simp only [Qy,RA] at z;obtain⟨rfl,rfl,_⟩:=z;obtain⟨f,v,G,H,I⟩:=Ls hs D m (y.get p) h;exact⟨f,v,G,by simpa [Instr.loadAt,Instr.sureAddr] using H,I⟩
   .simp at h
  .simp at h
 .rename_i i sz n k off;replace h:=zC hs m h;obtain⟨rsz,bb,xs,v,h,hv,hsl⟩:=h;split at h
  .rename_i C;subst C;replace h:=aM h m;obtain⟨cs,p,h⟩:=h;simp only [ai] at g;obtain⟨b,o,L,cap,d,rfl⟩:=g;rw [hv] at d;simp only [Qy] at d;subst d;obtain⟨a',cap',q,N,Q,g4,S⟩:=hsl;simp only [RF] at q;obtain⟨rfl,rfl,rfl⟩:=q;have V:k < xs.length:=(QC.1 p).1;rcases S with S | ⟨af,off',arr,W,z,X,Y,Z,y⟩
   .omega
   .simp only [Qy,RA] at z;obtain⟨rfl,rfl,_⟩:=z;obtain⟨_,M⟩:=y.get p;obtain⟨f,v,G,H,I⟩:=vr (ρ:=ρ) D m (M.drop off) h;exact⟨f,v,G,by simpa [Instr.loadAt,Instr.sureAddr] using H,I⟩
  .simp at h
 .rename_i x;replace h:=aM h m;obtain⟨cs,p,h⟩:=h;have:=T.vK p;subst this;simp only [ai,ay] at g;obtain⟨af,off,rfl,B,J⟩:=g;obtain⟨f,v,G,H,I⟩:=vr (ρ:=ρ) D m J h;exact⟨f,v,G,by simpa [Instr.loadAt,Instr.sureAddr] using H,I⟩
 .simp at h
theorem yh{t:TypeId}{f:Nat}{p:Nat×TypeId}(h:r7 P t f=some p):∃a x,P.underlying t=some (.struct a)/\a[f]? =some x/\p= (x.offset,x.type)/\bX P p.2=true:=by
 unfold r7 at h;split at h
 .rename_i a d;split at h
  .rename_i x e;cases b:bX P x.type
   .simp [b] at h
   .simp only [b,cond_true,Qy] at h;subst h;exact⟨a,x,d,e,rfl,b⟩
  .simp at h
 .simp at h
theorem uF{t e:TypeId}(h:mb P t=some e):P.underlying t=some (.slice e)/\bX P e=true:=by
 unfold mb at h;split at h
 .rename_i e' b;cases a:bX P e'
  .simp [a] at h
  .simp only [a,cond_true,Qy] at h;subst h;exact⟨b,a⟩
 .simp at h
theorem AS{t:TypeId}{p:Nat×TypeId}(h:tX P t=some p):P.underlying t=some (.array p.1 p.2)/\bX P p.2=true:=by
 unfold tX at h;split at h
 .rename_i n e' b;cases a:bX P e'
  .simp [a] at h
  .simp only [a,cond_true,Qy] at h;subst h;exact⟨b,a⟩
 .simp at h
theorem KH{R:Type}{t:TypeId}{x:AV}{m:Value}{f:Nat}{K:AV->Option R}{r:R}(a:ai w A ρ x m)(C:cc=none\/cc=some true)(h:qq P cc t x f K=some r):
  ∃i v,K i=some r/\(Instr.fieldAt t m f).run P w= .ok v w/\ai w A ρ i v:=by
 unfold qq at h;split at h
 .rename_i off u D;obtain⟨G,y,q,z,l,B⟩:=yh D;simp only [Rk] at l;obtain⟨rfl,rfl⟩:=l;split at h
  .simp at h
  .rename_i F;have d:∀b o,(Instr.fieldAt t (.pointer (some ⟨b,o,none⟩)) f).run P w= .ok (.pointer (some ⟨b,o+y.offset,none⟩)) w:=by
    intro b o;simp [Instr.fieldAt,run_underlying q,z,Instr.sureAddr,fieldPlace,iD B,F,gg]
   split at h
   .rename_i j o;simp only [ai] at a;obtain⟨b,e,rfl⟩:=a;exact⟨_,_,h,d _ _,by simp only [ai];exact⟨b,e,rfl⟩⟩
   .rename_i j sz k o;simp only [ai] at a;obtain⟨b,g,L,cap,e,rfl⟩:=a;exact⟨_,_,h,d _ _,by simp only [ai];exact⟨b,g,L,cap,e,by rw [SF]⟩⟩
   .rename_i j sz n k o;simp only [ai] at a;obtain⟨b,g,L,cap,e,rfl⟩:=a;exact⟨_,_,h,d _ _,by simp only [ai];exact⟨b,g,L,cap,e,by rw [SF]⟩⟩
   .rename_i H;replace h:=aM h C;obtain⟨cs,E,h⟩:=h;have:=T.vK E;subst this;simp only [ai,ay] at a;obtain⟨af,o,rfl,g1,p⟩:=a;refine⟨_,_,h,d _ _, ?_⟩;simp only [ai,ay];refine⟨af,_,rfl, ?_,p.drop _⟩;rcases g1 with rfl | g1
    .exact .inl (by simp)
    .exact .inr g1
   .simp at h
 .simp at h
theorem nw{R:Type}{i:Int}{n:Nat}{K:Option R}{r:R}(d:cc=none\/cc=some true)(h:jw cc i n K=some r): 0<=i/\i < n/\K=some r:=by
 unfold jw at h;replace h:=aM h d;obtain⟨_,a,h⟩:=h;split at a
 .rename_i b;exact⟨b.1,b.2,h⟩
 .simp at a
theorem K5{R:Type}{t:TypeId}{x:AV}{vx:Value}{i:Int}{ki:IntKind}{K:AV->Option R}{r:R}(hs:HS c w s.h ρ O)(d:ai w (AA c w O) ρ x vx)(q:cc=none\/cc=some true)(h:iW P s cc t x i K=some r):
  ∃V v,K V=some r/\(Instr.indexAt t vx (.int ki i)).run P w= .ok v w/\ai w (AA c w O) ρ V v:=by
 unfold iW at h;split at h
 .rename_i e J;obtain⟨M,F⟩:=uF J;have g:∀b o len cap,0<=i->i < (len:Nat)->(Instr.indexAt t (.slice (some ⟨b,o,none⟩) len cap) (.int ki i)).run P w= .ok (.pointer (some ⟨b,o+i.toNat * P.cellsOf e,none⟩)) w:=by
   intro b o len cap h0 f;simp [Instr.indexAt,asIntOf,run_underlying M,h0,f,iD F,gg]
  split at h
  .rename_i j;split at h
   .rename_i fz sz bb xs D;split at h
    .rename_i m;subst m;obtain⟨h0,f,h⟩:=nw q h;obtain⟨v,g1,l⟩:=pn hs D;simp only [ai] at d;rw [g1] at d;simp only [Qy] at d;subst d;obtain⟨I,cap',C,q2,q3,q4,u⟩:=l;rcases u with u | ⟨af,off',arr,U,B,N,Q,S,G⟩
     .omega
     .subst B;subst C;exact⟨_,_,h,g _ _ _ _ h0 f,by simp only [ai];exact⟨af,off',_,_,g1,by simp⟩⟩
    .simp at h
   .rename_i bb sz col rsz nx es D;split at h
    .rename_i m;subst m;obtain⟨h0,f,h⟩:=nw q h;obtain⟨a,cap,g1,l,X,g4,H⟩:=hs.af j _ D;simp only [ai] at d;rw [g1] at d;simp only [Qy] at d;subst d;rcases H with H | ⟨af,off',arr,U,B,N,Q,S,G⟩
     .omega
     .subst B;exact⟨_,_,h,g _ _ _ _ h0 f,by simp only [ai];exact⟨af,off',_,_,g1,by simp⟩⟩
    .simp at h
   .simp at h
  .rename_i j n;replace h:=zC hs q h;obtain⟨rsz,bb,xs,v,h,hv,Z⟩:=h;split at h
   .rename_i m;subst m;obtain⟨h0,f,h⟩:=nw q h;simp only [ai] at d;rw [hv] at d;simp only [Qy] at d;subst d;obtain⟨I,cap',C,q2,q3,q4,u⟩:=Z;rcases u with u | ⟨af,off',arr,U,B,N,Q,S,G⟩
    .omega
    .subst B;subst C;exact⟨_,_,h,g _ _ _ _ h0 f,by simp only [ai];exact⟨af,off',_,_,hv,by simp⟩⟩
   .simp at h
  .rename_i j sz off n;split at h
   .rename_i fz sz' bb xs D;split at h
    .rename_i m;obtain⟨rfl,rfl⟩:=m;obtain⟨h0,f,h⟩:=nw q h;obtain⟨v,g1,l⟩:=pn hs D;simp only [ai] at d;obtain⟨a,L,cap,I,z,e2,e3,rfl,e4⟩:=d;rw [g1] at z;simp only [Qy] at z;subst z;obtain⟨a'',cap'',C,q2,q3,q4,u⟩:=l;simp only [RF] at C;obtain⟨rfl,rfl,rfl⟩:=C;rcases u with u | ⟨af,off',arr,U,B,N,Q,S,G⟩
     .omega
     .subst B;have ea:I=some ⟨af,off'+off * P.cellsOf e,none⟩:=by
       rcases e4 with⟨rfl,rfl⟩ | ⟨rfl,_⟩ | ⟨b,o,W,e6⟩
       .simp
       .omega
       .simp only [Qy,RA] at W;obtain⟨rfl,rfl,_⟩:=W;exact e6
      subst ea;refine⟨_,_,h,g _ _ _ _ h0 f, ?_⟩;simp only [ai];exact⟨af,off',_,_,g1,by congr 3;rw [So];omega⟩
    .simp at h
   .simp at h
  .rename_i y;replace h:=aM h q;obtain⟨p,hp,h⟩:=h;obtain⟨h0,f,h⟩:=nw q h;replace h:=aM h q;obtain⟨cs,E,h⟩:=h;rcases T.oZ hp with rfl | ⟨rfl,Y⟩
   .simp only [ai,ay] at d;rcases d with⟨_,e,_⟩ | ⟨_,af,off,sp,cap,rfl,g1,l,X⟩
    .rw [e] at f;simp at f;omega
    .rcases l with l | ⟨rfl,l⟩
     .rw [l] at E;simp at E
     refine⟨_,_,h,g _ _ _ _ h0 f, ?_⟩;obtain⟨g4,H⟩:=X.get E;simp only [ai,ay];exact⟨af,_,rfl, .inr l,H⟩
   .rw [Y] at f;simp at f;omega
  .simp at h
 .split at h
  .rename_i n e J;obtain⟨M,F⟩:=AS J;obtain⟨h0,f,h⟩:=nw q h;have g:∀b o,(Instr.indexAt t (.pointer (some ⟨b,o,none⟩)) (.int ki i)).run P w= .ok (.pointer (some ⟨b,o+i.toNat * P.cellsOf e,none⟩)) w:=by
    intro b o;simp [Instr.indexAt,asIntOf,run_underlying M,Instr.sureAddr,h0,f,iD F,gg]
   split at h
   .rename_i j off;simp only [ai] at d;obtain⟨b,z,rfl⟩:=d;exact⟨_,_,h,g _ _,by simp only [ai];exact⟨b,z,rfl⟩⟩
   .rename_i j sz k off;simp only [ai] at d;obtain⟨b,o',L,cap,z,rfl⟩:=d;exact⟨_,_,h,g _ _,by simp only [ai];exact⟨b,o',L,cap,z,by rw [SF]⟩⟩
   .rename_i y;replace h:=aM h q;obtain⟨cs,E,h⟩:=h;have:=T.vK E;subst this;simp only [ai,ay] at d;obtain⟨af,o,rfl,g1,l⟩:=d;refine⟨_,_,h,g _ _, ?_⟩;simp only [ai,ay];refine⟨af,_,rfl, ?_,l.drop _⟩;rcases g1 with rfl | g1
    .exact .inl (by simp)
    .exact .inr g1
   .simp at h
  .simp at h
end
open Go Go.IntKind
section
variable {P:Program} {w w':World} {A A':Nat->Prop} {c:Ctx} {ρ:Id->Option Value} {O:Id->Option Nat} {s:St} {cc:Option Bool}
theorem Lj{R:Type}{t ty:TypeId}{ts:Array TypeId}{x:AV}{B:Value}{K:AV->Option R}{r:R}(hs:HS c w s.h ρ O)(d:ai w (AA c w O) ρ x B)(l:cc=none\/cc=some true)(h:mo P s cc t x K=some r)
  (g:ts[0]? =some t):∃u v,K u=some r/\(Builtin.len_ ts ty #[B]).run P w= .ok v w/\ai w (AA c w O) ρ u v:=by
 unfold mo at h;split at h
 .rename_i i;split at h
  .rename_i y;replace h:=aM h l;obtain⟨b,C,h⟩:=h;have:=T.jI C;subst this;simp only [ai,ay] at d;subst d;exact⟨_,_,h,by simp [Builtin.len_,g,run_underlying i];rfl,by simp only [ai];exact fM _ _ _ _⟩
  .simp at h
 .rename_i n e i;exact⟨_,_,h,by simp [Builtin.len_,g,run_underlying i];rfl,by simp only [ai];exact fM _ _ _ _⟩
 .rename_i e i;have f:∀a n cap,(Builtin.len_ ts ty #[.slice a n cap]).run P w= .ok (goInt n) w:=by
   intro a n cap;simp [Builtin.len_,g,run_underlying i]
  split at h
  .rename_i j;split at h
   .rename_i fz sz bb xs m;obtain⟨v,k,q,cap',o,N,Q,S,U⟩:=pn hs m;simp only [ai] at d;rw [k] at d;simp only [Qy] at d;subst d;subst o;exact⟨_,_,h,f _ _ _,by simp only [ai];exact fM _ _ _ _⟩
   .rename_i bb sz col rsz M es m;obtain⟨a,cap,k,_⟩:=hs.af j _ m;simp only [ai] at d;rw [k] at d;simp only [Qy] at d;subst d;exact⟨_,_,h,f _ _ _,by simp only [ai];exact fM _ _ _ _⟩
   .simp at h
  .rename_i j n;replace h:=zC hs l h;obtain⟨rsz,bb,xs,v,h,E,q,cap',o,_⟩:=h;simp only [ai] at d;rw [E] at d;simp only [Qy] at d;subst d;subst o;exact⟨_,_,h,f _ _ _,by simp only [ai];exact fM _ _ _ _⟩
  .rename_i j sz off n;simp only [ai] at d;obtain⟨a,L,cap,q,F,G,e3,rfl,H⟩:=d;exact⟨_,_,h,f _ _ _,by simp only [ai];exact fM _ _ _ _⟩
  .rename_i y;replace h:=aM h l;obtain⟨p,D,h⟩:=h;rcases T.oZ D with rfl | ⟨rfl,z⟩
   .simp only [ai,ay] at d;rcases d with⟨_,e,rfl⟩ | ⟨_,af,off,sp,cap,rfl,k,I,J⟩
    .refine⟨_,_,h,f _ _ _, ?_⟩;simp only [ai,e];exact fM _ _ _ _
    .exact⟨_,_,h,f _ _ _,by simp only [ai];exact fM _ _ _ _⟩
   .simp only [ai,ay] at d;rw [z] at h;rcases d with⟨_,rfl⟩ | ⟨_,af,off,sp,rfl⟩ <;> exact⟨_,_,h,f _ _ _,by simp only [ai];exact fM _ _ _ _⟩
  .simp at h
 .simp at h
theorem wT{x:T}{n:Int}(h:iu.anyInt x=some n):∃k,x= .int k n:=by cases x <;> simp_all [iu.anyInt]
def iL(b:Option Int)(v:Option Value):Prop:=match b,v with
 | none,none=>True
 | some n,some (.int _ m)=>m=n
 | _,_=>False
theorem xc{R:Type}{a:Act}{g:Option Gs}{o:Option Operand}{K:Option Int->Option R}{r:R}(j:SS w A ρ s.t a.tmps)(i:jO a.tmps g)(e:cc=none\/cc=some true)(h:iu s cc g o K=some r):
  ∃b,K b=some r/\iL b (o.map a.eval):=by
 unfold iu at h;split at h
 .exact⟨none,h,trivial⟩
 .rename_i o;cases d:(s.get g o).t? with
  | none=>simp [d] at h
  | some x=>simp only [d,QD] at h;replace h:=aM h e;obtain⟨n,f,h⟩:=h;obtain⟨k,rfl⟩:=wT f;have:=SS.get (h:=s.h) j i o;rw [show(⟨s.t,s.h⟩:St)=s from rfl,AV.lf d] at this;simp only [ai,ay] at this;exact⟨some n,h,by simp [iL,this]⟩
theorem uY{b a n:Int}(h:fp b a n=some ()): 0<=b/\b<=a/\a<=n:=by
 unfold fp at h;split at h
 .assumption
 .simp at h
theorem tA{v:Option Value}(h:iL none v):v=none:=by cases v <;> simp_all [iL]
theorem pE{n:Int}{v:Option Value}(h:iL (some n) v):∃k,v=some (.int k n):=by
 cases v with
 | none=>simp [iL] at h
 | some v=>cases v <;> simp_all [iL]
theorem qT(k:IntKind)(n:Int)(y:Nat)(a:BoundsCode)(h0: 0<=n)(b:n<=y):(Instr.sliceBound (.int k n) y a).run P w= .ok n.toNat w:=run_sliceBound w k n y a h0 b
theorem FY(p:Bool){b f:Option Int}{j i:Option Value}{len cap:Nat}(hl:iL b j)(o:iL f i)(g: 0<=b.getD 0)(d:b.getD 0<=f.getD len)(l:f.getD len<=cap):
  (Instr.sliceBounds p len cap j i none).run P w= .ok ((b.getD 0).toNat,(f.getD len).toNat,cap) w:=by
 cases f with
 | none=>
  have:=tA o;subst this;simp only [Tz] at d l⊢;cases b with
  | none=>have:=tA hl;subst this;simp [Instr.sliceBounds]
  | some n=>obtain⟨k,rfl⟩:=pE hl;simp only [Sj] at g d⊢;have e:=qT (P:=P) (w:=w) k n len .sliceB g d;simp [Instr.sliceBounds,e]
 | some m=>
  obtain⟨q,rfl⟩:=pE o;simp only [Sj] at d l⊢;have e':∀a,(Instr.sliceBound (.int q m) cap a).run P w= .ok m.toNat w:=λa=>qT q m cap a (by omega) l;cases b with
  | none=>have:=tA hl;subst this;simp [Instr.sliceBounds,e']
  | some n=>obtain⟨k,rfl⟩:=pE hl;simp only [Sj] at g d⊢;have e:=qT (P:=P) (w:=w) k n m.toNat .sliceB g (by omega);simp [Instr.sliceBounds,e,e']
theorem PQ{R:Type}{t:TypeId}{x:AV}{vx:Value}{g C mx:Option Int}{W V F:Option Value}{K:AV->Option R}{r:R}(hs:HS c w s.h ρ O)(q:ai w (AA c w O) ρ x vx)(M:cc=none\/cc=some true)
  (hl:iL g W) (hh:iL C V) (hm:iL mx F) (h:mI P s cc t x g C mx K=some r):
  ∃av v,K av=some r/\(Instr.sliceAt t vx W V F).run P w= .ok v w/\ai w (AA c w O) ρ av v:=by
 unfold mI at h;split at h
 .rename_i hu;split at h
  .rename_i y;replace h:=aM h M;obtain⟨b,J,h⟩:=h;have:=T.jI J;subst this;simp only [ai,ay] at q;subst q;replace h:=aM h M;obtain⟨_,J,h⟩:=h;obtain⟨D,l,B⟩:=uY J;have hvm:F=none:=by cases F with | none=>rfl | some v=>simp [iL] at hm
   subst hvm;refine⟨_,_,h, ?_,by simp only [ai];exact kU _ _ _⟩;have:=FY (P:=P) (w:=w) false (len:=b.size) (cap:=b.size) hl hh D l B;simp [Instr.sliceAt,Instr.slice,run_underlying hu,this]
  .simp at h
 .rename_i e hu;split at h
  .have hvm:F=none:=by cases F with | none=>rfl | some v=>simp [iL] at hm
   subst hvm
   have z:bX P e=true->∀(a:Option Addr) (len cap:Nat),0<=g.getD 0->g.getD 0<=C.getD len->C.getD len<=cap->
     (Instr.sliceAt t (.slice a len cap) W V none).run P w= .ok (.slice (if cap= (g.getD 0).toNat then a else a.map (·.add ((g.getD 0).toNat * P.cellsOf e))) ((C.getD len).toNat - (g.getD 0).toNat) (cap - (g.getD 0).toNat)) w:=by
    intro f a len cap D l B;have:=FY (P:=P) (w:=w) true hl hh D l B;simp [Instr.sliceAt,Instr.slice,run_underlying hu,this,iD f]
   split at h
   .rename_i j;split at h
    .rename_i fz sz bb xs hj;split at h
     .rename_i S;obtain⟨S,f⟩:=S;subst S;replace h:=aM h M;obtain⟨_,J,h⟩:=h;obtain⟨D,l,B⟩:=uY J;obtain⟨v,H,G,cap',X,q2,q3,q4,Y⟩:=pn hs hj;simp only [ai] at q;rw [H] at q;simp only [Qy] at q;subst q;subst X;refine⟨_,_,h,z f _ _ _ D l (by omega), ?_⟩;simp only [ai];refine⟨G,_,cap',_,H,by omega,q2,rfl, ?_⟩;by_cases e0:(g.getD 0).toNat=0
      .left;refine⟨e0, ?_⟩;rw [e0];split
       .rfl
       .cases G <;> simp [Addr.add]
      .by_cases i:cap'= (g.getD 0).toNat
       .right;left;rw [if_pos i];exact⟨i.symm,SP,q4⟩
       .right;right;rw [if_neg i];rcases Y with Y | ⟨af,off',arr,t',q6,_⟩
        .omega
        .subst q6;exact⟨af,off',rfl,by simp [gg]⟩
     .simp at h
    .simp at h
   .rename_i j sz off n;split at h
    .rename_i fz sz' bb xs hj;split at h
     .rename_i S;obtain⟨rfl,rfl,f⟩:=S;replace h:=aM h M;obtain⟨_,J,h⟩:=h;obtain⟨D,l,B⟩:=uY J;simp only [ai] at q;obtain⟨a,L,cap,G,i,e2,e3,rfl,e4⟩:=q;obtain⟨v,H,a'',cap'',X,q2,q3,q4,Y⟩:=pn hs hj;rw [H] at i;simp only [Qy] at i;subst i;simp only [RF] at X;obtain⟨rfl,rfl,rfl⟩:=X;refine⟨_,_,h,z f _ _ _ D l (by omega), ?_⟩;simp only [ai];refine⟨a,_,cap,_,H,by omega,e3,by congr 1;omega, ?_⟩;by_cases e0:(g.getD 0).toNat=0
      .have:(if cap - off= (g.getD 0).toNat then G else G.map (·.add ((g.getD 0).toNat * P.cellsOf e)))=G:=by
        rw [e0];split
        .rfl
        .cases G <;> simp [Addr.add]
       rw [this,e0,SK];exact e4
      .by_cases Q:cap - off= (g.getD 0).toNat
       .right;left;rw [if_pos Q];refine⟨by omega, ?_, ?_⟩
        .rcases e4 with⟨_,rfl⟩ | ⟨_,E,_⟩ | ⟨b,o,rfl,rfl⟩
         .exact SP
         .exact E
         .simp
        .trivial
       .right;right;rw [if_neg Q];rcases Y with Y | ⟨af,off',arr,t',q6,_⟩
        .omega
        .subst q6;rcases e4 with⟨e7,rfl⟩ | ⟨e7,_⟩ | ⟨b,o,E,rfl⟩
         .subst e7;exact⟨af,off',rfl,by simp [gg]⟩
         .omega
         .exact⟨b,o,E,by simp [gg,So,SF]⟩
     .simp at h
    .simp at h
   .rename_i y;split at h
    .rename_i f;replace h:=aM h M;obtain⟨p,hp,h⟩:=h;replace h:=aM h M;obtain⟨_,J,h⟩:=h;obtain⟨D,l,B⟩:=uY J;rcases T.oZ hp with rfl | ⟨rfl,hp2⟩
     .simp only [ai,ay] at q;rcases q with⟨i,e,rfl⟩ | ⟨i,af,off,sp,cap,rfl,H,I,g3⟩
      .rw [e] at l B h;refine⟨_,_,h,z f _ _ _ (by simpa using D) (by simpa using l) (by simpa using B), ?_⟩;simp only [QW,Re] at l B;have Q:(g.getD 0).toNat=0:=by omega
       have E:(C.getD ((0:Nat):Int)).toNat=0:=by
        have:C.getD ((0:Nat):Int)=C.getD 0:=by simp
        rw [this];omega
       simp only [ai,ay,sub,List.drop_nil,List.take_nil];left;refine⟨i,trivial, ?_⟩;rw [E];simp
      .refine⟨_,_,h,z f _ _ _ D l (by omega), ?_⟩;simp only [ai,ay];right;refine⟨i, ?_⟩;by_cases Q:cap= (g.getD 0).toNat
       .rw [if_pos Q];have E:(C.getD ((p.2.length:Nat):Int)).toNat - (g.getD 0).toNat=0:=by omega
        refine⟨af,off,sp,cap - (g.getD 0).toNat, ?_, ?_, .inl ?_, ?_⟩
        .simp only [sub,E,TI,QW]
        .simp only [sub,E,TI,QW];omega
        .simp [sub,E]
        .simp [sub,E,bd]
       .rw [if_neg Q];have N:(sub (g.getD 0) (C.getD ((p.2.length:Nat):Int)) p.2).length= (C.getD ((p.2.length:Nat):Int)).toNat - (g.getD 0).toNat:=by
         simp only [sub,Rw,RM];omega
        rcases I with I | ⟨I,g4⟩
        .have e7:(g.getD 0).toNat=0:=by rw [I] at B;simp only [QW] at B;rw [I] at l;simp only [QW] at l;omega
         refine⟨af,off,sp,cap - (g.getD 0).toNat, ?_, ?_, .inl (by simp [sub,I]),by simp [sub,I,bd]⟩
         .rw [N,e7];simp [Addr.add]
         .rw [N];omega
        .subst I;refine⟨af,off+ (g.getD 0).toNat * P.cellsOf e,none,cap - (g.getD 0).toNat, ?_, ?_, .inr ⟨rfl,g4⟩, ?_⟩
         .rw [N];simp only [Se,gg]
         .rw [N];omega
         .exact(g3.drop _).take _
     .rw [hp2] at l B h;simp only [ai,ay] at q;simp only [QW,Re] at l B;have Q:(g.getD 0).toNat=0:=by omega
      have E:(C.getD ((0:Nat):Int)).toNat=0:=by
       have:C.getD ((0:Nat):Int)=C.getD 0:=by simp
       rw [this];omega
      rcases q with⟨i,rfl⟩ | ⟨i,af,off,sp,rfl⟩
      .refine⟨_,_,h,z f _ _ _ (by simpa using D) (by simpa using l) (by simpa using B), ?_⟩;simp only [ai,ay,sub,List.drop_nil,List.take_nil];left;refine⟨i,trivial, ?_⟩;rw [E];simp
      .refine⟨_,_,h,z f _ _ _ (by simpa using D) (by simpa using l) (by simpa using B), ?_⟩;simp only [ai,ay,sub,List.drop_nil,List.take_nil,bd];right;refine⟨i,af,off,sp,0, ?_,by simp, .inl trivial,trivial⟩;rw [Q,E];simp
    .simp at h
   .simp at h
  .rename_i m;obtain⟨km,rfl⟩:=pE hm
   have z:bX P e=true->g.getD 0=0->C.getD 1=0->m=0->∀(a:Option Addr) (len cap:Nat),
     (Instr.sliceAt t (.slice a len cap) W V (some (.int km m))).run P w= .ok (.slice a 0 0) w:=by
    intro f D l B a len cap;cases C with
    | none=>simp at l
    | some hn=>
     obtain⟨kh,rfl⟩:=pE hh;simp only [Sj] at l;subst l;subst B;have i:∀k,(Instr.sliceBound (.int km 0) cap k).run P w= .ok 0 w:=λk=>qT km 0 cap k (by omega) (by omega);have e2:∀k,(Instr.sliceBound (.int kh 0) 0 k).run P w= .ok 0 w:=λk=>qT kh 0 0 k (by omega) (by omega);cases g with
     | none=>have:=tA hl;subst this;simp [Instr.sliceAt,Instr.slice,run_underlying hu,Instr.sliceBounds,i,e2,iD f]
     | some ln=>obtain⟨kl,rfl⟩:=pE hl;simp only [Sj] at D;subst D;have e3:∀k,(Instr.sliceBound (.int kl 0) 0 k).run P w= .ok 0 w:=λk=>qT kl 0 0 k (by omega) (by omega);simp [Instr.sliceAt,Instr.slice,run_underlying hu,Instr.sliceBounds,i,e2,e3,iD f]
   have zs:∀{a b d:Int} {u:Unit},wJ a b d=some u->a=0/\b=0/\d=0:=by
    intro a b d u U;unfold wJ at U;split at U
    .assumption
    .simp at U
   split at h
   .rename_i y;split at h
    .rename_i f;replace h:=aM h M;obtain⟨p,hp,h⟩:=h;replace h:=aM h M;obtain⟨_,U,h⟩:=h;obtain⟨Z,z2,z3⟩:=zs U;rcases T.oZ hp with rfl | ⟨rfl,hp2⟩
     .simp only [ai,ay] at q;rcases q with⟨i,e,rfl⟩ | ⟨i,af,off,sp,cap,rfl,H,I,g3⟩
      .exact⟨_,_,h,z f Z z2 z3 _ _ _,by simp only [ai,ay];exact .inl ⟨i,trivial⟩⟩
      .exact⟨_,_,h,z f Z z2 z3 _ _ _,by simp only [ai,ay];exact .inr ⟨i,af,off,sp,rfl⟩⟩
     .simp only [ai,ay] at q;rcases q with⟨i,rfl⟩ | ⟨i,af,off,sp,rfl⟩
      .exact⟨_,_,h,z f Z z2 z3 _ _ _,by simp only [ai,ay];exact .inl ⟨i,trivial⟩⟩
      .exact⟨_,_,h,z f Z z2 z3 _ _ _,by simp only [ai,ay];exact .inr ⟨i,af,off,sp,rfl⟩⟩
    .simp at h
   .rename_i j;split at h
    .rename_i fz sz bb xs hj;split at h
     .simp at h
     .rename_i f;simp only [Bool.not_eq_false] at f;replace h:=aM h M;obtain⟨_,U,h⟩:=h;obtain⟨Z,z2,z3⟩:=zs U;obtain⟨v,H,G,cap',X,q2,q3,q4,Y⟩:=pn hs hj;simp only [ai] at q;rw [H] at q;simp only [Qy] at q;subst q;subst X;refine⟨_,_,h,z f Z z2 z3 _ _ _, ?_⟩;simp only [ai,ay];cases bb
      .right;cases G with
       | none=>simp at q3
       | some x=>obtain⟨b,o,sp⟩:=x;exact⟨rfl,b,o,sp,rfl⟩
      .left;exact⟨rfl,by rw [q3.2 rfl]⟩
    .simp at h
   .simp at h
 .simp at h
end
open Go Go.IntKind
section
variable {P:Program} {w w':World} {A A':Nat->Prop} {c:Ctx} {ρ:Id->Option Value} {O:Id->Option Nat} {s:St} {cc:Option Bool} {h:Id->Option ad}
def qM(v:AV)(i:Id):Prop:=v= .own i\/(∃sz off n,v= .part i sz off n)\/∃off,v= .ref i off
theorem mH{i:Id}{fz b:Bool}{sz:Nat}{l:List (List T)}(hs:HS c w h ρ O)(e:h i=some (.sl fz sz b l)):∃v,ρ i=some v/\cI w (AA c w O) sz b l v (λaf=>if fz=true then AA c w O af else O i=some af):=by obtain⟨v,a,d,_⟩:=hs.af i _ e;exact⟨v,a,d⟩
theorem lX{v:AV}{x:T}{u:Value}(hs:HS c w h ρ O)(e:ai w (AA c w O) ρ v u)(d:dv h v=some x)
  (m:∀b,AA c w O b->A' b) (S:∀i af,qM v i->O i=some af->A' af):ay w A' x u:=by
 have mono:∀(t:T) (v:Value),ay w (AA c w O) t v->ay w A' t v:=λt v hr=>ay.mono (λb p=>⟨m b p,rfl⟩) t v hr;cases v <;> simp only [dv,reduceCtorEq,Qy] at d
 case t y=>subst d;simp only [ai] at e;exact mono _ _ e
 case own i=>
  split at d
  .rename_i fz sz b xs q;simp only [Qy] at d;subst d;obtain⟨v',N,a,cap,H,W,E,q4,f⟩:=mH hs q;simp only [ai] at e;rw [N] at e;simp only [Qy] at e;subst e;subst H;simp only [ay];cases b with
   | true=>
    left;have:a=none:=E.2 rfl;subst this;rcases f with f | ⟨af,off,arr,t,z,_⟩
    .have:xs= []:=Q7.1 (by omega);subst this;subst f;exact⟨rfl,rfl,rfl⟩
    .cases z
   | false=>
    right;refine⟨rfl, ?_⟩;rcases f with f | ⟨af,off,arr,t,z,F,q8,q9,D⟩
    .have:xs= []:=Q7.1 (by omega);subst this;cases a with
     | none=>simp at E
     | some y=>obtain⟨K,o,sp⟩:=y;exact⟨K,o,sp,cap,rfl,W, .inl rfl,by simp [bd]⟩
    .subst z;refine⟨af,off,_,cap,rfl,W, .inr ⟨rfl, ?_⟩,bd.mr (λb p=>⟨m b p,rfl⟩) af sz rfl off xs D⟩;cases fz
     .exact S i af (.inl rfl) (by simpa using F)
     .exact m _ (by simpa using F)
  .simp at d
 case part i sz off n=>
  split at d
  .rename_i fz I b xs q;split at d
   .rename_i hsz;subst hsz;simp only [Qy] at d;subst d;obtain⟨v',N,a,cap,H,W,E,q4,f⟩:=mH hs q;simp only [ai] at e;obtain⟨X,L,cap1,J,g,e2,e3,rfl,Z⟩:=e;rw [N] at g;simp only [Qy] at g;subst g;simp only [RF] at H;obtain⟨rfl,rfl,rfl⟩:=H;have V:((xs.drop off).take n).length=n:=by simp only [Rw,RM];omega
    simp only [ay,V];have k:J=none↔X=none:=by
     rcases Z with⟨_,rfl⟩ | ⟨_,B,_⟩ | ⟨Y,o,rfl,rfl⟩
     .exact SP
     .exact B
     .simp
    cases b with
    | true=>
     left;have B:X=none:=E.2 rfl;subst B;rcases f with f | ⟨af,off',arr,t,z,_⟩
     .have M:xs= []:=Q7.1 (by omega);subst M;subst f;simp only [QW] at e2;have e7:n=0:=by omega
      subst e7;rw [k.2 rfl];exact⟨rfl,by simp,by congr 1;omega⟩
     .cases z
    | false=>
     right;refine⟨rfl, ?_⟩;by_cases hn:n=0
     .subst hn;cases J with
      | none=>have:=k.1 rfl;simp [this] at E
      | some y=>obtain⟨K,o,sp⟩:=y;exact⟨K,o,sp,_,rfl,by omega, .inl (by simp),by simp [bd]⟩
     .rcases f with f | ⟨af,off',arr,t,z,F,q8,q9,D⟩
      .omega
      .subst z;have ea:J=some ⟨af,off'+off * I,none⟩:=by
        rcases Z with⟨rfl,rfl⟩ | ⟨rfl,_⟩ | ⟨Y,o,B,M⟩
        .simp
        .omega
        .simp only [Qy,RA] at B;obtain⟨rfl,rfl,_⟩:=B;exact M
       subst ea;refine⟨af,_,_,_,rfl,by omega, .inr ⟨rfl, ?_⟩,(bd.mr (λb p=>⟨m b p,rfl⟩) af I rfl off' xs D).drop off |>.take n⟩;cases fz
       .exact S i af (.inr (.inl ⟨_,_,_,rfl⟩)) (by simpa using F)
       .exact m _ (by simpa using F)
   .simp at d
  .simp at d
 case ref i off=>
  simp only [ai] at e;obtain⟨Y,g,rfl⟩:=e;split at d
  .rename_i cs q;obtain⟨l,hl,d⟩:=Qz.1 d;simp only [Qy] at d;subst d;obtain⟨b,arr,t',C,G,Q,R,h5,h6⟩:=xd (s:=⟨λ_=>(none, .top),h⟩) hs q;rw [C] at g;simp only [Qy,R6,RA] at g;obtain⟨rfl,_⟩:=g;simp only [ay];refine⟨b,off,rfl, .inr (S i b (.inr (.inr ⟨_,rfl⟩)) G), ?_⟩;have hT:=aS.kc hl R;have key:∀(l:List T) (vs:List Value) (off:Nat),aS w (AA c w O) l vs->(∀j v,vs[j]? =some v->w.cell? ⟨b,off+j,none⟩=some v)->aZ w A' b off l:=by
    intro l;induction l with
    | nil=>intro vs off _ _;simp [aZ]
    | cons x l ih=>rintro vs off ⟨v,r,rfl,C,G⟩ e;simp only [aZ];refine⟨⟨v,by simpa using e 0 v rfl,mono _ _ C⟩,ih r (off+1) G λj u U=> ?_⟩;have:=e (j+1) u (by simpa using U);rw [show off+1+j=off+ (j+1) by omega];exact this
   have:=(key l _ 0 hT λj v U=>by rw [Rh];exact h6 j v U).drop off;rwa [Rh] at this
  .rename_i l q;simp only [Qy] at d;subst d;obtain⟨b,C,G,Q,R⟩:=hs.af i _ q;rw [C] at g;simp only [Qy,R6,RA] at g;obtain⟨rfl,_⟩:=g;simp only [ay];refine⟨b,off,rfl, .inr (m b Q), ?_⟩;have:=(aZ.mono (λb p=>⟨m b p,rfl⟩) b Q 0 l R).drop off;rwa [Rh] at this
  .simp at d
def Fy(v:AV)(i:Id):Prop:=qM v i\/∃vs,v= .agg vs/\∃u∈vs,qM u i
theorem Gl(hs:HS c w h ρ O)(j:∀b,AA c w O b->A' b):∀{vs:List AV} {xs:List T} {us:List Value},az w (AA c w O) ρ vs us->kr h vs=some xs->
  (∀i af,(∃u∈vs,qM u i)->O i=some af->A' af)->aS w A' xs us
 | [],xs,us,e,a,_=>by simp only [kr,Qy] at a;subst a;simpa [az,aS] using e
 | v::vs,xs,us,e,a,k=>by
  simp only [kr] at a;cases d:dv h v with
  | none=>simp [d] at a
  | some x=>
   cases f:kr h vs with
   | none=>simp [d,f] at a
   | some l=>simp only [d,f,QD,Qy] at a;subst a;simp only [az] at e;obtain⟨u,r,rfl,m,n⟩:=e;exact⟨u,r,rfl,lX hs m d j (λi af g=>k i af ⟨v,QA,g⟩),Gl hs j n f (λi af ⟨u,o,g⟩=>k i af ⟨u,QB _ o,g⟩)⟩
theorem PT{v:AV}{x:T}{u:Value}(hs:HS c w h ρ O)(b:ai w (AA c w O) ρ v u)(a:dv h v=some x):u.oneCell'=true/\u.cells= #[u]:=
 (lX (A':=λ_=>True) hs b a (λ_ _=>trivial) (λ_ _ _ _=>trivial)).pc
theorem PU{v:AV}{xs:List T}{u:Value}(hs:HS c w h ρ O)(d:ai w (AA c w O) ρ v u)(a:kq h v=some xs)(k:∀b,AA c w O b->A' b)
  (l:∀i af,Fy v i->O i=some af->A' af):aS w A' xs u.cells.toList/\∀y∈u.cells.toList,y.oneCell'=true/\y.cells= #[y]:=by
 have one:∀x,dv h v=some x->xs= [x]->aS w A' xs u.cells.toList/\∀y∈u.cells.toList,y.oneCell'=true/\y.cells= #[y]:=by intro x e f;subst f;have p:=lX hs d e k (λi af g=>l i af (.inl g));have j:=PT hs d e;rw [j.2];exact⟨⟨u,[],rfl,p,rfl⟩,by intro y m;simp at m;subst m;exact j⟩
 cases v
 case agg vs=>simp only [kq] at a;simp only [ai] at d;obtain⟨q,rfl,n,o⟩:=d;refine⟨?_,by simpa [Value.cells] using o⟩;have:=Gl hs k n a (λi af g=>l i af (.inr ⟨vs,rfl,g⟩));simpa [Value.cells] using this
 all_goals
  unfold kq at a;obtain⟨x,e,f⟩:=Qz.1 a;exact one x e (Option.some.inj f).symm
def py(p:Id×ad)(x:Option ad):Prop:=(∃sz b xs,p.2= .sl true sz b xs/\(x=some (.sl false sz b xs)\/x=some (.sl true sz b xs)))\/
 ∃l,p.2= .cO l/\((∃cs,x=some (.box cs)/\dR cs=some l)\/x=some (.cO l))
def fO(h:Id->Option ad)(us:aB):Prop:= ∀p∈us,py p (h p.1)
theorem py.again{i:Id}{b j:ad}{x:Option ad}(p:py (i,b) x)(n:py (i,j) x):j=b/\py (i,j) (some b):=by
 rcases p with⟨sz,bb,xs,d,g1⟩ | ⟨l,d,g1⟩
 .rcases n with⟨f,e,g,a,g2⟩ | ⟨o,a,g2⟩
  .simp only at d a;have:f=sz/\e=bb/\g=xs:=by
    rcases g1 with rfl | rfl <;> rcases g2 with g2 | g2 <;> simp at g2 <;> simp [g2]
   obtain⟨rfl,rfl,rfl⟩:=this;exact⟨by rw [d,a], .inl ⟨_,_,_,a, .inr (by rw [d])⟩⟩
  .rcases g1 with rfl | rfl <;> rcases g2 with⟨cs,g2,_⟩ | g2 <;> simp at g2
 .rcases n with⟨f,e,g,a,g2⟩ | ⟨o,a,g2⟩
  .rcases g2 with rfl | rfl <;> rcases g1 with⟨cs,g1,_⟩ | g1 <;> simp at g1
  .simp only at d a;have:o=l:=by
    rcases g1 with⟨cs,rfl,g1⟩ | rfl
    .rcases g2 with⟨m,g2,k⟩ | g2
     .simp only [Qy,ad.box.injEq] at g2;subst g2;rw [g1] at k;simpa using k.symm
     .simp at g2
    .rcases g2 with⟨m,g2,k⟩ | g2
     .simp at g2
     .simpa using g2.symm
   subst this;exact⟨by rw [d,a], .inr ⟨_,a, .inr (by rw [d])⟩⟩
theorem HS.shut(hs:HS c w h ρ O){i:Id}{b:ad}(m:py (i,b) (h i)):
  ∃a,Le w ρ O w ρ a/\HS c w (aG h i (some b)) ρ a/\(∀j,a j=O j\/a j=none)/\a i=none/\∀j,j≠i->a j=O j:=by
 have k:∀(f:Id->Option ad) (v:Option ad),f i=v->aG f i v=f:=by
  intro f v h;funext j;unfold aG;split
  .rename_i e;rw [e,h]
  .rfl
 have rel:∀{x:Option ad},HS c w (aG h i x) ρ (aG O i none)->∃a,Le w ρ O w ρ a/\HS c w (aG h i x) ρ a/\(∀j,a j=O j\/a j=none)/\a i=none/\∀j,j≠i->a j=O j:=by
  intro x p;exact⟨_,Le.release,p,λj=>by
   by_cases e:j=i
   .subst e;right;simp
   .left;exact au _ _ e,by simp,λj e=>au _ _ e⟩
 have same:h i=some b->O i=none->∃a,Le w ρ O w ρ a/\HS c w (aG h i (some b)) ρ a/\(∀j,a j=O j\/a j=none)/\a i=none/\∀j,j≠i->a j=O j:=by intro n o;exact⟨O,Le.refl,by rw [k _ _ n];exact hs,λj=> .inl rfl,o,λ_ _=>rfl⟩
 rcases m with⟨sz,bb,xs,e,d⟩ | ⟨l,e,d⟩
 .simp only at e;subst e;rcases d with d | d
  .exact rel (hs.freeze d)
  .obtain⟨_,_,_,g⟩:=hs.af i _ d;exact same d (g rfl)
 .simp only at e;subst e;rcases d with⟨cs,d,hl⟩ | d
  .exact rel (hs.KM d hl)
  .obtain⟨_,_,g,_⟩:=hs.af i _ d;exact same d g
theorem sb(v:AV):fO h (gv h v):=by
 intro p a;unfold gv at a;split at a
 .split at a
  .rename_i i sz b xs d;simp only [QL] at a;subst a;exact .inl ⟨sz,b,xs,rfl, .inl d⟩
  .cases a
 .split at a
  .rename_i i _ _ _ sz b xs d;simp only [QL] at a;subst a;exact .inl ⟨sz,b,xs,rfl, .inl d⟩
  .cases a
 .split at a
  .rename_i i _ cs d;split at a
   .rename_i l hl;simp only [QL] at a;subst a;exact .inr ⟨l,rfl, .inl ⟨cs,d,hl⟩⟩
   .cases a
  .cases a
 .cases a
theorem fO.append{us vs:aB}(b:fO h us)(d:fO h vs):fO h (us++vs):=by
 intro p a;rcases QR.1 a with a | a
 .exact b p a
 .exact d p a
theorem yo:∀(vs:List AV),fO h (lK h vs)
 | []=>by intro p a;cases a
 | v::vs=>(sb v).append (yo vs)
theorem yq(v:AV):fO h (fV h v):=by
 unfold fV;split
 .exact yo _
 .exact sb v
theorem HS.Dm:∀{us:aB} {h:Id->Option ad} {O:Id->Option Nat},HS c w h ρ O->fO h us->
  ∃O',Le w ρ O w ρ O'/\HS c w (aJ h us) ρ O'/\(∀i,O' i=O i\/O' i=none)/\(∀p∈us,O' p.1=none)/\∀i,(∀p∈us,p.1≠i)->O' i=O i
 | [],h,O,hs,_=>⟨O,Le.refl,hs,λi=> .inl rfl,by simp,λ_ _=>rfl⟩
 | (i,b)::us,h,O,hs,d=>by
  have k:=d (i,b) QA;obtain⟨C,o,q,r,t,u⟩:=hs.shut k;have g:fO (aG h i (some b)) us:=by
   intro p a;have f:=d p (QB _ a);by_cases e:p.1=i
   .obtain⟨j,x⟩:=p;simp only at e f;subst e;rw [aA];exact(k.again f).2
   .rw [au _ _ e];exact f
  obtain⟨n,v,y,m,z,B⟩:=HS.Dm q g;refine⟨n,o.trans v,y,λj=> ?_,λp a=> ?_,λj l=> ?_⟩
  .rcases m j with e | e
   .rw [e];exact r j
   .exact .inr e
  .rcases QN.1 a with rfl | a
   .rcases m i with e | e
    .rw [e];exact t
    .exact e
   .exact z p a
  .rw [B j (λp a=>l p (QB _ a)),u j (λe=>l (i,b) QA e.symm)]
theorem uT(hs:HS c w h ρ O){v:AV}{x:T}(a:dv h v=some x){i:Id}{af:Nat}(d:qM v i)(ho:O i=some af):∃p∈gv h v,p.1=i:=by
 rcases d with rfl | ⟨sz,off,n,rfl⟩ | ⟨off,rfl⟩
 .simp only [dv] at a;split at a
  .rename_i fz sz b xs d;cases fz
   .exact⟨(i, .sl true sz b xs),by simp [gv,d],rfl⟩
   .obtain⟨_,_,_,e⟩:=hs.af i _ d;rw [e rfl] at ho;cases ho
  .simp at a
 .simp only [dv] at a;split at a
  .rename_i fz f b xs d;cases fz
   .exact⟨(i, .sl true f b xs),by simp [gv,d],rfl⟩
   .obtain⟨_,_,_,e⟩:=hs.af i _ d;rw [e rfl] at ho;cases ho
  .simp at a
 .simp only [dv] at a;split at a
  .rename_i cs d;obtain⟨l,hl,_⟩:=Qz.1 a;exact⟨(i, .cO l),by simp [gv,d,hl],rfl⟩
  .rename_i l d;obtain⟨_,_,e,_⟩:=hs.af i _ d;rw [e] at ho;cases ho
  .simp at a
theorem Dr(hs:HS c w h ρ O):∀{vs:List AV} {xs:List T},kr h vs=some xs->∀{i:Id} {af:Nat},(∃u∈vs,qM u i)->O i=some af->∃p∈lK h vs,p.1=i
 | [],_,_,i,af,⟨u,hu,_⟩,_=>by cases hu
 | v::vs,xs,a,i,af,⟨u,hu,g⟩,ho=>by
  simp only [kr] at a;cases b:dv h v with
  | none=>simp [b] at a
  | some x=>
   cases f:kr h vs with
   | none=>simp [b,f] at a
   | some l=>
    rcases QN.1 hu with rfl | hu
    .obtain⟨p,d,e⟩:=uT hs b g ho;exact⟨p,QQ _ d,e⟩
    .obtain⟨p,d,e⟩:=Dr hs f ⟨u,hu,g⟩ ho;exact⟨p,QP _ d,e⟩
theorem KO(hs:HS c w h ρ O){v:AV}{xs:List T}(b:kq h v=some xs){i:Id}{af:Nat}(a:Fy v i)(ho:O i=some af):∃p∈fV h v,p.1=i:=by
 rcases a with a | ⟨vs,rfl,a⟩
 .have:∃x,dv h v=some x:=by
   rcases a with rfl | ⟨_,_,_,rfl⟩ | ⟨_,rfl⟩ <;> exact(Qz.1 b).elim λx d=>⟨x,d.1⟩
  obtain⟨x,d⟩:=this;obtain⟨p,f,e⟩:=uT hs d a ho;refine⟨p, ?_,e⟩;rcases a with rfl | ⟨_,_,_,rfl⟩ | ⟨_,rfl⟩ <;> exact f
 .exact Dr hs b a ho
theorem zT{v:AV}{xs:List T}{u:Value}{O':Id->Option Nat}(hs:HS c w h ρ O)(o:ai w (AA c w O) ρ v u)(f:kq h v=some xs)(le:Le w ρ O w ρ O')(g:∀i,O' i=O i\/O' i=none)
  (l:∀p∈fV h v,O' p.1=none):aS w (AA c w O') xs u.cells.toList/\∀y∈u.cells.toList,y.oneCell'=true/\y.cells= #[y]:=by
 refine PU hs o f (λb k=>(le.A b k).1) (λi af m ho=> ?_);obtain⟨p,n,e⟩:=KO hs f m ho;refine⟨.inr (hs.own i af ho),hs.lt i af ho,λj a=> ?_⟩;rcases g j with d | d
 .rw [d] at a;have:=hs.inj j i af a ho;subst this;have:=l p n;rw [e,d,a] at this;cases this
 .rw [d] at a;cases a
theorem jD(hs:HS c w h ρ O){i:Id}{u:Value}(e:ρ i=some u):u.oneCell'=true/\u.cells= #[u]:=by
 cases j:h i with
 | none=>
  cases k:i.real with
  | true=>rw [(hs.cw i k j).1] at e;cases e
  | false=>
   cases i with
   | g i n=>exact hs.gone i n u e
   | _=>cases k
 | some b=>
  have:=hs.af i b j;cases b with
  | box cs=>obtain⟨b,_,_,d,_⟩:=this;rw [e] at d;simp only [Qy] at d;subst d;exact⟨rfl,rfl⟩
  | sl fz sz b xs=>obtain⟨v,d,⟨a,cap,f,_⟩,_⟩:=this;rw [e] at d;simp only [Qy] at d;subst d;subst f;exact⟨rfl,rfl⟩
  | cO l=>obtain⟨b,d,_⟩:=this;rw [e] at d;simp only [Qy] at d;subst d;exact⟨rfl,rfl⟩
  | mp ag ks vk es=>obtain⟨b,_,_,d,_⟩:=this;rw [e] at d;simp only [Qy] at d;subst d;exact⟨rfl,rfl⟩
  | arr cs=>obtain⟨b,_,_,d,_⟩:=this;rw [e] at d;simp only [Qy] at d;subst d;exact⟨rfl,rfl⟩
  | rows b sz col rsz m es=>obtain⟨a,cap,d,_⟩:=this;rw [e] at d;simp only [Qy] at d;subst d;exact⟨rfl,rfl⟩
  | dead=>obtain⟨⟨v,d,f⟩,_⟩:=this;rw [e] at d;simp only [Qy] at d;subst d;exact f
theorem NV(hs:HS c w h ρ O){v:AV}{u:Value}(a:ai w A ρ v u)(d:oG v=true):u.oneCell'=true/\u.cells= #[u]:=by
 cases v <;> simp only [oG,Q9] at d <;> simp only [ai] at a
 case t=>exact a.pc
 case ref=>obtain⟨b,_,rfl⟩:=a;exact⟨rfl,rfl⟩
 case el=>obtain⟨_,_,_,_,_,rfl⟩:=a;exact⟨rfl,rfl⟩
 case own=>exact jD hs a
 case part=>obtain⟨_,_,_,_,_,_,_,rfl,_⟩:=a;exact⟨rfl,rfl⟩
 case row=>exact hs.gone _ _ _ a
 case rel=>obtain⟨_,_,_,_,_,rfl⟩:=a;exact⟨rfl,rfl⟩
 case fn=>obtain⟨_,_,rfl,_⟩:=a;exact⟨rfl,rfl⟩
theorem uf(hs:HS c w h ρ O){v:AV}{u:Value}(a:ai w A ρ v u)(g:(fS v).all oG=true):az w A ρ (fS v) u.cells.toList/\∀y∈u.cells.toList,y.oneCell'=true/\y.cells= #[y]:=by
 have one:fS v= [v]->az w A ρ (fS v) u.cells.toList/\∀y∈u.cells.toList,y.oneCell'=true/\y.cells= #[y]:=by intro e;rw [e] at g⊢;simp only [RX,List.all_nil,R1] at g;have d:=NV hs a g;rw [d.2];refine⟨by simp only [az];exact⟨u,[],rfl,a,rfl⟩, ?_⟩;intro y b;simp at b;subst b;exact d
 cases v
 case agg vs=>simp only [ai] at a;obtain⟨j,rfl,d,i⟩:=a;exact⟨by simpa [fS,Value.cells] using d,by simpa [Value.cells] using i⟩
 case fn f x y=>
  cases x with
  | cons _ _=>exact one rfl
  | nil=>cases y with
   | cons _ _=>exact one rfl
   | nil=>simp only [ai,az] at a;obtain⟨k,l,rfl,rfl,rfl⟩:=a;refine⟨by simp [fS,Value.cells,az,ai,ay], ?_⟩;intro y b;simp [Value.cells] at b;subst b;exact⟨rfl,rfl⟩
 all_goals exact one rfl
end
open Go Go.IntKind
section
variable {P:Program} {w w':World} {A A':Nat->Prop} {c:Ctx} {ρ:Id->Option Value} {O:Id->Option Nat} {s:St} {cc:Option Bool} {h:Id->Option ad}
theorem rT{b:Nat}{arr:Array Value}{t:TypeId}{a:Nat×Nat}(d:w.heap[b]? =some (.cells arr t a))(cs:Array Value)(p:Nat):(w.setRow b cs).cell? ⟨b,p,none⟩=cs[p]?:=by simp only [World.cell?,setRow_heap w b arr cs t a d];rfl
theorem jS{b:Nat}{arr:Array Value}{t:TypeId}{a:Nat×Nat}(d:w.heap[b]? =some (.cells arr t a))(p:Nat):w.cell? ⟨b,p,none⟩=arr[p]?:=by simp only [World.cell?,d];rfl
theorem pk(w:World)(b:Nat)(cs:Array Value):(w.setRow b cs).heap.size=w.heap.size:=by simp [World.setRow]
theorem qN{e:Type}(off:Nat)(new a:List e)(hl:off+new.length<=a.length)(p:Nat):(cm off new a)[p]? =if off<=p/\p < off+new.length then new[p - off]? else a[p]?:=by
 unfold cm;rw [Q6];have b:(a.take off).length=off:=by rw [Rw];omega
 by_cases h:p < off
 .rw [QT (by omega),if_neg (by omega),Sy,if_pos h]
 .rw [Rg (by omega),b];by_cases d:p < off+new.length
  .rw [QT (by omega),if_pos ⟨by omega,d⟩]
  .rw [Rg (by omega),if_neg (by omega),Sz];congr 1;omega
theorem pj{b:Type}(off:Nat)(new a:List b)(hl:off+new.length<=a.length):(cm off new a).length=a.length:=by simp only [cm,Ro,Rw,RM];omega
theorem aZ.ke{af:Nat}:∀{l:List T} {vs:List Value} {off:Nat},aS w A l vs->(∀j v,vs[j]? =some v->w.cell? ⟨af,off+j,none⟩=some v)->aZ w A af off l
 | [],_,_,_,_=>by simp [aZ]
 | x::l,vs,off,⟨v,r,e,b,d⟩,a=>by subst e;simp only [aZ];refine⟨⟨v,by simpa using a 0 v rfl,b⟩,aZ.ke d λj u f=> ?_⟩;have:=a (j+1) u (by simpa using f);rw [show off+1+j=off+ (j+1) by omega];exact this
theorem aZ.cells{af:Nat}(a:∀b,A b->A' b/\w'.heap[b]? =w.heap[b]?):∀{cs:List T} {off:Nat},(∀j,j < cs.length->w'.cell? ⟨af,off+j,none⟩=w.cell? ⟨af,off+j,none⟩)->aZ w A af off cs->aZ w' A' af off cs
 | [],_,_,_=>by simp [aZ]
 | x::cs,off,d,e=>by
  simp only [aZ] at e⊢;obtain⟨⟨v,f,g⟩,i⟩:=e;refine⟨⟨v, ?_,ay.mono a x v g⟩,aZ.cells a (λj k=> ?_) i⟩
  .have:=d 0 (by simp);simp only [SK] at this;rw [this];exact f
  .have:=d (j+1) (by simp;omega);rw [show off+1+j=off+ (j+1) by omega];exact this
theorem aZ.append{af:Nat}:∀{a b:List T} {off:Nat},aZ w A af off a->aZ w A af (off+a.length) b->aZ w A af off (a++b)
 | [],b,off,_,h=>by simpa using h
 | x::a,b,off,h,d=>by
  simp only [aZ,Rs] at h⊢;refine⟨h.1,aZ.append h.2 ?_⟩;have:off+1+a.length=off+ (x::a).length:=by simp;omega
  rw [this];exact d
theorem aZ.take{af:Nat}:∀{cs:List T} {off:Nat},aZ w A af off cs->∀n,aZ w A af off (cs.take n)
 | _,_,_,0=>by simp [aZ]
 | [],_,_,n+1=>by simp [aZ]
 | x::cs,off,h,n+1=>by simp only [aZ,S1] at h⊢;exact⟨h.1,aZ.take h.2 n⟩
theorem bd.cells{af sz:Nat}(d:∀b,A b->A' b/\w'.heap[b]? =w.heap[b]?):∀{xs:List (List T)} {off:Nat},(∀p,off<=p->p < off+xs.length * sz->w'.cell? ⟨af,p,none⟩=w.cell? ⟨af,p,none⟩)->bd w A af sz off xs->bd w' A' af sz off xs
 | [],_,_,_=>by simp [bd]
 | cs::xs,off,f,a=>by
  simp only [bd] at a⊢;have e:(cs::xs).length * sz=sz+xs.length * sz:=by simp [Ry];omega
  refine⟨a.1,aZ.cells d (λj k=>f _ (by omega) (by rw [e];omega)) a.2.1,bd.cells d (λp g i=>f p (by omega) (by rw [e];omega)) a.2.2⟩
theorem bd.set{af sz:Nat}(i:∀b,A b->A' b/\w'.heap[b]? =w.heap[b]?):∀{xs:List (List T)} {off k:Nat} {new:List T},bd w A af sz off xs->k < xs.length->new.length=sz->aZ w' A' af (off+k * sz) new->
  (∀p,off<=p->p < off+xs.length * sz->¬(off+k * sz<=p/\p < off+k * sz+sz)->w'.cell? ⟨af,p,none⟩=w.cell? ⟨af,p,none⟩)->bd w' A' af sz off (xs.set k new)
 | [],_,_,_,_,l,_,_,_=>by simp at l
 | cs::xs,off,0,new,d,_,m,a,f=>by
  simp only [bd,S4] at d⊢;have e:(cs::xs).length * sz=sz+xs.length * sz:=by simp [Ry];omega
  exact⟨m,by simpa using a,bd.cells i (λp n o=>f p (by omega) (by rw [e];omega) (by omega)) d.2.2⟩
 | cs::xs,off,k+1,new,d,l,m,a,f=>by
  simp only [bd,SL] at d⊢;have e:(cs::xs).length * sz=sz+xs.length * sz:=by simp [Ry];omega
  have g:(k+1) * sz=sz+k * sz:=by rw [Ry];omega
  refine⟨d.1,aZ.cells i (λj r=>f _ (by omega) (by rw [e];omega) (by rw [g];omega)) d.2.1,bd.set i d.2.2 (by simpa using l) m ?_ (λp n o q=>f p (by omega) (by rw [e];omega) (by rw [g];omega))⟩;rw [show off+sz+k * sz=off+ (k+1) * sz by rw [g];omega];exact a
theorem az.cm{a l:List AV}{vs us:List Value}(h:az w A ρ a vs)(b:az w A ρ l us)(off:Nat):az w A ρ (cm off l a) (cm off us vs):=by unfold Aev.cm;have:=b.length;rw [this];exact((h.take off).append b).append (h.drop _)
theorem aZ.cm{af base off:Nat}{cs l:List T}(a:aZ w A af base (cs.take off))(b:aZ w A af (base+off) l)(d:aZ w A af (base+off+l.length) (cs.drop (off+l.length)))(hl:off<=cs.length):aZ w A af base (cm off l cs):=by
 unfold Aev.cm;rw [Q6];have lt:(cs.take off).length=off:=by rw [Rw];omega
 exact aZ.append a (aZ.append (by rw [lt];exact b) (by rw [lt];exact d))
theorem vZ{t:TypeId}(g:bX P t=true){b off:Nat}{arr:Array Value}{d:TypeId}{v:Value}(f:w.heap[b]? =some (.cells arr d (0,0)))(hl:v.cells.size=P.cellsOf t)(a:off+v.cells.toList.length<=arr.size)
  (e:∀u∈v.cells.toList,u.oneCell'=true):(storeVar t ⟨b,off,none⟩ v).run P w= .ok () (w.setRow b (cm off v.cells.toList arr.toList).toArray):=by
 unfold storeVar;simp only [QY,iD g,QO,hl,ne_eq,not_true_eq_false,if_false];have:=run_storeCells_at P b off d v.cells.toList 0 arr w f (by simpa using a) e;simp only [SK] at this;rw [this];rfl
theorem Dp{v:AV}{p:Id×ad}(a:p∈gv h v):p.1∈v.ids:=by
 unfold gv at a;split at a
 .split at a
  .simp only [QL] at a;subst a;simp [AV.ids]
  .cases a
 .split at a
  .simp only [QL] at a;subst a;simp [AV.ids]
  .cases a
 .split at a
  .split at a
   .simp only [QL] at a;subst a;simp [AV.ids]
   .cases a
  .cases a
 .cases a
theorem Ds:∀{vs:List AV} {p:Id×ad},p∈lK h vs->p.1∈bY vs
 | [],p,a=>by cases a
 | v::vs,p,a=>by
  simp only [lK,QR] at a;simp only [bY,QR];rcases a with a | a
  .exact .inl (Dp a)
  .exact .inr (Ds a)
theorem Du{v:AV}{p:Id×ad}(a:p∈fV h v):p.1∈v.ids:=by
 unfold fV at a;split at a
 .simp only [AV.ids];exact Ds a
 .exact Dp a
theorem dr:∀{us:aB} {h:Id->Option ad} {i:Id},(∀p∈us,p.1≠i)->aJ h us i=h i
 | [],_,_,_=>rfl
 | (j,b)::us,h,i,a=>by rw [cM,dr (λp d=>a p (QB _ d)),au _ _ (λe=>a (j,b) QA e.symm)]
theorem tq:∀{us:aB} {h:Id->Option ad} {i:Id} {b:ad},(∀p∈us,p.1≠i)->aJ (aG h i (some b)) us=aG (aJ h us) i (some b)
 | [],_,_,_,_=>rfl
 | (j,x)::us,h,i,b,f=>by
  rw [cM,cM,<-tq (λp g=>f p (QB _ g))];congr 1;funext k;have:j≠i:=λe=>f (j,x) QA e;by_cases a:k=j
  .subst a;rw [aA,au _ _ this,aA]
  .by_cases d:k=i
   .subst d;rw [au _ _ a,aA,aA]
   .rw [au _ _ a,au _ _ d,au _ _ d,au _ _ a]
theorem HS.oT{us:aB}(hs:HS c w h ρ O)(a:fO h us):
  ∃O',Le w ρ O w ρ O'/\HS c w (aJ h us) ρ O'/\(∀i,O' i=O i\/O' i=none)/\(∀p∈us,O' p.1=none)/\∀i,(∀p∈us,p.1≠i)->O' i=O i:=HS.Dm hs a
theorem wq{b:Nat}{i:Id}(a:O i=some b)(cs:Array Value):Le w ρ O (w.setRow b cs) ρ O:=
 Le.write a rfl rfl rfl (pk w b cs) λk d=>setRow_other w b k cs d
theorem cI.put{t:TypeId}{sz k off b o L cap:Nat}{bb:Bool}{xs M:List (List T)}{l:List T}{d:Value}{Q:Nat->Prop}(V:cI w A sz bb xs (.slice (some ⟨b,o,none⟩) L cap) Q)(f:gL k off l xs=some M)(W:bX P t=true)
  (N:l.length=P.cellsOf t) (C:aS w A l d.cells.toList) (R:∀u∈d.cells.toList,u.oneCell'=true/\u.cells= #[u]):
  ∃cs,Q b/\(storeVar t ⟨b,o+k * sz+off,none⟩ d).run P w= .ok () (w.setRow b cs)/\
   ∀A' B,(∀n,A n->A' n/\(w.setRow b cs).heap[n]? =w.heap[n]?)->B b->cI (w.setRow b cs) A' sz bb M (.slice (some ⟨b,o,none⟩) L cap) B:=by
 obtain⟨a',cap',G,Y,Z,q4,H⟩:=V;simp only [RF] at G;obtain⟨rfl,rfl,rfl⟩:=G;unfold gL at f;cases i:xs[k]? with
 | none=>simp [i] at f
 | some cs=>
  simp only [i] at f;split at f
  .rename_i q;simp only [Qy] at f;subst f;have E:k < xs.length:=(QC.1 i).1;rcases H with H | ⟨af,off',arr,K,I,q7,v,q9,z⟩
   .omega
   .simp only [Qy,RA] at I;obtain⟨rfl,rfl,_⟩:=I;obtain⟨F,x⟩:=z.get i;have S:=C.length;have U:(k+1) * sz<=cap * sz:=Rx _ (by omega);have e2:(k+1) * sz=k * sz+sz:=Ry _ _;have e:o+k * sz+off+d.cells.toList.length<=arr.size:=by omega
    have J:=vZ (P:=P) W v (by rw [<-Ra,S,N]) e (λu X=>(R u X).1);refine⟨_,q7,J,λA' B g D=> ?_⟩;have y:(xs.set k (cm off l cs)).length=xs.length:=by simp
    refine⟨some ⟨b,o,none⟩,cap,by rw [y],by rw [y];exact Y,Z,q4, .inr ⟨b,o,_,K,rfl,D,setRow_heap w b arr _ K (0,0) v, ?_, ?_⟩⟩
    .have:=pj (o+k * sz+off) d.cells.toList arr.toList (by simpa using e);simp only [RU];rw [this];simpa using q9
    .have a:∀p,(w.setRow b (cm (o+k * sz+off) d.cells.toList arr.toList).toArray).cell? ⟨b,p,none⟩=if o+k * sz+off<=p/\p < o+k * sz+off+d.cells.toList.length then d.cells.toList[p - (o+k * sz+off)]? else w.cell? ⟨b,p,none⟩:=by
      intro p;rw [rT v,SC,qN _ _ _ (by simpa using e),jS v];simp
     have r:(cm off l cs).length=sz:=by rw [pj off l cs q,F]
     refine bd.set g z E r ?_ ?_
     .refine aZ.cm (aZ.cells g (λj m=> ?_) (x.take off)) ?_ ?_ (by omega)
      .have lt:(cs.take off).length=off:=by rw [Rw];omega
       rw [lt] at m;rw [a,if_neg (by omega)]
      .refine aZ.ke (aS.mono g _ _ C) (λj u m=> ?_);have hj':j < d.cells.toList.length:=(QC.1 m).1;rw [a,if_pos (by omega)];rw [show o+k * sz+off+j - (o+k * sz+off)=j by omega];exact m
      .have:=x.drop (off+l.length);rw [show o+k * sz+off+l.length=o+k * sz+ (off+l.length) by omega];refine aZ.cells g (λj m=> ?_) this;rw [a,if_neg (by omega)]
     .intro p h1 h2 h3;rw [a,if_neg (by omega)]
  .simp at f
theorem uM{n:Nat}{p:Bool×List (List T)}:∀{es:List Row},cy n es=some p->∃k e,es[k]? =some e/\e.n=n/\e.own=some p/\∀q,cU n q es=es.set k {e with own:=q}
 | [],h=>by simp [cy] at h
 | e::es,h=>by
  unfold cy at h;by_cases c:e.n=n
  .rw [if_pos c] at h;exact⟨0,e,rfl,c,h,λq=>by simp [cU,c]⟩
  .rw [if_neg c] at h;obtain⟨k,e',a,b,d,f⟩:=uM h;exact⟨k+1,e',by simpa using a,b,d,λq=>by simp [cU,c,f]⟩
theorem sK{es:List Row}(h:(es.map (·.n)).Nodup){j k:Nat}{x y:Row}(g:es[j]? =some x)(i:es[k]? =some y)(e:x.n=y.n):j=k:=by
 have d:(es.map (·.n))[j]? =some x.n:=by simp [g]
 have f:(es.map (·.n))[k]? =some x.n:=by simp [i,e]
 obtain⟨l,a⟩:=QC.1 d;obtain⟨m,b⟩:=QC.1 f;exact(List.getElem_inj h).1 (a.trans b.symm)
theorem ES:∀{l:List Nat} {k x:Nat},l.Nodup->x∉l->(l.set k x).Nodup
 | [],_,_,_,_=>by simp
 | a::l,0,x,b,d=>by simp only [S4,RN,QN,not_or] at b d⊢;exact⟨d.2,b.2⟩
 | a::l,k+1,x,b,d=>by
  simp only [SL,RN,QN,not_or] at b d⊢;refine⟨λhm=> ?_,ES b.2 d.2⟩;rcases Sn hm with h | h
  .exact b.1 h
  .exact d.1 h.symm
theorem K6{O':Id->Option Nat}(hs:HS c w h ρ O)(a:Id->Option Id)(d:∀k b,O' k=some b->∃x,a k=some x/\O x=some b)(e:∀k f x,a k=some x->a f=some x->k=f):∀i j b,O' i=some b->O' j=some b->i=j:=by intro i j b g l;obtain⟨x,m,x2⟩:=d i b g;obtain⟨y,n,o⟩:=d j b l;have:=hs.inj x y b x2 o;subst this;exact e i j x m n
theorem HS.putRow{i j:Id}{b bb:Bool}{sz col rsz q k af:Nat}{es:List Row}{e:Row}{xs:List (List T)}{J:Value}{cs:Array Value}(hs:HS c w h ρ O)(hi:h i=some (.rows b sz col rsz q es))(X:h j=some (.sl false rsz bb xs))(V:es[k]? =some e)(hv:ρ j=some J)
  {a:Option Addr} {cap:Nat} (hρ:ρ i=some (.slice a es.length cap)) {off:Nat} {arr:Array Value} {t:TypeId} (ha:a=some ⟨af,off,none⟩) (hO:O i=some af) (hb:w.heap[af]? =some (.cells arr t (0,0))) (hfit:off+cap * sz<=arr.size)
  (hcs:cs= (cm (off+k * sz+col) [J] arr.toList).toArray):
  ∃ρ' O',Le w ρ O (w.setRow af cs) ρ' O'/\HS c (w.setRow af cs) (aG (aG h j (some .dead)) i (some (.rows b sz col rsz (q+1) (es.set k ⟨q,e.cs,some (bb,xs)⟩)))) ρ' O':=by
 obtain⟨a',cap',r1,r2,r3,⟨n1,n2,n3,n4⟩,r5⟩:=hs.af i _ hi;rw [hρ] at r1;simp only [Qy,RF] at r1;obtain⟨rfl, -,rfl⟩:=r1;have hlt:k < es.length:=(QC.1 V).1;have R:cq w (AA c w O) ρ O i af sz col rsz off es:=by
  rcases r5 with r5 | ⟨blk',off',arr',t',q1,q2,q3,q4,q5⟩
  .omega
  .rw [ha] at q1;simp only [Qy,RA] at q1;obtain⟨rfl,rfl,_⟩:=q1;exact q5
 have hen:e.n < q:=n2 e (QH V);have G:=hs.real (i:=i) (by rw [hi];simp);have Q:=hs.real (i:=j) (by rw [X];simp);have hij:j≠i:=λe=>by rw [e,hi] at X;cases X
 have N:∀n,Id.g i n≠j:=λn=>aO Q;obtain⟨v',s1,s2,_⟩:=hs.af j _ X;rw [hv] at s1;cases s1;have I:=R.get V;have hcol:=I.2.1;have hbnd:(k+1) * sz<=cap * sz:=Rx _ (by omega);have e2:(k+1) * sz=k * sz+sz:=Ry _ _;have L:off+k * sz+col+ [J].length<=arr.toList.length:=by simp;omega
 let ρ':Id->Option Value:=aG ρ (.g i q) (some J);let O':Id->Option Nat:=λx=>if x= .g i q then O j else if x=j then none else if x= .g i e.n then none else O x;have F:∀x,x≠ .g i q->x≠j->x≠ .g i e.n->O' x=O x:=λx o H S=>by simp only [O',if_neg o,if_neg H,if_neg S]
 have hOn:O' (.g i q)=O j:=by simp only [O',if_true]
 have hOj:O' j=none:=by simp only [O',if_neg (N q).symm,if_true]
 have hOe:O' (.g i e.n)=none:=by
  have o:Id.g i e.n≠ .g i q:=by intro h;cases h;omega
  simp only [O',if_neg o,if_neg (N e.n),if_true]
 have K:∀x d,O' x=some d->(x= .g i q/\O j=some d)\/(x≠ .g i q/\x≠j/\x≠ .g i e.n/\O x=some d):=by
  intro x d l;simp only [O'] at l;split at l
  .exact .inl ⟨by assumption,l⟩
  .split at l
   .cases l
   .split at l
    .cases l
    .exact .inr ⟨by assumption,by assumption,by assumption,l⟩
 have le:Le w ρ O (w.setRow af cs) ρ' O':=by
  refine⟨rfl,rfl,rfl,by rw [pk];exact QV _,λx u l=> ?_,λd _ hn=>setRow_other w af d _ λe=>hn i (e▸hO),λx d l=> ?_⟩
  .by_cases e:x= .g i q
   .subst e;rw [n3 q (QV _)] at l;cases l
   .simp only [ρ'];rw [au _ _ e];exact l
  .rcases K x d l with⟨_,h⟩ | ⟨_,_,_,h⟩
   .exact .inl ⟨j,h⟩
   .exact .inl ⟨x,h⟩
 have C:∀x d,x≠i->O x=some d->(w.setRow af cs).heap[d]? =w.heap[d]?:=λx d l r=>setRow_other w af d _ λe=>l (hs.inj x i af (e▸r) hO);refine⟨ρ',O',le,hs.nv le (λx y l=> ?_) (λx Z l=> ?_) (λx n=> ?_) (λx n l=> ?_) (λx n u U=> ?_) ?_ (λx d l=> ?_)⟩
 .by_cases v:x=i
  .subst v;rw [aA] at l;cases l;right;have W:(es.set k ⟨q,e.cs,some (bb,xs)⟩).length=es.length:=by simp
   refine⟨a,cap, ?_,by rw [W];exact r2,r3,⟨?_,λf E=> ?_,λn hn=> ?_,λn d r=> ?_⟩, .inr ⟨af,off,cs,t,ha, ?_,setRow_heap w af arr _ t (0,0) hb, ?_, ?_⟩⟩
   .rw [W];simp only [ρ'];rw [au _ _ (aO G).symm];exact hρ
   .rw [TA];refine ES n1 ?_;intro hm;obtain⟨f,E,e⟩:=Rb.1 hm;simp only at e;have:=n2 f E;omega
   .rcases Sn E with E | rfl
    .have:=n2 f E;omega
    .simp
   .have o:Id.g x n≠ .g x q:=by intro h;cases h;omega
    simp only [ρ'];rw [au _ _ o];exact n3 n (by omega)
   .rcases K _ d r with⟨h,_⟩ | ⟨o,_,S,h4⟩
    .cases h;exact⟨_,List.mem_set hlt _,rfl⟩
    .obtain⟨f,E,M⟩:=n4 n d h4;obtain⟨m,hm⟩:=SO.1 E;have hmk:m≠k:=λe'=>by rw [e',V] at hm;cases hm;rw [M] at S;exact S rfl
     refine⟨f,SO.2 ⟨m, ?_⟩,M⟩;rw [RT,if_neg (Th hmk)];exact hm
   .rw [F x (aO G).symm (Th hij) (aO G).symm];exact hO
   .rw [hcs,RU,pj _ _ _ L];simpa using hfit
   .have D:∀p,(w.setRow af cs).cell? ⟨af,p,none⟩=if off+k * sz+col<=p/\p < off+k * sz+col+1 then some J else w.cell? ⟨af,p,none⟩:=by
     intro p;rw [rT hb,hcs,SC,qN _ _ _ L,jS hb];by_cases Y:off+k * sz+col<=p/\p < off+k * sz+col+1
     .rw [if_pos (by simpa using Y),if_pos Y,show p - (off+k * sz+col)=0 by omega];rfl
     .rw [if_neg (by simpa using Y),if_neg Y];simp
    refine cq.set (λd r=>le.A d r) hlt (λp p1 p2 p3=>by rw [D,if_neg (by omega)]) (λm f hm E=> ?_) ?_ R
    .have M:f.n≠e.n:=λe'=>hm (sK n1 E V e');have hfx:f.n≠q:=by have:=n2 f (QH E);omega
     have o:Id.g x f.n≠ .g x q:=by intro h;simp only [Id.g.injEq] at h;exact hfx h.2
     have H:Id.g x f.n≠ .g x e.n:=by intro h;simp only [Id.g.injEq] at h;exact M h.2
     refine⟨by simp only [ρ'];exact au _ _ o,F _ o (N _) H,λd r=>C _ d (aO G) r⟩
    .refine⟨I.1,hcol,λm y hm B=> ?_,J,by rw [D,if_pos (by omega)],by simp only [ρ'];exact aA _ _ _, ?_⟩
     .obtain⟨u,g1,g2⟩:=I.2.2.1 m y hm B;have hml:m < sz:=by have:=(QC.1 B).1;rw [I.1] at this;exact this
      exact⟨u,by rw [D,if_neg (by omega)];exact g1,ay.mono (λd r=>le.A d r) y u g2⟩
     .simp only;refine cI.mono (λd r=>le.A d r) (λd r=> ?_) s2;simp only [Q9,if_false] at r;rw [hOn];exact⟨r,C j d hij r⟩
  .rw [au _ _ v] at l;by_cases e3:x=j
   .subst e3;rw [aA] at l;cases l;exact .inr ⟨⟨J,by simp only [ρ'];rw [au _ _ (N q).symm];exact hv,jD hs hv⟩,hOj⟩
   .rw [au _ _ e3] at l;have hrx:=hs.real (i:=x) (by rw [l];simp);refine .inl ⟨l,F x (aO hrx).symm e3 (aO hrx).symm,λd r=>C x d v r,λn=> ?_⟩;have o:∀m,Id.g x n≠ .g i m:=by intro m h;cases h;exact v rfl
    exact⟨by simp only [ρ'];exact au _ _ (o _),F _ (o _) (aO Q) (o _),λd r=>C _ d (aO G) r⟩
 .by_cases v:x=i
  .subst v;rw [aA] at l;cases l
  .rw [au _ _ v] at l;by_cases e3:x=j
   .subst e3;rw [aA] at l;cases l
   .rw [au _ _ e3] at l;have:=hs.cw x Z l;refine⟨?_, ?_⟩
    .simp only [ρ'];rw [au _ _ (aO Z).symm];exact this.1
    .rw [F x (aO Z).symm e3 (aO Z).symm];exact this.2
 .rw [au _ _ (aO G),au _ _ (aO Q)];exact hs.dG x n
 .by_cases v:x=i
  .subst v;rw [aA] at l;cases l
  .rw [au _ _ v] at l;by_cases e3:x=j
   .subst e3;rw [aA] at l;cases l
   .rw [au _ _ e3] at l;have:=hs.fm x n l;have o:∀m,Id.g x n≠ .g i m:=by intro m h;cases h;exact v rfl
    refine⟨?_, ?_⟩
    .simp only [ρ'];rw [au _ _ (o _)];exact this.1
    .rw [F _ (o _) (aO Q) (o _)];exact this.2
 .by_cases v:Id.g x n= .g i q
  .rw [v] at U;simp only [ρ',aA,Qy] at U;subst U;exact jD hs hv
  .simp only [ρ'] at U;rw [au _ _ v] at U;exact hs.gone x n u U
 .refine K6 hs (λx=>if x= .g i q then some j else if x=j then none else some x) (λx d l=> ?_) (λx y z l B=> ?_)
  .rcases K x d l with⟨o,H⟩ | ⟨o,H,_,S⟩
   .exact⟨j,by rw [if_pos o],H⟩
   .exact⟨x,by rw [if_neg o,if_neg H],S⟩
  .split at l <;> split at B
   .rename_i o H;rw [o,H]
   .split at B
    .cases B
    .simp only [Qy] at l B;subst l;rename_i h;exact(h B).elim
   .split at l
    .cases l
    .simp only [Qy] at l B;subst B;rename_i h;exact(h l).elim
   .split at l
    .cases l
    .split at B
     .cases B
     .simp only [Qy] at l B;rw [l,B]
 .rw [pk];rcases K x d l with⟨_,h⟩ | ⟨_,_,_,h⟩
  .exact hs.lt _ d h
  .exact hs.lt _ d h
theorem HS.Qt{i:Id}{n r:Nat}{b:Bool}{sz col rsz X:Nat}{es:List Row}{p:Bool×List (List T)}{F:List (List T)}{v:Value}{cs:Array Value}(hs:HS c w h ρ O)(Q:h i=some (.rows b sz col rsz X es))(hf:cy n es=some p)(M:O (.g i n)=some r)
  (U:ρ (.g i n)=some v) (S:cI (w.setRow r cs) (AA c (w.setRow r cs) O) rsz p.1 F v (λd=>O (.g i n)=some d)):
  HS c (w.setRow r cs) (aG h i (some (.rows b sz col rsz X (cU n (some (p.1,F)) es)))) ρ O:=by
 have le:Le w ρ O (w.setRow r cs) ρ O:=wq M _;have H:=hs.real (i:=i) (by rw [Q];simp);have o:∀x d,x≠ .g i n->O x=some d->(w.setRow r cs).heap[d]? =w.heap[d]?:=λx d j l=>setRow_other w r d _ λe=>j (hs.inj x _ r (e▸l) M);obtain⟨k,e,C,G,heo,K⟩:=uM hf;refine hs.nv le (λx y j=> ?_) (λx hr j=> ?_) (λx m=> ?_) (λx m j=> ?_) hs.gone hs.inj (λx d l=>by rw [pk];exact hs.lt x d l)
 .by_cases z:x=i
  .subst z;rw [aA] at j;cases j;right;obtain⟨a,cap,r1,r2,r3,⟨V,W,n3,n4⟩,L⟩:=hs.af x _ Q;rw [K];have D:(es.set k {e with own:=some (p.1,F)}).length=es.length:=by simp
   have E:(es.set k {e with own:=some (p.1,F)}).map (·.n)=es.map (·.n):=by
    rw [TA];refine RV λm=> ?_;rw [RT];split
    .rename_i h;subst h;have:=(QC.1 C).1;rw [if_pos (by simpa using this)];simp [C]
    .rfl
   refine⟨a,cap,by rw [D];exact r1,by rw [D];exact r2,r3,⟨by rw [E];exact V,λf q=> ?_,n3,λm d l=> ?_⟩, ?_⟩
   .rcases Sn q with q | rfl
    .exact W f q
    .exact W e (QH C)
   .obtain⟨f,q,N⟩:=n4 m d l;have:m∈(es.set k {e with own:=some (p.1,F)}).map (·.n):=by rw [E];exact Rb.2 ⟨f,q,N⟩
    obtain⟨f',h1,h2⟩:=Rb.1 this;exact⟨f',h1,h2⟩
   .rcases L with L | ⟨af,off,arr,t,q1,Y,q3,q4,Z⟩
    .exact .inl L
    .have B:(w.setRow r cs).heap[af]? =w.heap[af]?:=o x af (aO H).symm Y;refine .inr ⟨af,off,arr,t,q1,Y,by rw [B];exact q3,q4, ?_⟩;have J:=Z.get C;refine cq.set (λd l=>le.A d l) (QC.1 C).1 (λ_ _ _ _=>l9 B) (λm f hm q=>⟨rfl,rfl,λd l=>o _ d (λh=> ?_) l⟩) ?_ Z
     .simp only [Id.g.injEq] at h;exact hm (sK V q C (by rw [h.2,G]))
     .obtain⟨a1,a2,a3,u,a4,I,a7⟩:=J;refine⟨a1,a2,λm y hm hy=> ?_,u,by rw [l9 B];exact a4,I, ?_⟩
      .obtain⟨u',g1,g2⟩:=a3 m y hm hy;exact⟨u',by rw [l9 B];exact g1,ay.mono (λd l=>le.A d l) y u' g2⟩
      .simp only;rw [G] at I⊢;rw [I] at U;cases U;exact S
  .rw [au _ _ z] at j;have R:=hs.real (i:=x) (by rw [j];simp);refine .inl ⟨j,rfl,λd l=>o x d (aO R).symm l,λm=>⟨rfl,rfl,λd l=>o _ d (λh=> ?_) l⟩⟩;simp only [Id.g.injEq] at h;exact z h.1
 .by_cases z:x=i
  .subst z;rw [aA] at j;cases j
  .rw [au _ _ z] at j;exact hs.cw x hr j
 .rw [au _ _ (aO H)];exact hs.dG x m
 .by_cases z:x=i
  .subst z;rw [aA] at j;cases j
  .rw [au _ _ z] at j;exact hs.fm x m j
theorem P3{R:Type}{t:TypeId}{a v:AV}{va y:Value}{K:aB->Option R}{r:R}(hs:HS c w s.h ρ O)(N:ai w (AA c w O) ρ a va)(hx:ai w (AA c w O) ρ v y)(f:iH P s t a v K=some r):
  ∃us w' ρ' O',K us=some r/\(Instr.storeAt t va y).run P w= .ok () w'/\Le w ρ O w' ρ' O'/\HS c w' (aJ s.h us) ρ' O':=by
 unfold iH at f;cases ht:bX P t
 .simp [ht] at f
 simp only [ht,cond_true] at f;split at f
 .rename_i i off;split at f
  .rename_i cs H;split at f
   .rename_i q;obtain⟨T,M,c3⟩:=q;obtain⟨b,arr,t',h1,h2,h3,h4,h5,h6⟩:=xd hs H;simp only [ai] at N;obtain⟨J,x,rfl⟩:=N;rw [h1] at x;simp only [Qy,R6,RA] at x;obtain⟨rfl,_⟩:=x;obtain⟨U,g2⟩:=uf hs hx M;have gl:=U.length;have hl:=h4.length;have D:off+y.cells.toList.length<=arr.size:=by rw [gl];simp only [Ra] at hl;omega
    have B:=vZ (P:=P) ht h3 (by rw [<-Ra,gl,T]) D (λu hu=>(g2 u hu).1);have le:Le w ρ O (w.setRow b (cm off y.cells.toList arr.toList).toArray) ρ O:=wq h2 _;refine⟨_,_,ρ,O,f,by simpa [Instr.storeAt,Instr.sureAddr] using B,le, ?_⟩;rw [dy];refine hs.write h2 le (λk f=>setRow_other w b k _ f) _ ?_ (by rw [H];simp);refine⟨b,_,t',h1,h2,setRow_heap w b arr _ t' (0,0) h3, ?_, ?_⟩
    .have m:∀(Y:List AV) (vs:List Value),az w (AA c w O) ρ Y vs->az _ _ ρ Y vs:=λY vs hr=>az.mono (λb hb=>le.A b hb) le.eD Y vs hr;exact az.cm (m _ _ h4) (m _ _ U) off
    .intro u hu;simp only [cm,QR] at hu;rcases hu with(hu | hu) | hu
     .exact h5 u (Sp hu)
     .exact g2 u hu
     .exact h5 u (SI hu)
   .simp at f
  .simp at f
 .rename_i i sz k off;split at f
  .rename_i g bb xs H;obtain⟨l,hsn,f⟩:=Qz.1 f;split at f
   .rename_i q;obtain⟨rfl,T,M⟩:=q;replace f:=aM f (.inl rfl);obtain⟨ys,I,f⟩:=f;have E:∀p∈fV s.h v,p.1≠i:=by
     intro p hp e;have:=Du hp;rw [e] at this;simp only [List.contains_eq_mem,decide_eq_false_iff_not] at M;exact M this
    obtain⟨G,cn,S,o1,o2,o3⟩:=HS.oT hs (yq (h:=s.h) v);obtain⟨U,g2⟩:=zT hs hx hsn cn o1 o2;have Q:aJ s.h (fV s.h v) i=some (.sl false g bb xs):=by rw [dr E];exact H
    obtain⟨vv,q0,a',cap',X,q2,q3,q4,q5⟩:=mH S Q;simp only [ai] at N;obtain⟨b,o,L,cap,x,rfl⟩:=N;rw [q0] at x;simp only [Qy] at x;subst x;simp only [RF] at X;obtain⟨rfl,rfl,rfl⟩:=X;unfold gL at I;cases hkx:xs[k]? with
    | none=>simp [hkx] at I
    | some cs=>
     simp only [hkx] at I;split at I
     .rename_i hfit0;simp only [Qy] at I;subst I;have hlt:k < xs.length:=(QC.1 hkx).1;rcases q5 with q5 | ⟨af,off',arr,t',q6,q7,q8,q9,q10⟩
      .omega
      .simp only [Qy,RA] at q6;obtain⟨rfl,rfl,_⟩:=q6;simp only [Q9,if_false] at q7;obtain⟨lcs,hcs⟩:=q10.get hkx;have gl:=U.length;have hbnd:(k+1) * g<=cap * g:=Rx _ (by omega);have e2:(k+1) * g=k * g+g:=Ry _ _;have D:o+k * g+off+y.cells.toList.length<=arr.size:=by omega
       have B:=vZ (P:=P) ht q8 (by rw [<-Ra,gl,T]) D (λu hu=>(g2 u hu).1);have F:Le w ρ G (w.setRow b (cm (o+k * g+off) y.cells.toList arr.toList).toArray) ρ G:=wq q7 _;refine⟨_,_,ρ,G,f,by simpa [Instr.storeAt,Instr.sureAddr] using B,cn.trans F, ?_⟩;rw [cM,tq E];refine S.write q7 F (λk f=>setRow_other w b k _ f) _ ?_ (by rw [Q];simp);refine⟨_,q0, ?_,by simp⟩;have hl2:(xs.set k (cm off l cs)).length=xs.length:=by simp
       refine⟨some ⟨b,o,none⟩,cap,by rw [hl2],by rw [hl2];exact q2,q3,q4, .inr ⟨b,o,_,t',rfl,by simpa using q7,setRow_heap w b arr _ t' (0,0) q8, ?_, ?_⟩⟩
       .have:=pj (o+k * g+off) y.cells.toList arr.toList (by simpa using D);simp only [RU];rw [this];simpa using q9
       .have z:∀p,(w.setRow b (cm (o+k * g+off) y.cells.toList arr.toList).toArray).cell? ⟨b,p,none⟩=if o+k * g+off<=p/\p < o+k * g+off+y.cells.toList.length then y.cells.toList[p - (o+k * g+off)]? else w.cell? ⟨b,p,none⟩:=by
         intro p;rw [rT q8,SC,qN _ _ _ (by simpa using D),jS q8];simp
        have Z:∀J,AA c w G J->AA c (w.setRow b (cm (o+k * g+off) y.cells.toList arr.toList).toArray) G J/\(w.setRow b (cm (o+k * g+off) y.cells.toList arr.toList).toArray).heap[J]? =w.heap[J]?:=λJ hb'=>F.A J hb';have lrepl:(cm off l cs).length=g:=by rw [pj off l cs hfit0,lcs]
        refine bd.set Z q10 hlt lrepl ?_ ?_
        .refine aZ.cm (aZ.cells Z (λj V=> ?_) (hcs.take off)) ?_ ?_ (by omega)
         .have lt:(cs.take off).length=off:=by rw [Rw];omega
          rw [lt] at V;rw [z,if_neg (by omega)]
         .refine aZ.ke (aS.mono Z _ _ U) (λj u V=> ?_);have hj':j < y.cells.toList.length:=(QC.1 V).1;rw [z,if_pos (by omega)];rw [show o+k * g+off+j - (o+k * g+off)=j by omega];exact V
         .have:=hcs.drop (off+l.length);rw [show o+k * g+off+l.length=o+k * g+ (off+l.length) by omega];refine aZ.cells Z (λj V=> ?_) this;rw [z,if_neg (by omega)]
        .intro p h1 h2 h3;rw [z,if_neg (by omega)]
     .simp at I
   .simp at f
  .rename_i bb g col rsz nx es H;split at f
   .rename_i j;split at f
    .rename_i rsz' J xs V;split at f
     .rename_i q;obtain⟨rfl,rfl,rfl,T,M⟩:=q;replace f:=aM f (.inl rfl);obtain⟨e,he,f⟩:=f;obtain⟨a,cap,r1,r2,r3,r4,r5⟩:=hs.af i _ H;simp only [ai] at N hx;obtain⟨b,o,L,cap',x,rfl⟩:=N;have e1':=x;rw [r1] at x;simp only [Qy,RF] at x;obtain⟨rfl,rfl,rfl⟩:=x;have hlt:k < es.length:=(QC.1 he).1;rcases r5 with r5 | ⟨af,off',arr,t',X,q2,q3,q4,q5⟩
      .omega
      .simp only [Qy,RA] at X;obtain⟨rfl,rfl,_⟩:=X;have W:=jD hs hx;have hcol:=(q5.get he).2.1;have hbnd:(k+1) * g<=cap * g:=Rx _ (by omega);have e2:(k+1) * g=k * g+g:=Ry _ _;have C:y.cells.toList= [y]:=by rw [W.2]
       have B:=vZ (P:=P) (w:=w) (v:=y) ht q3 (by rw [W.2,T];rfl) (off:=o+k * g+off) (by rw [C];simp;omega) (λu hu=>by rw [C,QL] at hu;subst hu;exact W.1);rw [C] at B;obtain⟨ρ',O',le,hs'⟩:=hs.putRow H V he hx r1 rfl q2 q3 q4 rfl;refine⟨_,_,ρ',O',f,by simpa [Instr.storeAt,Instr.sureAddr] using B,le, ?_⟩;rw [cM,dy];exact hs'
     .simp at f
    .simp at f
   .simp at f
  .simp at f
 .rename_i i sz n k off;split at f
  .rename_i b g col rsz nx es H;replace f:=aM f (.inl rfl);obtain⟨p,hp,f⟩:=f;replace f:=Qz.1 f;obtain⟨l,hsn,f⟩:=f;split at f
   .rename_i q;obtain⟨rfl,T,M⟩:=q;replace f:=aM f (.inl rfl);obtain⟨ys,I,f⟩:=f;have E:∀p∈fV s.h v,p.1≠i:=by
     intro p hp e;have:=Du hp;rw [e] at this;simp only [List.contains_eq_mem,decide_eq_false_iff_not] at M;exact M this
    obtain⟨G,cn,S,o1,o2,o3⟩:=HS.oT hs (yq (h:=s.h) v);obtain⟨U,g2⟩:=zT hs hx hsn cn o1 o2;have Q:aJ s.h (fV s.h v) i=some (.rows b g col rsz nx es):=by rw [dr E];exact H
    obtain⟨vv,q0,X⟩:=vW (s:=⟨s.t,aJ s.h (fV s.h v)⟩) S Q hp;simp only [ai] at N;obtain⟨bk,o,L,cap,x,rfl⟩:=N;rw [q0] at x;simp only [Qy] at x;subst x;obtain⟨cs,hOb,B,hsl⟩:=X.put (P:=P) I ht T U g2;have F:Le w ρ G (w.setRow bk cs) ρ G:=wq hOb _;refine⟨_,_,ρ,G,f,by simpa [Instr.storeAt,Instr.sureAddr] using B,cn.trans F, ?_⟩;rw [cM,tq E];exact S.Qt Q hp hOb q0 (hsl _ _ (λd hd=>F.A d hd) hOb)
   .simp at f
  .simp at f
 .simp at f
theorem F1(t:TypeId)(cells:Array Value):(newRow t cells).run P w= .ok ⟨w.heap.size,0,none⟩ (w.alloc (.cells cells t)):=by simp [newRow]
theorem jU(o:Obj):(w.alloc o).heap[w.heap.size]? =some o:=by show(w.heap.push o)[w.heap.size]? =some o;simp
theorem HS.EL{i:Id}(hs:HS c w h ρ O)(a:h i=none){cs:List AV}{vs:List Value}(t:TypeId)(f:az w (AA c w O) ρ cs vs)(d:∀u∈vs,u.oneCell'=true/\u.cells= #[u])(hrl:i.real=true:=by rfl):
  Le w ρ O (w.alloc (.cells vs.toArray t)) (aG ρ i (some (.pointer (some ⟨w.heap.size,0,none⟩)))) (aG O i (some w.heap.size))/\
  HS c (w.alloc (.cells vs.toArray t)) (aG h i (some (.box cs))) (aG ρ i (some (.pointer (some ⟨w.heap.size,0,none⟩)))) (aG O i (some w.heap.size)):=by
 have le:=Le.alloc hs hrl a (.cells vs.toArray t) (.pointer (some ⟨w.heap.size,0,none⟩)) (some w.heap.size) (.inr rfl);refine⟨le,hs.alloc hrl a _ _ _ (.inr rfl) _ ⟨w.heap.size,vs.toArray,t,by simp,by simp,jU _, ?_,d⟩⟩;exact az.mono (λb e=>le.A b e) le.eD _ _ f
theorem HS.Ng{i:Id}(hs:HS c w h ρ O)(a:h i=none){cs:List AV}{arr:Array Value}(t:TypeId)(f:az w (AA c w O) ρ cs arr.toList)(d:∀u∈arr.toList,u.oneCell'=true/\u.cells= #[u])(hrl:i.real=true:=by rfl):
  Le w ρ O (w.alloc (.cells arr t)) (aG ρ i (some (.slice (some ⟨w.heap.size,0,none⟩) 1 1))) (aG O i (some w.heap.size))/\
  HS c (w.alloc (.cells arr t)) (aG h i (some (.arr cs))) (aG ρ i (some (.slice (some ⟨w.heap.size,0,none⟩) 1 1))) (aG O i (some w.heap.size)):=by
 have le:=Le.alloc hs hrl a (.cells arr t) (.slice (some ⟨w.heap.size,0,none⟩) 1 1) (some w.heap.size) (.inr rfl);refine⟨le,hs.alloc hrl a _ _ _ (.inr rfl) _ ⟨w.heap.size,arr,t,by simp,by simp,jU _, ?_,d⟩⟩;exact az.mono (λb e=>le.A b e) le.eD _ _ f
theorem E0{u:Value}{x:T}(e:nJ u=some x):ay w A x u:=by
 cases u <;> simp only [nJ,Qy,reduceCtorEq] at e
 case slice a l b=>split at e <;> simp_all;subst e;simp [ay]
 case pointer a=>split at e <;> simp_all;subst e;simp [ay]
 case map a=>split at e <;> simp_all;subst e;simp [ay]
 all_goals (subst e;simp [ay])
theorem nK:∀{us:List Value} {l:List T},kQ us=some l->aS w A l us
 | [],l,e=>by simp only [kQ,Qy] at e;subst e;rfl
 | u::us,l,e=>by simp only [kQ] at e;obtain⟨x,a,e⟩:=Qz.1 e;obtain⟨d,b,e⟩:=Qz.1 e;simp only [Qy] at e;subst e;exact⟨u,us,rfl,E0 a,nK b⟩
theorem mM{t:TypeId}{l:List T}(e:hZ P t=some l):∃i z,P.info? t=some i/\i.zero=some z/\kQ z.cells.toList=some l:=by
 unfold hZ at e;split at e
 .rename_i i a;split at e
  .rename_i z b;exact⟨i,z,a,b,e⟩
  .simp at e
 .simp at e
theorem KK(off:Nat)(v cells:Array Value)(d:off+v.size<=cells.size):(v.zipIdx.foldl (λcs (x:Value×Nat)=>cs.setIfInBounds (off+x.2) x.1) cells).toList=cm off v.toList cells.toList:=by
 obtain⟨f,b⟩:=Go.Great.foldl_set off v.toList 0 cells;have e:v.zipIdx.foldl (λcs (x:Value×Nat)=>cs.setIfInBounds (off+x.2) x.1) cells= (v.toList.zipIdx 0).foldl (λcs (x:Value×Nat)=>cs.setIfInBounds (off+x.2) x.1) cells:=by rw [<-Array.foldl_toList,Array.toList_zipIdx]
 rw [e];apply RV;intro p;rw [Ru,b p,qN off v.toList cells.toList (by simpa using d)];simp only [SK,Ra,Ru];by_cases a:off<=p/\p < off+v.size
 .rw [if_pos ⟨a.1,a.2,by omega⟩,if_pos a]
 .rw [if_neg (by omega),if_neg a]
inductive rH (w:World) (A:Nat->Prop) (ρ:Id->Option Value) (place:Nat->Option (Nat×Nat)):List (Nat×List AV)->List (Nat×Value)->Prop
 | nil:rH w A ρ place [] []
 | cons {off:Nat} {l:List AV} {f:Nat} {v:Value} {ls:List (Nat×List AV)} {vs:List (Nat×Value)} (hp:place f=some (off,l.length)) (hr:az w A ρ l v.cells.toList) (h1:∀u∈v.cells.toList,u.oneCell'=true/\u.cells= #[u])
   (rest:rH w A ρ place ls vs):rH w A ρ place ((off,l)::ls) ((f,v)::vs)
theorem C9{a:Nat->Option (Nat×Nat)}:∀{j:List (Nat×List AV)} {vs:List (Nat×Value)} {i out:List AV} {cells:Array Value},rH w A ρ a j vs->sA j i=some out->az w A ρ i cells.toList->(∀u∈cells.toList,u.oneCell'=true/\u.cells= #[u])->
  ∃r,Instr.fill a cells vs=some r/\az w A ρ out r.toList/\∀u∈r.toList,u.oneCell'=true/\u.cells= #[u]
 | [],_,i,out,cells, .nil,hl,d,e=>by simp only [sA,Qy] at hl;subst hl;exact⟨cells,rfl,d,e⟩
 | (off,l)::j,(f,v)::vs,i,out,cells, .cons t n m rest,hl,d,e=>by
  simp only [sA] at hl;split at hl
  .rename_i q;have k:=n.length;have y:=d.length;simp only [Ra] at k y;have g:off+v.cells.size<=cells.size:=by omega
   have b:=KK off v.cells cells g;obtain⟨r,o,p,e3⟩:=C9 (cells:=v.cells.zipIdx.foldl (λcs (x:Value×Nat)=>cs.setIfInBounds (off+x.2) x.1) cells) rest hl (by
    rw [b];unfold cm;rw [show v.cells.toList.length=l.length by simpa using k];exact((d.take off).append n).append (d.drop _)) (by
    intro u hu;rw [b] at hu;simp only [cm,QR] at hu;rcases hu with(hu | hu) | hu
    .exact e u (Sp hu)
    .exact m u hu
    .exact e u (SI hu))
   refine⟨r, ?_,p,e3⟩;unfold Instr.fill;simp only [t];rw [if_neg (by simp [k];omega)];exact o
  .simp at hl
theorem Ff{t:TypeId}{f:Nat}{p:Nat×TypeId}(e:sU P t f=some p)(k:pe P t=true):
  bX P p.2=true/\((∃a,P.underlying t=some (.struct a)/\(a.toList.map λx=>(x.offset,P.cellsOf x.type))[f]? =some (p.1,P.cellsOf p.2))\/
   ∃n e,P.underlying t=some (.array n e)/\p= (f * P.cellsOf e,e)):=by
 unfold sU at e;split at e
 .rename_i q g;simp only [Qy] at e;subst e;obtain⟨a,x,b,d,i,j⟩:=yh g;refine⟨j, .inl ⟨a,b, ?_⟩⟩;rw [RI,Ru,d];simp [i]
 .split at e
  .rename_i n u g;simp only [Qy] at e;subst e;obtain⟨b,d⟩:=AS g;exact⟨d, .inr ⟨n,u,b,rfl⟩⟩
  .simp at e
theorem Fh{a:Act}{g:Option Gs}{t:TypeId}(hs:HS c w s.h ρ O)(n:SS w (AA c w O) ρ s.t a.tmps)(m:jO a.tmps g)(l:pe P t=true)(b:Nat->Option (Nat×Nat))
  (d:∀f p,sU P t f=some p->b f=some (p.1,P.cellsOf p.2)):
  ∀{k:List (Nat×Operand)} {j:List (Nat×List AV)},nN P t (s.get g) k=some j->rH w (AA c w O) ρ b j (k.map λx=>(x.1,a.eval x.2))
 | [],j,e=>by simp only [nN,Qy] at e;subst e;exact .nil
 | (f,o)::k,j,e=>by
  simp only [nN] at e;obtain⟨p,v,e⟩:=Qz.1 e;split at e
  .rename_i i;obtain⟨q,y,e⟩:=Qz.1 e;simp only [Qy] at e;subst e;have z:=SS.get (h:=s.h) n m o;obtain⟨r,u⟩:=uf hs z i.2;exact .cons (by rw [d f p v,show(St.get ⟨s.t,s.h⟩ g o)=s.get g o from rfl,i.1]) r u (Fh hs n m l b d y)
  .simp at e
theorem HK{a:Act}{g:Option Gs}{t:TypeId}{o:Array (Nat×Operand)}{M:AV}(hs:HS c w s.h ρ O)(Y:SS w (AA c w O) ρ s.t a.tmps)(X:jO a.tmps g)(e:uc P t (s.get g) o.toList=some M):
  ∃v,(Instr.build t (o.map λ(i,x)=>(i,a.eval x))).run P w= .ok v w/\ai w (AA c w O) ρ M v:=by
 unfold uc at e;split at e
 .rename_i b;obtain⟨z,Z,e⟩:=Qz.1 e;obtain⟨l,hl,e⟩:=Qz.1 e;obtain⟨cs,Q,e⟩:=Qz.1 e;simp only [Qy] at e;subst e;obtain⟨i,zv,D,G,S⟩:=mM Z;have F:aS w (AA c w O) z zv.cells.toList:=nK S;have V:(o.map λ(i,x)=>(i,a.eval x)).toList=o.toList.map λx=>(x.1,a.eval x.2):=by simp
  have key:∀j:Nat->Option (Nat×Nat),(∀f p,sU P t f=some p->j f=some (p.1,P.cellsOf p.2))->∃r,Instr.fill j zv.cells (o.map λ(i,x)=>(i,a.eval x)).toList=some r/\az w (AA c w O) ρ cs r.toList/\∀u∈r.toList,u.oneCell'=true/\u.cells= #[u]:=by intro j y;rw [V];exact C9 (Fh hs Y X b j y hl) Q (az.kR F) F.one
  have E:∀r:Array Value,P.built t (o.map λ(i,x)=>(i,a.eval x)).toList=some r->az w (AA c w O) ρ cs r.toList->(∀u∈r.toList,u.oneCell'=true/\u.cells= #[u])->
    ∃v,(Instr.build t (o.map λ(i,x)=>(i,a.eval x))).run P w= .ok v w/\ai w (AA c w O) ρ (.agg cs) v:=by
   intro r W m J;exact⟨_,run_build w t _ r W,by simp only [ai];exact⟨r.toList,by simp,m,J⟩⟩
  cases k:P.underlying t with
  | none=>simp [pe,k] at b
  | some d=>
   cases d <;> simp only [pe,k,Q9] at b
   case struct C=>
    have q:C.toList.mapM (λf=>(P.info? f.type).map λi=>(f.offset,i.size))=some (C.toList.map λx=>(x.offset,P.cellsOf x.type)):=by
     generalize C.toList=l at b;induction l with
     | nil=>rfl
     | cons f l ih=>simp only [RX,QF] at b;obtain⟨d,K⟩:=Sa.1 b.1;obtain⟨i,D,B⟩:=uZ K;simp only [TJ,D,Se,Option.bind_eq_bind,QD,ih b.2,Option.pure_def,Rc,B]
    obtain⟨r,H,I,e3⟩:=key ((C.toList.map λx=>(x.offset,P.cellsOf x.type)).toArray[·]?) (λf p L=>by
     obtain⟨_,h | ⟨n,e,h,_⟩⟩:=Ff L (by simp [pe,k,b])
     .obtain⟨N,m,J⟩:=h;rw [k] at m;simp only [Qy,TypeDesc.struct.injEq] at m;subst m;simpa using J
     .rw [k] at h;simp at h)
    refine E r ?_ I e3;simp only [Program.built,D,k,G,q];exact H
   case array n e=>
    obtain⟨d,K⟩:=Sa.1 b;obtain⟨U,R,B⟩:=uZ K;obtain⟨r,H,I,e3⟩:=key (λi=>some (i * U.size,U.size)) (λf p L=>by
     obtain⟨_,⟨N,m,_⟩ | ⟨n',e',h,T⟩⟩:=Ff L (by simp [pe,k,b])
     .rw [k] at m;simp at m
     .rw [k] at h;simp only [Qy,TypeDesc.array.injEq] at h;obtain⟨rfl,rfl⟩:=h;subst T;simp [B])
    refine E r ?_ I e3;simp only [Program.built,D,k,G,R];exact H
 .simp at e
end
open Go Go.IntKind
section
variable {P:Program} {w w':World} {A A':Nat->Prop} {c:Ctx} {ρ:Id->Option Value} {O:Id->Option Nat} {s:St} {cc:Option Bool} {h:Id->Option ad}
def cx(w:World)(A:Nat->Prop)(sz:Nat):List (List T)->List (List Value)->Prop
 | [],vss=>vss= []
 | cs::xs,vss=>∃vs r,vss=vs::r/\cs.length=sz/\aS w A cs vs/\cx w A sz xs r
theorem cx.mono{sz:Nat}(a:∀b,A b->A' b/\w'.heap[b]? =w.heap[b]?):∀{xs:List (List T)} {vss:List (List Value)},cx w A sz xs vss->cx w' A' sz xs vss
 | [],_,h=>h
 | cs::xs,vss,⟨vs,r,e,d,f,g⟩=>⟨vs,r,e,d,aS.mono a cs vs f,cx.mono a g⟩
theorem cx.length{sz:Nat}:∀{xs:List (List T)} {vss:List (List Value)},cx w A sz xs vss->vss.length=xs.length/\vss.flatten.length=xs.length * sz
 | [],vss,h=>by simp only [cx] at h;subst h;simp
 | cs::xs,vss,⟨vs,r,e,d,f,g⟩=>by subst e;obtain⟨a,b⟩:=cx.length g;have:=f.length;refine⟨by simp [a], ?_⟩;simp only [Sd,Ro,b,this,d,QJ,Ry];omega
theorem cx.one{sz:Nat}:∀{xs:List (List T)} {vss:List (List Value)},cx w A sz xs vss->∀u∈vss.flatten,u.oneCell'=true/\u.cells= #[u]
 | [],vss,h,u,hu=>by simp only [cx] at h;subst h;simp at hu
 | cs::xs,vss,⟨vs,r,e,d,a,b⟩,u,hu=>by
  subst e;simp only [Sd,QR] at hu;rcases hu with hu | hu
  .exact a.one u hu
  .exact cx.one b u hu
theorem cx.append{sz:Nat}:∀{xs d:List (List T)} {vss a:List (List Value)},cx w A sz xs vss->cx w A sz d a->cx w A sz (xs++d) (vss++a)
 | [],_,vss,_,h,b=>by simp only [cx] at h;subst h;simpa using b
 | cs::xs,d,vss,a,⟨vs,r,e,f,g,i⟩,b=>by subst e;exact⟨vs,r++a,rfl,f,g,cx.append i b⟩
theorem bd.bn{af sz:Nat}:∀{off:Nat} {xs:List (List T)},bd w A af sz off xs->∃vss,cx w A sz xs vss/\∀p v,vss.flatten[p]? =some v->w.cell? ⟨af,off+p,none⟩=some v
 | _,[],_=>⟨[],rfl,by simp⟩
 | off,cs::xs,h=>by
  simp only [bd] at h;obtain⟨vs,b,d⟩:=h.2.1.bn;obtain⟨r,e,f⟩:=bd.bn h.2.2;refine⟨vs::r,⟨vs,r,rfl,h.1,b,e⟩,λp v a=> ?_⟩;have hl:=b.length;rw [h.1] at hl;rw [Sd] at a;by_cases g:p < sz
  .rw [QT (by omega)] at a;exact d p v a
  .rw [Rg (by omega),hl] at a;have:=f _ v a;rw [show off+sz+ (p - sz)=off+p by omega] at this;exact this
theorem bd.ke{af sz:Nat}:∀{off:Nat} {xs:List (List T)} {vss:List (List Value)},cx w A sz xs vss->(∀p v,vss.flatten[p]? =some v->w.cell? ⟨af,off+p,none⟩=some v)->bd w A af sz off xs
 | _,[],_,_,_=>by simp [bd]
 | off,cs::xs,vss,⟨vs,r,e,a,b,g⟩,f=>by
  subst e;have hl:=b.length;rw [a] at hl;simp only [bd];refine⟨a,aZ.ke b (λj v d=>f j v ?_),bd.ke g (λp v i=> ?_)⟩
  .rw [Sd,QT (QC.1 d).1];exact d
  .have:=f (sz+p) v (by rw [Sd,Rg (by omega),hl,show sz+p - sz=p by omega];exact i);rw [show off+sz+p=off+ (sz+p) by omega];exact this
theorem HS.vA{i:Id}(hs:HS c w h ρ O)(d:h i=none){xs:List (List T)}{vss:List (List Value)}{sz:Nat}(t:TypeId)(cells:Array Value)(cap:Nat)(j:cx w (AA c w O) sz xs vss)
  (f:∀(p:Nat) (v:Value),vss.flatten[p]? =some v->cells[p]? =some v) (a:xs.length<=cap) (k:cap * sz<=cells.size) (hrl:i.real=true:=by rfl):
  Le w ρ O (w.alloc (.cells cells t)) (aG ρ i (some (.slice (some ⟨w.heap.size,0,none⟩) xs.length cap))) (aG O i (some w.heap.size))/\
  HS c (w.alloc (.cells cells t)) (aG h i (some (.sl false sz false xs))) (aG ρ i (some (.slice (some ⟨w.heap.size,0,none⟩) xs.length cap))) (aG O i (some w.heap.size)):=by
 have le:=Le.alloc hs hrl d (.cells cells t) (.slice (some ⟨w.heap.size,0,none⟩) xs.length cap) (some w.heap.size) (.inr rfl);refine⟨le,hs.alloc hrl d _ _ _ (.inr rfl) _ ⟨_,by rw [aA],⟨some ⟨w.heap.size,0,none⟩,cap,rfl,a,by simp,trivial, .inr ⟨w.heap.size,0,cells,t,rfl,by simp,jU _,by omega, ?_⟩⟩,by simp⟩⟩;refine bd.ke (cx.mono (λb e=>le.A b e) j) (λp v g=> ?_);rw [jS (jU _),Rh];exact f p v g
theorem CR{a:Act}{g:Option Gs}{e:TypeId}(hs:HS c w s.h ρ O)(D:SS w (AA c w O) ρ s.t a.tmps)(C:jO a.tmps g){O':Id->Option Nat}(le:Le w ρ O w ρ O')(m:∀i,O' i=O i\/O' i=none):
  ∀{y:List (Nat×Operand)} {n:Nat} {q:List (List T)×aB},gU P s.h e (s.get g) n y=some q->(∀p∈q.2,O' p.1=none)->
   ∃vs:List Value,(y.map λx=>(x.1,a.eval x.2))= ((vs.zipIdx n).map λx=>(x.2,x.1))/\cx w (AA c w O') (P.cellsOf e) q.1 (vs.map λv=>v.cells.toList)/\(∀v∈vs,v.cells.size=P.cellsOf e)
 | [],n,q,b,_=>by simp only [gU,Qy] at b;subst b;exact⟨[],rfl,by simp [cx],by simp⟩
 | (k,o)::y,n,q,b,r=>by
  simp only [gU] at b;obtain⟨l,hl,b⟩:=Qz.1 b;split at b
  .rename_i j;obtain⟨rfl,d⟩:=j;obtain⟨J,B,b⟩:=Qz.1 b;simp only [Qy] at b;subst b;simp only [QR] at r;obtain⟨vs,E,F,e3⟩:=CR hs D C le m B (λp u=>r p (.inr u));have H:=SS.get (h:=s.h) D C o;obtain⟨z,I⟩:=zT hs H hl le m (λp u=>r p (.inl u));have G:=z.length;refine⟨a.eval o::vs, ?_,⟨_,_,rfl,d,z,F⟩, ?_⟩
   .simp only [Rc,List.zipIdx_cons,E]
   .intro v f;rcases QN.1 f with rfl | f
    .rw [<-Ra,G,d]
    .exact e3 v f
  .simp at b
theorem CQ{e:TypeId}{ev:Operand->AV}:∀{b:List (Nat×Operand)} {n:Nat} {q:List (List T)×aB},gU P h e ev n b=some q->fO h q.2/\q.1.length=b.length
 | [],n,q,a=>by simp only [gU,Qy] at a;subst a;exact⟨(λp i=>by cases i),rfl⟩
 | (k,o)::b,n,q,a=>by
  simp only [gU] at a;obtain⟨l,hl,a⟩:=Qz.1 a;split at a
  .obtain⟨j,d,a⟩:=Qz.1 a;simp only [Qy] at a;subst a;obtain⟨f,g⟩:=CQ d;exact⟨(yq _).append f,by simp [g]⟩
  .simp at a
theorem vX{t e:TypeId}{n:Nat}(u:P.underlying t=some (.slice e))(l:bX P e=true)(d:(hZ P e).isSome=true)(b: 0 < P.cellsOf e)(g:n<=1000/\P.cellsOf e<=1000)(vs:List Value)(y:∀v∈vs,v.cells.size=P.cellsOf e)(j:vs.length=n)
  (o:Array (Nat×Value)) (a:o.toList= (vs.zipIdx 0).map λx=>(x.2,x.1)):
  (Instr.buildSlice t n o).run P w= .ok (.slice (some ⟨w.heap.size,0,none⟩) n n) (w.alloc (.cells (vs.flatMap λv=>v.cells.toList).toArray e)):=by
 obtain⟨z,d⟩:=Sa.1 d;obtain⟨i,zv,r,m,_⟩:=mM d;have B:n * P.cellsOf e<=1000 * 1000:=TK g.1 g.2;have q:¬(n * P.cellsOf e > 2 ^ 24):=by
  have f:(2:Nat) ^ 24=16777216:=by decide
  rw [f];omega
 have p:=Go.Great.fill_whole b vs;unfold Instr.buildSlice;simp only [QY,run_underlying u,QO,iD l,if_neg q,Sem.run_ite];by_cases h0:n * P.cellsOf e=0
 .have k:n=0:=by rcases Nat.mul_eq_zero.1 h0 with e | e <;> omega
  subst k;have:vs= []:=Q7.1 j;subst this;simp only [Nat.zero_mul,if_true,Rj,QO];simp only [List.zipIdx_nil,Rz] at a;simp [a,Instr.fill,newRow,Array.range_zero']
 .simp only [if_neg h0,QY,zeroValue,typeInfo,run_program,QO,r,Rj,m];rw [a,p _ y (by simp [j])];simp [newRow]
theorem F0{t e:TypeId}{b:List T}{n m:Int}{kn km:IntKind}(u:P.underlying t=some (.slice e))(v:hZ P e=some b)(q:P.bytesOf e<=8192)(r:b.length=P.cellsOf e)(h0: 0<=n)(p:n<=m)(f:m<=lP):
  ∃zv:Value,aS w A b zv.cells.toList/\(Instr.makeSlice t (.int kn n) (.int km m)).run P w= .ok (.slice (some ⟨w.heap.size,0,none⟩) n.toNat m.toNat) (w.alloc (.cells (madeCells zv.cells (m.toNat * P.cellsOf e)) e)):=by
 obtain⟨i,zv,a,l,j⟩:=mM v;have k:P.cellsOf e=i.size:=by simp [Program.cellsOf,a]
 have g:P.bytesOf e=i.bytes:=by simp [Program.bytesOf,a]
 refine⟨zv,nK j, ?_⟩;rw [k];refine run_make w t e i zv u a l kn km n m h0 p ?_ ?_
 .rw [g] at q;have:(i.bytes:Int) * m<=8192 * 4294967296:=by
   have o:(i.bytes:Int)<=8192:=by omega
   have d:m<=4294967296:=by simpa [lP] using f
   calc (i.bytes:Int) * m<=8192 * m:=Tk o (by omega)
    _<=8192 * 4294967296:=Ts d (by omega)
  omega
 .have d:m<=4294967296:=by simpa [lP] using f
  omega
theorem yR{zv:Array Value}{sz:Nat}(b:zv.size=sz)(n m:Nat)(i:n<=m):∀(p:Nat) (v:Value),(List.replicate n zv.toList).flatten[p]? =some v->(madeCells zv (m * sz))[p]? =some v:=by
 intro p v a;have d:p < n * sz:=by have:=(QC.1 a).1;simpa [b] using this
 have g: 0 < sz:=by
  rcases Nat.eq_zero_or_pos sz with e | e
  .rw [e] at d;simp at d
  .exact e
 have hm:n * sz<=m * sz:=Rx _ i;have key:∀n p,p < n * sz->(List.replicate n zv.toList).flatten[p]? =zv[p % sz]?:=by
  intro n;induction n with
  | zero=>intro p h;simp at h
  | succ n j=>
   intro p h;rw [RS,Sd];by_cases a:p < sz
   .rw [QT (by simpa [b] using a),SV a];simp
   .rw [Rg (by simp [b];omega)];simp only [Ra,b];have k:(n+1) * sz=n * sz+sz:=Ry _ _;rw [j _ (by omega)];congr 1;exact(Nat.mod_eq_sub_mod (by omega)).symm
 rw [key n p d] at a;have f:p % sz < zv.size:=by rw [b];exact TM _ g
 simp only [madeCells,Array.getElem?_map];rw [Sm (by simp;omega)];simp only [Array.getElem_range,Se,b];rw [Sm f] at a;rw [getElem!_pos zv _ f];exact a
theorem cx.replicate{sz:Nat}{a:List T}{vs:List Value}(b:aS w A a vs)(hl:a.length=sz):∀n,cx w A sz (List.replicate n a) (List.replicate n vs)
 | 0=>rfl
 | n+1=>⟨vs,List.replicate n vs,rfl,hl,b,cx.replicate b hl n⟩
end
end Go.Aev
