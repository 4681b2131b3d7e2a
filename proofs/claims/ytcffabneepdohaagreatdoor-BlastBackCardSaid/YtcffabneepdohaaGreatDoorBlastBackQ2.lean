import Derived.Test.YtcffabneepdohaaGreatDoorBlastBackQ1
import Derived.ChangeKeysEq
import Derived.Deep.AppendSrc
import Derived.Great.FillDense
set_option linter.all false
namespace Go.Aev
open Go Go.IntKind
section
variable {P:Program} {w:World} {A:Nat->Prop}
theorem T.gY{k:IntKind}{x:T}{n:Int}(h:x.int? k=some n):x= .int k n:=by cases x <;> simp only [T.int?,reduceCtorEq] at h;split at h <;> simp_all
theorem T.jI{x:T}{b:Bool}(h:x.bool? =some b):x= .bool b:=by cases x <;> simp_all [T.bool?]
theorem T.lP{x:T}{s:ByteArray}(h:x.dY =some s):x= .str s:=by cases x <;> simp_all [T.dY]
theorem T.zG{x:T}{cs:List T}(h:x.sL =some cs):x= .ptr cs:=by cases x <;> simp_all [T.sL]
theorem T.su{sz:Nat}{x:T}{p:Bool×List (List T)}(h:x.aQ sz=some p):x= .aa sz p.1 p.2\/(x= .aC p.1/\p.2= []):=by
 cases x <;> simp only [T.aQ,reduceCtorEq,W5] at h
 case aa a b xs=>split at h <;> simp_all;subst h;simp
 case aC b=>subst h;simp
theorem Qp{w:World}{A:Nat->Prop}{y:T}{v:Value}(h:y8 y=true)(a:az w A y v):v= .slice none 0 0:=by
 unfold y8 at h;split at h
 .simp only [az] at a;rcases a with⟨_,h⟩ | ⟨h,_⟩
  .exact h
  .cases h
 .simp only [az] at a;rcases a with⟨_,_,h⟩ | ⟨h,_⟩
  .exact h
  .cases h
 .cases h
theorem AV.nf{v:AV}{x:T}(h:v.t? =some x):v= .t x:=by cases v <;> simp_all [AV.t?]
theorem r7{d R:Type}[Inhabited d]{c:Option Bool}{m:Option d}{k:d->Option R}{r:R}(h:ab c m k=some r):
  ∃a,k a=some r/\(m=some a\/(m=none/\c=some false)):=by
 unfold ab at h;cases m with
 | some a=>exact⟨a,h, .inl rfl⟩
 | none=>cases c with
  | none=>simp at h
  | some b=>cases b with
   | true=>simp at h
   | false=>exact⟨_,h, .inr ⟨rfl,rfl⟩⟩
def vh(P:Program)(R:Value->World->Prop):Result Next->Prop
 | .ok (.value x) w'=>R x w'
 | .ok .skip w'=>R undef w'
 | .ok (.enter f args) w'=>Calls P f args w' λe a=>∃x,e= .returned x/\R x a
 | _=>False
def jC(P:Program)(o:Oper)(a:Act)(w:World)(R:Value->World->Prop):Prop:=vh P R ((execOp a.eval o).run P w)
theorem jC.mono{o:Oper}{a:Act}{R b:Value->World->Prop}(h:jC P o a w R)(d:∀x w',R x w'->b x w'):jC P o a w b:=by
 unfold jC at *
 generalize (execOp a.eval o).run P w=r at *
 cases r with
 | ok n w'=>
  cases n <;> simp only [vh] at h⊢
  case enter=>exact h.mono λe i ⟨x,f,g⟩=>⟨x,f,d _ _ g⟩
  all_goals exact d _ _ h
 | halt x w'=>simp [vh] at h
theorem jC.wp{o:Oper}{a:Act}{R:Value->World->Prop}{K:Act->World->Prop}{Q:Exit->Act->World->Prop}(h:jC P o a w R)(b:∀x w',R x w'->K (a.put o.dst x) w'):o.wp P a w K Q:=by
 unfold jC at h;unfold Oper.wp;generalize (execOp a.eval o).run P w=r at *
 cases r with
 | ok n w'=>
  cases n <;> simp only [vh] at h <;> simp only [Oper.upon]
  case enter=>exact h.mono λe g ⟨x,d,f⟩=>by subst d;exact b _ _ f
  all_goals first | exact b _ _ h | exact h.elim
 | halt x w'=>simp [vh] at h
theorem y5{t:TypeId}{d:TypeDesc}(h:P.underlying t=some d):∃i,P.info? t=some i/\P.cellsOf t=i.size:=by
 unfold Program.underlying at h;cases a:P.info? t with
 | none=>simp [a] at h
 | some i=>exact⟨i,rfl,by simp [Program.cellsOf,a]⟩
theorem jU{t:TypeId}(h:cB P t=true)(w:World):(sizeOf t).run P w= .ok (P.cellsOf t) w:=by unfold cB at h;obtain⟨d,a⟩:=YL.1 h;obtain⟨i,b,hs⟩:=y5 a;rw [hs];simp [sizeOf,typeInfo,b]
theorem uG{t:TypeId}(h:cB P t=true)(w:World):(isAgg t).run P w= .ok (ca P t) w:=by unfold cB at h;obtain⟨d,a⟩:=YL.1 h;unfold isAgg ca;simp only [Xx,run_underlying a,Xm,a];cases d <;> rfl
theorem hI(k:IntKind)(n:Int)(w:World)(A:Nat->Prop):az w A (.int k n) (.int k n):=by simp [az]
theorem pc(b:Bool)(w:World)(A:Nat->Prop):az w A (.bool b) (.bool b):=by simp [az]
theorem mU(b:ByteArray)(w:World)(A:Nat->Prop):az w A (.str b) (.string b):=by simp [az]
theorem Mu{R:Type}{op:BinOp}{k:IntKind}{c:Option Bool}{x y:T}{K:T->Option R}{r:R}{t:TypeId}{j l:Value}(f:c=none\/c=some true)
  (g:az w A x j) (i:az w A y l) (h:tm op k c x y K=some r):
  ∃z m,K z=some r/\(∀w A,az w A z m)/\(binOp op t j l).run P w= .ok m w:=by
 unfold tm at h;replace h:=aW h f;obtain⟨a,n,h⟩:=h;replace h:=aW h f;obtain⟨b,o,h⟩:=h;have:=T.gY n;subst this;have:=T.gY o;subst this;simp only [az] at g i;subst g;subst i;cases op <;> simp only [reduceCtorEq] at h
 case quo=>
  replace h:=aW h f;obtain⟨_,h0,h⟩:=h;have d:b≠0:=by intro e;simp [e] at h0
  exact⟨_,_,h,by first | exact hI _ _ | exact pc _ | exact mU _,by simp [binOp,Op.intDiv,d]⟩
 case rem=>
  replace h:=aW h f;obtain⟨_,h0,h⟩:=h;have d:b≠0:=by intro e;simp [e] at h0
  exact⟨_,_,h,by first | exact hI _ _ | exact pc _ | exact mU _,by simp [binOp,Op.intDiv,d]⟩
 all_goals exact⟨_,_,h,by first | exact hI _ _ | exact pc _ | exact mU _,by simp [binOp,Op.intArith,Op.intBits,Op.intCmp]⟩
theorem UX{R:Type}{op:BinOp}{k ky:IntKind}{c:Option Bool}{x y:T}{K:T->Option R}{r:R}{t:TypeId}{j l:Value}(d:c=none\/c=some true)
  (g:az w A x j) (i:az w A y l) (h:uK op k ky c x y K=some r):
  ∃z m,K z=some r/\(∀w A,az w A z m)/\(binOp op t j l).run P w= .ok m w:=by
 unfold uK at h;replace h:=aW h d;obtain⟨a,n,h⟩:=h;replace h:=aW h d;obtain⟨b,o,h⟩:=h;have:=T.gY n;subst this;have:=T.gY o;subst this;simp only [az] at g i;subst g;subst i;replace h:=aW h d;obtain⟨_,h0,h⟩:=h;have f:¬b < 0:=by intro e;simp [e] at h0
 cases op <;> simp only [reduceCtorEq] at h
 all_goals exact⟨_,_,h,by first | exact hI _ _ | exact pc _ | exact mU _,by simp [binOp,Op.shift,f]⟩
theorem Vl{R:Type}{op:BinOp}{c:Option Bool}{x y:T}{K:T->Option R}{r:R}{t:TypeId}{j k:Value}(d:c=none\/c=some true)
  (g:az w A x j) (i:az w A y k) (h:uP op c x y K=some r):
  ∃z l,K z=some r/\(∀w A,az w A z l)/\(binOp op t j k).run P w= .ok l w:=by
 unfold uP at h;replace h:=aW h d;obtain⟨a,m,h⟩:=h;replace h:=aW h d;obtain⟨b,n,h⟩:=h;have:=T.lP m;subst this;have:=T.lP n;subst this;simp only [az] at g i;subst g;subst i;cases op <;> simp only [reduceCtorEq] at h
 case add=>
  replace h:=aW h d;obtain⟨_,h0,h⟩:=h;have o:a.size+b.size<=4294967296:=by
   by_cases e:a.size+b.size<=4294967296
   .exact e
   .simp [e] at h0
  have f:¬(((a.size+b.size:Nat):Int) > i64.max):=by
   have:i64.max=9223372036854775807:=by decide
   rw [this];omega
  exact⟨_,_,h,by first | exact hI _ _ | exact pc _ | exact mU _,by simp only [binOp,Op.stringOp,if_neg f];rfl⟩
 all_goals exact⟨_,_,h,by first | exact hI _ _ | exact pc _ | exact mU _,by simp [binOp,Op.stringOp]⟩
theorem MD{R:Type}{op:BinOp}{t ty:TypeId}{c:Option Bool}{x y:T}{K:T->Option R}{r:R}{e f:Value}(a:c=none\/c=some true)
  (b:az w A x e) (d:az w A y f) (h:tp P op t ty c x y K=some r):
  (op≠ .eql/\op≠ .neq)/\∃z g,K z=some r/\(∀w A,az w A z g)/\(binOp op t e f).run P w= .ok g w:=by
 unfold tp at h;cases op <;> simp only [reduceCtorEq] at h <;> refine⟨⟨by simp,by simp⟩, ?_⟩ <;> split at h <;> first | exact Mu a b d h | exact UX a b d h | exact Vl a b d h | simp at h
theorem VI{R:Type}{op:UnOp}{t:TypeId}{c:Option Bool}{x:T}{K:T->Option R}{r:R}{f:Value}(e:c=none\/c=some true)
  (b:az w A x f) (h:uT P op t c x K=some r):
  ∃z g,K z=some r/\(∀w A,az w A z g)/\(Op.unary op f).run P w= .ok g w:=by
 unfold uT at h;split at h
 .replace h:=aW h e;obtain⟨a,d,h⟩:=h;have:=T.gY d;subst this;simp only [az] at b;subst b;exact⟨_,_,h,by first | exact hI _ _ | exact pc _ | exact mU _,by simp [Op.unary,Op.intArith]⟩
 .replace h:=aW h e;obtain⟨a,d,h⟩:=h;have:=T.gY d;subst this;simp only [az] at b;subst b;exact⟨_,_,h,by first | exact hI _ _ | exact pc _ | exact mU _,by simp [Op.unary,Op.intBits]⟩
 .replace h:=aW h e;obtain⟨a,d,h⟩:=h;have:=T.jI d;subst this;simp only [az] at b;subst b;exact⟨_,_,h,by first | exact hI _ _ | exact pc _ | exact mU _,by simp [Op.unary]⟩
 .simp at h
theorem PO{R:Type}{d:Nat}{t:TypeId}{c:Option Bool}{x y:T}{K:Bool->Option R}{r:R}{m n:Value}(e:c=none\/c=some true)
  (f:az w A x m) (g:az w A y n) (h:mI P c t x y K=some r):∃b,K b=some r/\(Op.equalIn (d+1) t m n).run P w= .ok b w:=by
 unfold mI at h;split at h
 .rename_i k l;replace h:=aW h e;obtain⟨a,i,h⟩:=h;replace h:=aW h e;obtain⟨b,j,h⟩:=h;have:=T.gY i;subst this;have:=T.gY j;subst this;simp only [az] at f g;subst f;subst g;exact⟨_,h,by simp [Op.equalIn,run_underlying l]⟩
 .rename_i l;replace h:=aW h e;obtain⟨a,i,h⟩:=h;replace h:=aW h e;obtain⟨b,j,h⟩:=h;have:=T.jI i;subst this;have:=T.jI j;subst this;simp only [az] at f g;subst f;subst g;exact⟨_,h,by simp [Op.equalIn,run_underlying l]⟩
 .rename_i l;replace h:=aW h e;obtain⟨a,i,h⟩:=h;replace h:=aW h e;obtain⟨b,j,h⟩:=h;have:=T.lP i;subst this;have:=T.lP j;subst this;simp only [az] at f g;subst f;subst g;exact⟨_,h,by simp [Op.equalIn,run_underlying l]⟩
 .simp at h
theorem BW{R:Type}{c:Option Bool}(d:List TypeId):∀(ts:List TypeId) (xs a:List T) (K:Bool->Option R),
  fp P c (ts++d) xs a K=fp P c ts (xs.take ts.length) (a.take ts.length) (λq=>fp P c d (xs.drop ts.length) (a.drop ts.length) λe=>K (q && e))
 | [],xs,a,K=>by simp [fp]
 | t::ts,[],a,K=>by simp [fp]
 | t::ts,x::xs,[],K=>by simp [fp]
 | t::ts,x::xs,y::a,K=>by simp only [X7,Xj,ZB,List.drop_succ_cons,fp];congr 1;funext b;rw [BW d ts xs a];simp only [Bool.and_assoc]
theorem ba.take{cs:List T}{vs:List Value}(h:ba w A cs vs):∀n,ba w A (cs.take n) (vs.take n):=by
 intro n;induction n generalizing cs vs with
 | zero=>simp [ba]
 | succ n d=>
  cases cs with
  | nil=>simp only [ba] at h;subst h;simp [ba]
  | cons c cs=>obtain⟨v,r,rfl,a,b⟩:=h;exact⟨v,r.take n,rfl,a,d b⟩
theorem ba.drop{cs:List T}{vs:List Value}(h:ba w A cs vs):∀n,ba w A (cs.drop n) (vs.drop n):=by
 intro n;induction n generalizing cs vs with
 | zero=>simpa using h
 | succ n b=>
  cases cs with
  | nil=>simp only [ba] at h;subst h;simp [ba]
  | cons c cs=>obtain⟨v,r,rfl,d,a⟩:=h;exact b a
end
open Go Go.IntKind
section
variable {P:Program} {w:World} {A:Nat->Prop}
def lU(P:Program)(t:TypeId)(vs:List Value):Value:=if ca P t=true then .agg vs.toArray else vs.headD undef
theorem xg{t:TypeId}(b:cB P t=true)(xs:Array Value)(off:Nat)(d:ca P t=false->P.cellsOf t=1)(e:off+P.cellsOf t<=xs.size)(w:World):
  (part t xs off).run P w= .ok (lU P t ((xs.toList.drop off).take (P.cellsOf t))) w:=by
 unfold part lU;simp only [Xx,uG b,Xm];cases f:ca P t
 .simp only [XD,if_false];rw [d f] at e⊢;have a:off < xs.size:=by omega
  have:xs[off]? =some xs[off]:=YU a;rw [this];have hl:off < xs.toList.length:=by simpa using a
  rw [Zf hl];simp
 .simp only [if_true,Xx,jU b,Xm,XO];congr 2;apply YR;simp [Zu,ZC]
theorem ba.part{xs:List T}{vs:List Value}(h:ba w A xs vs)(off n:Nat):ba w A ((xs.drop off).take n) ((vs.drop off).take n):=(h.drop off).take n
theorem tR{R:Type}{c:Option Bool}(a:c=none\/c=some true):∀{ts:List TypeId} {xs d:List T} {K:Bool->Option R} {r:R},fp P c ts xs d K=some r->xs.length=ts.length/\d.length=ts.length
 | [],[],[],_,_,_=>⟨rfl,rfl⟩
 | t::ts,x::xs,y::d,K,r,h=>by
  simp only [fp] at h;have:∃b,fp P c ts xs d (λr=>K (b && r))=some r:=by
   unfold mI at h;split at h
   .replace h:=aW h a;obtain⟨_,_,h⟩:=h;replace h:=aW h a;obtain⟨_,_,h⟩:=h;exact⟨_,h⟩
   .replace h:=aW h a;obtain⟨_,_,h⟩:=h;replace h:=aW h a;obtain⟨_,_,h⟩:=h;exact⟨_,h⟩
   .replace h:=aW h a;obtain⟨_,_,h⟩:=h;replace h:=aW h a;obtain⟨_,_,h⟩:=h;exact⟨_,h⟩
   .simp at h
  obtain⟨b,g⟩:=this;obtain⟨e,f⟩:=tR a g;simp [e,f]
 | [],[],_::_,_,_,h=>by simp [fp] at h
 | [],_::_,_,_,_,h=>by simp [fp] at h
 | _::_,[],_,_,_,h=>by simp [fp] at h
 | _::_,_::_,[],_,_,h=>by simp [fp] at h
theorem rY{n:Nat}{t:TypeId}{ts:List TypeId}(h:gF P n t=some ts):cB P t=true:=by
 cases n with
 | zero=>simp [gF] at h
 | succ n=>
  simp only [gF] at h;unfold cB;cases a:P.underlying t with
  | none=>simp [a] at h
  | some d=>rfl
theorem Hm{n:Nat}{t:TypeId}{ts:List TypeId}(h:gF P n t=some ts)(a:ca P t=false):ts= [t]:=by
 cases n with
 | zero=>simp [gF] at h
 | succ n=>
  simp only [gF] at h;unfold ca at a;cases b:P.underlying t with
  | none=>simp [b] at h
  | some d=>cases d <;> simp_all
def AB(P:Program)(w:World)(A:Nat->Prop)(n:Nat):Prop:= ∀(t:TypeId) (ts:List TypeId),gF P n t=some ts->∀(d:Nat),n<=d->
 ∀(R:Type) (c:Option Bool),c=none\/c=some true->∀(xs f:List T) (a e:List Value) (K:Bool->Option R) (r:R),ba w A xs a->ba w A f e->fp P c ts xs f K=some r->
  ∃b,K b=some r/\(Op.equalIn d t (lU P t a) (lU P t e)).run P w= .ok b w
theorem G8{n d:Nat}(B:AB P w A n)(z:n<=d){X Y:Array Value}{R:Type}{c:Option Bool}(i:c=none\/c=some true):
  ∀(e:List Field) (off:Nat) (ts:List TypeId),tX P (gF P n) e off=some ts->∀(xs o:List T) (K:Bool->Option R) (r:R),ba w A xs (X.toList.drop off)->ba w A o (Y.toList.drop off)->
   fp P c ts xs o K=some r->∃b,K b=some r/\(Op.eqFields d X Y e).run P w= .ok b w
 | [],off,ts,h,xs,o,K,r,k,m,a=>by simp only [tX,W5] at h;subst h;obtain⟨F,G⟩:=tR i a;have:=Xz.1 F;subst this;have:=Xz.1 G;subst this;exact⟨true,by simpa [fp] using a,by simp [Op.eqFields]⟩
 | f::e,off,ts,h,xs,o,K,r,k,m,a=>by
  simp only [tX] at h;by_cases j:f.offset=off/\f.name≠ "_"
  .rw [if_pos j] at h;cases hl:gF P n f.type with
   | none=>simp [hl] at h
   | some l=>
    simp only [hl,Xb] at h;by_cases g:P.cellsOf f.type=l.length/\0 < l.length
    .rw [if_pos g] at h;obtain⟨hs,I⟩:=g;cases u:tX P (gF P n) e (off+l.length) with
     | none=>simp [u] at h
     | some q=>
      simp only [u,Xb,W5] at h;subst h;obtain⟨J,L⟩:=tR i a;simp only [XK] at J L;rw [BW] at a;obtain⟨v,x,D⟩:=B f.type l hl d z R c i _ _ _ _ _ _ (k.take l.length) (m.take l.length) a;have p:=k.drop l.length;have t:=m.drop l.length;rw [ZJ] at p t;obtain⟨C,y,E⟩:=G8 B z i e (off+l.length) q u _ _ _ _ p t x;have sx:=k.length;have M:=m.length;simp only [Yi,XE] at sx M;have one:ca P f.type=false->P.cellsOf f.type=1:=λH=>by rw [hs,Hm hl H];rfl
      refine⟨v && C,y, ?_⟩;simp only [Op.eqFields,ne_eq,j.2,not_false_eq_true,if_true,Xx];rw [j.1,xg (rY hl) X off one (by rw [hs];omega) w];simp only [Xm];rw [xg (rY hl) Y off one (by rw [hs];omega) w];simp only [Xm,hs,D];cases v
      .simp
      .simp [E]
    .rw [if_neg g] at h;simp at h
  .rw [if_neg j] at h;simp at h
theorem G9{n d:Nat}(D:AB P w A n)(C:n<=d){X Y:Array Value}{R:Type}{c:Option Bool}(i:c=none\/c=some true){e:TypeId}{l:List TypeId}(hl:gF P n e=some l)(hs:P.cellsOf e=l.length):
  ∀(m k:Nat) (xs p:List T) (K:Bool->Option R) (r:R),ba w A xs (X.toList.drop (k * P.cellsOf e))->ba w A p (Y.toList.drop (k * P.cellsOf e))->
   fp P c (List.replicate m l).flatten xs p K=some r->∃b,K b=some r/\(Op.eqItems d e (P.cellsOf e) X Y (List.range' k m)).run P w= .ok b w
 | 0,k,xs,p,K,r,j,o,a=>by obtain⟨F,G⟩:=tR i a;have:=Xz.1 F;subst this;have:=Xz.1 G;subst this;exact⟨true,by simpa [fp] using a,by simp [Op.eqItems]⟩
 | m+1,k,xs,p,K,r,j,o,a=>by
  simp only [Yv,YO] at a;obtain⟨I,J⟩:=tR i a;simp only [XK] at I J;rw [BW] at a;obtain⟨g,B,f⟩:=D e l hl d C R c i _ _ _ _ _ _ (j.take l.length) (o.take l.length) a;have t:=j.drop l.length;have u:=o.drop l.length;have H:k * P.cellsOf e+l.length= (k+1) * P.cellsOf e:=by rw [hs,Yb]
  rw [ZJ,H] at t u;obtain⟨z,q,v⟩:=G9 D C i hl hs m (k+1) _ _ _ _ t u B;have sx:=j.length;have E:=o.length;simp only [Yi,XE] at sx E;have one:ca P e=false->P.cellsOf e=1:=λy=>by rw [hs,Hm hl y];rfl
  by_cases h0:l.length=0
  ·
   refine⟨g && z,q, ?_⟩;have x:ca P e=true:=by
    cases y:ca P e
    .have:=one y;omega
    .rfl
   have L:∀(Z:Array Value) (w:World),(part e Z (k * P.cellsOf e)).run P w= .ok (lU P e []) w:=by intro Z w;unfold part lU;simp only [Xx,uG (rY hl),Xm,x,if_true,jU (rY hl),XO,hs,h0];simp
   simp only [Y3,Op.eqItems,Xx,L,Xm];rw [h0] at f;simp only [Z2] at f;rw [f];cases g
   .simp
   .simp [v]
  .refine⟨g && z,q, ?_⟩;simp only [Y3,Op.eqItems,Xx];rw [xg (rY hl) X _ one (by rw [hs] at sx⊢;omega) w];simp only [Xm];rw [xg (rY hl) Y _ one (by rw [hs] at E⊢;omega) w];simp only [Xm,hs];rw [hs] at f v;simp only [f,Xm];cases g
   .simp
   .simp [v]
theorem BX:∀n,AB P w A n
 | 0=>by intro t ts h;simp [gF] at h
 | n+1=>by
  intro t ts h d Y R c k xs o V W K r B C j;obtain⟨d,rfl⟩:∃N,d=N+1:=⟨d - 1,by omega⟩;have M:=BX n;simp only [gF] at h;have a:ca P t=false->ts= [t]->∃b,K b=some r/\(Op.equalIn (d+1) t (lU P t V) (lU P t W)).run P w= .ok b w:=by
   intro T L;subst L;obtain⟨D,E⟩:=tR k j;cases xs with
   | nil=>simp at D
   | cons x xs=>cases o with
    | nil=>simp at E
    | cons y o=>simp only [Xj,Xu,XF,Nat.add_eq_right,Xz] at D E;subst D;subst E;obtain⟨v,q,rfl,Q,hq⟩:=B;obtain⟨u,p,rfl,S,Z⟩:=C;simp only [fp,Yk] at j;simpa [lU,T] using PO (d:=d) k Q S j
  cases f:P.underlying t with
  | none=>simp [f] at h
  | some ds=>
   cases ds <;> simp only [f,reduceCtorEq,W5] at h
   case int=>exact a (by simp [ca,f]) h.symm
   case bool=>exact a (by simp [ca,f]) h.symm
   case string=>exact a (by simp [ca,f]) h.symm
   case struct F=>
    split at h
    .simp at h
    .rename_i J;have g:ca P t=true:=by simp [ca,f]
     have H:P.underlying t=some (.struct (P.fieldsOf t)):=by simp [Program.fieldsOf,f]
     have I:P.fieldsOf t=F:=by simp [Program.fieldsOf,f]
     simp only [lU,g,if_true];rw [run_equalIn_struct w d t _ _ H (by simpa using J),I];exact G8 M (by omega) k F.toList 0 ts h xs o K r (by simpa using B) (by simpa using C) j
   case array m e=>
    cases hl:gF P n e with
    | none=>simp [hl] at h
    | some l=>
     simp only [hl,Xb] at h;split at h
     .rename_i hs;simp only [W5] at h;subst h;have g:ca P t=true:=by simp [ca,f]
      have z:=rY hl;unfold cB at z;obtain⟨X,G⟩:=YL.1 z;obtain⟨i,U,_⟩:=y5 G;simp only [lU,g,if_true];rw [run_equalIn_array w d _ _ f U,ZX];exact G9 M (by omega) k hl hs m 0 xs o K r (by simpa using B) (by simpa using C) j
     .simp at h
theorem G4{R:Type}{ρ:Id->Option Value}{t:TypeId}{c:Option Bool}{x y:AV}{K:Bool->Option R}{r:R}{v z:Value}(l:c=none\/c=some true)
  (f:an w A ρ x v) (g:an w A ρ y z) (h:rV P c t x y K=some r) (B C:Operand):
  ∃b,K b=some r/\((eqGuard .eql t B C v z).run P w= .ok () w/\(binOp .eql t v z).run P w= .ok (.bool b) w)/\((eqGuard .neq t B C v z).run P w= .ok () w/\(binOp .neq t v z).run P w= .ok (.bool (!b)) w):=by
 unfold rV at h;split at h
 .rename_i x y;simp only [an] at f g;cases p:Cg P t
  .simp only [p,cond_false] at h;have d:=h;unfold mI at d;split at d
   .rename_i k u;replace d:=aW d l;obtain⟨a,o,d⟩:=d;replace d:=aW d l;obtain⟨b,j,d⟩:=d;have:=T.gY o;subst this;have:=T.gY j;subst this;simp only [az] at f g;subst f;subst g;exact⟨_,d,⟨by simp [eqGuard],by simp [binOp,Op.intCmp]⟩,⟨by simp [eqGuard],by simp [binOp,Op.intCmp,bne]⟩⟩
   .rename_i u;replace d:=aW d l;obtain⟨a,o,d⟩:=d;replace d:=aW d l;obtain⟨b,j,d⟩:=d;have:=T.jI o;subst this;have:=T.jI j;subst this;simp only [az] at f g;subst f;subst g;exact⟨_,d,⟨by simp [eqGuard],run_eql_bool w t a b u⟩,⟨by simp [eqGuard],run_neq_bool w t a b u⟩⟩
   .rename_i u;simp [Cg,u] at p
   .simp at d
  .simp only [p,cond_true] at h;replace h:=aW h l;obtain⟨a,o,h⟩:=h;replace h:=aW h l;obtain⟨b,j,h⟩:=h;have:=T.lP o;subst this;have:=T.lP j;subst this;simp only [az] at f g;subst f;subst g;exact⟨_,h,⟨by simp [eqGuard],by simp [binOp,Op.stringOp]⟩,⟨by simp [eqGuard],by simp [binOp,Op.stringOp]⟩⟩
 .rename_i xs J;cases m:(P.eqGuardType P.depth t || !ca P t)
  .simp only [m,cond_false] at h;simp only [X0,Y8] at m;obtain⟨m,E⟩:=m;cases i:ff xs with
   | none=>simp [i] at h
   | some F=>
    cases n:ff J with
    | none=>simp [i,n] at h
    | some G=>
     cases q:gF P 8 t with
     | none=>simp [i,n,q] at h
     | some ts=>simp only [i,n,q,Xb] at h;simp only [an] at f g;obtain⟨H,rfl,f,_⟩:=f;obtain⟨I,rfl,g,_⟩:=g;have D:ca P t=true:=E;obtain⟨b,j,e⟩:=BX 8 t ts q 10000 (by omega) R c l F G H I K r (ba.mg i f) (ba.mg n g) h;simp only [lU,D,if_true] at e;exact⟨b,j,⟨run_eqGuard_agg w .eql t B C _ _ m,by rw [run_eql_struct,e];rfl⟩,⟨run_eqGuard_agg w .neq t B C _ _ m,by rw [run_neq_struct,e];rfl⟩⟩
  .simp [m] at h
 .simp at h
end
open Go Go.IntKind
section
variable {P:Program} {w w':World} {A A':Nat->Prop} {c:Ctx} {ρ:Id->Option Value} {O:Id->Option Nat} {s:St} {cc:Option Bool}
theorem iF(b o j:Nat):(⟨b,o,none⟩:Addr).add j= ⟨b,o+j,none⟩:=by
 unfold Addr.add;split
 .rename_i h;subst h;rfl
 .rfl
theorem bn.bE{ah:Nat}:∀{off:Nat} {cs:List T},bn w A ah off cs->∃vs,ba w A cs vs/\∀j v,vs[j]? =some v->w.cell? ⟨ah,off+j,none⟩=some v
 | _,[],_=>⟨[],rfl,by simp⟩
 | off,x::cs,h=>by
  simp only [bn] at h;obtain⟨⟨v,i,g⟩,b⟩:=h;obtain⟨vs,d,f⟩:=bn.bE b;refine⟨v::vs,⟨v,vs,rfl,g,d⟩, ?_⟩;intro j u a;cases j with
  | zero=>simp at a;subst a;exact i
  | succ j=>
   have:=f j u (by simpa using a);have e:off+1+j=off+ (j+1):=by omega
   rw [e] at this;exact this
theorem ba.one:∀{cs:List T} {vs:List Value},ba w A cs vs->∀u∈vs,u.oneCell'=true/\u.cells= #[u]
 | [],vs,h,u,hu=>by simp only [ba] at h;subst h;cases hu
 | x::cs,vs,⟨v,r,e,a,b⟩,u,hu=>by
  subst e;rcases Xl.1 hu with rfl | hu
  .exact a.sE
  .exact ba.one b u hu
theorem Ak{R:Type}(b:cc=none\/cc=some true):∀{n:Nat} {cs:List T} {K:List T->Option R} {r:R},qS cc n cs K=some r->∃l,l=cs.take n/\l.length=n/\K l=some r
 | 0,cs,K,r,h=>⟨[],by simp,rfl,h⟩
 | n+1,cs,K,r,h=>by
  simp only [qS] at h;replace h:=aW h b;obtain⟨x,a,h⟩:=h;obtain⟨l,d,e,f⟩:=Ak b h;cases cs with
  | nil=>simp at a
  | cons y cs=>simp only [Yl,W5] at a;subst a;exact⟨y::l,by simp [d],by simp [e],f⟩
theorem DQ:∀{n:Nat} {cs l:List AV},od n cs=some l->l=cs.take n/\l.length=n
 | 0,cs,l,h=>by simp only [od,W5] at h;subst h;simp
 | n+1,[],l,h=>by simp [od] at h
 | n+1,x::cs,l,h=>by
  simp only [od] at h;cases a:od n cs with
  | none=>simp [a] at h
  | some q=>simp only [a,Xb,W5] at h;subst h;obtain⟨b,d⟩:=DQ a;exact⟨by simp [b],by simp [d]⟩
theorem Dq{t:TypeId}(a:cB P t=true)(d:ca P t=true)(b off:Nat)(vs:List Value)(hl:vs.length=P.cellsOf t)(h:∀j v,vs[j]? =some v->w.cell? ⟨b,off+j,none⟩=some v):
  (loadVar t ⟨b,off,none⟩).run P w= .ok (.agg vs.toArray) w:=by
 unfold loadVar;simp only [Xx,uG a,Xm,d,if_true,jU a,<-hl];rw [run_loadCells_list w ⟨b,off,none⟩ vs (λj v e=>by rw [iF];exact h j v e)];rfl
theorem zV{t:TypeId}(d:cB P t=true)(a:ca P t=false)(b off:Nat)(v:Value)(h:w.cell? ⟨b,off,none⟩=some v):
  (loadVar t ⟨b,off,none⟩).run P w= .ok v w:=by
 unfold loadVar;simp only [Xx,uG d,Xm,a,XD,if_false];rw [run_load,h]
theorem qU{R:Type}{k:Ck}{x:T}{v:Value}{K:T->Option R}{r:R}(e:cc=none\/cc=some true)(a:az w A x v)(h:fX k cc x K=some r):
  ∃y,K y=some r/\az w A y v:=by
 unfold fX at h;cases k with
 | i k=>simp only at h;replace h:=aW h e;obtain⟨n,d,h⟩:=h;rw [T.gY d] at a;exact⟨_,h,a⟩
 | b=>simp only at h;replace h:=aW h e;obtain⟨n,d,h⟩:=h;rw [T.jI d] at a;exact⟨_,h,a⟩
 | s=>simp only at h;replace h:=aW h e;obtain⟨n,d,h⟩:=h;rw [T.lP d] at a;exact⟨_,h,a⟩
 | l sz=>
  simp only at h;replace h:=aW h e;obtain⟨p,j,h⟩:=h;refine⟨_,h, ?_⟩;rcases T.su j with rfl | ⟨rfl,g⟩
  .exact a
  .rw [g];simp only [az] at a⊢;rcases a with⟨f,rfl⟩ | ⟨f,ah,off,sp,rfl⟩
   .exact .inl ⟨f,trivial,rfl⟩
   .exact .inr ⟨f,ah,off,sp,0,rfl,by simp, .inl trivial,trivial⟩
 | x=>exact⟨_,h,a⟩
theorem xr{R:Type}(d:cc=none\/cc=some true):∀{ks:List Ck} {xs:List T} {vs:List Value} {K:List T->Option R} {r:R},ba w A xs vs->fJ cc ks xs K=some r->
  ∃b,K b=some r/\ba w A b vs
 | [],xs,vs,K,r,a,h=>⟨_,h,a⟩
 | _::_,[],vs,K,r,a,h=>⟨_,h,a⟩
 | k::ks,x::xs,vs,K,r,a,h=>by obtain⟨v,q,rfl,f,g⟩:=a;simp only [fJ] at h;obtain⟨y,h,g1⟩:=qU d f h;obtain⟨b,h,e⟩:=xr d g h;exact⟨_,h,⟨v,q,rfl,g1,e⟩⟩
theorem Vu{R:Type}{k:Ck}{x:T}{K:T->Option R}{r:R}(d:cc=none\/cc=some true)(h:fX k cc x K=some r):
  ∃y,K y=some r/\∀(w:World) (A:Nat->Prop) (v:Value),az w A x v->az w A y v:=by
 have e:fX k cc x K= (fX k cc x some).bind K:=by rw [px];rfl
 rw [e] at h;obtain⟨y,f,h⟩:=W6.1 h;refine⟨y,h,λw A v a=> ?_⟩;obtain⟨z,b,a⟩:=qU d a f;simp only [W5] at b;subst b;exact a
theorem Vw{R:Type}{ks:List Ck}{xs:List T}{K:List T->Option R}{r:R}(d:cc=none\/cc=some true)(h:fJ cc ks xs K=some r):
  ∃y,K y=some r/\∀(w:World) (A:Nat->Prop) (vs:List Value),ba w A xs vs->ba w A y vs:=by
 have e:fJ cc ks xs K= (fJ cc ks xs some).bind K:=by rw [uS];rfl
 rw [e] at h;obtain⟨y,f,h⟩:=W6.1 h;refine⟨y,h,λw A v a=> ?_⟩;obtain⟨z,b,a⟩:=xr d a f;simp only [W5] at b;subst b;exact a
theorem Vy{R:Type}{t:TypeId}{v:AV}{K:AV->Option R}{r:R}(b:cc=none\/cc=some true)(h:oe P cc t v K=some r):
  ∃y,K y=some r/\∀(w:World) (A:Nat->Prop) (ρ:Id->Option Value) (u:Value),an w A ρ v u->an w A ρ y u:=by
 unfold oe at h;split at h
 .obtain⟨y,h,g⟩:=Vu b h;exact⟨_,h,λw A ρ u a=>by simp only [an] at a⊢;exact g w A u a⟩
 .rename_i vs;split at h
  .rename_i l hl;obtain⟨y,h,g⟩:=Vw b h;refine⟨_,h,λw A ρ u a=> ?_⟩;simp only [an] at a⊢;obtain⟨d,e,f,i⟩:=a;exact⟨d,e,aD.mP (g w A d (ba.mg hl f)),i⟩
  .exact⟨_,h,λw A ρ u a=>a⟩
 .exact⟨_,h,λw A ρ u a=>a⟩
theorem Ar{R:Type}(b:cc=none\/cc=some true):∀{ts:List TypeId} {vs:List AV} {K:List AV->Option R} {r:R},jY P cc ts vs K=some r->
  ∃y,K y=some r/\∀(w:World) (A:Nat->Prop) (ρ:Id->Option Value) (us:List Value),aD w A ρ vs us->aD w A ρ y us
 | [],vs,K,r,h=>⟨_,h,λw A ρ u a=>a⟩
 | _::_,[],K,r,h=>⟨_,h,λw A ρ u a=>a⟩
 | t::ts,v::vs,K,r,h=>by simp only [jY] at h;obtain⟨y,h,g1⟩:=Vy b h;obtain⟨i,h,d⟩:=Ar b h;refine⟨_,h,λw A ρ us a=> ?_⟩;simp only [aD] at a⊢;obtain⟨u,q,e,f,g⟩:=a;exact⟨u,q,e,g1 w A ρ u f,d w A ρ q g⟩
theorem zj{R:Type}{t:TypeId}(n:cB P t=true){b off:Nat}{cs:List T}{K:AV->Option R}{r:R}(e:cc=none\/cc=some true)(B:bn w A b off cs)(h:me P t cc cs K=some r):
  ∃i v,K i=some r/\(loadVar t ⟨b,off,none⟩).run P w= .ok v w/\an w A ρ i v:=by
 obtain⟨vs,k,m⟩:=B.bE;unfold me at h;cases d:ca P t
 .simp only [d,cond_false] at h;replace h:=aW h e;obtain⟨x,g,h⟩:=h;cases cs with
  | nil=>simp at g
  | cons y cs=>simp only [Yl,W5] at g;subst g;obtain⟨v,q,rfl,a,_⟩:=k;obtain⟨z,h,a⟩:=qU e a h;exact⟨_,v,h,zV n d b off v (by simpa using m 0 v rfl),by simpa [an] using a⟩
 .simp only [d,cond_true] at h;obtain⟨l,hl,u,h⟩:=Ak e h;have a:=k.take (P.cellsOf t);rw [<-hl] at a;have o:=a.length;obtain⟨C,h,p⟩:=xr e a h;refine⟨_,_,h,Dq n d b off _ (by rw [o,u]) (λj v f=>m j v ?_), ?_⟩
  .rw [YB] at f;split at f
   .exact f
   .cases f
  .simp only [an];exact⟨_,rfl,aD.mP p,a.one⟩
theorem QM{R:Type}{t:TypeId}(m:cB P t=true){b off:Nat}{cs:List AV}{vs:List Value}{K:AV->Option R}{r:R}(g:aD w A ρ cs vs)(n:∀u∈vs,u.oneCell'=true/\u.cells= #[u])
  (k:∀j v,vs[j]? =some v->w.cell? ⟨b,off+j,none⟩=some v) (h:nW P t cs K=some r):
  ∃i v,K i=some r/\(loadVar t ⟨b,off,none⟩).run P w= .ok v w/\an w A ρ i v:=by
 unfold nW at h;cases d:ca P t
 .simp only [d,cond_false] at h;cases cs with
  | nil=>simp at h
  | cons y cs=>simp only [Yl,Xb] at h;simp only [aD] at g;obtain⟨v,q,rfl,a,_⟩:=g;exact⟨_,v,h,zV m d b off v (by simpa using k 0 v rfl),a⟩
 .simp only [d,cond_true] at h;cases f:od (P.cellsOf t) cs with
  | none=>simp [f] at h
  | some l=>
   simp only [f,Xb] at h;obtain⟨hl,p⟩:=DQ f;have a:=g.take (P.cellsOf t);rw [<-hl] at a;have o:=a.length;refine⟨_,_,h,Dq m d b off _ (by rw [o,p]) (λj v e=>k j v ?_), ?_⟩
   .rw [YB] at e;split at e
    .exact e
    .cases e
   .simp only [an];exact⟨_,rfl,a,λu x=>n u (YX x)⟩
theorem A8{i:Id}{cs:List AV}(hs:HS c w s.h ρ O)(k:s.h i=some (.box cs)):∃b arr t,ρ i=some (.pointer (some ⟨b,0,none⟩))/\O i=some b/\w.heap[b]? =some (.cells arr t (0,0))/\
  aD w (AA c w O) ρ cs arr.toList/\(∀u∈arr.toList,u.oneCell'=true/\u.cells= #[u])/\∀j v,arr.toList[j]? =some v->w.cell? ⟨b,j,none⟩=some v:=by
 obtain⟨b,arr,t,d,e,a,f,g⟩:=hs.ah i _ k;refine⟨b,arr,t,d,e,a,f,g,λj v l=> ?_⟩;simp only [World.cell?,a];simpa using l
theorem sQ{i:Id}{fz b:Bool}{sz:Nat}{l:List (List T)}(hs:HS c w s.h ρ O)(e:s.h i=some (.sl fz sz b l)):∃v,ρ i=some v/\dr w (AA c w O) sz b l v (λah=>if fz=true then AA c w O ah else O i=some ah):=by obtain⟨v,a,d,_⟩:=hs.ah i _ e;exact⟨v,a,d⟩
theorem cL.get{i:Id}{ah sz col rsz:Nat}:∀{es:List Row} {base k:Nat} {e:Row},cL w A ρ O i ah sz col rsz base es->es[k]? =some e->jD w A ρ O i ah sz col rsz (base+k * sz) e
 | [],_,_,_,_,h=>by simp at h
 | x::es,base,0,e,a,h=>by simp only [XM,W5] at h;subst h;simpa using a.1
 | x::es,base,k+1,e,a,h=>by have:=cL.get a.2 (k:=k) (by simpa using h);rw [show base+ (k+1) * sz=base+sz+k * sz by rw [Yb];omega];exact this
theorem cL.own{i:Id}{ah sz col rsz n:Nat}{p:Bool×List (List T)}:∀{es:List Row} {base:Nat},cL w A ρ O i ah sz col rsz base es->cU n es=some p->∃v,ρ (.g i n)=some v/\dr w A rsz p.1 p.2 v (λb=>O (.g i n)=some b)
 | [],_,_,h=>by simp [cU] at h
 | e::es,base,f,h=>by
  unfold cU at h;split at h
  .rename_i en;obtain⟨_,_,_,v,_,d,a⟩:=f.1;rw [h] at a;rw [en] at d a;exact⟨v,d,a⟩
  .exact cL.own f.2 h
theorem zS{i:Id}{b:Bool}{sz col rsz j n:Nat}{es:List Row}{p:Bool×List (List T)}(hs:HS c w s.h ρ O)(f:s.h i=some (.rows b sz col rsz j es))(e:cU n es=some p):
  ∃v,ρ (.g i n)=some v/\dr w (AA c w O) rsz p.1 p.2 v (λb=>O (.g i n)=some b):=by
 obtain⟨a,cap,l,m,o,q,d⟩:=hs.ah i _ f;rcases d with d | ⟨ah,off,arr,t,r,u,x,y,k⟩
 .have:es= []:=Xz.1 (by omega);subst this;simp [cU] at e
 .exact k.own e
theorem Dl{R:Type}{i:Id}{n:Nat}{K:Nat->Bool->List (List T)->Option R}{r:R}(hs:HS c w s.h ρ O)(e:cc=none\/cc=some true)(h:mY s.h cc i n K=some r):
  ∃rsz b xs v,K rsz b xs=some r/\ρ (.g i n)=some v/\dr w (AA c w O) rsz b xs v (λah=>O (.g i n)=some ah):=by
 unfold mY at h;split at h
 .rename_i f;replace h:=aW h e;obtain⟨p,j,h⟩:=h;obtain⟨v,a,d⟩:=zS hs f j;exact⟨_,_,_,v,h,a,d⟩
 .cases h
theorem jD.bE{i:Id}{ah sz col rsz base:Nat}{e:Row}(h:jD w A ρ O i ah sz col rsz base e):∃vs:List Value,vs.length=sz/\(∀j v,vs[j]? =some v->w.cell? ⟨ah,base+j,none⟩=some v)/\
  (∀j x v,j≠col->e.cs[j]? =some x->vs[j]? =some v->az w A x v)/\∃v,vs[col]? =some v/\ρ (.g i e.n)=some v:=by
 obtain⟨C,r,f,v,l,t,D⟩:=h;have m:∀j,j < sz->∃u,w.cell? ⟨ah,base+j,none⟩=some u:=by
  intro j a;by_cases d:j=col
  .subst d;exact⟨v,l⟩
  .obtain⟨u,g,_⟩:=f j (e.cs[j]'(by omega)) d (Xd _);exact⟨u,g⟩
 have get:∀j u,((List.range sz).map λj=>(w.cell? ⟨ah,base+j,none⟩).getD undef)[j]? =some u->w.cell? ⟨ah,base+j,none⟩=some u:=by intro j u a;rw [XU] at a;obtain⟨k,b,a⟩:=Yo.1 a;obtain⟨o,b⟩:=W9.1 b;rw [List.getElem_range] at b;subst b;obtain⟨B,p⟩:=m j (by simpa using o);rw [p] at a⊢;simpa using a
 refine⟨_,by simp,get,λj x u a z y=> ?_,v, ?_,t⟩
 .obtain⟨B,g1,q⟩:=f j x a z;rw [get j u y] at g1;cases g1;exact q
 .rw [XU,List.getElem?_range r];simp [l]
theorem aD.wS:∀{b:List AV} {vs:List Value},b.length=vs.length->(∀(j:Nat) (a:AV) (v:Value),b[j]? =some a->vs[j]? =some v->an w A ρ a v)->aD w A ρ b vs
 | [],[],_,_=>by simp [aD]
 | [],_::_,h,_=>by simp at h
 | _::_,[],h,_=>by simp at h
 | a::b,v::vs,h,d=>by simp only [aD];exact⟨v,vs,rfl,d 0 a v rfl rfl,aD.wS (by simpa using h) λj a v e f=>d (j+1) a v (by simpa using e) (by simpa using f)⟩
theorem Ln{R:Type}(o:cc=none\/cc=some true):∀{ks:List Ck} {xs:List T} {vs:List Value} {col:Nat} {K:List T->Option R} {r:R},xs.length=vs.length->(∀(j:Nat) (x:T) (v:Value),j≠col->xs[j]? =some x->vs[j]? =some v->az w A x v)->
  (∀k,ks[col]? =some k->k= .x)->fJ cc ks xs K=some r->∃b,K b=some r/\b.length=vs.length/\∀j x v,j≠col->b[j]? =some x->vs[j]? =some v->az w A x v
 | [],xs,vs,col,K,r,hl,d,i,h=>⟨xs,h,hl,d⟩
 | k::ks,[],vs,col,K,r,hl,d,i,h=>⟨[],h,hl,by simp⟩
 | k::ks,x::xs,[],col,K,r,hl,d,i,h=>by simp at hl
 | k::ks,x::xs,v::vs,0,K,r,hl,d,i,h=>by
  simp only [fJ] at h;have:k= .x:=i k rfl;subst this;simp only [fX] at h;have C:ba w A xs vs:=by
   have z:∀(xs:List T) (vs:List Value),xs.length=vs.length->(∀(j:Nat) (x:T) (v:Value),xs[j]? =some x->vs[j]? =some v->az w A x v)->ba w A xs vs:=by
    intro xs;induction xs with
    | nil=>intro vs hl _;cases vs;rfl;simp at hl
    | cons x xs t=>
     intro vs hl d;cases vs with
     | nil=>simp at hl
     | cons v vs=>exact⟨v,vs,rfl,d 0 x v rfl rfl,t vs (by simpa using hl) λj x v e f=>d (j+1) x v (by simpa using e) (by simpa using f)⟩
   exact z xs vs (by simpa using hl) λj x v e f=>d (j+1) x v (by omega) (by simpa using e) (by simpa using f)
  obtain⟨b,h,g⟩:=xr o C h;have F:=g.length;refine⟨_,h,by simp;omega,λj y u p m l=> ?_⟩;cases j with
  | zero=>exact(p rfl).elim
  | succ j=>
   simp only [Yn] at m l;have:∀(b:List T) (vs:List Value) (j:Nat),ba w A b vs->b[j]? =some y->vs[j]? =some u->az w A y u:=by
    intro b;induction b with
    | nil=>intro vs j _ h;simp at h
    | cons a b t=>
     rintro vs j ⟨G,q,rfl,g1,n⟩ e f;cases j with
     | zero=>simp at e f;subst e;subst f;exact g1
     | succ j=>exact t q j n (by simpa using e) (by simpa using f)
   exact this b vs j g m l
 | k::ks,x::xs,v::vs,col+1,K,r,hl,d,i,h=>by
  simp only [fJ] at h;obtain⟨y,h,g1⟩:=qU o (d 0 x v (by omega) rfl rfl) h;obtain⟨b,h,n,D⟩:=Ln o (col:=col) (by simpa using hl) (λj x v p e f=>d (j+1) x v (by omega) (by simpa using e) (by simpa using f)) (λk B=>i k (by simpa using B)) h;refine⟨_,h,by simp [n],λj E u p m l=> ?_⟩;cases j with
  | zero=>simp at m l;subst m;subst l;exact g1
  | succ j=>exact D j E u (by omega) (by simpa using m) (by simpa using l)
theorem QJ{R:Type}{t:TypeId}{i:Id}{ah sz col rsz base off:Nat}{e:Row}{h:Id->Option ad}{K:AV->Option R}{r:R}(hs:HS c w h ρ O)(B:cB P t=true)(o:cc=none\/cc=some true)(m:jD w (AA c w O) ρ O i ah sz col rsz base e)(b:ug P t cc i sz col off e K=some r):
  ∃D v,K D=some r/\(loadVar t ⟨ah,base+off,none⟩).run P w= .ok v w/\an w (AA c w O) ρ D v:=by
 unfold ug at b;cases g:ca P t
 .simp only [g,cond_false] at b;split at b
  .rename_i d;subst d;obtain⟨_,_,_,v,M,N,_⟩:=m;exact⟨_,v,b,zV B g _ _ v M,by simp only [an];exact N⟩
  .rename_i G;replace b:=aW b o;obtain⟨x,z,b⟩:=b;have H:e.cs[off]? =some x:=by rw [List.head?_drop] at z;exact z
   obtain⟨u,g1,n⟩:=m.2.2.1 off x G H;obtain⟨y,b,L⟩:=qU o n b;exact⟨_,u,b,zV B g _ _ u g1,by simp only [an];exact L⟩
 .simp only [g,cond_true] at b;split at b
  .rename_i p;obtain⟨rfl,X⟩:=p;obtain⟨l,hl,Y,b⟩:=Ak o b;have S:=m.1;have F:l=e.cs:=by rw [hl,Y6 (by omega)]
   subst F;obtain⟨vs,Z,U,V,vc,I,J⟩:=m.bE;have Q:=m.2.1;obtain⟨W,b,g1,n⟩:=Ln o (ks:=(vr P t).set col .x) (col:=col) (by omega) V (λk b=>by
    rw [Yx] at b;simp only [if_true] at b;split at b
    .simpa using b.symm
    .cases b) b
   refine⟨_, .agg vs.toArray,b, ?_, ?_⟩
   .rw [Y9];exact Dq B g _ _ vs (by omega) U
   .simp only [an];refine⟨vs,rfl,aD.wS (by simp [g1]) λj a v f C=> ?_,λu T=> ?_⟩
    .rw [Yx] at f;by_cases d:col=j
     .subst d;rw [if_pos rfl] at f;split at f
      .simp only [W5] at f;subst f;rw [I] at C;cases C;simp only [an];exact J
      .cases f
     .rw [if_neg d,XU] at f;obtain⟨x,z,rfl⟩:=Yo.1 f;simp only [an];exact n j x v (λe=>d e.symm) z C
    .obtain⟨j,q⟩:=Zr.1 T;by_cases d:j=col
     .subst d;rw [I] at q;cases q;exact hs.gone _ _ _ J
     .have E:j < W.length:=by have:=(W9.1 q).1;omega
      exact(n j _ u d (Xd E) q).sE
  .cases b
theorem ID{R:Type}{t:TypeId}{a:AV}{va:Value}{K:AV->Option R}{r:R}(hs:HS c w s.h ρ O)(g:an w (AA c w O) ρ a va)(m:cc=none\/cc=some true)(h:iz P s cc t a K=some r):
  ∃f v,K f=some r/\(Instr.loadAt t va).run P w= .ok v w/\an w (AA c w O) ρ f v:=by
 unfold iz at h;cases C:cB P t
 .simp [C] at h
 simp only [C,cond_true] at h;split at h
 .rename_i i off;split at h
  .rename_i cs E;obtain⟨b,arr,V,z,I,Z,S,D,h6⟩:=A8 hs E;simp only [an] at g;obtain⟨b',d,rfl⟩:=g;rw [z] at d;simp only [W5,YI,Yd] at d;obtain⟨rfl,_⟩:=d;obtain⟨f,v,g1,M,N⟩:=QM (b:=b) (off:=off) C (S.drop off) (λu hu=>D u (Zg hu)) (λj v hj=>h6 _ v (by rw [YT] at hj;exact hj)) h;exact⟨f,v,g1,by simpa [Instr.loadAt,Instr.sureAddr] using M,N⟩
  .rename_i l E;obtain⟨b,z,I,Z,S⟩:=hs.ah i _ E;simp only [an] at g;obtain⟨b',d,rfl⟩:=g;rw [z] at d;simp only [W5,YI,Yd] at d;obtain⟨rfl,_⟩:=d;have D:=S.drop off;rw [XF] at D;obtain⟨f,v,g1,M,N⟩:=zj C m D h;exact⟨f,v,g1,by simpa [Instr.loadAt,Instr.sureAddr] using M,N⟩
  .simp at h
 .rename_i i sz k off;split at h
  .rename_i fz sz' bb xs E;split at h
   .rename_i B;subst B;replace h:=aW h m;obtain⟨cs,p,h⟩:=h;obtain⟨v,z,I⟩:=sQ hs E;simp only [an] at g;obtain⟨b,o,L,cap,d,rfl⟩:=g;rw [z] at d;simp only [W5] at d;subst d;obtain⟨a',cap',g1,M,N,g4,Q⟩:=I;simp only [Yg] at g1;obtain⟨rfl,rfl,rfl⟩:=g1;have U:k < xs.length:=(W9.1 p).1;rcases Q with Q | ⟨ah,off',arr,V,y,W,X,Y,q⟩
    .omega
    .simp only [W5,Yd] at y;obtain⟨rfl,rfl,_⟩:=y;obtain⟨_,J⟩:=q.get p;obtain⟨f,v,F,G,H⟩:=zj (ρ:=ρ) C m (J.drop off) h;exact⟨f,v,F,by simpa [Instr.loadAt,Instr.sureAddr] using G,H⟩
   .simp at h
  .rename_i bb sz' col rsz nx es E;split at h
   .rename_i B;subst B;replace h:=aW h m;obtain⟨e,p,h⟩:=h;obtain⟨a,cap,z,I,Z,S,D⟩:=hs.ah i _ E;simp only [an] at g;obtain⟨b,o,L,cap',d,rfl⟩:=g;rw [z] at d;simp only [W5,Yg] at d;obtain⟨rfl,rfl,rfl⟩:=d;have U:k < es.length:=(W9.1 p).1;rcases D with D | ⟨ah,off',arr,V,y,W,X,Y,q⟩
    .omega
    .simp only [W5,Yd] at y;obtain⟨rfl,rfl,_⟩:=y;obtain⟨f,v,F,G,H⟩:=QJ hs C m (q.get p) h;exact⟨f,v,F,by simpa [Instr.loadAt,Instr.sureAddr] using G,H⟩
   .simp at h
  .simp at h
 .rename_i i sz n k off;replace h:=Dl hs m h;obtain⟨rsz,bb,xs,v,h,hv,hsl⟩:=h;split at h
  .rename_i B;subst B;replace h:=aW h m;obtain⟨cs,p,h⟩:=h;simp only [an] at g;obtain⟨b,o,L,cap,d,rfl⟩:=g;rw [hv] at d;simp only [W5] at d;subst d;obtain⟨a',cap',g1,M,N,g4,Q⟩:=hsl;simp only [Yg] at g1;obtain⟨rfl,rfl,rfl⟩:=g1;have U:k < xs.length:=(W9.1 p).1;rcases Q with Q | ⟨ah,off',arr,V,y,W,X,Y,q⟩
   .omega
   .simp only [W5,Yd] at y;obtain⟨rfl,rfl,_⟩:=y;obtain⟨_,J⟩:=q.get p;obtain⟨f,v,F,G,H⟩:=zj (ρ:=ρ) C m (J.drop off) h;exact⟨f,v,F,by simpa [Instr.loadAt,Instr.sureAddr] using G,H⟩
  .simp at h
 .rename_i x;replace h:=aW h m;obtain⟨cs,p,h⟩:=h;have:=T.zG p;subst this;simp only [an,az] at g;obtain⟨ah,off,rfl,z,I⟩:=g;obtain⟨f,v,F,G,H⟩:=zj (ρ:=ρ) C m I h;exact⟨f,v,F,by simpa [Instr.loadAt,Instr.sureAddr] using G,H⟩
 .simp at h
theorem BZ{t:TypeId}{f:Nat}{p:Nat×TypeId}(h:vW P t f=some p):∃a x,P.underlying t=some (.struct a)/\a[f]? =some x/\p= (x.offset,x.type)/\cB P p.2=true:=by
 unfold vW at h;split at h
 .rename_i a d;split at h
  .rename_i x e;cases b:cB P x.type
   .simp [b] at h
   .simp only [b,cond_true,W5] at h;subst h;exact⟨a,x,d,e,rfl,b⟩
  .simp at h
 .simp at h
theorem yG{t e:TypeId}(h:oF P t=some e):P.underlying t=some (.slice e)/\cB P e=true:=by
 unfold oF at h;split at h
 .rename_i e' b;cases a:cB P e'
  .simp [a] at h
  .simp only [a,cond_true,W5] at h;subst h;exact⟨b,a⟩
 .simp at h
theorem EN{t:TypeId}{p:Nat×TypeId}(h:x6 P t=some p):P.underlying t=some (.array p.1 p.2)/\cB P p.2=true:=by
 unfold x6 at h;split at h
 .rename_i n e' b;cases a:cB P e'
  .simp [a] at h
  .simp only [a,cond_true,W5] at h;subst h;exact⟨b,a⟩
 .simp at h
theorem P1{R:Type}{t:TypeId}{x:AV}{m:Value}{f:Nat}{K:AV->Option R}{r:R}(a:an w A ρ x m)(C:cc=none\/cc=some true)(h:tU P cc t x f K=some r):
  ∃i v,K i=some r/\(Instr.fieldAt t m f).run P w= .ok v w/\an w A ρ i v:=by
 unfold tU at h;split at h
 .rename_i off u D;obtain⟨G,y,q,z,l,B⟩:=BZ D;simp only [XP] at l;obtain⟨rfl,rfl⟩:=l;split at h
  .simp at h
  .rename_i F;have d:∀b o,(Instr.fieldAt t (.pointer (some ⟨b,o,none⟩)) f).run P w= .ok (.pointer (some ⟨b,o+y.offset,none⟩)) w:=by
    intro b o;simp [Instr.fieldAt,run_underlying q,z,Instr.sureAddr,fieldPlace,jU B,F,iF]
   split at h
   .rename_i j o;simp only [an] at a;obtain⟨b,e,rfl⟩:=a;exact⟨_,_,h,d _ _,by simp only [an];exact⟨b,e,rfl⟩⟩
   .rename_i j sz k o;simp only [an] at a;obtain⟨b,g,L,cap,e,rfl⟩:=a;exact⟨_,_,h,d _ _,by simp only [an];exact⟨b,g,L,cap,e,by rw [Ze]⟩⟩
   .rename_i j sz n k o;simp only [an] at a;obtain⟨b,g,L,cap,e,rfl⟩:=a;exact⟨_,_,h,d _ _,by simp only [an];exact⟨b,g,L,cap,e,by rw [Ze]⟩⟩
   .rename_i H;replace h:=aW h C;obtain⟨cs,E,h⟩:=h;have:=T.zG E;subst this;simp only [an,az] at a;obtain⟨ah,o,rfl,g1,p⟩:=a;refine⟨_,_,h,d _ _, ?_⟩;simp only [an,az];refine⟨ah,_,rfl, ?_,p.drop _⟩;rcases g1 with rfl | g1
    .exact .inl (by simp)
    .exact .inr g1
   .simp at h
 .simp at h
theorem qq{R:Type}{i:Int}{n:Nat}{K:Option R}{r:R}(d:cc=none\/cc=some true)(h:lF cc i n K=some r): 0<=i/\i < n/\K=some r:=by
 unfold lF at h;replace h:=aW h d;obtain⟨_,a,h⟩:=h;split at a
 .rename_i b;exact⟨b.1,b.2,h⟩
 .simp at a
theorem Qm{R:Type}{t:TypeId}{x:AV}{vx:Value}{i:Int}{ki:IntKind}{K:AV->Option R}{r:R}(hs:HS c w s.h ρ O)(d:an w (AA c w O) ρ x vx)(q:cc=none\/cc=some true)(h:kE P s cc t x i K=some r):
  ∃V v,K V=some r/\(Instr.indexAt t vx (.int ki i)).run P w= .ok v w/\an w (AA c w O) ρ V v:=by
 unfold kE at h;split at h
 .rename_i e J;obtain⟨M,F⟩:=yG J;have g:∀b o len cap,0<=i->i < (len:Nat)->(Instr.indexAt t (.slice (some ⟨b,o,none⟩) len cap) (.int ki i)).run P w= .ok (.pointer (some ⟨b,o+i.toNat * P.cellsOf e,none⟩)) w:=by
   intro b o len cap h0 f;simp [Instr.indexAt,asIntOf,run_underlying M,h0,f,jU F,iF]
  split at h
  .rename_i j;split at h
   .rename_i fz sz bb xs D;split at h
    .rename_i m;subst m;obtain⟨h0,f,h⟩:=qq q h;obtain⟨v,g1,l⟩:=sQ hs D;simp only [an] at d;rw [g1] at d;simp only [W5] at d;subst d;obtain⟨I,cap',C,q2,q3,q4,u⟩:=l;rcases u with u | ⟨ah,off',arr,U,B,N,Q,S,G⟩
     .omega
     .subst B;subst C;exact⟨_,_,h,g _ _ _ _ h0 f,by simp only [an];exact⟨ah,off',_,_,g1,by simp⟩⟩
    .simp at h
   .rename_i bb sz col rsz nx es D;split at h
    .rename_i m;subst m;obtain⟨h0,f,h⟩:=qq q h;obtain⟨a,cap,g1,l,X,g4,H⟩:=hs.ah j _ D;simp only [an] at d;rw [g1] at d;simp only [W5] at d;subst d;rcases H with H | ⟨ah,off',arr,U,B,N,Q,S,G⟩
     .omega
     .subst B;exact⟨_,_,h,g _ _ _ _ h0 f,by simp only [an];exact⟨ah,off',_,_,g1,by simp⟩⟩
    .simp at h
   .simp at h
  .rename_i j n;replace h:=Dl hs q h;obtain⟨rsz,bb,xs,v,h,hv,Z⟩:=h;split at h
   .rename_i m;subst m;obtain⟨h0,f,h⟩:=qq q h;simp only [an] at d;rw [hv] at d;simp only [W5] at d;subst d;obtain⟨I,cap',C,q2,q3,q4,u⟩:=Z;rcases u with u | ⟨ah,off',arr,U,B,N,Q,S,G⟩
    .omega
    .subst B;subst C;exact⟨_,_,h,g _ _ _ _ h0 f,by simp only [an];exact⟨ah,off',_,_,hv,by simp⟩⟩
   .simp at h
  .rename_i j sz off n;split at h
   .rename_i fz sz' bb xs D;split at h
    .rename_i m;obtain⟨rfl,rfl⟩:=m;obtain⟨h0,f,h⟩:=qq q h;obtain⟨v,g1,l⟩:=sQ hs D;simp only [an] at d;obtain⟨a,L,cap,I,z,e2,e3,rfl,e4⟩:=d;rw [g1] at z;simp only [W5] at z;subst z;obtain⟨a'',cap'',C,q2,q3,q4,u⟩:=l;simp only [Yg] at C;obtain⟨rfl,rfl,rfl⟩:=C;rcases u with u | ⟨ah,off',arr,U,B,N,Q,S,G⟩
     .omega
     .subst B;have ea:I=some ⟨ah,off'+off * P.cellsOf e,none⟩:=by
       rcases e4 with⟨rfl,rfl⟩ | ⟨rfl,_⟩ | ⟨b,o,W,e6⟩
       .simp
       .omega
       .simp only [W5,Yd] at W;obtain⟨rfl,rfl,_⟩:=W;exact e6
      subst ea;refine⟨_,_,h,g _ _ _ _ h0 f, ?_⟩;simp only [an];exact⟨ah,off',_,_,g1,by congr 3;rw [YW];omega⟩
    .simp at h
   .simp at h
  .rename_i y;replace h:=aW h q;obtain⟨p,hp,h⟩:=h;obtain⟨h0,f,h⟩:=qq q h;replace h:=aW h q;obtain⟨cs,E,h⟩:=h;rcases T.su hp with rfl | ⟨rfl,Y⟩
   .simp only [an,az] at d;rcases d with⟨_,e,_⟩ | ⟨_,ah,off,sp,cap,rfl,g1,l,X⟩
    .rw [e] at f;simp at f;omega
    .rcases l with l | ⟨rfl,l⟩
     .rw [l] at E;simp at E
     refine⟨_,_,h,g _ _ _ _ h0 f, ?_⟩;obtain⟨g4,H⟩:=X.get E;simp only [an,az];exact⟨ah,_,rfl, .inr l,H⟩
   .rw [Y] at f;simp at f;omega
  .simp at h
 .split at h
  .rename_i n e J;obtain⟨M,F⟩:=EN J;obtain⟨h0,f,h⟩:=qq q h;have g:∀b o,(Instr.indexAt t (.pointer (some ⟨b,o,none⟩)) (.int ki i)).run P w= .ok (.pointer (some ⟨b,o+i.toNat * P.cellsOf e,none⟩)) w:=by
    intro b o;simp [Instr.indexAt,asIntOf,run_underlying M,Instr.sureAddr,h0,f,jU F,iF]
   split at h
   .rename_i j off;simp only [an] at d;obtain⟨b,z,rfl⟩:=d;exact⟨_,_,h,g _ _,by simp only [an];exact⟨b,z,rfl⟩⟩
   .rename_i j sz k off;simp only [an] at d;obtain⟨b,o',L,cap,z,rfl⟩:=d;exact⟨_,_,h,g _ _,by simp only [an];exact⟨b,o',L,cap,z,by rw [Ze]⟩⟩
   .rename_i y;replace h:=aW h q;obtain⟨cs,E,h⟩:=h;have:=T.zG E;subst this;simp only [an,az] at d;obtain⟨ah,o,rfl,g1,l⟩:=d;refine⟨_,_,h,g _ _, ?_⟩;simp only [an,az];refine⟨ah,_,rfl, ?_,l.drop _⟩;rcases g1 with rfl | g1
    .exact .inl (by simp)
    .exact .inr g1
   .simp at h
  .simp at h
end
open Go Go.IntKind
section
variable {P:Program} {w w':World} {A A':Nat->Prop} {c:Ctx} {ρ:Id->Option Value} {O:Id->Option Nat} {s:St} {cc:Option Bool}
theorem Qx{R:Type}{t ty:TypeId}{ts:Array TypeId}{x:AV}{z:Value}{K:AV->Option R}{r:R}(hs:HS c w s.h ρ O)(d:an w (AA c w O) ρ x z)(k:cc=none\/cc=some true)(h:oR P s cc t x K=some r)
  (g:ts[0]? =some t):∃q v,K q=some r/\(Builtin.len_ ts ty #[z]).run P w= .ok v w/\an w (AA c w O) ρ q v:=by
 unfold oR at h;split at h
 .rename_i i;split at h
  .rename_i y;replace h:=aW h k;obtain⟨b,B,h⟩:=h;have:=T.lP B;subst this;simp only [an,az] at d;subst d;exact⟨_,_,h,by simp [Builtin.len_,g,run_underlying i];rfl,by simp only [an];exact hI _ _ _ _⟩
  .simp at h
 .rename_i n e i;exact⟨_,_,h,by simp [Builtin.len_,g,run_underlying i];rfl,by simp only [an];exact hI _ _ _ _⟩
 .rename_i e i;have f:∀a n cap,(Builtin.len_ ts ty #[.slice a n cap]).run P w= .ok (goInt n) w:=by
   intro a n cap;simp [Builtin.len_,g,run_underlying i]
  split at h
  .rename_i j;split at h
   .rename_i fz sz bb xs l;obtain⟨v,g1,o,cap',m,M,N,Q,S⟩:=sQ hs l;simp only [an] at d;rw [g1] at d;simp only [W5] at d;subst d;subst m;exact⟨_,_,h,f _ _ _,by simp only [an];exact hI _ _ _ _⟩
   .rename_i bb sz col rsz J es l;obtain⟨a,cap,g1,_⟩:=hs.ah j _ l;simp only [an] at d;rw [g1] at d;simp only [W5] at d;subst d;exact⟨_,_,h,f _ _ _,by simp only [an];exact hI _ _ _ _⟩
   .simp at h
  .rename_i j n;replace h:=Dl hs k h;obtain⟨rsz,bb,xs,v,h,D,o,cap',m,_⟩:=h;simp only [an] at d;rw [D] at d;simp only [W5] at d;subst d;subst m;exact⟨_,_,h,f _ _ _,by simp only [an];exact hI _ _ _ _⟩
  .rename_i j sz off n;simp only [an] at d;obtain⟨a,L,cap,o,E,F,e3,rfl,G⟩:=d;exact⟨_,_,h,f _ _ _,by simp only [an];exact hI _ _ _ _⟩
  .rename_i y;replace h:=aW h k;obtain⟨p,C,h⟩:=h;rcases T.su C with rfl | ⟨rfl,u⟩
   .simp only [an,az] at d;rcases d with⟨_,e,rfl⟩ | ⟨_,ah,off,sp,cap,rfl,g1,H,I⟩
    .refine⟨_,_,h,f _ _ _, ?_⟩;simp only [an,e];exact hI _ _ _ _
    .exact⟨_,_,h,f _ _ _,by simp only [an];exact hI _ _ _ _⟩
   .simp only [an,az] at d;rw [u] at h;rcases d with⟨_,rfl⟩ | ⟨_,ah,off,sp,rfl⟩ <;> exact⟨_,_,h,f _ _ _,by simp only [an];exact hI _ _ _ _⟩
  .simp at h
 .simp at h
theorem AN{x:T}{n:Int}(h:jJ.anyInt x=some n):∃k,x= .int k n:=by cases x <;> simp_all [jJ.anyInt]
def kc(b:Option Int)(v:Option Value):Prop:=match b,v with
 | none,none=>True
 | some n,some (.int _ m)=>m=n
 | _,_=>False
theorem A7{R:Type}{a:Act}{g:Option Gs}{o:Option Operand}{K:Option Int->Option R}{r:R}(j:SS w A ρ s.t a.tmps)(i:lY a.tmps g)(e:cc=none\/cc=some true)(h:jJ s cc g o K=some r):
  ∃b,K b=some r/\kc b (o.map a.eval):=by
 unfold jJ at h;split at h
 .exact⟨none,h,trivial⟩
 .rename_i o;cases d:(s.get g o).t? with
  | none=>simp [d] at h
  | some x=>simp only [d,Xb] at h;replace h:=aW h e;obtain⟨n,f,h⟩:=h;obtain⟨k,rfl⟩:=AN f;have:=SS.get (h:=s.h) j i o;rw [show(⟨s.t,s.h⟩:St)=s from rfl,AV.nf d] at this;simp only [an,az] at this;exact⟨some n,h,by simp [kc,this]⟩
theorem y0{b a n:Int}(h:gH b a n=some ()): 0<=b/\b<=a/\a<=n:=by
 unfold gH at h;split at h
 .assumption
 .simp at h
theorem xB{v:Option Value}(h:kc none v):v=none:=by cases v <;> simp_all [kc]
theorem sZ{n:Int}{v:Option Value}(h:kc (some n) v):∃k,v=some (.int k n):=by
 cases v with
 | none=>simp [kc] at h
 | some v=>cases v <;> simp_all [kc]
theorem uF(k:IntKind)(n:Int)(y:Nat)(a:BoundsCode)(h0: 0<=n)(b:n<=y):(Instr.sliceBound (.int k n) y a).run P w= .ok n.toNat w:=run_sliceBound w k n y a h0 b
theorem Ki(p:Bool){b f:Option Int}{j i:Option Value}{len cap:Nat}(hl:kc b j)(o:kc f i)(g: 0<=b.getD 0)(d:b.getD 0<=f.getD len)(l:f.getD len<=cap):
  (Instr.sliceBounds p len cap j i none).run P w= .ok ((b.getD 0).toNat,(f.getD len).toNat,cap) w:=by
 cases f with
 | none=>
  have:=xB o;subst this;simp only [aad] at d l⊢;cases b with
  | none=>have:=xB hl;subst this;simp [Instr.sliceBounds]
  | some n=>obtain⟨k,rfl⟩:=sZ hl;simp only [YM] at g d⊢;have e:=uF (P:=P) (w:=w) k n len .sliceB g d;simp [Instr.sliceBounds,e]
 | some m=>
  obtain⟨q,rfl⟩:=sZ o;simp only [YM] at d l⊢;have e':∀a,(Instr.sliceBound (.int q m) cap a).run P w= .ok m.toNat w:=λa=>uF q m cap a (by omega) l;cases b with
  | none=>have:=xB hl;subst this;simp [Instr.sliceBounds,e']
  | some n=>obtain⟨k,rfl⟩:=sZ hl;simp only [YM] at g d⊢;have e:=uF (P:=P) (w:=w) k n m.toNat .sliceB g (by omega);simp [Instr.sliceBounds,e,e']
theorem U2{R:Type}{t:TypeId}{x:AV}{vx:Value}{g C mx:Option Int}{V U F:Option Value}{K:AV->Option R}{r:R}(hs:HS c w s.h ρ O)(q:an w (AA c w O) ρ x vx)(J:cc=none\/cc=some true)
  (hl:kc g V) (hh:kc C U) (hm:kc mx F) (h:pn P s cc t x g C mx K=some r):
  ∃av v,K av=some r/\(Instr.sliceAt t vx V U F).run P w= .ok v w/\an w (AA c w O) ρ av v:=by
 unfold pn at h;split at h
 .rename_i hu;split at h
  .rename_i y;replace h:=aW h J;obtain⟨b,I,h⟩:=h;have:=T.lP I;subst this;simp only [an,az] at q;subst q;replace h:=aW h J;obtain⟨_,I,h⟩:=h;obtain⟨D,l,B⟩:=y0 I;have hvm:F=none:=by cases F with | none=>rfl | some v=>simp [kc] at hm
   subst hvm;refine⟨_,_,h, ?_,by simp only [an];exact mU _ _ _⟩;have:=Ki (P:=P) (w:=w) false (len:=b.size) (cap:=b.size) hl hh D l B;simp [Instr.sliceAt,Instr.slice,run_underlying hu,this]
  .simp at h
 .rename_i e hu;split at h
  .have hvm:F=none:=by cases F with | none=>rfl | some v=>simp [kc] at hm
   subst hvm
   have z:cB P e=true->∀(a:Option Addr) (len cap:Nat),0<=g.getD 0->g.getD 0<=C.getD len->C.getD len<=cap->
     (Instr.sliceAt t (.slice a len cap) V U none).run P w= .ok (.slice (if cap= (g.getD 0).toNat then a else a.map (·.add ((g.getD 0).toNat * P.cellsOf e))) ((C.getD len).toNat - (g.getD 0).toNat) (cap - (g.getD 0).toNat)) w:=by
    intro f a len cap D l B;have:=Ki (P:=P) (w:=w) true hl hh D l B;simp [Instr.sliceAt,Instr.slice,run_underlying hu,this,jU f]
   split at h
   .rename_i j;split at h
    .rename_i fz sz bb xs hj;split at h
     .rename_i Q;obtain⟨Q,f⟩:=Q;subst Q;replace h:=aW h J;obtain⟨_,I,h⟩:=h;obtain⟨D,l,B⟩:=y0 I;obtain⟨v,g1,G,cap',W,q2,q3,q4,X⟩:=sQ hs hj;simp only [an] at q;rw [g1] at q;simp only [W5] at q;subst q;subst W;refine⟨_,_,h,z f _ _ _ D l (by omega), ?_⟩;simp only [an];refine⟨G,_,cap',_,g1,by omega,q2,rfl, ?_⟩;by_cases e0:(g.getD 0).toNat=0
      .left;refine⟨e0, ?_⟩;rw [e0];split
       .rfl
       .cases G <;> simp [Addr.add]
      .by_cases i:cap'= (g.getD 0).toNat
       .right;left;rw [if_pos i];exact⟨i.symm,Zs,q4⟩
       .right;right;rw [if_neg i];rcases X with X | ⟨ah,off',arr,t',q6,_⟩
        .omega
        .subst q6;exact⟨ah,off',rfl,by simp [iF]⟩
     .simp at h
    .simp at h
   .rename_i j sz off n;split at h
    .rename_i fz sz' bb xs hj;split at h
     .rename_i Q;obtain⟨rfl,rfl,f⟩:=Q;replace h:=aW h J;obtain⟨_,I,h⟩:=h;obtain⟨D,l,B⟩:=y0 I;simp only [an] at q;obtain⟨a,L,cap,G,i,e2,e3,rfl,e4⟩:=q;obtain⟨v,g1,a'',cap'',W,q2,q3,q4,X⟩:=sQ hs hj;rw [g1] at i;simp only [W5] at i;subst i;simp only [Yg] at W;obtain⟨rfl,rfl,rfl⟩:=W;refine⟨_,_,h,z f _ _ _ D l (by omega), ?_⟩;simp only [an];refine⟨a,_,cap,_,g1,by omega,e3,by congr 1;omega, ?_⟩;by_cases e0:(g.getD 0).toNat=0
      .have:(if cap - off= (g.getD 0).toNat then G else G.map (·.add ((g.getD 0).toNat * P.cellsOf e)))=G:=by
        rw [e0];split
        .rfl
        .cases G <;> simp [Addr.add]
       rw [this,e0,Y9];exact e4
      .by_cases N:cap - off= (g.getD 0).toNat
       .right;left;rw [if_pos N];refine⟨by omega, ?_, ?_⟩
        .rcases e4 with⟨_,rfl⟩ | ⟨_,E,_⟩ | ⟨b,o,rfl,rfl⟩
         .exact Zs
         .exact E
         .simp
        .trivial
       .right;right;rw [if_neg N];rcases X with X | ⟨ah,off',arr,t',q6,_⟩
        .omega
        .subst q6;rcases e4 with⟨e7,rfl⟩ | ⟨e7,_⟩ | ⟨b,o,E,rfl⟩
         .subst e7;exact⟨ah,off',rfl,by simp [iF]⟩
         .omega
         .exact⟨b,o,E,by simp [iF,YW,Ze]⟩
     .simp at h
    .simp at h
   .rename_i y;split at h
    .rename_i f;replace h:=aW h J;obtain⟨p,hp,h⟩:=h;replace h:=aW h J;obtain⟨_,I,h⟩:=h;obtain⟨D,l,B⟩:=y0 I;rcases T.su hp with rfl | ⟨rfl,hp2⟩
     .simp only [an,az] at q;rcases q with⟨i,e,rfl⟩ | ⟨i,ah,off,sp,cap,rfl,g1,H,g3⟩
      .rw [e] at l B h;refine⟨_,_,h,z f _ _ _ (by simpa using D) (by simpa using l) (by simpa using B), ?_⟩;simp only [Xu,XN] at l B;have N:(g.getD 0).toNat=0:=by omega
       have E:(C.getD ((0:Nat):Int)).toNat=0:=by
        have:C.getD ((0:Nat):Int)=C.getD 0:=by simp
        rw [this];omega
       simp only [an,az,sub,List.drop_nil,List.take_nil];left;refine⟨i,trivial, ?_⟩;rw [E];simp
      .refine⟨_,_,h,z f _ _ _ D l (by omega), ?_⟩;simp only [an,az];right;refine⟨i, ?_⟩;by_cases N:cap= (g.getD 0).toNat
       .rw [if_pos N];have E:(C.getD ((p.2.length:Nat):Int)).toNat - (g.getD 0).toNat=0:=by omega
        refine⟨ah,off,sp,cap - (g.getD 0).toNat, ?_, ?_, .inl ?_, ?_⟩
        .simp only [sub,E,Z2,Xu]
        .simp only [sub,E,Z2,Xu];omega
        .simp [sub,E]
        .simp [sub,E,bx]
       .rw [if_neg N];have M:(sub (g.getD 0) (C.getD ((p.2.length:Nat):Int)) p.2).length= (C.getD ((p.2.length:Nat):Int)).toNat - (g.getD 0).toNat:=by
         simp only [sub,XW,Yi];omega
        rcases H with H | ⟨H,g4⟩
        .have e7:(g.getD 0).toNat=0:=by rw [H] at B;simp only [Xu] at B;rw [H] at l;simp only [Xu] at l;omega
         refine⟨ah,off,sp,cap - (g.getD 0).toNat, ?_, ?_, .inl (by simp [sub,H]),by simp [sub,H,bx]⟩
         .rw [M,e7];simp [Addr.add]
         .rw [M];omega
        .subst H;refine⟨ah,off+ (g.getD 0).toNat * P.cellsOf e,none,cap - (g.getD 0).toNat, ?_, ?_, .inr ⟨rfl,g4⟩, ?_⟩
         .rw [M];simp only [YJ,iF]
         .rw [M];omega
         .exact(g3.drop _).take _
     .rw [hp2] at l B h;simp only [an,az] at q;simp only [Xu,XN] at l B;have N:(g.getD 0).toNat=0:=by omega
      have E:(C.getD ((0:Nat):Int)).toNat=0:=by
       have:C.getD ((0:Nat):Int)=C.getD 0:=by simp
       rw [this];omega
      rcases q with⟨i,rfl⟩ | ⟨i,ah,off,sp,rfl⟩
      .refine⟨_,_,h,z f _ _ _ (by simpa using D) (by simpa using l) (by simpa using B), ?_⟩;simp only [an,az,sub,List.drop_nil,List.take_nil];left;refine⟨i,trivial, ?_⟩;rw [E];simp
      .refine⟨_,_,h,z f _ _ _ (by simpa using D) (by simpa using l) (by simpa using B), ?_⟩;simp only [an,az,sub,List.drop_nil,List.take_nil,bx];right;refine⟨i,ah,off,sp,0, ?_,by simp, .inl trivial,trivial⟩;rw [N,E];simp
    .simp at h
   .simp at h
  .rename_i m;obtain⟨km,rfl⟩:=sZ hm
   have z:cB P e=true->g.getD 0=0->C.getD 1=0->m=0->∀(a:Option Addr) (len cap:Nat),
     (Instr.sliceAt t (.slice a len cap) V U (some (.int km m))).run P w= .ok (.slice a 0 0) w:=by
    intro f D l B a len cap;cases C with
    | none=>simp at l
    | some hn=>
     obtain⟨kh,rfl⟩:=sZ hh;simp only [YM] at l;subst l;subst B;have i:∀k,(Instr.sliceBound (.int km 0) cap k).run P w= .ok 0 w:=λk=>uF km 0 cap k (by omega) (by omega);have e2:∀k,(Instr.sliceBound (.int kh 0) 0 k).run P w= .ok 0 w:=λk=>uF kh 0 0 k (by omega) (by omega);cases g with
     | none=>have:=xB hl;subst this;simp [Instr.sliceAt,Instr.slice,run_underlying hu,Instr.sliceBounds,i,e2,jU f]
     | some ln=>obtain⟨kl,rfl⟩:=sZ hl;simp only [YM] at D;subst D;have e3:∀k,(Instr.sliceBound (.int kl 0) 0 k).run P w= .ok 0 w:=λk=>uF kl 0 0 k (by omega) (by omega);simp [Instr.sliceAt,Instr.slice,run_underlying hu,Instr.sliceBounds,i,e2,e3,jU f]
   have zs:∀{a b d:Int} {u:Unit},Aw a b d=some u->a=0/\b=0/\d=0:=by
    intro a b d u S;unfold Aw at S;split at S
    .assumption
    .simp at S
   split at h
   .rename_i y;split at h
    .rename_i f;replace h:=aW h J;obtain⟨p,hp,h⟩:=h;replace h:=aW h J;obtain⟨_,S,h⟩:=h;obtain⟨Y,Z,z3⟩:=zs S;rcases T.su hp with rfl | ⟨rfl,hp2⟩
     .simp only [an,az] at q;rcases q with⟨i,e,rfl⟩ | ⟨i,ah,off,sp,cap,rfl,g1,H,g3⟩
      .exact⟨_,_,h,z f Y Z z3 _ _ _,by simp only [an,az];exact .inl ⟨i,trivial⟩⟩
      .exact⟨_,_,h,z f Y Z z3 _ _ _,by simp only [an,az];exact .inr ⟨i,ah,off,sp,rfl⟩⟩
     .simp only [an,az] at q;rcases q with⟨i,rfl⟩ | ⟨i,ah,off,sp,rfl⟩
      .exact⟨_,_,h,z f Y Z z3 _ _ _,by simp only [an,az];exact .inl ⟨i,trivial⟩⟩
      .exact⟨_,_,h,z f Y Z z3 _ _ _,by simp only [an,az];exact .inr ⟨i,ah,off,sp,rfl⟩⟩
    .simp at h
   .rename_i j;split at h
    .rename_i fz sz bb xs hj;split at h
     .simp at h
     .rename_i f;simp only [Bool.not_eq_false] at f;replace h:=aW h J;obtain⟨_,S,h⟩:=h;obtain⟨Y,Z,z3⟩:=zs S;obtain⟨v,g1,G,cap',W,q2,q3,q4,X⟩:=sQ hs hj;simp only [an] at q;rw [g1] at q;simp only [W5] at q;subst q;subst W;refine⟨_,_,h,z f Y Z z3 _ _ _, ?_⟩;simp only [an,az];cases bb
      .right;cases G with
       | none=>simp at q3
       | some x=>obtain⟨b,o,sp⟩:=x;exact⟨rfl,b,o,sp,rfl⟩
      .left;exact⟨rfl,by rw [q3.2 rfl]⟩
    .simp at h
   .simp at h
 .simp at h
end
open Go Go.IntKind
section
variable {P:Program} {w w':World} {A A':Nat->Prop} {c:Ctx} {ρ:Id->Option Value} {O:Id->Option Nat} {s:St} {cc:Option Bool} {h:Id->Option ad}
def uy(v:AV)(i:Id):Prop:=v= .own i\/(∃sz off n,v= .part i sz off n)\/∃off,v= .ref i off
theorem pk{i:Id}{fz b:Bool}{sz:Nat}{l:List (List T)}(hs:HS c w h ρ O)(e:h i=some (.sl fz sz b l)):∃v,ρ i=some v/\dr w (AA c w O) sz b l v (λah=>if fz=true then AA c w O ah else O i=some ah):=by obtain⟨v,a,d,_⟩:=hs.ah i _ e;exact⟨v,a,d⟩
theorem oc{v:AV}{x:T}{u:Value}(hs:HS c w h ρ O)(e:an w (AA c w O) ρ v u)(d:eD h v=some x)
  (m:∀b,AA c w O b->A' b) (R:∀i ah,uy v i->O i=some ah->A' ah):az w A' x u:=by
 have mono:∀(t:T) (v:Value),az w (AA c w O) t v->az w A' t v:=λt v hr=>az.mono (λb p=>⟨m b p,rfl⟩) t v hr;cases v <;> simp only [eD,reduceCtorEq,W5] at d
 case t y=>subst d;simp only [an] at e;exact mono _ _ e
 case own i=>
  split at d
  .rename_i fz sz b xs q;simp only [W5] at d;subst d;obtain⟨v',g1,a,cap,H,V,E,q4,f⟩:=pk hs q;simp only [an] at e;rw [g1] at e;simp only [W5] at e;subst e;subst H;simp only [az];cases b with
   | true=>
    left;have:a=none:=E.2 rfl;subst this;rcases f with f | ⟨ah,off,arr,t,z,_⟩
    .have:xs= []:=Xz.1 (by omega);subst this;subst f;exact⟨rfl,rfl,rfl⟩
    .cases z
   | false=>
    right;refine⟨rfl, ?_⟩;rcases f with f | ⟨ah,off,arr,t,z,F,q8,q9,D⟩
    .have:xs= []:=Xz.1 (by omega);subst this;cases a with
     | none=>simp at E
     | some y=>obtain⟨K,o,sp⟩:=y;exact⟨K,o,sp,cap,rfl,V, .inl rfl,by simp [bx]⟩
    .subst z;refine⟨ah,off,_,cap,rfl,V, .inr ⟨rfl, ?_⟩,bx.oU (λb p=>⟨m b p,rfl⟩) ah sz rfl off xs D⟩;cases fz
     .exact R i ah (.inl rfl) (by simpa using F)
     .exact m _ (by simpa using F)
  .simp at d
 case part i sz off n=>
  split at d
  .rename_i fz I b xs q;split at d
   .rename_i Y;subst Y;simp only [W5] at d;subst d;obtain⟨v',g1,a,cap,H,V,E,q4,f⟩:=pk hs q;simp only [an] at e;obtain⟨W,L,Z,J,g,e2,e3,rfl,X⟩:=e;rw [g1] at g;simp only [W5] at g;subst g;simp only [Yg] at H;obtain⟨rfl,rfl,rfl⟩:=H;have U:((xs.drop off).take n).length=n:=by simp only [XW,Yi];omega
    simp only [az,U];have k:J=none↔W=none:=by
     rcases X with⟨_,rfl⟩ | ⟨_,B,_⟩ | ⟨b',o,rfl,rfl⟩
     .exact Zs
     .exact B
     .simp
    cases b with
    | true=>
     left;have B:W=none:=E.2 rfl;subst B;rcases f with f | ⟨ah,off',arr,t,z,_⟩
     .have M:xs= []:=Xz.1 (by omega);subst M;subst f;simp only [Xu] at e2;have e7:n=0:=by omega
      subst e7;rw [k.2 rfl];exact⟨rfl,by simp,by congr 1;omega⟩
     .cases z
    | false=>
     right;refine⟨rfl, ?_⟩;by_cases hn:n=0
     .subst hn;cases J with
      | none=>have:=k.1 rfl;simp [this] at E
      | some y=>obtain⟨K,o,sp⟩:=y;exact⟨K,o,sp,_,rfl,by omega, .inl (by simp),by simp [bx]⟩
     .rcases f with f | ⟨ah,off',arr,t,z,F,q8,q9,D⟩
      .omega
      .subst z;have ea:J=some ⟨ah,off'+off * I,none⟩:=by
        rcases X with⟨rfl,rfl⟩ | ⟨rfl,_⟩ | ⟨b',o,B,M⟩
        .simp
        .omega
        .simp only [W5,Yd] at B;obtain⟨rfl,rfl,_⟩:=B;exact M
       subst ea;refine⟨ah,_,_,_,rfl,by omega, .inr ⟨rfl, ?_⟩,(bx.oU (λb p=>⟨m b p,rfl⟩) ah I rfl off' xs D).drop off |>.take n⟩;cases fz
       .exact R i ah (.inr (.inl ⟨_,_,_,rfl⟩)) (by simpa using F)
       .exact m _ (by simpa using F)
   .simp at d
  .simp at d
 case ref i off=>
  simp only [an] at e;obtain⟨b',g,rfl⟩:=e;split at d
  .rename_i cs q;obtain⟨l,hl,d⟩:=W6.1 d;simp only [W5] at d;subst d;obtain⟨b,arr,t',C,G,N,Q,h5,h6⟩:=A8 (s:=⟨λ_=>(none, .top),h⟩) hs q;rw [C] at g;simp only [W5,YI,Yd] at g;obtain⟨rfl,_⟩:=g;simp only [az];refine⟨b,off,rfl, .inr (R i b (.inr (.inr ⟨_,rfl⟩)) G), ?_⟩;have hT:=ba.mg hl Q;have key:∀(l:List T) (vs:List Value) (off:Nat),ba w (AA c w O) l vs->(∀j v,vs[j]? =some v->w.cell? ⟨b,off+j,none⟩=some v)->bn w A' b off l:=by
    intro l;induction l with
    | nil=>intro vs off _ _;simp [bn]
    | cons x l ih=>rintro vs off ⟨v,r,rfl,C,G⟩ e;simp only [bn];refine⟨⟨v,by simpa using e 0 v rfl,mono _ _ C⟩,ih r (off+1) G λj u S=> ?_⟩;have:=e (j+1) u (by simpa using S);rw [show off+1+j=off+ (j+1) by omega];exact this
   have:=(key l _ 0 hT λj v S=>by rw [XF];exact h6 j v S).drop off;rwa [XF] at this
  .rename_i l q;simp only [W5] at d;subst d;obtain⟨b,C,G,N,Q⟩:=hs.ah i _ q;rw [C] at g;simp only [W5,YI,Yd] at g;obtain⟨rfl,_⟩:=g;simp only [az];refine⟨b,off,rfl, .inr (m b N), ?_⟩;have:=(bn.mono (λb p=>⟨m b p,rfl⟩) b N 0 l Q).drop off;rwa [XF] at this
  .simp at d
def JU(v:AV)(i:Id):Prop:=uy v i\/∃vs,v= .agg vs/\∃u∈vs,uy u i
theorem KJ(hs:HS c w h ρ O)(j:∀b,AA c w O b->A' b):∀{vs:List AV} {xs:List T} {us:List Value},aD w (AA c w O) ρ vs us->mq h vs=some xs->
  (∀i ah,(∃u∈vs,uy u i)->O i=some ah->A' ah)->ba w A' xs us
 | [],xs,us,e,a,_=>by simp only [mq,W5] at a;subst a;simpa [aD,ba] using e
 | v::vs,xs,us,e,a,k=>by
  simp only [mq] at a;cases d:eD h v with
  | none=>simp [d] at a
  | some x=>
   cases f:mq h vs with
   | none=>simp [d,f] at a
   | some l=>simp only [d,f,Xb,W5] at a;subst a;simp only [aD] at e;obtain⟨u,r,rfl,g1,m⟩:=e;exact⟨u,r,rfl,oc hs g1 d j (λi ah g=>k i ah ⟨v,W7,g⟩),KJ hs j m f (λi ah ⟨u,n,g⟩=>k i ah ⟨u,W8 _ n,g⟩)⟩
theorem U5{v:AV}{x:T}{u:Value}(hs:HS c w h ρ O)(b:an w (AA c w O) ρ v u)(a:eD h v=some x):u.oneCell'=true/\u.cells= #[u]:=
 (oc (A':=λ_=>True) hs b a (λ_ _=>trivial) (λ_ _ _ _=>trivial)).sE
theorem U6{v:AV}{xs:List T}{u:Value}(hs:HS c w h ρ O)(d:an w (AA c w O) ρ v u)(a:mo h v=some xs)(k:∀b,AA c w O b->A' b)
  (l:∀i ah,JU v i->O i=some ah->A' ah):ba w A' xs u.cells.toList/\∀y∈u.cells.toList,y.oneCell'=true/\y.cells= #[y]:=by
 have one:∀x,eD h v=some x->xs= [x]->ba w A' xs u.cells.toList/\∀y∈u.cells.toList,y.oneCell'=true/\y.cells= #[y]:=by intro x e f;subst f;have o:=oc hs d e k (λi ah g=>l i ah (.inl g));have j:=U5 hs d e;rw [j.2];exact⟨⟨u,[],rfl,o,rfl⟩,by intro y m;simp at m;subst m;exact j⟩
 cases v
 case agg vs=>simp only [mo] at a;simp only [an] at d;obtain⟨p,rfl,g1,n⟩:=d;refine⟨?_,by simpa [Value.cells] using n⟩;have:=KJ hs k g1 a (λi ah g=>l i ah (.inr ⟨vs,rfl,g⟩));simpa [Value.cells] using this
 all_goals
  unfold mo at a;obtain⟨x,e,f⟩:=W6.1 a;exact one x e (Option.some.inj f).symm
def sV(p:Id×ad)(x:Option ad):Prop:=(∃sz b xs,p.2= .sl true sz b xs/\(x=some (.sl false sz b xs)\/x=some (.sl true sz b xs)))\/
 ∃l,p.2= .gf l/\((∃cs,x=some (.box cs)/\ff cs=some l)\/x=some (.gf l))
def ij(h:Id->Option ad)(us:aK):Prop:= ∀p∈us,sV p (h p.1)
theorem sV.again{i:Id}{b b':ad}{x:Option ad}(n:sV (i,b) x)(m:sV (i,b') x):b'=b/\sV (i,b') (some b):=by
 rcases n with⟨sz,bb,xs,d,g1⟩ | ⟨l,d,g1⟩
 .rcases m with⟨f,e,g,a,g2⟩ | ⟨l',a,g2⟩
  .simp only at d a;have:f=sz/\e=bb/\g=xs:=by
    rcases g1 with rfl | rfl <;> rcases g2 with g2 | g2 <;> simp at g2 <;> simp [g2]
   obtain⟨rfl,rfl,rfl⟩:=this;exact⟨by rw [d,a], .inl ⟨_,_,_,a, .inr (by rw [d])⟩⟩
  .rcases g1 with rfl | rfl <;> rcases g2 with⟨cs,g2,_⟩ | g2 <;> simp at g2
 .rcases m with⟨f,e,g,a,g2⟩ | ⟨l',a,g2⟩
  .rcases g2 with rfl | rfl <;> rcases g1 with⟨cs,g1,_⟩ | g1 <;> simp at g1
  .simp only at d a;have:l'=l:=by
    rcases g1 with⟨cs,rfl,g1⟩ | rfl
    .rcases g2 with⟨k,g2,j⟩ | g2
     .simp only [W5,ad.box.injEq] at g2;subst g2;rw [g1] at j;simpa using j.symm
     .simp at g2
    .rcases g2 with⟨k,g2,j⟩ | g2
     .simp at g2
     .simpa using g2.symm
   subst this;exact⟨by rw [d,a], .inr ⟨_,a, .inr (by rw [d])⟩⟩
theorem HS.shut(hs:HS c w h ρ O){i:Id}{b:ad}(m:sV (i,b) (h i)):
  ∃a,Le w ρ O w ρ a/\HS c w (aN h i (some b)) ρ a/\(∀j,a j=O j\/a j=none)/\a i=none/\∀j,j≠i->a j=O j:=by
 have k:∀(f:Id->Option ad) (v:Option ad),f i=v->aN f i v=f:=by
  intro f v h;funext j;unfold aN;split
  .rename_i e;rw [e,h]
  .rfl
 have rel:∀{x:Option ad},HS c w (aN h i x) ρ (aN O i none)->∃a,Le w ρ O w ρ a/\HS c w (aN h i x) ρ a/\(∀j,a j=O j\/a j=none)/\a i=none/\∀j,j≠i->a j=O j:=by
  intro x p;exact⟨_,Le.release,p,λj=>by
   by_cases e:j=i
   .subst e;right;simp
   .left;exact ay _ _ e,by simp,λj e=>ay _ _ e⟩
 have same:h i=some b->O i=none->∃a,Le w ρ O w ρ a/\HS c w (aN h i (some b)) ρ a/\(∀j,a j=O j\/a j=none)/\a i=none/\∀j,j≠i->a j=O j:=by intro n o;exact⟨O,Le.refl,by rw [k _ _ n];exact hs,λj=> .inl rfl,o,λ_ _=>rfl⟩
 rcases m with⟨sz,bb,xs,e,d⟩ | ⟨l,e,d⟩
 .simp only at e;subst e;rcases d with d | d
  .exact rel (hs.freeze d)
  .obtain⟨_,_,_,g⟩:=hs.ah i _ d;exact same d (g rfl)
 .simp only at e;subst e;rcases d with⟨cs,d,hl⟩ | d
  .exact rel (hs.P8 d hl)
  .obtain⟨_,_,g,_⟩:=hs.ah i _ d;exact same d g
theorem wc(v:AV):ij h (iL h v):=by
 intro p a;unfold iL at a;split at a
 .split at a
  .rename_i i sz b xs d;simp only [Xi] at a;subst a;exact .inl ⟨sz,b,xs,rfl, .inl d⟩
  .cases a
 .split at a
  .rename_i i _ _ _ sz b xs d;simp only [Xi] at a;subst a;exact .inl ⟨sz,b,xs,rfl, .inl d⟩
  .cases a
 .split at a
  .rename_i i _ cs d;split at a
   .rename_i l hl;simp only [Xi] at a;subst a;exact .inr ⟨l,rfl, .inl ⟨cs,d,hl⟩⟩
   .cases a
  .cases a
 .cases a
theorem ij.append{us vs:aK}(b:ij h us)(d:ij h vs):ij h (us++vs):=by
 intro p a;rcases Xo.1 a with a | a
 .exact b p a
 .exact d p a
theorem B4:∀(vs:List AV),ij h (nO h vs)
 | []=>by intro p a;cases a
 | v::vs=>(wc v).append (B4 vs)
theorem B6(v:AV):ij h (ix h v):=by
 unfold ix;split
 .exact B4 _
 .exact wc v
theorem HS.Hp:∀{us:aK} {h:Id->Option ad} {O:Id->Option Nat},HS c w h ρ O->ij h us->
  ∃O',Le w ρ O w ρ O'/\HS c w (aR h us) ρ O'/\(∀i,O' i=O i\/O' i=none)/\(∀p∈us,O' p.1=none)/\∀i,(∀p∈us,p.1≠i)->O' i=O i
 | [],h,O,hs,_=>⟨O,Le.refl,hs,λi=> .inl rfl,by simp,λ_ _=>rfl⟩
 | (i,b)::us,h,O,hs,d=>by
  have k:=d (i,b) W7;obtain⟨v,g1,n,o,q,r⟩:=hs.shut k;have g:ij (aN h i (some b)) us:=by
   intro p a;have f:=d p (W8 _ a);by_cases e:p.1=i
   .obtain⟨j,x⟩:=p;simp only at e f;subst e;rw [aH];exact(k.again f).2
   .rw [ay _ _ e];exact f
  obtain⟨m,k1,k2,k3,t,u⟩:=HS.Hp n g;refine⟨m,g1.trans k1,k2,λj=> ?_,λp a=> ?_,λj l=> ?_⟩
  .rcases k3 j with e | e
   .rw [e];exact o j
   .exact .inr e
  .rcases Xl.1 a with rfl | a
   .rcases k3 i with e | e
    .rw [e];exact q
    .exact e
   .exact t p a
  .rw [u j (λp a=>l p (W8 _ a)),r j (λe=>l (i,b) W7 e.symm)]
theorem yV(hs:HS c w h ρ O){v:AV}{x:T}(a:eD h v=some x){i:Id}{ah:Nat}(d:uy v i)(ho:O i=some ah):∃p∈iL h v,p.1=i:=by
 rcases d with rfl | ⟨sz,off,n,rfl⟩ | ⟨off,rfl⟩
 .simp only [eD] at a;split at a
  .rename_i fz sz b xs d;cases fz
   .exact⟨(i, .sl true sz b xs),by simp [iL,d],rfl⟩
   .obtain⟨_,_,_,e⟩:=hs.ah i _ d;rw [e rfl] at ho;cases ho
  .simp at a
 .simp only [eD] at a;split at a
  .rename_i fz f b xs d;cases fz
   .exact⟨(i, .sl true f b xs),by simp [iL,d],rfl⟩
   .obtain⟨_,_,_,e⟩:=hs.ah i _ d;rw [e rfl] at ho;cases ho
  .simp at a
 .simp only [eD] at a;split at a
  .rename_i cs d;obtain⟨l,hl,_⟩:=W6.1 a;exact⟨(i, .gf l),by simp [iL,d,hl],rfl⟩
  .rename_i l d;obtain⟨_,_,e,_⟩:=hs.ah i _ d;rw [e] at ho;cases ho
  .simp at a
theorem Ht(hs:HS c w h ρ O):∀{vs:List AV} {xs:List T},mq h vs=some xs->∀{i:Id} {ah:Nat},(∃u∈vs,uy u i)->O i=some ah->∃p∈nO h vs,p.1=i
 | [],_,_,i,ah,⟨u,hu,_⟩,_=>by cases hu
 | v::vs,xs,a,i,ah,⟨u,hu,g⟩,ho=>by
  simp only [mq] at a;cases b:eD h v with
  | none=>simp [b] at a
  | some x=>
   cases f:mq h vs with
   | none=>simp [b,f] at a
   | some l=>
    rcases Xl.1 hu with rfl | hu
    .obtain⟨p,d,e⟩:=yV hs b g ho;exact⟨p,Xp _ d,e⟩
    .obtain⟨p,d,e⟩:=Ht hs f ⟨u,hu,g⟩ ho;exact⟨p,Xn _ d,e⟩
theorem Qa(hs:HS c w h ρ O){v:AV}{xs:List T}(b:mo h v=some xs){i:Id}{ah:Nat}(a:JU v i)(ho:O i=some ah):∃p∈ix h v,p.1=i:=by
 rcases a with a | ⟨vs,rfl,a⟩
 .have:∃x,eD h v=some x:=by
   rcases a with rfl | ⟨_,_,_,rfl⟩ | ⟨_,rfl⟩ <;> exact(W6.1 b).elim λx d=>⟨x,d.1⟩
  obtain⟨x,d⟩:=this;obtain⟨p,f,e⟩:=yV hs d a ho;refine⟨p, ?_,e⟩;rcases a with rfl | ⟨_,_,_,rfl⟩ | ⟨_,rfl⟩ <;> exact f
 .exact Ht hs b a ho
theorem DF{v:AV}{xs:List T}{u:Value}{O':Id->Option Nat}(hs:HS c w h ρ O)(o:an w (AA c w O) ρ v u)(f:mo h v=some xs)(le:Le w ρ O w ρ O')(g:∀i,O' i=O i\/O' i=none)
  (l:∀p∈ix h v,O' p.1=none):ba w (AA c w O') xs u.cells.toList/\∀y∈u.cells.toList,y.oneCell'=true/\y.cells= #[y]:=by
 refine U6 hs o f (λb k=>(le.A b k).1) (λi ah m ho=> ?_);obtain⟨p,n,e⟩:=Qa hs f m ho;refine⟨.inr (hs.own i ah ho),hs.lt i ah ho,λj a=> ?_⟩;rcases g j with d | d
 .rw [d] at a;have:=hs.inj j i ah a ho;subst this;have:=l p n;rw [e,d,a] at this;cases this
 .rw [d] at a;cases a
theorem lK(hs:HS c w h ρ O){i:Id}{u:Value}(e:ρ i=some u):u.oneCell'=true/\u.cells= #[u]:=by
 cases j:h i with
 | none=>
  cases k:i.real with
  | true=>rw [(hs.cO i k j).1] at e;cases e
  | false=>
   cases i with
   | g i n=>exact hs.gone i n u e
   | _=>cases k
 | some b=>
  have:=hs.ah i b j;cases b with
  | box cs=>obtain⟨b,_,_,d,_⟩:=this;rw [e] at d;simp only [W5] at d;subst d;exact⟨rfl,rfl⟩
  | sl fz sz b xs=>obtain⟨v,d,⟨a,cap,f,_⟩,_⟩:=this;rw [e] at d;simp only [W5] at d;subst d;subst f;exact⟨rfl,rfl⟩
  | gf l=>obtain⟨b,d,_⟩:=this;rw [e] at d;simp only [W5] at d;subst d;exact⟨rfl,rfl⟩
  | mp ag ks vk es=>obtain⟨b,_,_,d,_⟩:=this;rw [e] at d;simp only [W5] at d;subst d;exact⟨rfl,rfl⟩
  | arr cs=>obtain⟨b,_,_,d,_⟩:=this;rw [e] at d;simp only [W5] at d;subst d;exact⟨rfl,rfl⟩
  | rows b sz col rsz m es=>obtain⟨a,cap,d,_⟩:=this;rw [e] at d;simp only [W5] at d;subst d;exact⟨rfl,rfl⟩
  | dead=>obtain⟨⟨v,d,f⟩,_⟩:=this;rw [e] at d;simp only [W5] at d;subst d;exact f
theorem Tc(hs:HS c w h ρ O){v:AV}{u:Value}(a:an w A ρ v u)(d:rL v=true):u.oneCell'=true/\u.cells= #[u]:=by
 cases v <;> simp only [rL,XD] at d <;> simp only [an] at a
 case t=>exact a.sE
 case ref=>obtain⟨b,_,rfl⟩:=a;exact⟨rfl,rfl⟩
 case el=>obtain⟨_,_,_,_,_,rfl⟩:=a;exact⟨rfl,rfl⟩
 case own=>exact lK hs a
 case part=>obtain⟨_,_,_,_,_,_,_,rfl,_⟩:=a;exact⟨rfl,rfl⟩
 case row=>exact hs.gone _ _ _ a
 case rel=>obtain⟨_,_,_,_,_,rfl⟩:=a;exact⟨rfl,rfl⟩
 case fn=>obtain⟨_,_,rfl,_⟩:=a;exact⟨rfl,rfl⟩
theorem yd(hs:HS c w h ρ O){v:AV}{u:Value}(a:an w A ρ v u)(g:(iq v).all rL=true):aD w A ρ (iq v) u.cells.toList/\∀y∈u.cells.toList,y.oneCell'=true/\y.cells= #[y]:=by
 have one:iq v= [v]->aD w A ρ (iq v) u.cells.toList/\∀y∈u.cells.toList,y.oneCell'=true/\y.cells= #[y]:=by intro e;rw [e] at g⊢;simp only [Yp,List.all_nil,Yk] at g;have d:=Tc hs a g;rw [d.2];refine⟨by simp only [aD];exact⟨u,[],rfl,a,rfl⟩, ?_⟩;intro y b;simp at b;subst b;exact d
 cases v
 case agg vs=>simp only [an] at a;obtain⟨j,rfl,d,i⟩:=a;exact⟨by simpa [iq,Value.cells] using d,by simpa [Value.cells] using i⟩
 case fn f x y=>
  cases x with
  | cons _ _=>exact one rfl
  | nil=>cases y with
   | cons _ _=>exact one rfl
   | nil=>simp only [an,aD] at a;obtain⟨k,l,rfl,rfl,rfl⟩:=a;refine⟨by simp [iq,Value.cells,aD,an,az], ?_⟩;intro y b;simp [Value.cells] at b;subst b;exact⟨rfl,rfl⟩
 all_goals exact one rfl
end
open Go Go.IntKind
section
variable {P:Program} {w w':World} {A A':Nat->Prop} {c:Ctx} {ρ:Id->Option Value} {O:Id->Option Nat} {s:St} {cc:Option Bool} {h:Id->Option ad}
theorem vD{b:Nat}{arr:Array Value}{t:TypeId}{a:Nat×Nat}(d:w.heap[b]? =some (.cells arr t a))(cs:Array Value)(p:Nat):(w.setRow b cs).cell? ⟨b,p,none⟩=cs[p]?:=by simp only [World.cell?,setRow_heap w b arr cs t a d];rfl
theorem l5{b:Nat}{arr:Array Value}{t:TypeId}{a:Nat×Nat}(d:w.heap[b]? =some (.cells arr t a))(p:Nat):w.cell? ⟨b,p,none⟩=arr[p]?:=by simp only [World.cell?,d];rfl
theorem sP(w:World)(b:Nat)(cs:Array Value):(w.setRow b cs).heap.size=w.heap.size:=by simp [World.setRow]
theorem uz{e:Type}(off:Nat)(new a:List e)(hl:off+new.length<=a.length)(p:Nat):(cK off new a)[p]? =if off<=p/\p < off+new.length then new[p - off]? else a[p]?:=by
 unfold cK;rw [XC];have b:(a.take off).length=off:=by rw [XW];omega
 by_cases h:p < off
 .rw [Xk (by omega),if_neg (by omega),YB,if_pos h]
 .rw [Xs (by omega),b];by_cases d:p < off+new.length
  .rw [Xk (by omega),if_pos ⟨by omega,d⟩]
  .rw [Xs (by omega),if_neg (by omega),YT];congr 1;omega
theorem sO{b:Type}(off:Nat)(new a:List b)(hl:off+new.length<=a.length):(cK off new a).length=a.length:=by simp only [cK,XK,XW,Yi];omega
theorem bn.mh{ah:Nat}:∀{l:List T} {vs:List Value} {off:Nat},ba w A l vs->(∀j v,vs[j]? =some v->w.cell? ⟨ah,off+j,none⟩=some v)->bn w A ah off l
 | [],_,_,_,_=>by simp [bn]
 | x::l,vs,off,⟨v,r,e,b,d⟩,a=>by subst e;simp only [bn];refine⟨⟨v,by simpa using a 0 v rfl,b⟩,bn.mh d λj u f=> ?_⟩;have:=a (j+1) u (by simpa using f);rw [show off+1+j=off+ (j+1) by omega];exact this
theorem bn.cells{ah:Nat}(a:∀b,A b->A' b/\w'.heap[b]? =w.heap[b]?):∀{cs:List T} {off:Nat},(∀j,j < cs.length->w'.cell? ⟨ah,off+j,none⟩=w.cell? ⟨ah,off+j,none⟩)->bn w A ah off cs->bn w' A' ah off cs
 | [],_,_,_=>by simp [bn]
 | x::cs,off,d,e=>by
  simp only [bn] at e⊢;obtain⟨⟨v,f,g⟩,i⟩:=e;refine⟨⟨v, ?_,az.mono a x v g⟩,bn.cells a (λj k=> ?_) i⟩
  .have:=d 0 (by simp);simp only [Y9] at this;rw [this];exact f
  .have:=d (j+1) (by simp;omega);rw [show off+1+j=off+ (j+1) by omega];exact this
theorem bn.append{ah:Nat}:∀{a b:List T} {off:Nat},bn w A ah off a->bn w A ah (off+a.length) b->bn w A ah off (a++b)
 | [],b,off,_,h=>by simpa using h
 | x::a,b,off,h,d=>by
  simp only [bn,X7] at h⊢;refine⟨h.1,bn.append h.2 ?_⟩;have:off+1+a.length=off+ (x::a).length:=by simp;omega
  rw [this];exact d
theorem bn.take{ah:Nat}:∀{cs:List T} {off:Nat},bn w A ah off cs->∀n,bn w A ah off (cs.take n)
 | _,_,_,0=>by simp [bn]
 | [],_,_,n+1=>by simp [bn]
 | x::cs,off,h,n+1=>by simp only [bn,ZB] at h⊢;exact⟨h.1,bn.take h.2 n⟩
theorem bx.cells{ah sz:Nat}(d:∀b,A b->A' b/\w'.heap[b]? =w.heap[b]?):∀{xs:List (List T)} {off:Nat},(∀p,off<=p->p < off+xs.length * sz->w'.cell? ⟨ah,p,none⟩=w.cell? ⟨ah,p,none⟩)->bx w A ah sz off xs->bx w' A' ah sz off xs
 | [],_,_,_=>by simp [bx]
 | cs::xs,off,f,a=>by
  simp only [bx] at a⊢;have e:(cs::xs).length * sz=sz+xs.length * sz:=by simp [Yb];omega
  refine⟨a.1,bn.cells d (λj k=>f _ (by omega) (by rw [e];omega)) a.2.1,bx.cells d (λp g i=>f p (by omega) (by rw [e];omega)) a.2.2⟩
theorem bx.set{ah sz:Nat}(i:∀b,A b->A' b/\w'.heap[b]? =w.heap[b]?):∀{xs:List (List T)} {off k:Nat} {new:List T},bx w A ah sz off xs->k < xs.length->new.length=sz->bn w' A' ah (off+k * sz) new->
  (∀p,off<=p->p < off+xs.length * sz->¬(off+k * sz<=p/\p < off+k * sz+sz)->w'.cell? ⟨ah,p,none⟩=w.cell? ⟨ah,p,none⟩)->bx w' A' ah sz off (xs.set k new)
 | [],_,_,_,_,l,_,_,_=>by simp at l
 | cs::xs,off,0,new,d,_,m,a,f=>by
  simp only [bx,ZD] at d⊢;have e:(cs::xs).length * sz=sz+xs.length * sz:=by simp [Yb];omega
  exact⟨m,by simpa using a,bx.cells i (λp n o=>f p (by omega) (by rw [e];omega) (by omega)) d.2.2⟩
 | cs::xs,off,k+1,new,d,l,m,a,f=>by
  simp only [bx,Zn] at d⊢;have e:(cs::xs).length * sz=sz+xs.length * sz:=by simp [Yb];omega
  have g:(k+1) * sz=sz+k * sz:=by rw [Yb];omega
  refine⟨d.1,bn.cells i (λj r=>f _ (by omega) (by rw [e];omega) (by rw [g];omega)) d.2.1,bx.set i d.2.2 (by simpa using l) m ?_ (λp n o q=>f p (by omega) (by rw [e];omega) (by rw [g];omega))⟩;rw [show off+sz+k * sz=off+ (k+1) * sz by rw [g];omega];exact a
theorem aD.cK{a l:List AV}{vs us:List Value}(h:aD w A ρ a vs)(b:aD w A ρ l us)(off:Nat):aD w A ρ (cK off l a) (cK off us vs):=by unfold Aev.cK;have:=b.length;rw [this];exact((h.take off).append b).append (h.drop _)
theorem bn.cK{ah base off:Nat}{cs l:List T}(a:bn w A ah base (cs.take off))(b:bn w A ah (base+off) l)(d:bn w A ah (base+off+l.length) (cs.drop (off+l.length)))(hl:off<=cs.length):bn w A ah base (cK off l cs):=by
 unfold Aev.cK;rw [XC];have lt:(cs.take off).length=off:=by rw [XW];omega
 exact bn.append a (bn.append (by rw [lt];exact b) (by rw [lt];exact d))
theorem zW{t:TypeId}(g:cB P t=true){b off:Nat}{arr:Array Value}{d:TypeId}{v:Value}(f:w.heap[b]? =some (.cells arr d (0,0)))(hl:v.cells.size=P.cellsOf t)(a:off+v.cells.toList.length<=arr.size)
  (e:∀u∈v.cells.toList,u.oneCell'=true):(storeVar t ⟨b,off,none⟩ v).run P w= .ok () (w.setRow b (cK off v.cells.toList arr.toList).toArray):=by
 unfold storeVar;simp only [Xx,jU g,Xm,hl,ne_eq,not_true_eq_false,if_false];have:=run_storeCells_at P b off d v.cells.toList 0 arr w f (by simpa using a) e;simp only [Y9] at this;rw [this];rfl
theorem Hr{v:AV}{p:Id×ad}(a:p∈iL h v):p.1∈v.ids:=by
 unfold iL at a;split at a
 .split at a
  .simp only [Xi] at a;subst a;simp [AV.ids]
  .cases a
 .split at a
  .simp only [Xi] at a;subst a;simp [AV.ids]
  .cases a
 .split at a
  .split at a
   .simp only [Xi] at a;subst a;simp [AV.ids]
   .cases a
  .cases a
 .cases a
theorem Hu:∀{vs:List AV} {p:Id×ad},p∈nO h vs->p.1∈cC vs
 | [],p,a=>by cases a
 | v::vs,p,a=>by
  simp only [nO,Xo] at a;simp only [cC,Xo];rcases a with a | a
  .exact .inl (Hr a)
  .exact .inr (Hu a)
theorem Hw{v:AV}{p:Id×ad}(a:p∈ix h v):p.1∈v.ids:=by
 unfold ix at a;split at a
 .simp only [AV.ids];exact Hu a
 .exact Hr a
theorem dZ:∀{us:aK} {h:Id->Option ad} {i:Id},(∀p∈us,p.1≠i)->aR h us i=h i
 | [],_,_,_=>rfl
 | (j,b)::us,h,i,a=>by rw [dx,dZ (λp d=>a p (W8 _ d)),ay _ _ (λe=>a (j,b) W7 e.symm)]
theorem xu:∀{us:aK} {h:Id->Option ad} {i:Id} {b:ad},(∀p∈us,p.1≠i)->aR (aN h i (some b)) us=aN (aR h us) i (some b)
 | [],_,_,_,_=>rfl
 | (j,x)::us,h,i,b,f=>by
  rw [dx,dx,<-xu (λp g=>f p (W8 _ g))];congr 1;funext k;have:j≠i:=λe=>f (j,x) W7 e;by_cases a:k=j
  .subst a;rw [aH,ay _ _ this,aH]
  .by_cases d:k=i
   .subst d;rw [ay _ _ a,aH,aH]
   .rw [ay _ _ a,ay _ _ d,ay _ _ d,ay _ _ a]
theorem HS.rZ{us:aK}(hs:HS c w h ρ O)(a:ij h us):
  ∃O',Le w ρ O w ρ O'/\HS c w (aR h us) ρ O'/\(∀i,O' i=O i\/O' i=none)/\(∀p∈us,O' p.1=none)/\∀i,(∀p∈us,p.1≠i)->O' i=O i:=HS.Hp hs a
theorem Ag{b:Nat}{i:Id}(a:O i=some b)(cs:Array Value):Le w ρ O (w.setRow b cs) ρ O:=
 Le.write a rfl rfl rfl (sP w b cs) λk d=>setRow_other w b k cs d
theorem dr.put{t:TypeId}{sz k off b o L cap:Nat}{bb:Bool}{xs J:List (List T)}{l:List T}{d:Value}{Q:Nat->Prop}(S:dr w A sz bb xs (.slice (some ⟨b,o,none⟩) L cap) Q)(f:jd k off l xs=some J)(U:cB P t=true)
  (K:l.length=P.cellsOf t) (g1:ba w A l d.cells.toList) (M:∀u∈d.cells.toList,u.oneCell'=true/\u.cells= #[u]):
  ∃cs,Q b/\(storeVar t ⟨b,o+k * sz+off,none⟩ d).run P w= .ok () (w.setRow b cs)/\
   ∀A' z,(∀b',A b'->A' b'/\(w.setRow b cs).heap[b']? =w.heap[b']?)->z b->dr (w.setRow b cs) A' sz bb J (.slice (some ⟨b,o,none⟩) L cap) z:=by
 obtain⟨a',cap',E,W,X,Y,F⟩:=S;simp only [Yg] at E;obtain⟨rfl,rfl,rfl⟩:=E;unfold jd at f;cases i:xs[k]? with
 | none=>simp [i] at f
 | some cs=>
  simp only [i] at f;split at f
  .rename_i n;simp only [W5] at f;subst f;have C:k < xs.length:=(W9.1 i).1;rcases F with F | ⟨ah,off',arr,I,G,Z,r,q9,y⟩
   .omega
   .simp only [W5,Yd] at G;obtain⟨rfl,rfl,_⟩:=G;obtain⟨D,v⟩:=y.get i;have N:=g1.length;have R:(k+1) * sz<=cap * sz:=Ya _ (by omega);have e2:(k+1) * sz=k * sz+sz:=Yb _ _;have e:o+k * sz+off+d.cells.toList.length<=arr.size:=by omega
    have H:=zW (P:=P) U r (by rw [<-XE,N,K]) e (λu V=>(M u V).1);refine⟨_,Z,H,λA' z g B=> ?_⟩;have x:(xs.set k (cK off l cs)).length=xs.length:=by simp
    refine⟨some ⟨b,o,none⟩,cap,by rw [x],by rw [x];exact W,X,Y, .inr ⟨b,o,_,I,rfl,B,setRow_heap w b arr _ I (0,0) r, ?_, ?_⟩⟩
    .have:=sO (o+k * sz+off) d.cells.toList arr.toList (by simpa using e);simp only [Yy];rw [this];simpa using q9
    .have a:∀p,(w.setRow b (cK (o+k * sz+off) d.cells.toList arr.toList).toArray).cell? ⟨b,p,none⟩=if o+k * sz+off<=p/\p < o+k * sz+off+d.cells.toList.length then d.cells.toList[p - (o+k * sz+off)]? else w.cell? ⟨b,p,none⟩:=by
      intro p;rw [vD r,Zd,uz _ _ _ (by simpa using e),l5 r];simp
     have q:(cK off l cs).length=sz:=by rw [sO off l cs n,D]
     refine bx.set g y C q ?_ ?_
     .refine bn.cK (bn.cells g (λj m=> ?_) (v.take off)) ?_ ?_ (by omega)
      .have lt:(cs.take off).length=off:=by rw [XW];omega
       rw [lt] at m;rw [a,if_neg (by omega)]
      .refine bn.mh (ba.mono g _ _ g1) (λj u m=> ?_);have hj':j < d.cells.toList.length:=(W9.1 m).1;rw [a,if_pos (by omega)];rw [show o+k * sz+off+j - (o+k * sz+off)=j by omega];exact m
      .have:=v.drop (off+l.length);rw [show o+k * sz+off+l.length=o+k * sz+ (off+l.length) by omega];refine bn.cells g (λj m=> ?_) this;rw [a,if_neg (by omega)]
     .intro p h1 h2 h3;rw [a,if_neg (by omega)]
  .simp at f
theorem yM{n:Nat}{p:Bool×List (List T)}:∀{es:List Row},cU n es=some p->∃k e,es[k]? =some e/\e.n=n/\e.own=some p/\∀q,dG n q es=es.set k {e with own:=q}
 | [],h=>by simp [cU] at h
 | e::es,h=>by
  unfold cU at h;by_cases c:e.n=n
  .rw [if_pos c] at h;exact⟨0,e,rfl,c,h,λq=>by simp [dG,c]⟩
  .rw [if_neg c] at h;obtain⟨k,e',a,b,d,f⟩:=yM h;exact⟨k+1,e',by simpa using a,b,d,λq=>by simp [dG,c,f]⟩
theorem wM{es:List Row}(h:(es.map (·.n)).Nodup){j k:Nat}{x y:Row}(g:es[j]? =some x)(i:es[k]? =some y)(e:x.n=y.n):j=k:=by
 have d:(es.map (·.n))[j]? =some x.n:=by simp [g]
 have f:(es.map (·.n))[k]? =some x.n:=by simp [i,e]
 obtain⟨l,a⟩:=W9.1 d;obtain⟨m,b⟩:=W9.1 f;exact(List.getElem_inj h).1 (a.trans b.symm)
theorem Ja:∀{l:List Nat} {k x:Nat},l.Nodup->x∉l->(l.set k x).Nodup
 | [],_,_,_,_=>by simp
 | a::l,0,x,b,d=>by simp only [ZD,Yq,Xl,not_or] at b d⊢;exact⟨d.2,b.2⟩
 | a::l,k+1,x,b,d=>by
  simp only [Zn,Yq,Xl,not_or] at b d⊢;refine⟨λhm=> ?_,Ja b.2 d.2⟩;rcases YV hm with h | h
  .exact b.1 h
  .exact d.1 h.symm
theorem Qn{O':Id->Option Nat}(hs:HS c w h ρ O)(τ:Id->Option Id)(a:∀k b,O' k=some b->∃x,τ k=some x/\O x=some b)(d:∀k e x,τ k=some x->τ e=some x->k=e):∀i j b,O' i=some b->O' j=some b->i=j:=by intro i j b f g;obtain⟨x,l,x2⟩:=a i b f;obtain⟨y,m,n⟩:=a j b g;have:=hs.inj x y b x2 n;subst this;exact d i j x l m
theorem HS.putRow{i j:Id}{b bb:Bool}{sz col rsz q k ah:Nat}{es:List Row}{e:Row}{xs:List (List T)}{J:Value}{cs:Array Value}(hs:HS c w h ρ O)(hi:h i=some (.rows b sz col rsz q es))(X:h j=some (.sl false rsz bb xs))(V:es[k]? =some e)(hv:ρ j=some J)
  {a:Option Addr} {cap:Nat} (hρ:ρ i=some (.slice a es.length cap)) {off:Nat} {arr:Array Value} {t:TypeId} (ha:a=some ⟨ah,off,none⟩) (hO:O i=some ah) (hb:w.heap[ah]? =some (.cells arr t (0,0))) (hfit:off+cap * sz<=arr.size)
  (hcs:cs= (cK (off+k * sz+col) [J] arr.toList).toArray):
  ∃ρ' O',Le w ρ O (w.setRow ah cs) ρ' O'/\HS c (w.setRow ah cs) (aN (aN h j (some .dead)) i (some (.rows b sz col rsz (q+1) (es.set k ⟨q,e.cs,some (bb,xs)⟩)))) ρ' O':=by
 obtain⟨a',cap',r1,r2,r3,⟨n1,n2,n3,n4⟩,r5⟩:=hs.ah i _ hi;rw [hρ] at r1;simp only [W5,Yg] at r1;obtain⟨rfl, -,rfl⟩:=r1;have hlt:k < es.length:=(W9.1 V).1;have R:cL w (AA c w O) ρ O i ah sz col rsz off es:=by
  rcases r5 with r5 | ⟨blk',off',arr',t',q1,q2,q3,q4,q5⟩
  .omega
  .rw [ha] at q1;simp only [W5,Yd] at q1;obtain⟨rfl,rfl,_⟩:=q1;exact q5
 have hen:e.n < q:=n2 e (Xg V);have G:=hs.real (i:=i) (by rw [hi];simp);have Q:=hs.real (i:=j) (by rw [X];simp);have hij:j≠i:=λe=>by rw [e,hi] at X;cases X
 have N:∀n,Id.g i n≠j:=λn=>aY Q;obtain⟨v',s1,s2,_⟩:=hs.ah j _ X;rw [hv] at s1;cases s1;have I:=R.get V;have hcol:=I.2.1;have hbnd:(k+1) * sz<=cap * sz:=Ya _ (by omega);have e2:(k+1) * sz=k * sz+sz:=Yb _ _;have L:off+k * sz+col+ [J].length<=arr.toList.length:=by simp;omega
 let ρ':Id->Option Value:=aN ρ (.g i q) (some J);let O':Id->Option Nat:=λx=>if x= .g i q then O j else if x=j then none else if x= .g i e.n then none else O x;have F:∀x,x≠ .g i q->x≠j->x≠ .g i e.n->O' x=O x:=λx o H S=>by simp only [O',if_neg o,if_neg H,if_neg S]
 have hOn:O' (.g i q)=O j:=by simp only [O',if_true]
 have hOj:O' j=none:=by simp only [O',if_neg (N q).symm,if_true]
 have hOe:O' (.g i e.n)=none:=by
  have o:Id.g i e.n≠ .g i q:=by intro h;cases h;omega
  simp only [O',if_neg o,if_neg (N e.n),if_true]
 have K:∀x d,O' x=some d->(x= .g i q/\O j=some d)\/(x≠ .g i q/\x≠j/\x≠ .g i e.n/\O x=some d):=by
  intro x d l;simp only [O'] at l;split at l
  .exact .inl ⟨by assumption,l⟩
  .split at l
   .cases l
   .split at l
    .cases l
    .exact .inr ⟨by assumption,by assumption,by assumption,l⟩
 have le:Le w ρ O (w.setRow ah cs) ρ' O':=by
  refine⟨rfl,rfl,rfl,by rw [sP];exact Xr _,λx u l=> ?_,λd _ hn=>setRow_other w ah d _ λe=>hn i (e▸hO),λx d l=> ?_⟩
  .by_cases e:x= .g i q
   .subst e;rw [n3 q (Xr _)] at l;cases l
   .simp only [ρ'];rw [ay _ _ e];exact l
  .rcases K x d l with⟨_,h⟩ | ⟨_,_,_,h⟩
   .exact .inl ⟨j,h⟩
   .exact .inl ⟨x,h⟩
 have C:∀x d,x≠i->O x=some d->(w.setRow ah cs).heap[d]? =w.heap[d]?:=λx d l r=>setRow_other w ah d _ λe=>l (hs.inj x i ah (e▸r) hO);refine⟨ρ',O',le,hs.qp le (λx y l=> ?_) (λx Z l=> ?_) (λx n=> ?_) (λx n l=> ?_) (λx n u U=> ?_) ?_ (λx d l=> ?_)⟩
 .by_cases v:x=i
  .subst v;rw [aH] at l;cases l;right;have W:(es.set k ⟨q,e.cs,some (bb,xs)⟩).length=es.length:=by simp
   refine⟨a,cap, ?_,by rw [W];exact r2,r3,⟨?_,λf E=> ?_,λn hn=> ?_,λn d r=> ?_⟩, .inr ⟨ah,off,cs,t,ha, ?_,setRow_heap w ah arr _ t (0,0) hb, ?_, ?_⟩⟩
   .rw [W];simp only [ρ'];rw [ay _ _ (aY G).symm];exact hρ
   .rw [aae];refine Ja n1 ?_;intro hm;obtain⟨f,E,e⟩:=XB.1 hm;simp only at e;have:=n2 f E;omega
   .rcases YV E with E | rfl
    .have:=n2 f E;omega
    .simp
   .have o:Id.g x n≠ .g x q:=by intro h;cases h;omega
    simp only [ρ'];rw [ay _ _ o];exact n3 n (by omega)
   .rcases K _ d r with⟨h,_⟩ | ⟨o,_,S,h4⟩
    .cases h;exact⟨_,List.mem_set hlt _,rfl⟩
    .obtain⟨f,E,M⟩:=n4 n d h4;obtain⟨m,hm⟩:=Zr.1 E;have hmk:m≠k:=λe'=>by rw [e',V] at hm;cases hm;rw [M] at S;exact S rfl
     refine⟨f,Zr.2 ⟨m, ?_⟩,M⟩;rw [Yx,if_neg (ZU hmk)];exact hm
   .rw [F x (aY G).symm (ZU hij) (aY G).symm];exact hO
   .rw [hcs,Yy,sO _ _ _ L];simpa using hfit
   .have D:∀p,(w.setRow ah cs).cell? ⟨ah,p,none⟩=if off+k * sz+col<=p/\p < off+k * sz+col+1 then some J else w.cell? ⟨ah,p,none⟩:=by
     intro p;rw [vD hb,hcs,Zd,uz _ _ _ L,l5 hb];by_cases Y:off+k * sz+col<=p/\p < off+k * sz+col+1
     .rw [if_pos (by simpa using Y),if_pos Y,show p - (off+k * sz+col)=0 by omega];rfl
     .rw [if_neg (by simpa using Y),if_neg Y];simp
    refine cL.set (λd r=>le.A d r) hlt (λp p1 p2 p3=>by rw [D,if_neg (by omega)]) (λm f hm E=> ?_) ?_ R
    .have M:f.n≠e.n:=λe'=>hm (wM n1 E V e');have hfx:f.n≠q:=by have:=n2 f (Xg E);omega
     have o:Id.g x f.n≠ .g x q:=by intro h;simp only [Id.g.injEq] at h;exact hfx h.2
     have H:Id.g x f.n≠ .g x e.n:=by intro h;simp only [Id.g.injEq] at h;exact M h.2
     refine⟨by simp only [ρ'];exact ay _ _ o,F _ o (N _) H,λd r=>C _ d (aY G) r⟩
    .refine⟨I.1,hcol,λm y hm B=> ?_,J,by rw [D,if_pos (by omega)],by simp only [ρ'];exact aH _ _ _, ?_⟩
     .obtain⟨u,g1,g2⟩:=I.2.2.1 m y hm B;have hml:m < sz:=by have:=(W9.1 B).1;rw [I.1] at this;exact this
      exact⟨u,by rw [D,if_neg (by omega)];exact g1,az.mono (λd r=>le.A d r) y u g2⟩
     .simp only;refine dr.mono (λd r=>le.A d r) (λd r=> ?_) s2;simp only [XD,if_false] at r;rw [hOn];exact⟨r,C j d hij r⟩
  .rw [ay _ _ v] at l;by_cases e3:x=j
   .subst e3;rw [aH] at l;cases l;exact .inr ⟨⟨J,by simp only [ρ'];rw [ay _ _ (N q).symm];exact hv,lK hs hv⟩,hOj⟩
   .rw [ay _ _ e3] at l;have hrx:=hs.real (i:=x) (by rw [l];simp);refine .inl ⟨l,F x (aY hrx).symm e3 (aY hrx).symm,λd r=>C x d v r,λn=> ?_⟩;have o:∀m,Id.g x n≠ .g i m:=by intro m h;cases h;exact v rfl
    exact⟨by simp only [ρ'];exact ay _ _ (o _),F _ (o _) (aY Q) (o _),λd r=>C _ d (aY G) r⟩
 .by_cases v:x=i
  .subst v;rw [aH] at l;cases l
  .rw [ay _ _ v] at l;by_cases e3:x=j
   .subst e3;rw [aH] at l;cases l
   .rw [ay _ _ e3] at l;have:=hs.cO x Z l;refine⟨?_, ?_⟩
    .simp only [ρ'];rw [ay _ _ (aY Z).symm];exact this.1
    .rw [F x (aY Z).symm e3 (aY Z).symm];exact this.2
 .rw [ay _ _ (aY G),ay _ _ (aY Q)];exact hs.eP x n
 .by_cases v:x=i
  .subst v;rw [aH] at l;cases l
  .rw [ay _ _ v] at l;by_cases e3:x=j
   .subst e3;rw [aH] at l;cases l
   .rw [ay _ _ e3] at l;have:=hs.gG x n l;have o:∀m,Id.g x n≠ .g i m:=by intro m h;cases h;exact v rfl
    refine⟨?_, ?_⟩
    .simp only [ρ'];rw [ay _ _ (o _)];exact this.1
    .rw [F _ (o _) (aY Q) (o _)];exact this.2
 .by_cases v:Id.g x n= .g i q
  .rw [v] at U;simp only [ρ',aH,W5] at U;subst U;exact lK hs hv
  .simp only [ρ'] at U;rw [ay _ _ v] at U;exact hs.gone x n u U
 .refine Qn hs (λx=>if x= .g i q then some j else if x=j then none else some x) (λx d l=> ?_) (λx y z l B=> ?_)
  .rcases K x d l with⟨o,H⟩ | ⟨o,H,_,S⟩
   .exact⟨j,by rw [if_pos o],H⟩
   .exact⟨x,by rw [if_neg o,if_neg H],S⟩
  .split at l <;> split at B
   .rename_i o H;rw [o,H]
   .split at B
    .cases B
    .simp only [W5] at l B;subst l;rename_i h;exact(h B).elim
   .split at l
    .cases l
    .simp only [W5] at l B;subst B;rename_i h;exact(h l).elim
   .split at l
    .cases l
    .split at B
     .cases B
     .simp only [W5] at l B;rw [l,B]
 .rw [sP];rcases K x d l with⟨_,h⟩ | ⟨_,_,_,h⟩
  .exact hs.lt _ d h
  .exact hs.lt _ d h
theorem HS.WR{i:Id}{n r:Nat}{b:Bool}{sz col rsz X:Nat}{es:List Row}{p:Bool×List (List T)}{F:List (List T)}{v:Value}{cs:Array Value}(hs:HS c w h ρ O)(Q:h i=some (.rows b sz col rsz X es))(hf:cU n es=some p)(M:O (.g i n)=some r)
  (U:ρ (.g i n)=some v) (S:dr (w.setRow r cs) (AA c (w.setRow r cs) O) rsz p.1 F v (λd=>O (.g i n)=some d)):
  HS c (w.setRow r cs) (aN h i (some (.rows b sz col rsz X (dG n (some (p.1,F)) es)))) ρ O:=by
 have le:Le w ρ O (w.setRow r cs) ρ O:=Ag M _;have H:=hs.real (i:=i) (by rw [Q];simp);have o:∀x d,x≠ .g i n->O x=some d->(w.setRow r cs).heap[d]? =w.heap[d]?:=λx d j l=>setRow_other w r d _ λe=>j (hs.inj x _ r (e▸l) M);obtain⟨k,e,C,G,heo,K⟩:=yM hf;refine hs.qp le (λx y j=> ?_) (λx hr j=> ?_) (λx m=> ?_) (λx m j=> ?_) hs.gone hs.inj (λx d l=>by rw [sP];exact hs.lt x d l)
 .by_cases z:x=i
  .subst z;rw [aH] at j;cases j;right;obtain⟨a,cap,r1,r2,r3,⟨V,W,n3,n4⟩,L⟩:=hs.ah x _ Q;rw [K];have D:(es.set k {e with own:=some (p.1,F)}).length=es.length:=by simp
   have E:(es.set k {e with own:=some (p.1,F)}).map (·.n)=es.map (·.n):=by
    rw [aae];refine Yz λm=> ?_;rw [Yx];split
    .rename_i h;subst h;have:=(W9.1 C).1;rw [if_pos (by simpa using this)];simp [C]
    .rfl
   refine⟨a,cap,by rw [D];exact r1,by rw [D];exact r2,r3,⟨by rw [E];exact V,λf q=> ?_,n3,λm d l=> ?_⟩, ?_⟩
   .rcases YV q with q | rfl
    .exact W f q
    .exact W e (Xg C)
   .obtain⟨f,q,N⟩:=n4 m d l;have:m∈(es.set k {e with own:=some (p.1,F)}).map (·.n):=by rw [E];exact XB.2 ⟨f,q,N⟩
    obtain⟨f',h1,h2⟩:=XB.1 this;exact⟨f',h1,h2⟩
   .rcases L with L | ⟨ah,off,arr,t,q1,Y,q3,q4,Z⟩
    .exact .inl L
    .have B:(w.setRow r cs).heap[ah]? =w.heap[ah]?:=o x ah (aY H).symm Y;refine .inr ⟨ah,off,arr,t,q1,Y,by rw [B];exact q3,q4, ?_⟩;have J:=Z.get C;refine cL.set (λd l=>le.A d l) (W9.1 C).1 (λ_ _ _ _=>oD B) (λm f hm q=>⟨rfl,rfl,λd l=>o _ d (λh=> ?_) l⟩) ?_ Z
     .simp only [Id.g.injEq] at h;exact hm (wM V q C (by rw [h.2,G]))
     .obtain⟨a1,a2,a3,u,a4,I,a7⟩:=J;refine⟨a1,a2,λm y hm hy=> ?_,u,by rw [oD B];exact a4,I, ?_⟩
      .obtain⟨u',g1,g2⟩:=a3 m y hm hy;exact⟨u',by rw [oD B];exact g1,az.mono (λd l=>le.A d l) y u' g2⟩
      .simp only;rw [G] at I⊢;rw [I] at U;cases U;exact S
  .rw [ay _ _ z] at j;have R:=hs.real (i:=x) (by rw [j];simp);refine .inl ⟨j,rfl,λd l=>o x d (aY R).symm l,λm=>⟨rfl,rfl,λd l=>o _ d (λh=> ?_) l⟩⟩;simp only [Id.g.injEq] at h;exact z h.1
 .by_cases z:x=i
  .subst z;rw [aH] at j;cases j
  .rw [ay _ _ z] at j;exact hs.cO x hr j
 .rw [ay _ _ (aY H)];exact hs.eP x m
 .by_cases z:x=i
  .subst z;rw [aH] at j;cases j
  .rw [ay _ _ z] at j;exact hs.gG x m j
theorem Vi{R:Type}{t:TypeId}{a v:AV}{va y:Value}{K:aK->Option R}{r:R}(hs:HS c w s.h ρ O)(M:an w (AA c w O) ρ a va)(hx:an w (AA c w O) ρ v y)(f:jW P s t a v K=some r):
  ∃us w' ρ' O',K us=some r/\(Instr.storeAt t va y).run P w= .ok () w'/\Le w ρ O w' ρ' O'/\HS c w' (aR s.h us) ρ' O':=by
 unfold jW at f;cases ht:cB P t
 .simp [ht] at f
 simp only [ht,cond_true] at f;split at f
 .rename_i i off;split at f
  .rename_i cs H;split at f
   .rename_i q;obtain⟨S,J,c3⟩:=q;obtain⟨b,arr,t',h1,h2,h3,h4,h5,h6⟩:=A8 hs H;simp only [an] at M;obtain⟨b',x,rfl⟩:=M;rw [h1] at x;simp only [W5,YI,Yd] at x;obtain⟨rfl,_⟩:=x;obtain⟨g1,Z⟩:=yd hs hx J;have gl:=g1.length;have hl:=h4.length;have D:off+y.cells.toList.length<=arr.size:=by rw [gl];simp only [XE] at hl;omega
    have B:=zW (P:=P) ht h3 (by rw [<-XE,gl,S]) D (λu hu=>(Z u hu).1);have le:Le w ρ O (w.setRow b (cK off y.cells.toList arr.toList).toArray) ρ O:=Ag h2 _;refine⟨_,_,ρ,O,f,by simpa [Instr.storeAt,Instr.sureAddr] using B,le, ?_⟩;rw [eG];refine hs.write h2 le (λk f=>setRow_other w b k _ f) _ ?_ (by rw [H];simp);refine⟨b,_,t',h1,h2,setRow_heap w b arr _ t' (0,0) h3, ?_, ?_⟩
    .have m:∀(W:List AV) (vs:List Value),aD w (AA c w O) ρ W vs->aD _ _ ρ W vs:=λW vs hr=>aD.mono (λb hb=>le.A b hb) le.fu W vs hr;exact aD.cK (m _ _ h4) (m _ _ g1) off
    .intro u hu;simp only [cK,Xo] at hu;rcases hu with(hu | hu) | hu
     .exact h5 u (YX hu)
     .exact Z u hu
     .exact h5 u (Zg hu)
   .simp at f
  .simp at f
 .rename_i i sz k off;split at f
  .rename_i g bb xs H;obtain⟨l,hsn,f⟩:=W6.1 f;split at f
   .rename_i q;obtain⟨rfl,S,J⟩:=q;replace f:=aW f (.inl rfl);obtain⟨ys,I,f⟩:=f;have E:∀p∈ix s.h v,p.1≠i:=by
     intro p hp e;have:=Hw hp;rw [e] at this;simp only [List.contains_eq_mem,decide_eq_false_iff_not] at J;exact J this
    obtain⟨G,cD,Q,o1,o2,o3⟩:=HS.rZ hs (B6 (h:=s.h) v);obtain⟨g1,Z⟩:=DF hs hx hsn cD o1 o2;have N:aR s.h (ix s.h v) i=some (.sl false g bb xs):=by rw [dZ E];exact H
    obtain⟨vv,q0,a',cap',V,q2,q3,q4,q5⟩:=pk Q N;simp only [an] at M;obtain⟨b,o,L,cap,x,rfl⟩:=M;rw [q0] at x;simp only [W5] at x;subst x;simp only [Yg] at V;obtain⟨rfl,rfl,rfl⟩:=V;unfold jd at I;cases Y:xs[k]? with
    | none=>simp [Y] at I
    | some cs=>
     simp only [Y] at I;split at I
     .rename_i hfit0;simp only [W5] at I;subst I;have hlt:k < xs.length:=(W9.1 Y).1;rcases q5 with q5 | ⟨ah,off',arr,t',q6,q7,q8,q9,q10⟩
      .omega
      .simp only [W5,Yd] at q6;obtain⟨rfl,rfl,_⟩:=q6;simp only [XD,if_false] at q7;obtain⟨lcs,hcs⟩:=q10.get Y;have gl:=g1.length;have hbnd:(k+1) * g<=cap * g:=Ya _ (by omega);have e2:(k+1) * g=k * g+g:=Yb _ _;have D:o+k * g+off+y.cells.toList.length<=arr.size:=by omega
       have B:=zW (P:=P) ht q8 (by rw [<-XE,gl,S]) D (λu hu=>(Z u hu).1);have F:Le w ρ G (w.setRow b (cK (o+k * g+off) y.cells.toList arr.toList).toArray) ρ G:=Ag q7 _;refine⟨_,_,ρ,G,f,by simpa [Instr.storeAt,Instr.sureAddr] using B,cD.trans F, ?_⟩;rw [dx,xu E];refine Q.write q7 F (λk f=>setRow_other w b k _ f) _ ?_ (by rw [N];simp);refine⟨_,q0, ?_,by simp⟩;have hl2:(xs.set k (cK off l cs)).length=xs.length:=by simp
       refine⟨some ⟨b,o,none⟩,cap,by rw [hl2],by rw [hl2];exact q2,q3,q4, .inr ⟨b,o,_,t',rfl,by simpa using q7,setRow_heap w b arr _ t' (0,0) q8, ?_, ?_⟩⟩
       .have:=sO (o+k * g+off) y.cells.toList arr.toList (by simpa using D);simp only [Yy];rw [this];simpa using q9
       .have z:∀p,(w.setRow b (cK (o+k * g+off) y.cells.toList arr.toList).toArray).cell? ⟨b,p,none⟩=if o+k * g+off<=p/\p < o+k * g+off+y.cells.toList.length then y.cells.toList[p - (o+k * g+off)]? else w.cell? ⟨b,p,none⟩:=by
         intro p;rw [vD q8,Zd,uz _ _ _ (by simpa using D),l5 q8];simp
        have X:∀b',AA c w G b'->AA c (w.setRow b (cK (o+k * g+off) y.cells.toList arr.toList).toArray) G b'/\(w.setRow b (cK (o+k * g+off) y.cells.toList arr.toList).toArray).heap[b']? =w.heap[b']?:=λb' hb'=>F.A b' hb';have lrepl:(cK off l cs).length=g:=by rw [sO off l cs hfit0,lcs]
        refine bx.set X q10 hlt lrepl ?_ ?_
        .refine bn.cK (bn.cells X (λj T=> ?_) (hcs.take off)) ?_ ?_ (by omega)
         .have lt:(cs.take off).length=off:=by rw [XW];omega
          rw [lt] at T;rw [z,if_neg (by omega)]
         .refine bn.mh (ba.mono X _ _ g1) (λj u T=> ?_);have hj':j < y.cells.toList.length:=(W9.1 T).1;rw [z,if_pos (by omega)];rw [show o+k * g+off+j - (o+k * g+off)=j by omega];exact T
         .have:=hcs.drop (off+l.length);rw [show o+k * g+off+l.length=o+k * g+ (off+l.length) by omega];refine bn.cells X (λj T=> ?_) this;rw [z,if_neg (by omega)]
        .intro p h1 h2 h3;rw [z,if_neg (by omega)]
     .simp at I
   .simp at f
  .rename_i bb g col rsz nx es H;split at f
   .rename_i j;split at f
    .rename_i rsz' b' xs T;split at f
     .rename_i q;obtain⟨rfl,rfl,rfl,S,J⟩:=q;replace f:=aW f (.inl rfl);obtain⟨e,he,f⟩:=f;obtain⟨a,cap,r1,r2,r3,r4,r5⟩:=hs.ah i _ H;simp only [an] at M hx;obtain⟨b,o,L,cap',x,rfl⟩:=M;have e1':=x;rw [r1] at x;simp only [W5,Yg] at x;obtain⟨rfl,rfl,rfl⟩:=x;have hlt:k < es.length:=(W9.1 he).1;rcases r5 with r5 | ⟨ah,off',arr,t',V,q2,q3,q4,q5⟩
      .omega
      .simp only [W5,Yd] at V;obtain⟨rfl,rfl,_⟩:=V;have U:=lK hs hx;have hcol:=(q5.get he).2.1;have hbnd:(k+1) * g<=cap * g:=Ya _ (by omega);have e2:(k+1) * g=k * g+g:=Yb _ _;have C:y.cells.toList= [y]:=by rw [U.2]
       have B:=zW (P:=P) (w:=w) (v:=y) ht q3 (by rw [U.2,S];rfl) (off:=o+k * g+off) (by rw [C];simp;omega) (λu hu=>by rw [C,Xi] at hu;subst hu;exact U.1);rw [C] at B;obtain⟨ρ',O',le,hs'⟩:=hs.putRow H T he hx r1 rfl q2 q3 q4 rfl;refine⟨_,_,ρ',O',f,by simpa [Instr.storeAt,Instr.sureAddr] using B,le, ?_⟩;rw [dx,eG];exact hs'
     .simp at f
    .simp at f
   .simp at f
  .simp at f
 .rename_i i sz n k off;split at f
  .rename_i b g col rsz nx es H;replace f:=aW f (.inl rfl);obtain⟨p,hp,f⟩:=f;replace f:=W6.1 f;obtain⟨l,hsn,f⟩:=f;split at f
   .rename_i q;obtain⟨rfl,S,J⟩:=q;replace f:=aW f (.inl rfl);obtain⟨ys,I,f⟩:=f;have E:∀p∈ix s.h v,p.1≠i:=by
     intro p hp e;have:=Hw hp;rw [e] at this;simp only [List.contains_eq_mem,decide_eq_false_iff_not] at J;exact J this
    obtain⟨G,cD,Q,o1,o2,o3⟩:=HS.rZ hs (B6 (h:=s.h) v);obtain⟨g1,Z⟩:=DF hs hx hsn cD o1 o2;have N:aR s.h (ix s.h v) i=some (.rows b g col rsz nx es):=by rw [dZ E];exact H
    obtain⟨vv,q0,V⟩:=zS (s:=⟨s.t,aR s.h (ix s.h v)⟩) Q N hp;simp only [an] at M;obtain⟨bk,o,L,cap,x,rfl⟩:=M;rw [q0] at x;simp only [W5] at x;subst x;obtain⟨cs,hOb,B,hsl⟩:=V.put (P:=P) I ht S g1 Z;have F:Le w ρ G (w.setRow bk cs) ρ G:=Ag hOb _;refine⟨_,_,ρ,G,f,by simpa [Instr.storeAt,Instr.sureAddr] using B,cD.trans F, ?_⟩;rw [dx,xu E];exact Q.WR N hp hOb q0 (hsl _ _ (λd hd=>F.A d hd) hOb)
   .simp at f
  .simp at f
 .simp at f
theorem Kl(t:TypeId)(cells:Array Value):(newRow t cells).run P w= .ok ⟨w.heap.size,0,none⟩ (w.alloc (.cells cells t)):=by simp [newRow]
theorem l8(o:Obj):(w.alloc o).heap[w.heap.size]? =some o:=by show(w.heap.push o)[w.heap.size]? =some o;simp
theorem HS.I6{i:Id}(hs:HS c w h ρ O)(a:h i=none){cs:List AV}{vs:List Value}(t:TypeId)(f:aD w (AA c w O) ρ cs vs)(d:∀u∈vs,u.oneCell'=true/\u.cells= #[u])(hrl:i.real=true:=by rfl):
  Le w ρ O (w.alloc (.cells vs.toArray t)) (aN ρ i (some (.pointer (some ⟨w.heap.size,0,none⟩)))) (aN O i (some w.heap.size))/\
  HS c (w.alloc (.cells vs.toArray t)) (aN h i (some (.box cs))) (aN ρ i (some (.pointer (some ⟨w.heap.size,0,none⟩)))) (aN O i (some w.heap.size)):=by
 have le:=Le.alloc hs hrl a (.cells vs.toArray t) (.pointer (some ⟨w.heap.size,0,none⟩)) (some w.heap.size) (.inr rfl);refine⟨le,hs.alloc hrl a _ _ _ (.inr rfl) _ ⟨w.heap.size,vs.toArray,t,by simp,by simp,l8 _, ?_,d⟩⟩;exact aD.mono (λb e=>le.A b e) le.fu _ _ f
theorem HS.Ss{i:Id}(hs:HS c w h ρ O)(a:h i=none){cs:List AV}{arr:Array Value}(t:TypeId)(f:aD w (AA c w O) ρ cs arr.toList)(d:∀u∈arr.toList,u.oneCell'=true/\u.cells= #[u])(hrl:i.real=true:=by rfl):
  Le w ρ O (w.alloc (.cells arr t)) (aN ρ i (some (.slice (some ⟨w.heap.size,0,none⟩) 1 1))) (aN O i (some w.heap.size))/\
  HS c (w.alloc (.cells arr t)) (aN h i (some (.arr cs))) (aN ρ i (some (.slice (some ⟨w.heap.size,0,none⟩) 1 1))) (aN O i (some w.heap.size)):=by
 have le:=Le.alloc hs hrl a (.cells arr t) (.slice (some ⟨w.heap.size,0,none⟩) 1 1) (some w.heap.size) (.inr rfl);refine⟨le,hs.alloc hrl a _ _ _ (.inr rfl) _ ⟨w.heap.size,arr,t,by simp,by simp,l8 _, ?_,d⟩⟩;exact aD.mono (λb e=>le.A b e) le.fu _ _ f
theorem Jj{u:Value}{x:T}(e:qH u=some x):az w A x u:=by
 cases u <;> simp only [qH,W5,reduceCtorEq] at e
 case slice a l b=>split at e <;> simp_all;subst e;simp [az]
 case pointer a=>split at e <;> simp_all;subst e;simp [az]
 case map a=>split at e <;> simp_all;subst e;simp [az]
 all_goals (subst e;simp [az])
theorem qI:∀{us:List Value} {l:List T},mO us=some l->ba w A l us
 | [],l,e=>by simp only [mO,W5] at e;subst e;rfl
 | u::us,l,e=>by simp only [mO] at e;obtain⟨x,a,e⟩:=W6.1 e;obtain⟨l',b,e⟩:=W6.1 e;simp only [W5] at e;subst e;exact⟨u,us,rfl,Jj a,qI b⟩
theorem pH{t:TypeId}{l:List T}(e:jx P t=some l):∃i z,P.info? t=some i/\i.zero=some z/\mO z.cells.toList=some l:=by
 unfold jx at e;split at e
 .rename_i i a;split at e
  .rename_i z b;exact⟨i,z,a,b,e⟩
  .simp at e
 .simp at e
theorem P6(off:Nat)(v cells:Array Value)(d:off+v.size<=cells.size):(v.zipIdx.foldl (λcs (x:Value×Nat)=>cs.setIfInBounds (off+x.2) x.1) cells).toList=cK off v.toList cells.toList:=by
 obtain⟨g1,b⟩:=Go.Great.foldl_set off v.toList 0 cells;have e:v.zipIdx.foldl (λcs (x:Value×Nat)=>cs.setIfInBounds (off+x.2) x.1) cells= (v.toList.zipIdx 0).foldl (λcs (x:Value×Nat)=>cs.setIfInBounds (off+x.2) x.1) cells:=by rw [<-Array.foldl_toList,Array.toList_zipIdx]
 rw [e];apply Yz;intro p;rw [X8,b p,uz off v.toList cells.toList (by simpa using d)];simp only [Y9,XE,X8];by_cases a:off<=p/\p < off+v.size
 .rw [if_pos ⟨a.1,a.2,by omega⟩,if_pos a]
 .rw [if_neg (by omega),if_neg a]
inductive vg (w:World) (A:Nat->Prop) (ρ:Id->Option Value) (place:Nat->Option (Nat×Nat)):List (Nat×List AV)->List (Nat×Value)->Prop
 | nil:vg w A ρ place [] []
 | cons {off:Nat} {l:List AV} {f:Nat} {v:Value} {ls:List (Nat×List AV)} {vs:List (Nat×Value)} (hp:place f=some (off,l.length)) (hr:aD w A ρ l v.cells.toList) (h1:∀u∈v.cells.toList,u.oneCell'=true/\u.cells= #[u])
   (rest:vg w A ρ place ls vs):vg w A ρ place ((off,l)::ls) ((f,v)::vs)
theorem Hf{a:Nat->Option (Nat×Nat)}:∀{j:List (Nat×List AV)} {vs:List (Nat×Value)} {i out:List AV} {cells:Array Value},vg w A ρ a j vs->wB j i=some out->aD w A ρ i cells.toList->(∀u∈cells.toList,u.oneCell'=true/\u.cells= #[u])->
  ∃r,Instr.fill a cells vs=some r/\aD w A ρ out r.toList/\∀u∈r.toList,u.oneCell'=true/\u.cells= #[u]
 | [],_,i,out,cells, .nil,hl,d,e=>by simp only [wB,W5] at hl;subst hl;exact⟨cells,rfl,d,e⟩
 | (off,l)::j,(f,v)::vs,i,out,cells, .cons t n m rest,hl,d,e=>by
  simp only [wB] at hl;split at hl
  .rename_i q;have k:=n.length;have y:=d.length;simp only [XE] at k y;have g:off+v.cells.size<=cells.size:=by omega
   have b:=P6 off v.cells cells g;obtain⟨r,o,p,e3⟩:=Hf (cells:=v.cells.zipIdx.foldl (λcs (x:Value×Nat)=>cs.setIfInBounds (off+x.2) x.1) cells) rest hl (by
    rw [b];unfold cK;rw [show v.cells.toList.length=l.length by simpa using k];exact((d.take off).append n).append (d.drop _)) (by
    intro u hu;rw [b] at hu;simp only [cK,Xo] at hu;rcases hu with(hu | hu) | hu
    .exact e u (YX hu)
    .exact m u hu
    .exact e u (Zg hu))
   refine⟨r, ?_,p,e3⟩;unfold Instr.fill;simp only [t];rw [if_neg (by simp [k];omega)];exact o
  .simp at hl
theorem Jy{t:TypeId}{f:Nat}{p:Nat×TypeId}(e:wX P t f=some p)(k:sI P t=true):
  cB P p.2=true/\((∃a,P.underlying t=some (.struct a)/\(a.toList.map λx=>(x.offset,P.cellsOf x.type))[f]? =some (p.1,P.cellsOf p.2))\/
   ∃n e,P.underlying t=some (.array n e)/\p= (f * P.cellsOf e,e)):=by
 unfold wX at e;split at e
 .rename_i q g;simp only [W5] at e;subst e;obtain⟨a,x,b,d,i,j⟩:=BZ g;refine⟨j, .inl ⟨a,b, ?_⟩⟩;rw [XU,X8,d];simp [i]
 .split at e
  .rename_i n u g;simp only [W5] at e;subst e;obtain⟨b,d⟩:=EN g;exact⟨d, .inr ⟨n,u,b,rfl⟩⟩
  .simp at e
theorem JA{a:Act}{g:Option Gs}{t:TypeId}(hs:HS c w s.h ρ O)(n:SS w (AA c w O) ρ s.t a.tmps)(m:lY a.tmps g)(l:sI P t=true)(b:Nat->Option (Nat×Nat))
  (d:∀f p,wX P t f=some p->b f=some (p.1,P.cellsOf p.2)):
  ∀{k:List (Nat×Operand)} {j:List (Nat×List AV)},qM P t (s.get g) k=some j->vg w (AA c w O) ρ b j (k.map λx=>(x.1,a.eval x.2))
 | [],j,e=>by simp only [qM,W5] at e;subst e;exact .nil
 | (f,o)::k,j,e=>by
  simp only [qM] at e;obtain⟨p,u,e⟩:=W6.1 e;split at e
  .rename_i i;obtain⟨q,v,e⟩:=W6.1 e;simp only [W5] at e;subst e;have y:=SS.get (h:=s.h) n m o;obtain⟨g1,r⟩:=yd hs y i.2;exact .cons (by rw [d f p u,show(St.get ⟨s.t,s.h⟩ g o)=s.get g o from rfl,i.1]) g1 r (JA hs n m l b d v)
  .simp at e
theorem MQ{a:Act}{g:Option Gs}{t:TypeId}{o:Array (Nat×Operand)}{M:AV}(hs:HS c w s.h ρ O)(Y:SS w (AA c w O) ρ s.t a.tmps)(X:lY a.tmps g)(e:x9 P t (s.get g) o.toList=some M):
  ∃v,(Instr.build t (o.map λ(i,x)=>(i,a.eval x))).run P w= .ok v w/\an w (AA c w O) ρ M v:=by
 unfold x9 at e;split at e
 .rename_i b;obtain⟨z,Z,e⟩:=W6.1 e;obtain⟨l,hl,e⟩:=W6.1 e;obtain⟨cs,Q,e⟩:=W6.1 e;simp only [W5] at e;subst e;obtain⟨i,zv,D,G,S⟩:=pH Z;have F:ba w (AA c w O) z zv.cells.toList:=qI S;have V:(o.map λ(i,x)=>(i,a.eval x)).toList=o.toList.map λx=>(x.1,a.eval x.2):=by simp
  have key:∀j:Nat->Option (Nat×Nat),(∀f p,wX P t f=some p->j f=some (p.1,P.cellsOf p.2))->∃r,Instr.fill j zv.cells (o.map λ(i,x)=>(i,a.eval x)).toList=some r/\aD w (AA c w O) ρ cs r.toList/\∀u∈r.toList,u.oneCell'=true/\u.cells= #[u]:=by intro j y;rw [V];exact Hf (JA hs Y X b j y hl) Q (aD.mP F) F.one
  have E:∀r:Array Value,P.built t (o.map λ(i,x)=>(i,a.eval x)).toList=some r->aD w (AA c w O) ρ cs r.toList->(∀u∈r.toList,u.oneCell'=true/\u.cells= #[u])->
    ∃v,(Instr.build t (o.map λ(i,x)=>(i,a.eval x))).run P w= .ok v w/\an w (AA c w O) ρ (.agg cs) v:=by
   intro r W m J;exact⟨_,run_build w t _ r W,by simp only [an];exact⟨r.toList,by simp,m,J⟩⟩
  cases k:P.underlying t with
  | none=>simp [sI,k] at b
  | some d=>
   cases d <;> simp only [sI,k,XD] at b
   case struct C=>
    have q:C.toList.mapM (λf=>(P.info? f.type).map λi=>(f.offset,i.size))=some (C.toList.map λx=>(x.offset,P.cellsOf x.type)):=by
     generalize C.toList=l at b;induction l with
     | nil=>rfl
     | cons f l ih=>simp only [Yp,Xf] at b;obtain⟨d,K⟩:=YL.1 b.1;obtain⟨i,D,B⟩:=y5 K;simp only [aaq,D,YJ,Option.bind_eq_bind,Xb,ih b.2,Option.pure_def,Xq,B]
    obtain⟨r,H,I,e3⟩:=key ((C.toList.map λx=>(x.offset,P.cellsOf x.type)).toArray[·]?) (λf p L=>by
     obtain⟨_,h | ⟨n,e,h,_⟩⟩:=Jy L (by simp [sI,k,b])
     .obtain⟨N,m,J⟩:=h;rw [k] at m;simp only [W5,TypeDesc.struct.injEq] at m;subst m;simpa using J
     .rw [k] at h;simp at h)
    refine E r ?_ I e3;simp only [Program.built,D,k,G,q];exact H
   case array n e=>
    obtain⟨d,K⟩:=YL.1 b;obtain⟨U,R,B⟩:=y5 K;obtain⟨r,H,I,e3⟩:=key (λi=>some (i * U.size,U.size)) (λf p L=>by
     obtain⟨_,⟨N,m,_⟩ | ⟨n',e',h,T⟩⟩:=Jy L (by simp [sI,k,b])
     .rw [k] at m;simp at m
     .rw [k] at h;simp only [W5,TypeDesc.array.injEq] at h;obtain⟨rfl,rfl⟩:=h;subst T;simp [B])
    refine E r ?_ I e3;simp only [Program.built,D,k,G,R];exact H
 .simp at e
end
open Go Go.IntKind
section
variable {P:Program} {w w':World} {A A':Nat->Prop} {c:Ctx} {ρ:Id->Option Value} {O:Id->Option Nat} {s:St} {cc:Option Bool} {h:Id->Option ad}
def cQ(w:World)(A:Nat->Prop)(sz:Nat):List (List T)->List (List Value)->Prop
 | [],vss=>vss= []
 | cs::xs,vss=>∃vs r,vss=vs::r/\cs.length=sz/\ba w A cs vs/\cQ w A sz xs r
theorem cQ.mono{sz:Nat}(a:∀b,A b->A' b/\w'.heap[b]? =w.heap[b]?):∀{xs:List (List T)} {vss:List (List Value)},cQ w A sz xs vss->cQ w' A' sz xs vss
 | [],_,h=>h
 | cs::xs,vss,⟨vs,r,e,d,f,g⟩=>⟨vs,r,e,d,ba.mono a cs vs f,cQ.mono a g⟩
theorem cQ.length{sz:Nat}:∀{xs:List (List T)} {vss:List (List Value)},cQ w A sz xs vss->vss.length=xs.length/\vss.flatten.length=xs.length * sz
 | [],vss,h=>by simp only [cQ] at h;subst h;simp
 | cs::xs,vss,⟨vs,r,e,b,d,f⟩=>by subst e;obtain⟨g1,a⟩:=cQ.length f;have:=d.length;refine⟨by simp [g1], ?_⟩;simp only [YO,XK,a,this,b,Xj,Yb];omega
theorem cQ.one{sz:Nat}:∀{xs:List (List T)} {vss:List (List Value)},cQ w A sz xs vss->∀u∈vss.flatten,u.oneCell'=true/\u.cells= #[u]
 | [],vss,h,u,hu=>by simp only [cQ] at h;subst h;simp at hu
 | cs::xs,vss,⟨vs,r,e,d,a,b⟩,u,hu=>by
  subst e;simp only [YO,Xo] at hu;rcases hu with hu | hu
  .exact a.one u hu
  .exact cQ.one b u hu
theorem cQ.append{sz:Nat}:∀{xs d:List (List T)} {vss a:List (List Value)},cQ w A sz xs vss->cQ w A sz d a->cQ w A sz (xs++d) (vss++a)
 | [],_,vss,_,h,b=>by simp only [cQ] at h;subst h;simpa using b
 | cs::xs,d,vss,a,⟨vs,r,e,f,g,i⟩,b=>by subst e;exact⟨vs,r++a,rfl,f,g,cQ.append i b⟩
theorem bx.bE{ah sz:Nat}:∀{off:Nat} {xs:List (List T)},bx w A ah sz off xs->∃vss,cQ w A sz xs vss/\∀p v,vss.flatten[p]? =some v->w.cell? ⟨ah,off+p,none⟩=some v
 | _,[],_=>⟨[],rfl,by simp⟩
 | off,cs::xs,h=>by
  simp only [bx] at h;obtain⟨vs,b,d⟩:=h.2.1.bE;obtain⟨r,e,f⟩:=bx.bE h.2.2;refine⟨vs::r,⟨vs,r,rfl,h.1,b,e⟩,λp v a=> ?_⟩;have hl:=b.length;rw [h.1] at hl;rw [YO] at a;by_cases g:p < sz
  .rw [Xk (by omega)] at a;exact d p v a
  .rw [Xs (by omega),hl] at a;have:=f _ v a;rw [show off+sz+ (p - sz)=off+p by omega] at this;exact this
theorem bx.mh{ah sz:Nat}:∀{off:Nat} {xs:List (List T)} {vss:List (List Value)},cQ w A sz xs vss->(∀p v,vss.flatten[p]? =some v->w.cell? ⟨ah,off+p,none⟩=some v)->bx w A ah sz off xs
 | _,[],_,_,_=>by simp [bx]
 | off,cs::xs,vss,⟨vs,r,e,a,b,g⟩,f=>by
  subst e;have hl:=b.length;rw [a] at hl;simp only [bx];refine⟨a,bn.mh b (λj v d=>f j v ?_),bx.mh g (λp v i=> ?_)⟩
  .rw [YO,Xk (W9.1 d).1];exact d
  .have:=f (sz+p) v (by rw [YO,Xs (by omega),hl,show sz+p - sz=p by omega];exact i);rw [show off+sz+p=off+ (sz+p) by omega];exact this
theorem HS.zt{i:Id}(hs:HS c w h ρ O)(d:h i=none){xs:List (List T)}{vss:List (List Value)}{sz:Nat}(t:TypeId)(cells:Array Value)(cap:Nat)(j:cQ w (AA c w O) sz xs vss)
  (f:∀(p:Nat) (v:Value),vss.flatten[p]? =some v->cells[p]? =some v) (a:xs.length<=cap) (k:cap * sz<=cells.size) (hrl:i.real=true:=by rfl):
  Le w ρ O (w.alloc (.cells cells t)) (aN ρ i (some (.slice (some ⟨w.heap.size,0,none⟩) xs.length cap))) (aN O i (some w.heap.size))/\
  HS c (w.alloc (.cells cells t)) (aN h i (some (.sl false sz false xs))) (aN ρ i (some (.slice (some ⟨w.heap.size,0,none⟩) xs.length cap))) (aN O i (some w.heap.size)):=by
 have le:=Le.alloc hs hrl d (.cells cells t) (.slice (some ⟨w.heap.size,0,none⟩) xs.length cap) (some w.heap.size) (.inr rfl);refine⟨le,hs.alloc hrl d _ _ _ (.inr rfl) _ ⟨_,by rw [aH],⟨some ⟨w.heap.size,0,none⟩,cap,rfl,a,by simp,trivial, .inr ⟨w.heap.size,0,cells,t,rfl,by simp,l8 _,by omega, ?_⟩⟩,by simp⟩⟩;refine bx.mh (cQ.mono (λb e=>le.A b e) j) (λp v g=> ?_);rw [l5 (l8 _),XF];exact f p v g
theorem GY{a:Act}{g:Option Gs}{e:TypeId}(hs:HS c w s.h ρ O)(C:SS w (AA c w O) ρ s.t a.tmps)(B:lY a.tmps g){O':Id->Option Nat}(le:Le w ρ O w ρ O')(m:∀i,O' i=O i\/O' i=none):
  ∀{y:List (Nat×Operand)} {n:Nat} {q:List (List T)×aK},jn P s.h e (s.get g) n y=some q->(∀p∈q.2,O' p.1=none)->
   ∃vs:List Value,(y.map λx=>(x.1,a.eval x.2))= ((vs.zipIdx n).map λx=>(x.2,x.1))/\cQ w (AA c w O') (P.cellsOf e) q.1 (vs.map λv=>v.cells.toList)/\(∀v∈vs,v.cells.size=P.cellsOf e)
 | [],n,q,b,_=>by simp only [jn,W5] at b;subst b;exact⟨[],rfl,by simp [cQ],by simp⟩
 | (k,o)::y,n,q,b,r=>by
  simp only [jn] at b;obtain⟨l,hl,b⟩:=W6.1 b;split at b
  .rename_i j;obtain⟨rfl,d⟩:=j;obtain⟨I,z,b⟩:=W6.1 b;simp only [W5] at b;subst b;simp only [Xo] at r;obtain⟨vs,D,E,e3⟩:=GY hs C B le m z (λp u=>r p (.inr u));have G:=SS.get (h:=s.h) C B o;obtain⟨g1,H⟩:=DF hs G hl le m (λp u=>r p (.inl u));have F:=g1.length;refine⟨a.eval o::vs, ?_,⟨_,_,rfl,d,g1,E⟩, ?_⟩
   .simp only [Xq,List.zipIdx_cons,D]
   .intro v f;rcases Xl.1 f with rfl | f
    .rw [<-XE,F,d]
    .exact e3 v f
  .simp at b
theorem GX{e:TypeId}{ev:Operand->AV}:∀{b:List (Nat×Operand)} {n:Nat} {q:List (List T)×aK},jn P h e ev n b=some q->ij h q.2/\q.1.length=b.length
 | [],n,q,a=>by simp only [jn,W5] at a;subst a;exact⟨(λp i=>by cases i),rfl⟩
 | (k,o)::b,n,q,a=>by
  simp only [jn] at a;obtain⟨l,hl,a⟩:=W6.1 a;split at a
  .obtain⟨j,d,a⟩:=W6.1 a;simp only [W5] at a;subst a;obtain⟨f,g⟩:=GX d;exact⟨(B6 _).append f,by simp [g]⟩
  .simp at a
theorem zU{t e:TypeId}{n:Nat}(u:P.underlying t=some (.slice e))(l:cB P e=true)(d:(jx P e).isSome=true)(b: 0 < P.cellsOf e)(g:n<=1000/\P.cellsOf e<=1000)(vs:List Value)(y:∀v∈vs,v.cells.size=P.cellsOf e)(j:vs.length=n)
  (o:Array (Nat×Value)) (a:o.toList= (vs.zipIdx 0).map λx=>(x.2,x.1)):
  (Instr.buildSlice t n o).run P w= .ok (.slice (some ⟨w.heap.size,0,none⟩) n n) (w.alloc (.cells (vs.flatMap λv=>v.cells.toList).toArray e)):=by
 obtain⟨z,d⟩:=YL.1 d;obtain⟨i,zv,r,m,_⟩:=pH d;have B:n * P.cellsOf e<=1000 * 1000:=aar g.1 g.2;have q:¬(n * P.cellsOf e > 2 ^ 24):=by
  have f:(2:Nat) ^ 24=16777216:=by decide
  rw [f];omega
 have p:=Go.Great.fill_whole b vs;unfold Instr.buildSlice;simp only [Xx,run_underlying u,Xm,jU l,if_neg q,Sem.run_ite];by_cases h0:n * P.cellsOf e=0
 .have k:n=0:=by rcases Nat.mul_eq_zero.1 h0 with e | e <;> omega
  subst k;have:vs= []:=Xz.1 j;subst this;simp only [Nat.zero_mul,if_true,XO,Xm];simp only [List.zipIdx_nil,XY] at a;simp [a,Instr.fill,newRow,Array.range_zero']
 .simp only [if_neg h0,Xx,zeroValue,typeInfo,run_program,Xm,r,XO,m];rw [a,p _ y (by simp [j])];simp [newRow]
theorem Kk{t e:TypeId}{b:List T}{n m:Int}{kn km:IntKind}(u:P.underlying t=some (.slice e))(v:jx P e=some b)(q:P.bytesOf e<=8192)(r:b.length=P.cellsOf e)(h0: 0<=n)(p:n<=m)(f:m<=nU):
  ∃zv:Value,ba w A b zv.cells.toList/\(Instr.makeSlice t (.int kn n) (.int km m)).run P w= .ok (.slice (some ⟨w.heap.size,0,none⟩) n.toNat m.toNat) (w.alloc (.cells (madeCells zv.cells (m.toNat * P.cellsOf e)) e)):=by
 obtain⟨i,zv,a,l,j⟩:=pH v;have k:P.cellsOf e=i.size:=by simp [Program.cellsOf,a]
 have g:P.bytesOf e=i.bytes:=by simp [Program.bytesOf,a]
 refine⟨zv,qI j, ?_⟩;rw [k];refine run_make w t e i zv u a l kn km n m h0 p ?_ ?_
 .rw [g] at q;have:(i.bytes:Int) * m<=8192 * 4294967296:=by
   have o:(i.bytes:Int)<=8192:=by omega
   have d:m<=4294967296:=by simpa [nU] using f
   calc (i.bytes:Int) * m<=8192 * m:=ZY o (by omega)
    _<=8192 * 4294967296:=Z1 d (by omega)
  omega
 .have d:m<=4294967296:=by simpa [nU] using f
  omega
theorem CH{zv:Array Value}{sz:Nat}(b:zv.size=sz)(n m:Nat)(i:n<=m):∀(p:Nat) (v:Value),(List.replicate n zv.toList).flatten[p]? =some v->(madeCells zv (m * sz))[p]? =some v:=by
 intro p v a;have d:p < n * sz:=by have:=(W9.1 a).1;simpa [b] using this
 have g: 0 < sz:=by
  rcases Nat.eq_zero_or_pos sz with e | e
  .rw [e] at d;simp at d
  .exact e
 have hm:n * sz<=m * sz:=Ya _ i;have key:∀n p,p < n * sz->(List.replicate n zv.toList).flatten[p]? =zv[p % sz]?:=by
  intro n;induction n with
  | zero=>intro p h;simp at h
  | succ n j=>
   intro p h;rw [Yv,YO];by_cases a:p < sz
   .rw [Xk (by simpa [b] using a),Zk a];simp
   .rw [Xs (by simp [b];omega)];simp only [XE,b];have k:(n+1) * sz=n * sz+sz:=Yb _ _;rw [j _ (by omega)];congr 1;exact(Nat.mod_eq_sub_mod (by omega)).symm
 rw [key n p d] at a;have f:p % sz < zv.size:=by rw [b];exact aat _ g
 simp only [madeCells,Array.getElem?_map];rw [YU (by simp;omega)];simp only [Array.getElem_range,YJ,b];rw [YU f] at a;rw [getElem!_pos zv _ f];exact a
theorem cQ.replicate{sz:Nat}{a:List T}{vs:List Value}(b:ba w A a vs)(hl:a.length=sz):∀n,cQ w A sz (List.replicate n a) (List.replicate n vs)
 | 0=>rfl
 | n+1=>⟨vs,List.replicate n vs,rfl,hl,b,cQ.replicate b hl n⟩
end
end Go.Aev
