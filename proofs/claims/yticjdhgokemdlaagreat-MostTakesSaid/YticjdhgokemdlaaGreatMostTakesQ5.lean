import Derived.Test.YticjdhgokemdlaaGreatMostTakesQ4
import Derived.Orders
import Derived.Still
import Derived.Below
import Derived.Deep.Slices
import Derived.Carry
import Derived.ProofKit
import Derived.OpenShut
import Derived.SizedLaws
set_option linter.unusedSimpArgs false
set_option linter.unusedVariables false
namespace Go.Aev
open Go
section
variable {P:Program} {An:Ann} {Or:Orc} {w w':World} {A A':Nat->Prop} {c:Ctx} {ρ:Id->Option Value} {O:Id->Option Nat} {s s':St}
structure Sim (c:Ctx) (nt:Nat) (w:World) (s:St) (ρ:Id->Option Value) (O:Id->Option Nat) (a:Act):Prop where
 hs:HS c w s.h ρ O
 ss:SS w (AA c w O) ρ s.t a.tmps
 nt:a.tmps.size=nt
 defers:a.defers= []
def gJ(ops:Array Oper)(s:St):Prop:= ∀k g v,s.t k= (some g,v)->be ops (some g.d)=true
theorem fc{a:Act}{d k:Nat}{x:Value}(hd:d < a.tmps.size):(a.put (some d) x).tmps.getD k undef=if k=d then x else a.tmps.getD k undef:=by
 simp only [Act.put]
 by_cases e:k=d
 ·subst e;simp [hd]
 ·rw [if_neg e]
  simp [Array.getElem?_setIfInBounds_ne (Ne.symm e)]
theorem l9(a:Act)(d:Option Nat)(x:Value):(a.put d x).tmps.size=a.tmps.size:=by cases d <;> simp [Act.put]
theorem np(a:Act)(d:Option Nat)(x:Value):(a.put d x).defers=a.defers:=by cases d <;> rfl
theorem B3{ops:Array Oper}{o:Oper}{a:Act}{g:Option Gs}(ht:SS w A ρ s.t a.tmps)(h:aT ops o s some=some g):
  (Region.wanted o (yielded ops a.tmps)=true->Runs a.tmps g)/\
  (Region.wanted o (yielded ops a.tmps)=false->∃gs,g=some gs/\a.tmps.getD gs.d undef≠ .bool gs.want/\gs.c=false)/\
  (∀gs,g=some gs->be ops (some gs.d)=true\/∀o'∈ops,o'≠o):=by
 unfold aT at h
 cases hg:o.guard with
 | none=>
  simp only [hg,Option.some.injEq] at h;subst h
  exact⟨fun _=>trivial,fun h=>by simp [Region.wanted,hg] at h,fun gs h=>by cases h⟩
 | some p=>
  obtain⟨j,want⟩:=p
  simp only [hg] at h
  cases hd:(ops[j]?).bind (·.dst) with
  | none=>simp [hd] at h
  | some d=>
   simp only [hd] at h
   replace h:=Option.bind_eq_some_iff.1 h;obtain⟨x,hx,h⟩:=h
   have hw:Region.wanted o (yielded ops a.tmps)=true↔a.tmps.getD d undef= .bool want:=by
    simp only [Region.wanted,hg,yielded,hd,Option.bind_some,beq_iff_eq]
    rw [Array.getD_eq_getD_getElem?]
    cases a.tmps[d]? with
    | none=>simp [undef]
    | some u=>cases u <;> simp
   have hgs:∀gs,g=some gs->gs.d=d/\gs.want=want:=by
    intro gs e
    replace h:=ik h;obtain⟨b,h,_⟩:=h
    simp only [Option.some.injEq] at h
    rw [<-h] at e;simp only [Option.some.injEq] at e;subst e;exact⟨rfl,rfl⟩
   have hsome:∃gs,g=some gs:=by
    replace h:=ik h;obtain⟨b,h,_⟩:=h
    simp only [Option.some.injEq] at h
    exact⟨_,h.symm⟩
   obtain⟨gs,rfl⟩:=hsome
   obtain⟨e1,e2⟩:=hgs gs rfl
   refine⟨fun hwt=> ?_,fun hwf=>⟨gs,rfl, ?_⟩,fun gs' e=> ?_⟩
   ·have htd:=hw.1 hwt
    simp only [Runs,e1,e2]
    refine⟨htd, ?_⟩
    have hsd:=ht d
    rw [htd] at hsd
    cases hst:s.t d with
    | mk gd v=>
     rw [hst] at hsd hx h
     dsimp only at hx h hsd
     rw [AV.t?_eq hx] at hsd
     cases gd with
     | none=>
      simp only [RelV] at hsd
      simp only [Option.map_none] at h
      replace h:=ah h (.inl rfl);obtain⟨b,hb,h⟩:=h
      simp only [Option.some.injEq] at h
      have:=T.bool?_eq hb;subst this
      simp only [RelT,Value.bool.injEq] at hsd
      rw [<-h,<-hsd]
      cases want <;> rfl
     | some g0=>
      simp only at hsd
      rcases hsd with⟨_,hc0,hv⟩ | ⟨_,_,hu⟩
      ·simp only [Option.map_some,hc0] at h
       replace h:=ah h (.inr rfl);obtain⟨b,hb,h⟩:=h
       simp only [Option.some.injEq] at h
       have:=T.bool?_eq hb;subst this
       simp only [RelV,RelT,Value.bool.injEq] at hv
       rw [<-h,<-hv]
       simp only [gC,hc0]
       cases want <;> rfl
      ·simp [undef] at hu
   ·have hnw:a.tmps.getD d undef≠ .bool want:=fun hh=>by
     have:=hw.2 hh
     rw [this] at hwf;cases hwf
    refine⟨by rw [e1,e2];exact hnw, ?_⟩
    have hsd:=ht d
    cases hst:s.t d with
    | mk gd v=>
     rw [hst] at hsd hx h
     dsimp only at hx h hsd
     rw [AV.t?_eq hx] at hsd
     cases gd with
     | none=>
      simp only [RelV] at hsd
      simp only [Option.map_none] at h
      replace h:=ah h (.inl rfl);obtain⟨b,hb,h⟩:=h
      simp only [Option.some.injEq] at h
      have:=T.bool?_eq hb;subst this
      simp only [RelT] at hsd
      have hbw:b≠want:=fun e=>hnw (by rw [hsd,e])
      rw [<-h]
      simp only [gC]
      cases b <;> cases want <;> simp_all [oe]
     | some g0=>
      simp only at hsd
      rcases hsd with⟨_,hc0,hv⟩ | ⟨_,hc0,_⟩
      ·simp only [Option.map_some,hc0] at h
       replace h:=ah h (.inr rfl);obtain⟨b,hb,h⟩:=h
       simp only [Option.some.injEq] at h
       have:=T.bool?_eq hb;subst this
       simp only [RelV,RelT] at hv
       have hbw:b≠want:=fun e=>hnw (by rw [hv,e])
       rw [<-h]
       simp only [gC,hc0]
       cases b <;> cases want <;> simp_all [oe]
      ·replace h:=ik h;obtain⟨b,h,_⟩:=h
       simp only [Option.some.injEq] at h
       rw [<-h]
       simp [gC,hc0]
   ·simp only [Option.some.injEq] at e;subst e
    by_cases hm:o∈ops
    ·left
     unfold be
     rw [Array.any_eq_true']
     exact⟨o,hm,by simp [hg,hd,e1]⟩
    ·right
     intro o' ho' e;exact hm (e▸ho')
theorem qg{ops:Array Oper}{o:Oper}{g:Option Gs}{v:AV}{us:Upd}(hin:gJ ops s)(hask:∀gs,g=some gs->be ops (some gs.d)=true):gJ ops (s.put (be ops o.dst) o.dst g v us):=by
 intro k g' v' hk
 cases hd:o.dst with
 | none=>simp only [St.put,hd] at hk;exact hin k g' v' hk
 | some d=>
  simp only [St.put,hd] at hk
  by_cases e:k=d
  ·simp only [if_pos e,Prod.mk.injEq] at hk
   exact hask g' hk.1
  ·simp only [if_neg e] at hk
   cases hinv:be ops (some d) with
   | false=>rw [hinv,cond_false] at hk;exact hin k g' v' hk
   | true=>
    rw [hinv,cond_true] at hk
    cases hst:s.t k with
    | mk gk vk=>
     rw [hst] at hk
     cases gk with
     | none=>simp [eN] at hk
     | some gk=>
      simp only [eN] at hk
      cases hgd:(gk.d==d) with
      | true=>simp [hgd] at hk
      | false=>
       simp only [hgd,cond_false,Prod.mk.injEq,Option.some.injEq] at hk
       rw [<-hk.1];exact hin k gk vk hst
theorem oD{nt:Nat}{ops:Array Oper}{o:Oper}{a:Act}{g:Option Gs}{v:AV}{us:Upd}(ss:SS w (AA c w O) ρ s.t a.tmps)(hnt:a.tmps.size=nt)(hin:gJ ops s)
  (hdst:∀d,o.dst=some d->d < nt) (hgn:∀gs d,g=some gs->o.dst=some d->gs.d≠d)
  (w':World) (ρ':Id->Option Value) (O':Id->Option Nat) (x:Value) (hA:∀b,AA c w O b->AA c w' O' b/\w'.heap[b]? =w.heap[b]?) (hρ:∀i v,ρ i=some v->ρ' i=some v)
  (hx:match g with
   | none=>RelV w' (AA c w' O') ρ' v x
   | some gs=>(a.tmps.getD gs.d undef= .bool gs.want/\gs.c=true/\RelV w' (AA c w' O') ρ' v x)\/(a.tmps.getD gs.d undef≠ .bool gs.want/\gs.c=false/\x=undef)):
  SS w' (AA c w' O') ρ' (s.put (be ops o.dst) o.dst g v us).t (a.put o.dst x).tmps:=by
 have hss:=SS.mono hA hρ ss
 cases hd:o.dst with
 | none=>simp only [St.put,Act.put];exact hss
 | some d=>
  have hlt:d < a.tmps.size:=by rw [hnt];exact hdst d hd
  intro k
  simp only [St.put]
  by_cases e:k=d
  ·subst e
   simp only [if_true]
   cases g with
   | none=>simp only;rw [fc hlt,if_pos rfl];exact hx
   | some gs=>
    have hne:gs.d≠k:=hgn gs k rfl hd
    simp only
    rw [fc hlt,fc hlt,if_neg hne,if_pos rfl]
    exact hx
  ·simp only [if_neg e]
   have hk:=hss k
   cases hinv:be ops (some d) with
   | false=>
    simp only [cond_false]
    cases hst:s.t k with
    | mk gk vk=>
     rw [hst] at hk
     cases gk with
     | none=>simp only at hk⊢;rw [fc hlt,if_neg e];exact hk
     | some gk=>
      have hne:gk.d≠d:=by
       intro e'
       have:=hin k gk vk hst
       rw [e',hinv] at this;cases this
      simp only at hk⊢
      rw [fc hlt,fc hlt,if_neg e,if_neg hne];exact hk
   | true=>
    simp only [cond_true]
    cases hst:s.t k with
    | mk gk vk=>
     rw [hst] at hk
     cases gk with
     | none=>simp only [eN] at hk⊢;rw [fc hlt,if_neg e];exact hk
     | some gk=>
      simp only [eN]
      cases hgd:(gk.d==d) with
      | true=>simp [RelV]
      | false=>
       have hne:gk.d≠d:=by simpa using hgd
       simp only [cond_false] at hk⊢
       rw [fc hlt,fc hlt,if_neg e,if_neg hne];exact hk
theorem SS.openG{tmps:Array Value}{gs:Gs}(hs:SS w A ρ s.t tmps)(hg:tmps.getD gs.d undef= .bool gs.want):SS w A ρ (s.openG gs).t tmps:=by
 intro k
 have hk:=hs k
 simp only [St.openG]
 cases hst:s.t k with
 | mk gk v=>
  rw [hst] at hk
  cases gk with
  | none=>simp only [dG,cond_true] at hk⊢;exact hk
  | some g0=>
   by_cases hsame:dG (some g0) (some gs)=true
   ·simp only [hsame,cond_true]
    simp only [dG,Bool.and_eq_true,beq_iff_eq] at hsame
    simp only at hk
    rcases hk with⟨_,_,h3⟩ | ⟨h1,_⟩
    ·exact h3
    ·exfalso;apply h1;rw [hsame.1,hsame.2];exact hg
   ·simp only [Bool.not_eq_true] at hsame
    simp only [hsame,cond_false]
    exact hk
theorem x8{draw:Bool}{nt:Nat}{ops:Array Oper}{o:Oper}{a:Act}(hO:cH P An Or)(sim:Sim c nt w s ρ O a)(hin:gJ ops s)(hmem:o∈ops)(h:oneD P An Or draw nt ops o s=some s'):
  gJ ops s'/\∀(K:Act->World->Prop) (Q:Exit->Act->World->Prop),(∀a' w' ρ' O',Le w ρ O w' ρ' O'->Sim c nt w' s' ρ' O' a'->K a' w')->
   if Region.wanted o (yielded ops a.tmps) then o.wp P a w K Q\/(o.asks P a w/\LetsOut Q) else K (a.put o.dst undef) w:=by
 unfold oneD gB at h
 rw [ma] at h
 replace h:=Option.bind_eq_some_iff.1 h;obtain⟨g,hg,h⟩:=h
 obtain⟨hrun,hskip,hask⟩:=B3 sim.ss hg
 have hask':∀gs,g=some gs->be ops (some gs.d)=true:=fun gs e=>(hask gs e).resolve_right fun hn=>hn o hmem rfl
 cases hsp:gM An draw o g with
 | none=>
  rw [hsp] at h
  dsimp only at h
  rw [iJ] at h
  replace h:=Option.bind_eq_some_iff.1 h;obtain⟨⟨v,us⟩,hop,h⟩:=h
  dsimp only at h
  split at h
  ·rename_i hok
   simp only [Option.some.injEq] at h;subst h
   simp only [gw,Bool.and_eq_true] at hok
   obtain⟨⟨⟨hdst,hgs⟩,hfree⟩,_⟩:=hok
   have hdst':∀d,o.dst=some d->d < nt:=fun d e=>by simpa [e] using hdst
   have hgn:∀gs d,g=some gs->o.dst=some d->gs.d≠d:=fun gs d e1 e2=>by
    subst e1
    simp only [e2,Bool.and_eq_true,Bool.not_eq_true',beq_eq_false_iff_ne,ne_eq,Option.some.injEq] at hgs
    exact fun e=>hgs.2 e.symm
   refine⟨qg hin hask',fun K Q hK=> ?_⟩
   split
   ·rename_i hw
    left
    have hruns:=hrun hw
    refine OpRes.wp (tq hO sim.hs sim.ss hruns hop hfree) fun x w' ⟨ρ',O',le,hs',hv⟩=> ?_
    refine hK _ w' ρ' O' le ⟨hs', ?_,by rw [l9];exact sim.nt,by rw [np];exact sim.defers⟩
    refine oD sim.ss sim.nt hin hdst' hgn w' ρ' O' x (fun b hb=>le.A b hb) le.rho ?_
    cases g with
    | none=>exact hv
    | some gs=>exact .inl ⟨hruns.1,hruns.2,hv⟩
   ·rename_i hw
    obtain⟨gs,rfl,hne,hcf⟩:=hskip (by simpa using hw)
    have hus:us= []:=by
     simp only [Bool.and_eq_true,List.isEmpty_iff] at hgs
     exact hgs.1
    subst hus
    refine hK _ w ρ O Le.refl ⟨sim.hs, ?_,by rw [l9];exact sim.nt,by rw [np];exact sim.defers⟩
    exact oD sim.ss sim.nt hin hdst' hgn w ρ O undef (fun b hb=>⟨hb,rfl⟩) (fun _ _ h=>h) (.inr ⟨hne,hcf,rfl⟩)
  ·simp at h
 | some gs=>
  rw [hsp] at h
  dsimp only at h
  have hg':g=some gs:=by
   cases g with
   | none=>simp [gM] at hsp
   | some g0=>
    simp only [gM] at hsp
    cases hb:(!draw && isR An o) with
    | false=>rw [hb] at hsp;cases hsp
    | true=>rw [hb] at hsp;simpa using hsp
  subst hg'
  cases hdk:mP nt o gs with
  | false=>rw [hdk] at h;cases h
  | true=>
   rw [hdk,cond_true] at h
   simp only [mP,Bool.and_eq_true] at hdk
   have hdst':∀d,o.dst=some d->d < nt:=fun d e=>by simpa [e] using hdk.1
   have hgn:∀gs' d,some gs=some gs'->o.dst=some d->gs'.d≠d:=fun gs' d e1 e2=>by
    cases e1
    have:=hdk.2
    simp only [e2,Bool.not_eq_true',beq_eq_false_iff_ne,ne_eq,Option.some.injEq] at this
    exact fun e=>this e.symm
   cases hc:gs.c with
   | false=>
    rw [hc,cond_false] at h
    simp only [Option.some.injEq] at h;subst h
    refine⟨qg hin hask',fun K Q hK=> ?_⟩
    split
    ·rename_i hw
     have:=(hrun hw).2
     rw [hc] at this;cases this
    ·rename_i hw
     obtain⟨gs',e,hne,hcf⟩:=hskip (by simpa using hw)
     cases e
     refine hK _ w ρ O Le.refl ⟨sim.hs, ?_,by rw [l9];exact sim.nt,by rw [np];exact sim.defers⟩
     exact oD sim.ss sim.nt hin hdst' hgn w ρ O undef (fun b hb=>⟨hb,rfl⟩) (fun _ _ h=>h) (.inr ⟨hne,hcf,rfl⟩)
   | true=>
    rw [hc,cond_true,iJ] at h
    replace h:=Option.bind_eq_some_iff.1 h;obtain⟨⟨v,us⟩,hop,h⟩:=h
    dsimp only at h
    split at h
    ·rename_i hok
     simp only [Option.some.injEq] at h;subst h
     simp only [gw,Bool.and_eq_true] at hok
     obtain⟨⟨⟨_,_⟩,hfree⟩,_⟩:=hok
     refine⟨qg hin hask',fun K Q hK=> ?_⟩
     split
     ·rename_i hw
      left
      have hruns:=hrun hw
      refine OpRes.wp (tq (s:=s.openG gs) (g:=none) hO sim.hs (sim.ss.openG hruns.1) trivial hop hfree) fun x w' ⟨ρ',O',le,hs',hv⟩=> ?_
      refine hK _ w' ρ' O' le ⟨hs', ?_,by rw [l9];exact sim.nt,by rw [np];exact sim.defers⟩
      exact oD sim.ss sim.nt hin hdst' hgn w' ρ' O' x (fun b hb=>le.A b hb) le.rho (.inl ⟨hruns.1,hruns.2,hv⟩)
     ·rename_i hw
      obtain⟨gs',e,hne,hcf⟩:=hskip (by simpa using hw)
      cases e
      rw [hc] at hcf;cases hcf
    ·simp at h
theorem Sim.clear{nt:Nat}{a:Act}(sim:Sim c nt w s ρ O a):Sim c nt w s.clear ρ O a:=by
 refine⟨sim.hs,fun k=> ?_,sim.nt,sim.defers⟩
 have:=sim.ss k
 simp only [St.clear]
 cases hst:s.t k with
 | mk gk vk=>
  rw [hst] at this
  cases gk with
  | none=>exact this
  | some g=>simp [RelV]
def Bare(s:St):Prop:= ∀k g v,s.t k≠(some g,v)
theorem Dz(s:St):Bare s.clear:=by
 intro k g v h
 simp only [St.clear] at h
 split at h <;> simp at h
theorem Bare.inReg(h:Bare s)(ops:Array Oper):gJ ops s:=fun k g v e=>(h k g v e).elim
theorem xQ{draw:Bool}{nt:Nat}{ops:Array Oper}(hO:cH P An Or){Q:Exit->Act->World->Prop}:∀{l:List Oper} {k:Nat} {w:World} {s:St} {ρ:Id->Option Value} {O:Id->Option Nat} {a:Act},
  (∀j,l[j]? =ops[k+j]?)->Sim c nt w s ρ O a->gJ ops s->ropsD P An Or draw nt ops l s=some s'->
  (∀a' w' ρ' O',Le w ρ O w' ρ' O'->Sim c nt w' s' ρ' O' a'->Q .normal a' w')->wpOps P ops Q (List.range' k l.length) a w
 | [],k,w,s,ρ,O,a,hl,sim,hin,h,hQ=>by
  simp only [ropsD,Option.some.injEq] at h;subst h
  exact hQ a w ρ O Le.refl sim
 | o::l,k,w,s,ρ,O,a,hl,sim,hin,h,hQ=>by
  simp only [ropsD] at h
  obtain⟨s1,h1,h⟩:=Option.bind_eq_some_iff.1 h
  have h0:ops[k]? =some o:=by simpa using (hl 0).symm
  obtain⟨hin1,step⟩:=x8 hO sim hin (Array.mem_of_getElem? h0) h1
  rw [List.length_cons,List.range'_succ]
  simp only [wpOps,h0]
  refine step _ Q fun a' w' ρ' O' le sim'=> ?_
  exact xQ hO (fun j=>by have:=hl (j+1);simpa [Nat.add_assoc,Nat.add_comm 1 j] using this) sim' hin1 h
   (fun a'' w'' ρ'' O'' le' sim''=>hQ a'' w'' ρ'' O'' (le.trans le') sim'')
theorem Dv{nt id:Nat}{ops:Array Oper}{a:Act}(hO:cH P An Or){Q:Exit->Act->World->Prop}(sim:Sim c nt w s ρ O a)(hb:Bare s)(h:ropsD P An Or false nt ops ops.toList s=some s')
  (hQ:∀a' w' ρ' O',Le w ρ O w' ρ' O'->Sim c nt w' s'.clear ρ' O' a'->Q .normal a' w'):(Code.region id ops false).wp P Q a w:=by
 refine wp_region ?_
 rw [List.range_eq_range',<-Array.length_toList]
 exact xQ hO (by intro j;simp) sim (hb.inReg ops) h fun a' w' ρ' O' le sim'=>hQ a' w' ρ' O' le sim'.clear
end
open Go
section
variable {P:Program} {A:Ann} {O:Orc} {R:Type} {h h':Id->Option Blk} {s s':St}
theorem ids_cons{v:AV}{vs:List AV}{i:Id}:i∈aD (v::vs)↔i∈v.ids\/i∈aD vs:=by simp [aD]
theorem jt{v:AV}(hh:∀i∈v.ids,h' i=h i):aS h' v=aS h v:=by
 cases v <;> simp only [aS]
 all_goals rw [hh _ (by simp [AV.ids])]
theorem n7{v:AV}(hh:∀i∈v.ids,h' i=h i):b7 h' v=b7 h v:=by
 cases v <;> simp only [b7]
 all_goals rw [hh _ (by simp [AV.ids])]
theorem tR:∀{vs:List AV},(∀i∈aD vs,h' i=h i)->df h' vs=df h vs
 | [],_=>rfl
 | v::vs,hh=>by
  simp only [df]
  rw [jt fun i hi=>hh i (ids_cons.2 (.inl hi)),tR fun i hi=>hh i (ids_cons.2 (.inr hi))]
theorem sv:∀{vs:List AV},(∀i∈aD vs,h' i=h i)->fI h' vs=fI h vs
 | [],_=>rfl
 | v::vs,hh=>by
  simp only [fI]
  rw [n7 fun i hi=>hh i (ids_cons.2 (.inl hi)),sv fun i hi=>hh i (ids_cons.2 (.inr hi))]
theorem uh{v:AV}(hh:∀i∈v.ids,h' i=h i):dH h' v=dH h v:=by
 cases v
 case agg vs=>simp only [dH];exact tR (by simpa [AV.ids] using hh)
 all_goals (simp only [dH];rw [jt hh])
theorem sQ{v:AV}(hh:∀i∈v.ids,h' i=h i):frz h' v=frz h v:=by
 cases v
 case agg vs=>simp only [frz];exact sv (by simpa [AV.ids] using hh)
 all_goals (simp only [frz];rw [n7 hh])
theorem tp{fl:Bool}{v:AV}(hh:∀i∈v.ids,h' i=h i):cM fl false h' v=cM fl false h v:=by
 cases v
 case ref i off=>simp only [cM,cond_false];rw [hh i (by simp [AV.ids]),jt hh,n7 hh]
 all_goals (simp only [cM];rw [jt hh,n7 hh])
theorem ot{fl:Bool}:∀{vs:List AV},(∀i∈aD vs,h' i=h i)->eL fl false h' vs=eL fl false h vs
 | [],_=>rfl
 | v::vs,hh=>by
  simp only [eL]
  rw [tp fun i hi=>hh i (ids_cons.2 (.inl hi)),ot fun i hi=>hh i (ids_cons.2 (.inr hi))]
theorem xJ{fl:Bool}{v:AV}(hh:∀i∈v.ids,h' i=h i):dZ fl false h' v=dZ fl false h v:=by
 cases v
 case agg vs=>simp only [dZ];rw [ot (by simpa [AV.ids] using hh)]
 case fn f a b=>
  simp only [AV.ids,List.mem_append] at hh
  simp only [dZ];rw [ot fun i hi=>hh i (.inl hi),ot fun i hi=>hh i (.inr hi)]
 all_goals (simp only [dZ];rw [tp hh])
theorem th{fl:Bool}:∀{vs:List AV},(∀i∈aD vs,h' i=h i)->dM fl false h' vs=dM fl false h vs
 | [],_=>rfl
 | v::vs,hh=>by
  simp only [dM]
  rw [xJ fun i hi=>hh i (ids_cons.2 (.inl hi)),th fun i hi=>hh i (ids_cons.2 (.inr hi))]
theorem idsL_append:∀{a b:List AV} {i:Id},i∈aD (a++b)↔i∈aD a\/i∈aD b
 | [],b,i=>by simp [aD]
 | v::a,b,i=>by rw [List.cons_append,ids_cons,ids_cons,idsL_append,or_assoc]
theorem qk:∀{vs:List AV} {i:Id},i∈aD vs->∃v∈vs,i∈v.ids
 | v::vs,i,hi=>by
  rcases ids_cons.1 hi with hi | hi
  ·exact⟨v,List.mem_cons_self,hi⟩
  ·obtain⟨u,h1,h2⟩:=qk hi;exact⟨u,List.mem_cons_of_mem _ h1,h2⟩
 | [],i,hi=>by simp [aD] at hi
theorem qP{d:Nat}{c:Option Bool}{f:FuncId}{args:List AV}{K:AV->Upd->Option R}(hh:s'.h=s.h\/(A.bref f=none/\A.deep f=false/\∀i∈aD args,s'.h i=s.h i)):callAV P A O s' d c f args K=callAV P A O s d c f args K:=by
 unfold callAV
 rcases hh with hh | ⟨hb,hd,hh⟩
 ·rw [hh]
 ·have e:∀fl,dM fl false s'.h args=dM fl false s.h args:=fun fl=>th hh
  simp only [hb,hd,e]
theorem pH{c:Option Bool}{i:Id}{n:Nat}{K:Nat->Bool->List (List T)->Option R}(hh:h' i=h i):dP h' c i n K=dP h c i n K:=by
 unfold dP;rw [hh]
theorem CA{lend:Bool}{d:Nat}{c:Option Bool}{f:FuncId}{args:List AV}{K:AV->Upd->Option R}(hh:s'.h=s.h\/(lend=false/\A.bref f=none/\A.deep f=false/\∀i∈aD args,s'.h i=s.h i)):callL lend P A O s' d c f args K=callL lend P A O s d c f args K:=by
 rcases hh with hh | ⟨rfl,hh⟩
 ·unfold callL
  rw [hh]
  cases cond lend (fg args) none with
  | none=>exact qP (.inl hh)
  | some q=>
   obtain⟨l1,i,n,l2⟩:=q
   dsimp only
   split <;> rfl
 ·exact qP (.inr hh)
theorem BK{c:Option Bool}{t:TypeId}{a:AV}{K:AV->Option R}(hh:∀i∈a.ids,s'.h i=s.h i):cY P s' c t a K=cY P s c t a K:=by
 unfold cY
 cases a <;> (try rfl) <;> (simp only [];first | rw [pH (hh _ (by simp [AV.ids]))] | rw [hh _ (by simp [AV.ids])])
theorem yY{t:TypeId}{a v:AV}{K:Upd->Option R}(hh:∀i∈a.ids,s'.h i=s.h i)(hv:∀i∈v.ids,s'.h i=s.h i):cu P s' t a v K=cu P s t a v K:=by
 unfold cu
 cases a <;> (try rfl) <;> (simp only [];rw [hh _ (by simp [AV.ids])];try rw [uh hv,sQ hv])
 cases v
 case own j=>simp only [hv j (by simp [AV.ids])]
 all_goals rfl
theorem Bt{c:Option Bool}{t:TypeId}{x:AV}{i:Int}{K:AV->Option R}(hh:∀i∈x.ids,s'.h i=s.h i):cJ P s' c t x i K=cJ P s c t x i K:=by
 unfold cJ
 cases x
 case row i n=>simp only [pH (hh i (by simp [AV.ids]))]
 all_goals first | rfl | (simp only [];rw [hh _ (by simp [AV.ids])])
theorem At{c:Option Bool}{t:TypeId}{x:AV}{K:AV->Option R}(hh:∀i∈x.ids,s'.h i=s.h i):eV P s' c t x K=eV P s c t x K:=by
 unfold eV
 cases x
 case row i n=>simp only [pH (hh i (by simp [AV.ids]))]
 all_goals first | rfl | (simp only [];rw [hh _ (by simp [AV.ids])])
theorem A4{c:Option Bool}{t:TypeId}{x:AV}{lo hi mx:Option Int}{K:AV->Option R}(hh:∀i∈x.ids,s'.h i=s.h i):fq P s' c t x lo hi mx K=fq P s c t x lo hi mx K:=by
 unfold fq
 cases x <;> (try rfl) <;> (simp only [];rw [hh _ (by simp [AV.ids])])
theorem ug{t:TypeId}{x:AV}(hh:∀i∈x.ids,s'.h i=s.h i):cE P s' t x=cE P s t x:=by
 unfold cE
 cases x
 case own i=>simp only [hh i (by simp [AV.ids])]
 case t z=>cases z <;> rfl
 all_goals rfl
theorem BU{t:TypeId}{sz:Nat}{zs:List T}{y:AV}{K:List (List T)->Option R}(hh:∀i∈y.ids,s'.h i=s.h i):eJ P s' t sz zs y K=eJ P s t sz zs y K:=by
 unfold eJ
 rw [jt hh]
theorem zq{d:Nat}{t ty:TypeId}{x y:AV}{K:AV->Upd->Option R}(hh:∀i∈x.ids,s'.h i=s.h i)(hy:∀i∈y.ids,s'.h i=s.h i):dh P s' d false t ty x y K=dh P s d false t ty x y K:=by
 unfold dh
 simp only [cond_false]
 cases x <;> simp only [BU hy]
 case own i=>rw [hh i (by simp [AV.ids])]
 case part i sz off n=>rw [hh i (by simp [AV.ids])]
 all_goals rfl
theorem Cv{c:Option Bool}{t:TypeId}{x k:AV}{ok:Bool}{K:AV->Option R}(hh:∀i∈x.ids,s'.h i=s.h i):fB P s' c t x k ok K=fB P s c t x k ok K:=by
 unfold fB
 cases x <;> (try rfl) <;> (simp only [];rw [hh _ (by simp [AV.ids])])
theorem zR{t:TypeId}{x k v:AV}{K:Upd->Option R}(hh:∀i∈x.ids,s'.h i=s.h i):fC P s' t x k v K=fC P s t x k v K:=by
 unfold fC
 cases x <;> (try rfl) <;> (simp only [];rw [hh _ (by simp [AV.ids])])
theorem El{t:TypeId}{x k:AV}{K:Upd->Option R}(hh:∀i∈x.ids,s'.h i=s.h i):eU P s' t x k K=eU P s t x k K:=by
 unfold eU
 cases x <;> (try rfl) <;> (simp only [];rw [hh _ (by simp [AV.ids])])
theorem tY{e:TypeId}{ev:Operand->AV}:∀{ps:List (Nat×Operand)} {n:Nat},(∀x∈ps.map (·.2),∀i∈(ev x).ids,h' i=h i)->cr P h' e ev n ps=cr P h e ev n ps
 | [],n,_=>rfl
 | (k,o)::ps,n,hh=>by
  simp only [cr]
  rw [uh (hh o (by simp)),sQ (hh o (by simp)),tY fun x hx=>hh x (by simp only [List.map_cons];exact List.mem_cons_of_mem _ hx)]
theorem tU{e:TypeId}{ev ev':Operand->AV}:∀{ps:List (Nat×Operand)} {n:Nat},(∀x∈ps.map (·.2),ev' x=ev x)->cr P h e ev' n ps=cr P h e ev n ps
 | [],n,_=>rfl
 | (k,o)::ps,n,hh=>by
  simp only [cr]
  rw [hh o (by simp),tU fun x hx=>hh x (by simp only [List.map_cons];exact List.mem_cons_of_mem _ hx)]
theorem yv{t:TypeId}{ev ev':Operand->AV}:∀{ps:List (Nat×Operand)},(∀x∈ps.map (·.2),ev' x=ev x)->gq P t ev' ps=gq P t ev ps
 | [],_=>rfl
 | (k,o)::ps,hh=>by
  simp only [gq]
  rw [hh o (by simp),yv fun x hx=>hh x (by simp only [List.map_cons];exact List.mem_cons_of_mem _ hx)]
theorem jd{g:Option Gs}{x:Operand}(ht:∀k,x= .tmp k->s'.t k=s.t k):s'.get g x=s.get g x:=by
 cases x with
 | tmp k=>
  show(cond (dG (s'.t k).1 g) (s'.t k).2 AV.top)=cond (dG (s.t k).1 g) (s.t k).2 AV.top
  rw [ht k rfl]
 | _=>rfl
theorem xo{g:Option Gs}{b x:Operand}{w:Bool}(ht:∀k,x= .tmp k->s'.t k=s.t k):s'.getArm g b w x=s.getArm g b w x:=by
 unfold St.getArm
 split
 ·rw [ht _ rfl]
 ·exact jd ht
set_option maxHeartbeats 1000000 in
theorem dN{g:Option Gs}{o:Oper}(ht:∀x∈o.op.operands,∀k,x= .tmp k->s'.t k=s.t k)(hh0:bR P o=true\/cw o=true\/s'.h=s.h\/(isR A o=false/\isD A o=false/\∀x∈o.op.operands,∀i∈(s.get g x).ids,s'.h i=s.h i)):
  aopD P A O g o s'=aopD P A O g o s:=by
 have eg:∀x∈o.op.operands,s'.get g x=s.get g x:=fun x hx=>jd (ht x hx)
 have hh:bR P o=true\/cw o=true\/∀x∈o.op.operands,∀i∈(s.get g x).ids,s'.h i=s.h i:=by
  rcases hh0 with h | h | h | h
  ·exact .inl h
  ·exact .inr (.inl h)
  ·exact .inr (.inr fun _ _ i _=>by rw [h])
  ·exact .inr (.inr h.2.2)
 have hw:∀cl,o.op= .call cl->∀f,cl.callee= .value f->bR P o=false:=by
  intro cl h1 f h2
  simp [bR,h1,h2]
 have hal:∀cl,o.op= .call cl->cw o=false:=by
  intro cl h1
  simp [cw,h1]
 have hw2:bR P o=true\/cw o=true\/s'.h=s.h\/(isR A o=false/\isD A o=false):=hh0.imp id (Or.imp id (Or.imp id fun h=>⟨h.1,h.2.1⟩))
 unfold aopD aop
 cases hop:o.op <;> rw [hop] at ht eg hh <;> simp only [bR,cw,hop,Bool.false_eq_true,false_or] at hh <;> dsimp only <;> simp only [Op.operands] at ht eg hh
 case pick a b x=>
  rw [eg a (by simp),xo (ht b (by simp)),xo (ht x (by simp))]
 case build t ps=>
  unfold oV
  rw [yv (ev:=s.get g) (by simpa using eg)]
 case buildSlice t n ps=>
  have e1:∀e,cr P s'.h e (s'.get g) 0 ps.toList=cr P s.h e (s.get g) 0 ps.toList:=fun e=>by
   rw [tU (ev:=s.get g) (by simpa using eg),tY (by simpa using hh)]
  simp only [e1]
  congr 1;funext e
  split
  ·split
   ·rename_i x _ hps
    rw [eg x (by simp [hps])]
   ·rfl
  ·rfl
 case load t x=>rw [eg x (by simp),BK (hh x (by simp))]
 case store t x y=>rw [eg x (by simp),eg y (by simp),yY (hh x (by simp)) (hh y (by simp))]
 case binOp op t x y ty=>
  rw [eg x (by simp),eg y (by simp)]
  rcases hh with hh | hh
  ·simp only [Bool.not_eq_true',Bool.or_eq_false_iff] at hh
   rw [hh.1,hh.2]
   cases op <;> rfl
  ·rw [ug (hh x (by simp)),ug (hh y (by simp))]
 case convert src dst x=>rw [eg x (by simp),jt (hh x (by simp))]
 case makeFunc fn fst caps=>
  cases fn <;> try rfl
  have e1:fst.toList.map (s'.get g)=fst.toList.map (s.get g):=List.map_congr_left fun x hx=>eg x (by simp at hx⊢;exact .inl hx)
  have e2:caps.toList.map (s'.get g)=caps.toList.map (s.get g):=List.map_congr_left fun x hx=>eg x (by simp at hx⊢;exact .inr hx)
  simp only [e1,e2]
 case slice t x lo hi mx=>
  have eb:∀(o:Option Operand) (c:Option Bool) (K:Option Int->Option (AV×Upd)),(∀y,o=some y->y∈#[x] ++lo.toArray++hi.toArray++mx.toArray)->boundAV s' c g o K=boundAV s c g o K:=by
   intro o c K hm
   unfold boundAV
   cases o with
   | none=>rfl
   | some y=>simp only [eg y (hm y rfl)]
  have hx:x∈#[x] ++lo.toArray++hi.toArray++mx.toArray:=by simp
  rw [eg x hx]
  simp only [A4 (hh x hx)]
  rw [eb lo _ _ (by intro y e;subst e;simp)]
  congr 1;funext lo'
  rw [eb hi _ _ (by intro y e;subst e;simp)]
  congr 1;funext hi'
  rw [eb mx _ _ (by intro y e;subst e;simp)]
 case indexAddr t x i=>rw [eg x (by simp),eg i (by simp)];simp only [Bt (hh x (by simp))]
 case call cl=>
  simp only [Call.operands] at eg hh
  split
  ·rename_i hcal
   split
   ·rename_i x t ts hx _
    have hm:x∈(match cl.callee with | .value f=> #[f] | .invoke r _=> #[r] | .builtin _=> #[])++cl.args:=by
     simp [<-Array.mem_toList_iff,hx]
    rw [eg x hm]
    rcases hh with hh | hh
    ·simp [hcal] at hh
    ·exact At (hh x hm)
   ·rfl
  ·rename_i hcal
   split
   ·rename_i x y t u _ hx _
    have hm:∀z,(z=x\/z=y)->z∈(match cl.callee with | .value f=> #[f] | .invoke r _=> #[r] | .builtin _=> #[])++cl.args:=by
     intro z hz;simp [<-Array.mem_toList_iff,hx,hz]
    rw [eg x (hm x (.inl rfl)),eg y (hm y (.inr rfl))]
    rcases hh with hh | hh
    ·simp [hcal] at hh
    ·cases hn:(A.nst o.dst o.type==3) with
     | false=>exact zq (hh x (hm x (.inl rfl))) (hh y (hm y (.inr rfl)))
     | true=>
      rcases hw2 with h | h | h | h
      ·simp [bR,hop,hcal] at h
      ·simp [cw,hop] at h
      ·have:∀(d:Nat) (b:Bool) (t ty:TypeId) (x y:AV) (K:AV->Upd->Option (AV×Upd)),dh P s' d b t ty x y K=dh P s d b t ty x y K:=fun d b t ty x y K=>by
        unfold dh gU eJ;rw [h]
       exact this _ _ _ _ _ _ _
      ·have:=h.2
       simp [isD,hop,hcal,hn] at this
   ·rfl
  ·have e1:cl.args.toList.map (s'.get g)=cl.args.toList.map (s.get g):=List.map_congr_left fun x hx=>eg x (by simp at hx⊢;exact .inr hx)
   rw [e1]
  ·have e1:cl.args.toList.map (s'.get g)=cl.args.toList.map (s.get g):=List.map_congr_left fun x hx=>eg x (by simp at hx⊢;exact .inr hx)
   rw [e1]
  ·rename_i hcal
   split
   ·rename_i x y t ts _ hx _
    have hm:∀z,(z=x\/z=y)->z∈(match cl.callee with | .value f=> #[f] | .invoke r _=> #[r] | .builtin _=> #[])++cl.args:=by
     intro z hz;simp [<-Array.mem_toList_iff,hx,hz]
    rw [eg x (hm x (.inl rfl)),eg y (hm y (.inr rfl))]
    rcases hh with hh | hh
    ·simp [hcal] at hh
    ·exact El (hh x (hm x (.inl rfl)))
   ·rfl
  ·rename_i hcal
   split
   ·rename_i x t ts hx _
    have hm:x∈(match cl.callee with | .value f=> #[f] | .invoke r _=> #[r] | .builtin _=> #[])++cl.args:=by
     simp [<-Array.mem_toList_iff,hx]
    rw [eg x hm]
   ·rfl
  ·rename_i fo hcal
   have e1:cl.args.toList.map (s'.get g)=cl.args.toList.map (s.get g):=List.map_congr_left fun x hx=>eg x (by simp at hx⊢;exact .inr hx)
   have hfo:fo∈(match cl.callee with | .value f=> #[f] | .invoke r _=> #[r] | .builtin _=> #[])++cl.args:=by simp [hcal]
   rw [e1,eg fo hfo]
   rcases hh with hh | hh
   ·simp [hcal] at hh
   ·cases hv:s.get g fo <;> try rfl
    rename_i f a b
    have hids:=hh fo hfo
    rw [hv] at hids
    simp only [AV.ids,List.mem_append] at hids
    refine CA ?_
    have hall:∀i∈aD (a++cl.args.toList.map (s.get g)++b),s'.h i=s.h i:=by
     intro i hi
     rcases idsL_append.1 hi with hi | hi
     ·rcases idsL_append.1 hi with hi | hi
      ·exact hids i (.inl hi)
      ·obtain⟨v,hv,hi⟩:=qk hi
       obtain⟨x,hx,rfl⟩:=List.mem_map.1 hv
       exact hh x (by simp at hx⊢;exact .inr hx) i hi
     ·exact hids i (.inr hi)
    rcases hw2 with h | h | h | h
    ·rw [hw cl hop fo hcal] at h;cases h
    ·rw [hal cl hop] at h;cases h
    ·exact .inl h
    ·obtain⟨h,hd⟩:=h
     simp only [isR,hop,hcal] at h
     simp only [isD,hop,hcal] at hd
     cases fo with
     | func f'=>
      simp only [St.get] at hv
      obtain⟨rfl,_,_⟩:f'=f/\_/\_:=by simpa using hv
      cases hb:A.bref f' with
      | some x=>dsimp only at h;rw [hb] at h;simp at h
      | none=>exact .inr ⟨rfl,rfl,hd,hall⟩
     | _=>simp at h
  ·rfl
 case move x=>rw [eg x (by simp)]
 case assign x=>rw [eg x (by simp)]
 case box t x=>rw [eg x (by simp)]
 case nilCheck x=>rw [eg x (by simp)]
 case unOp op t x=>rw [eg x (by simp)]
 case makeSlice t x y=>rw [eg x (by simp),eg y (by simp)]
 case lookup t x k ok=>rw [eg x (by simp),eg k (by simp),Cv (hh x (by simp))]
 case mapUpdate t x k v=>rw [eg x (by simp),eg k (by simp),eg v (by simp),zR (hh x (by simp))]
 case fieldAddr t x f=>rw [eg x (by simp)]
 case field t x f=>rw [eg x (by simp)]
 case index t x i=>rw [eg x (by simp),eg i (by simp)]
 case extract x k=>rw [eg x (by simp)]
theorem AE{keep:List Id}{b:Bool}{v:AV}(hh:∀i∈v.ids,h' i=h i):kS h' keep b v=kS h keep b v:=by
 unfold kS;rw [xJ hh]
theorem xA{keep:List Id}:∀{fl:List Bool} {vs:List AV},(∀i∈aD vs,h' i=h i)->eP h' keep fl vs=eP h keep fl vs
 | _,[],_=>by simp [eP]
 | fl,v::vs,hh=>by
  simp only [eP]
  rw [AE fun i hi=>hh i (ids_cons.2 (.inl hi)),xA fun i hi=>hh i (ids_cons.2 (.inr hi))]
theorem mu{N:Id->Prop}:∀{us:Upd} {h h':Id->Option Blk},(∀i,¬N i->h' i=h i)->∀i,¬N i->ae h' us i=ae h us i
 | [],_,_,hN,i,hi=>hN i hi
 | (j,b)::us,h,h',hN,i,hi=>by
  rw [aO,aO]
  refine mu (N:=N) (fun k hk=> ?_) i hi
  by_cases e:k=j
  ·subst e;rw [upd_same,upd_same]
  ·rw [ab _ _ e,ab _ _ e];exact hN k hk
theorem y8{N:Id->Prop}{new i:Id}{k sz:Nat}{us:Upd}(hN:∀i,¬N i->h' i=h i)(hi:¬N i)(hnew:¬N new)(hus:∀p∈us,¬N p.1)(e:gg h new i k sz=some us):gg h' new i k sz=some us:=by
 unfold gg at e⊢
 cases hb:Nat.ble 100000 sz with
 | true=>
  rw [hb,cond_true] at e
  rw [cond_true]
  unfold iS at e⊢
  rw [hN i hi,hN new hnew];exact e
 | false=>
 rw [hb,cond_false] at e
 rw [cond_false]
 rw [hN i hi,hN new hnew]
 split at e
 ·rename_i cs hi
  try simp only [hi]
  split at e
  ·exact e
  ·exact e
  ·exact e
  ·rename_i j sz' n hk
   split at e
   ·rename_i sz'' b xs hj
    split at e
    ·rename_i hc
     have hNj:¬N j:=by
      cases hf:(h new).isNone with
      | false=>rw [hf] at e;simp at e
      | true=>
       rw [hf] at e
       simp only [cond_true,Option.some.injEq] at e;subst e
       exact hus (j,_) List.mem_cons_self
     rw [hN j hNj,hj]
     simp only [if_pos hc]
     exact e
    ·cases e
   ·cases e
  ·cases e
 ·cases e
theorem w7{N:Id->Prop}{nm:Nat}(hnm:∀k,¬N (.s nm k)):∀{l:List (Id×Nat×Nat)} {j:Nat} {h h':Id->Option Blk} {us:Upd},(∀i,¬N i->h' i=h i)->(∀q∈l,¬N q.1)->(∀p∈us,¬N p.1)->cS nm j h l=some us->cS nm j h' l=some us
 | [],_,_,_,_,_,_,_,e=>e
 | (i,k,sz)::l,j,h,h',us,hN,hl,hus,e=>by
  simp only [cS] at e⊢
  obtain⟨u1,e1,e⟩:=Option.bind_eq_some_iff.1 e
  obtain⟨u2,e2,e⟩:=Option.bind_eq_some_iff.1 e
  simp only [Option.some.injEq] at e;subst e
  rw [y8 hN (hl (i,k,sz) List.mem_cons_self) (hnm j) (fun p hp=>hus p (List.mem_append_left _ hp)) e1]
  simp only [Option.bind_some]
  rw [w7 hnm (mu hN) (fun q hq=>hl q (List.mem_cons_of_mem _ hq)) (fun p hp=>hus p (List.mem_append_right _ hp)) e2]
  rfl
theorem lj:∀{n:Nat} {todo seen0 seen:List Id},bB h n todo seen0=some seen->(∀i∈seen,h' i=h i)->bB h' n todo seen0=some seen
 | 0,todo,seen0,seen,e,_=>by simp [bB] at e
 | n+1,[],seen0,seen,e,_=>e
 | n+1,i::todo,seen0,seen,e,hs=>by
  simp only [bB] at e⊢
  cases hin:seen0.contains i with
  | true=>rw [hin,cond_true] at e;rw [cond_true];exact lj e hs
  | false=>
   rw [hin,cond_false] at e
   rw [cond_false]
   have hm:i∈seen:=by
    have:seen0++ [i] <+:seen:=by
     split at e
     ·exact gF e
     ·exact gF e
     ·exact gF e
     ·cases e
    exact this.subset (List.mem_append_right _ (List.mem_singleton.2 rfl))
   rw [hs i hm]
   split at e
   ·exact lj e hs
   ·exact lj e hs
   ·exact lj e hs
   ·cases e
theorem qV:∀{l seen:List Id},∀i∈ix l seen,i∈l
 | [],_,i,hi=>by simp [ix] at hi
 | j::l,seen,i,hi=>by
  simp only [ix] at hi
  cases hc:seen.contains j with
  | true=>rw [hc,cond_true] at hi;exact List.mem_cons_of_mem _ (qV i hi)
  | false=>
   rw [hc,cond_false] at hi
   rcases List.mem_cons.1 hi with rfl | hi
   ·exact List.mem_cons_self
   ·exact List.mem_cons_of_mem _ (qV i hi)
theorem oW{i:Id}:∀{l:List RSh} {k:Nat},∀q∈fD i k l,q.1=i
 | [],_,q,hq=>by simp [fD] at hq
 | r::l,k,q,hq=>by
  cases r with
  | own sz=>
   simp only [fD] at hq
   rcases List.mem_cons.1 hq with rfl | hq
   ·rfl
   ·exact oW q hq
  | rows sz col rsz=>
   simp only [fD] at hq
   rcases List.mem_cons.1 hq with rfl | hq
   ·rfl
   ·exact oW q hq
  | _=>simp only [fD] at hq;exact oW q hq
theorem rD:∀{is:List Id} {bs:List BSh},∀q∈fj is bs,q.1∈is
 | [],bs,q,hq=>by cases bs <;> simp [fj] at hq
 | i::is,[],q,hq=>by simp [fj] at hq
 | i::is,b::bs,q,hq=>by
  cases b with
  | box l=>
   simp only [fj,List.mem_append] at hq
   rcases hq with hq | hq
   ·rw [oW q hq];exact List.mem_cons_self
   ·exact List.mem_cons_of_mem _ (rD q hq)
  | _=>simp only [fj] at hq;exact List.mem_cons_of_mem _ (rD q hq)
theorem Ab{N:Id->Prop}{d:Nat}{c:Option Bool}{f:FuncId}{args:List AV}{v:AV}{us:Upd}(hN:∀i,¬N i->s'.h i=s.h i)(hd:A.deep f=false)(hargs:∀i∈aD args,¬N i)(hbig:∀k,¬N (.s (2000000+d) k))(hus:∀p∈us,¬N p.1)
  (e:callAV P A O s d c f args (fun v u=>some (v,u))=some (v,us)):callAV P A O s' d c f args (fun v u=>some (v,u))=some (v,us):=by
 cases hb:A.bref f with
 | none=>rw [qP (.inr ⟨hb,hd,fun i hi=>hN i (hargs i hi)⟩)];exact e
 | some fl=>
  unfold callAV at e⊢
  cases hfn:P.funcs[f]? with
  | none=>rw [hfn] at e;simp at e
  | some fn=>
   simp only [hfn,hb] at e⊢
   cases c with
   | some b=>simp at e
   | none=>
    simp only at e⊢
    rw [xA fun i hi=>hN i (hargs i hi)]
    obtain⟨p,hp,e⟩:=Option.bind_eq_some_iff.1 e
    rw [hp,Option.bind_some]
    obtain⟨us1,hus1,e⟩:=Option.bind_eq_some_iff.1 e
    obtain⟨seen,hseen,e⟩:=Option.bind_eq_some_iff.1 e
    obtain⟨_,_,g3,_,_⟩:=kC hseen List.nodup_nil (by simp) (by simp)
    have e0:=e
    have hall:(∀q∈us1,¬N q.1)/\∀i∈seen,¬N i:=by
     cases hcd:(oB d seen && Nat.beq (ce (seen.map fun i=>rnB seen (ae (ae s.h p.2) us1 i)).head?) (ce ((aD p.1).head?.bind (ae s.h p.2)))) with
     | false=>rw [hcd] at e;simp at e
     | true=>
      rw [hcd,cond_true] at e
      obtain⟨pt,e,_⟩:=oh (.inl rfl) e
      obtain⟨xs,_,e⟩:=ah e (.inl rfl)
      rw [show ∀(n:Nat),(bg seen d none 0 (aP P A f n fn) xs fun vs u j=>bU seen d j seen (bY A f n) (xs.drop (eC (aP P A f n fn))) fun q=>(some (dX vs,p.2++us1++cV seen++u++q):Option (AV×Upd)))=
       ((bg seen d none 0 (aP P A f n fn) xs fun vs u j=>some (vs,u,j)).bind fun q0=>(bU seen d q0.2.2 seen (bY A f n) (xs.drop (eC (aP P A f n fn))) some).bind fun q=>some (dX q0.1,p.2++us1++cV seen++q0.2.1++q)) from fun n=>by
        rw [iB];congr 1;funext vs u j;simp only [Option.bind_some];rw [ol];rfl] at e
      obtain⟨q0,_,e⟩:=Option.bind_eq_some_iff.1 e
      obtain⟨q,_,e⟩:=Option.bind_eq_some_iff.1 e
      simp only [Option.some.injEq,Prod.mk.injEq] at e
      obtain⟨_,rfl⟩:=e
      refine⟨fun x hx=>hus x ?_,fun i hi=>hus (i, .dead) ?_⟩
      ·exact List.mem_append_left _ (List.mem_append_left _ (List.mem_append_left _ (List.mem_append_right _ hx)))
      ·exact List.mem_append_left _ (List.mem_append_left _ (List.mem_append_right _ (List.mem_map.2 ⟨i,hi,rfl⟩)))
    have hN1:∀i,¬N i->ae s'.h p.2 i=ae s.h p.2 i:=mu hN
    have hN2:∀i,¬N i->ae (ae s'.h p.2) us1 i=ae (ae s.h p.2) us1 i:=mu hN1
    have hdisc:(aD p.1).head?.bind (ae s'.h p.2)= (aD p.1).head?.bind (ae s.h p.2):=by
     cases hh:(aD p.1).head? with
     | none=>rfl
     | some i=>exact hN1 i (hall.2 i (g3 i (List.mem_of_mem_head? (by rw [hh];rfl))))
    rw [hdisc]
    rw [w7 hbig hN1 (fun q hq=>hall.2 q.1 (g3 q.1 (qV q.1 (rD q hq)))) hall.1 hus1,Option.bind_some]
    rw [lj hseen fun i hi=>hN2 i (hall.2 i hi),Option.bind_some]
    have hm:(seen.map fun i=>rnB seen (ae (ae s'.h p.2) us1 i))=seen.map fun i=>rnB seen (ae (ae s.h p.2) us1 i):=List.map_congr_left fun i hi=>by rw [hN2 i (hall.2 i hi)]
    rw [hm]
    exact e0
theorem nU{N:Id->Prop}{g:Option Gs}{o:Oper}{v:AV}{us:Upd}(ht:∀x∈o.op.operands,∀k,x= .tmp k->s'.t k=s.t k)(hN:∀i,¬N i->s'.h i=s.h i)(hd:isD A o=false)(hdir:∀x∈o.op.operands,∀i∈(s.get g x).ids,¬N i)
  (hbig:∀k,¬N (.s (2000000+o.dst.getD 0) k)) (hus:∀p∈us,¬N p.1) (e:aopD P A O g o s=some (v,us)):aopD P A O g o s'=some (v,us):=by
 cases hr:isR A o with
 | false=>rw [dN (s:=s) ht (.inr (.inr (.inr ⟨hr,hd,fun x hx i hi=>hN i (hdir x hx i hi)⟩)))];exact e
 | true=>
  have eg:∀x∈o.op.operands,s'.get g x=s.get g x:=fun x hx=>jd (ht x hx)
  cases hop:o.op <;> simp only [isR,hop,Bool.false_eq_true] at hr
  rename_i cl
  cases hcal:cl.callee <;> simp only [hcal,Bool.false_eq_true] at hr
  rename_i fo
  unfold aopD aop at e⊢
  rw [hop] at e hdir eg⊢
  simp only [Op.operands,Call.operands] at hdir eg
  simp only [hcal] at e⊢
  have e1:cl.args.toList.map (s'.get g)=cl.args.toList.map (s.get g):=List.map_congr_left fun x hx=>eg x (by simp at hx⊢;exact .inr hx)
  have hfo:fo∈(match cl.callee with | .value f=> #[f] | .invoke r _=> #[r] | .builtin _=> #[])++cl.args:=by simp [hcal]
  rw [e1,eg fo hfo]
  cases hv:s.get g fo <;> rw [hv] at e <;> simp only [reduceCtorEq] at e
  rename_i f a b
  have hids:=hdir fo hfo
  rw [hv] at hids
  simp only [AV.ids,List.mem_append] at hids
  have hdeep:A.deep f=false:=by
   simp only [isD,hop,hcal] at hd
   cases fo with
   | func f'=>
    simp only [St.get] at hv
    obtain⟨rfl,_,_⟩:f'=f/\_/\_:=by simpa using hv
    exact hd
   | _=>simp at hd
  have hl:wB fo=false:=by
   simp only [isD,hop,hcal] at hd
   cases fo with
   | func f'=>rfl
   | _=>simp at hd
  dsimp only at e⊢
  rw [hl,zl] at e⊢
  refine Ab hN hdeep ?_ hbig hus e
  intro i hi
  rcases idsL_append.1 hi with hi | hi
  ·rcases idsL_append.1 hi with hi | hi
   ·exact hids i (.inl hi)
   ·obtain⟨v,hv,hi⟩:=qk hi
    obtain⟨x,hx,rfl⟩:=List.mem_map.1 hv
    exact hdir x (by simp at hx⊢;exact .inr hx) i hi
  ·exact hids i (.inr hi)
end
open Go
section
variable {P:Program} {An:Ann} {Or:Orc} {w w':World} {A A':Nat->Prop} {c:Ctx} {ρ:Id->Option Value} {O:Id->Option Nat} {s s' s1 s2:St} {h:Id->Option Blk} {ops:Array Oper} {nt:Nat}
structure Went (P:Program) (An:Ann) (Or:Orc) (nt:Nat) (ops:Array Oper) (o:Oper) (s:St) (g:Option Gs) (v:AV) (us:Upd):Prop where
 guard:aT ops o s some=some g
 op:aopD P An Or g o s=some (v,us)
 ok:gw P An true nt ops o g s us=true
theorem x9{o:Oper}{g:Option Gs}:gM An true o g=none:=by cases g <;> rfl
theorem ph{o:Oper}(e:oneD P An Or true nt ops o s=some s'):∃g v us,Went P An Or nt ops o s g v us/\s'=s.put (be ops o.dst) o.dst g v us:=by
 unfold oneD gB at e
 rw [ma] at e
 replace e:=Option.bind_eq_some_iff.1 e;obtain⟨g,hg,e⟩:=e
 rw [x9] at e
 dsimp only at e
 rw [iJ] at e
 replace e:=Option.bind_eq_some_iff.1 e;obtain⟨⟨v,us⟩,hop,e⟩:=e
 dsimp only at e
 split at e
 ·rename_i hok
  simp only [Option.some.injEq] at e
  exact⟨g,v,us,⟨hg,hop,hok⟩,e.symm⟩
 ·simp at e
theorem Went.oneD{o:Oper}{g:Option Gs}{v:AV}{us:Upd}(wt:Went P An Or nt ops o s g v us):oneD P An Or true nt ops o s=some (s.put (be ops o.dst) o.dst g v us):=by
 unfold Aev.oneD gB
 rw [ma,wt.guard,Option.bind_some,x9]
 dsimp only
 rw [iJ,wt.op,Option.bind_some]
 dsimp only
 rw [if_pos wt.ok]
def jB(ops:Array Oper)(listed:Array Bool)(s:St):Prop:= ∀k g v,s.t k= (some g,v)->∃i o,ops[i]? =some o/\listed.getD i false=true/\o.dst=some g.d
theorem gW{d:Nat}{o:Oper}(hd:o.dst=some d):∀(l:List Oper),o∈l->d∈bX l:=by
 intro l
 induction l with
 | nil=>intro hm;cases hm
 | cons x l ih=>
  intro hm
  simp only [bX]
  rcases List.mem_cons.1 hm with rfl | hm
  ·rw [hd];exact List.mem_cons_self
  ·have:=ih hm
   split
   ·exact List.mem_cons_of_mem _ this
   ·exact this
theorem r8:∀{l:List Oper},kT (bX l)=true->∀{i j:Nat} {x y:Oper} {d:Nat},l[i]? =some x->l[j]? =some y->x.dst=some d->y.dst=some d->i=j
 | [],_,i,j,x,y,d,hi,_,_,_=>by simp at hi
 | z::l,hn,i,j,x,y,d,hi,hj,hx,hy=>by
  have hn':kT (bX l)=true/\∀d,z.dst=some d->d∉bX l:=by
   simp only [bX] at hn
   cases hz:z.dst with
   | none=>rw [hz] at hn;exact⟨hn,fun d h=>by cases h⟩
   | some e=>
    rw [hz] at hn
    simp only [kT,Bool.and_eq_true,Bool.not_eq_true'] at hn
    refine⟨hn.2,fun d h=> ?_⟩
    simp only [Option.some.injEq] at h;subst h
    intro hm
    have:(bX l).contains e=true:=by simpa using hm
    rw [this] at hn;cases hn.1
  cases i with
  | zero=>
   simp only [List.getElem?_cons_zero,Option.some.injEq] at hi;subst hi
   cases j with
   | zero=>rfl
   | succ j=>
    simp only [List.getElem?_cons_succ] at hj
    exact(hn'.2 d hx (gW hy _ (List.mem_of_getElem? hj))).elim
  | succ i=>
   simp only [List.getElem?_cons_succ] at hi
   cases j with
   | zero=>
    simp only [List.getElem?_cons_zero,Option.some.injEq] at hj;subst hj
    exact(hn'.2 d hy (gW hx _ (List.mem_of_getElem? hi))).elim
   | succ j=>
    simp only [List.getElem?_cons_succ] at hj
    rw [r8 hn'.1 hi hj hx hy]
def jE(ops:Array Oper):Prop:= ∀{i j:Nat} {x y:Oper} {d:Nat},ops[i]? =some x->ops[j]? =some y->x.dst=some d->y.dst=some d->i=j
theorem jV{listed:Array Bool}{i:Nat}(h:listed.getD i true=false):listed.getD i false=true->False:=by
 intro h2
 rw [Array.getD_eq_getD_getElem?] at h h2
 cases e:listed[i]? with
 | none=>rw [e] at h;simp at h
 | some b=>rw [e] at h h2;simp at h h2;rw [h] at h2;cases h2
theorem o7{listed:Array Bool}{i:Nat}{o:Oper}{g:Option Gs}{v:AV}{us:Upd}(hu:jE ops)(hi:ops[i]? =some o)(hl:listed.getD i true=false)(hg:jB ops listed s)(b:Bool):
  s.put b o.dst g v us=s.put false o.dst g v us:=by
 unfold St.put
 cases hd:o.dst with
 | none=>rfl
 | some d=>
  simp only [St.mk.injEq,and_true]
  funext k
  split
  ·rfl
  ·cases b with
   | false=>rfl
   | true=>
    simp only [cond_true,cond_false]
    cases hst:s.t k with
    | mk gk vk=>
     cases gk with
     | none=>rfl
     | some gk=>
      simp only [eN]
      cases hgd:(gk.d==d) with
      | false=>rfl
      | true=>
       exfalso
       obtain⟨j,oj,h1,h2,h3⟩:=hg k gk vk hst
       have e:gk.d=d:=by simpa using hgd
       rw [e] at h3
       have:=hu h1 hi h3 hd
       subst this
       exact jV hl h2
theorem cd{o:Oper}{k:Nat}(h:(.tmp k:Operand)∈o.op.operands):k∈o.looksAt ops:=by
 unfold Oper.looksAt
 refine List.mem_append_left _ (List.mem_filterMap.2 ⟨.tmp k,by simpa using h,rfl⟩)
theorem yC{o:Oper}{j d:Nat}{b:Bool}(h:o.guard=some (j,b))(hd:(ops[j]?).bind (·.dst)=some d):d∈o.looksAt ops:=by
 unfold Oper.looksAt
 refine List.mem_append_right _ ?_
 rw [h]
 simp [hd]
theorem gX{b:Bool}{o:Oper}{g:Option Gs}{v:AV}{us:Upd}{k:Nat}(hk:o.dst≠some k):(s.put false o.dst g v us).t k=s.t k:=by
 unfold St.put
 cases hd:o.dst with
 | none=>rfl
 | some d=>
  have:k≠d:=fun e=>hk (by rw [hd,e])
  simp [if_neg this]
theorem xW{o:Oper}(ht:∀j b d,o.guard=some (j,b)->(ops[j]?).bind (·.dst)=some d->s'.t d=s.t d):aT ops o s' some=aT ops o s some:=by
 unfold aT
 cases hg:o.guard with
 | none=>rfl
 | some p=>
  obtain⟨j,b⟩:=p
  simp only
  cases hd:(ops[j]?).bind (·.dst) with
  | none=>rfl
  | some d=>simp only [ht j b d hg hd]
theorem oR:∀{us:Upd} {h:Id->Option Blk} {i:Id},ae h us i=none->(∀q∈us,q.1≠i)/\h i=none
 | [],h,i,e=>⟨by simp,e⟩
 | (j,x)::us,h,i,e=>by
  rw [aO] at e
  obtain⟨e1,e2⟩:=oR e
  by_cases hij:i=j
  ·subst hij;rw [upd_same] at e2;cases e2
  ·rw [ab _ _ hij] at e2
   refine⟨fun q hq=> ?_,e2⟩
   rcases List.mem_cons.1 hq with rfl | hq
   ·exact fun e=>hij e.symm
   ·exact e1 q hq
theorem wn{o:Oper}{g:Option Gs}(he:∀x∈o.op.operands,s'.get g x=s.get g x):gx ops g o s'=gx ops g o s:=by
 unfold gx
 have key:∀l:List Operand,(∀x∈l,s'.get g x=s.get g x)->(l.all fun x=>(s'.get g x).ids.all fun i=>match i with
  | .s d _=>jp ops o d
  | .c _=>true
  | .g _ _=>false)= (l.all fun x=>(s.get g x).ids.all fun i=>match i with
  | .s d _=>jp ops o d
  | .c _=>true
  | .g _ _=>false):=by
  intro l
  induction l with
  | nil=>intro _;rfl
  | cons x l ih=>
   intro h
   rw [List.all_cons,List.all_cons,h x List.mem_cons_self,ih fun y hy=>h y (List.mem_cons_of_mem _ hy)]
 exact key _ fun x hx=>he x (by simpa using hx)
theorem mo{o:Oper}{g:Option Gs}(hn:gx ops g o s=true){x:Operand}(hx:x∈o.op.operands){d k:Nat}(hi:Id.s d k∈(s.get g x).ids){i:Nat}{oi:Oper}(hoi:ops[i]? =some oi)(hd:oi.dst=some d):
  ∃e∈o.after,Region.binds .any e=true/\(e.on=i\/bnd ops 12 e.on i=true):=by
 unfold gx at hn
 have h1:=List.all_eq_true.1 hn x (by simpa using hx)
 have h2:=List.all_eq_true.1 h1 _ hi
 simp only at h2
 unfold jp at h2
 have h3:=List.all_eq_true.1 h2 i (List.mem_range.2 (Array.getElem?_eq_some_iff.1 hoi).1)
 rw [hoi] at h3
 simp only [hd,BEq.rfl,Bool.not_true,Bool.false_or] at h3
 obtain⟨e,he,hb⟩:=Array.any_eq_true'.1 h3
 simp only [Bool.and_eq_true,Bool.or_eq_true,beq_iff_eq] at hb
 exact⟨e,he,hb.1,hb.2⟩
theorem bQ{o:Oper}{us:Upd}(hn:dr o us=true){i:Id}(hi:∃q∈us,q.1=i):∃d k,i= .s d k/\o.dst=some d:=by
 obtain⟨q,hq,rfl⟩:=hi
 have:=List.all_eq_true.1 hn q hq
 split at this
 ·rename_i d k e
  exact⟨d,k,e,by simpa using this⟩
 ·simp at this
 ·simp at this
theorem zJ{us vs:Upd}(hd:∀p∈us,∀q∈vs,p.1≠q.1):∀{h:Id->Option Blk},ae (ae h us) vs=ae (ae h vs) us:=by
 induction us with
 | nil=>intro h;rfl
 | cons p us ih=>
  intro h
  obtain⟨i,b⟩:=p
  rw [aO,aO,ih (fun p hp=>hd p (List.mem_cons_of_mem _ hp)),lk (fun q hq e=>hd (i,b) List.mem_cons_self q hq e.symm)]
def jw(ops:Array Oper)(listed:Array Bool):Prop:= ∀k ok,ops[k]? =some ok->listed.getD k false=true->∀e∈ok.after,Region.binds .any e=true->listed.getD e.on false=true
theorem qN{listed:Array Bool}(hcl:jw ops listed){i:Nat}(hi:listed.getD i true=false):∀{n j:Nat} {oj:Oper},ops[j]? =some oj->(∀e∈oj.after,Region.binds .any e=true->listed.getD e.on false=true)->bnd ops n j i=false
 | 0,j,oj,_,_=>rfl
 | n+1,j,oj,hj,hall=>by
  simp only [bnd,hj]
  rw [Array.any_eq_false']
  intro e he hb
  simp only [Bool.and_eq_true,Bool.or_eq_true,beq_iff_eq] at hb
  obtain⟨h1,h2⟩:=hb
  have hl:=hall e he h1
  rcases h2 with h2 | ⟨_,h2⟩
  ·exact jV hi (h2▸hl)
  ·cases hk:ops[e.on]? with
   | none=>
    cases n with
    | zero=>simp [bnd] at h2
    | succ n=>simp [bnd,hk] at h2
   | some ok=>
    rw [qN hcl hi hk (hcl e.on ok hk hl)] at h2
    cases h2
theorem rR{a b:Oper}(h:st2 An ops a b=true):∃k k',stA ops a=some k/\stA ops b=some k'/\k≠k'/\k∉bX ops.toList/\k'∉bX ops.toList:=by
 unfold st2 at h
 simp only [Bool.and_eq_true] at h
 obtain⟨_,h⟩:=h
 split at h
 ·rename_i k k' h1 h2
  simp only [Bool.and_eq_true,Bool.not_eq_true',beq_eq_false_iff_ne,ne_eq] at h
  obtain⟨⟨h3,h4⟩,h5⟩:=h
  exact⟨k,k',h1,h2,h3,by simpa using h4,by simpa using h5⟩
 ·cases h
theorem DL{a b:Oper}(h:st2 An ops a b=true):st2 An ops b a=true:=by
 have h0:=h
 unfold st2 at h0
 simp only [Bool.and_eq_true] at h0
 obtain⟨k,k',h1,h2,h3,h4,h5⟩:=rR h
 unfold st2
 rw [h1,h2,h0.1]
 simp only [Bool.true_and,Bool.and_eq_true,Bool.not_eq_true',beq_eq_false_iff_ne,ne_eq]
 exact⟨⟨fun e=>h3 e.symm,by simpa using h5⟩,by simpa using h4⟩
theorem ul{o o':Oper}{us:Upd}{k k':Nat}(h:cQ P An ops o s us=true)(hm:o'∈ops)(h2:st2 An ops o o'=true)(hk:stA ops o=some k)(hk':stA ops o'=some k'):
  (∀x∈o.op.operands,∀i∈(s.get none x).ids,i∈(s.t k).2.ids)/\(∀p∈us,p.1∈(s.t k).2.ids)/\(∀p∈us,p.1∉(s.t k').2.ids):=by
 have h1:=Array.all_eq_true_iff_forall_mem.1 h o' hm
 simp only [Bool.and_eq_true] at h1
 replace h1:=h1.1.1.1.1
 rw [h2] at h1
 simp only [Bool.not_true,Bool.false_or,stP,hk,hk',Bool.and_eq_true,List.all_eq_true,decide_eq_true_eq] at h1
 obtain⟨⟨h3,h4⟩,h5⟩:=h1
 exact⟨fun x hx=>h3 x (Array.mem_toList_iff.2 hx),h4,h5⟩
theorem lr{a b:Oper}(h:ld2 P An ops a b=true):(∃k,dc ops b=some (some k)/\k∉bX ops.toList)\/dc ops b=some none:=by
 unfold ld2 at h
 simp only [Bool.and_eq_true] at h
 obtain⟨_,h⟩:=h
 split at h
 ·rename_i k hk;exact .inl ⟨k,hk,by simpa using h⟩
 ·rename_i hk;exact .inr hk
 ·cases h
theorem yx{a b:Oper}(h:ld2 P An ops a b=true):a.guard=none/\isW P An a=true/\isR An a=false/\isD An a=false:=by
 unfold ld2 at h
 simp only [Bool.and_eq_true] at h
 obtain⟨⟨_,h⟩,_⟩:=h
 unfold apA at h
 simp only [Bool.and_eq_true,Option.isNone_iff_eq_none] at h
 obtain⟨⟨h1,h2⟩,h3⟩:=h
 refine⟨h1,h2, ?_⟩
 split at h3
 ·rename_i cl hop
  split at h3
  ·rename_i hcal
   simp only [Bool.not_eq_true'] at h3
   simp [isR,isD,hop,hcal,h3]
  ·rename_i f hcal
   simp only [Bool.and_eq_true,Option.isNone_iff_eq_none,Bool.not_eq_true'] at h3
   simp [isR,isD,hop,hcal,h3.1,h3.2]
  ·cases h3
 ·cases h3
theorem ql{o:Oper}{r:Option Nat}(h:dc ops o=some r):o.guard=none/\isW P An o=false/\isR An o=false/\isD An o=false:=by
 unfold dc at h
 split at h
 ·rename_i h1 h2;simp [h1,isW,isR,isD,h2]
 ·rename_i h1 h2;simp [h1,isW,isR,isD,h2]
 ·cases h
theorem DE{o:Oper}{k:Nat}(h:dc ops o=some (some k)):stA ops o=some k:=by
 unfold dc at h
 split at h
 ·rename_i h1 h2;simp only [Option.some.injEq] at h;subst h;simp [stA,h1,h2]
 ·cases h
 ·cases h
theorem iv{o:Oper}{k:Bool}(h:cK P o k=true):∃t a y,o.guard=none/\o.op= .store t (.tmp a) y:=by
 unfold cK at h
 split at h
 ·rename_i t a y h1 h2;exact⟨t,a,y,h1,h2⟩
 ·cases h
theorem Db{k off:Nat}{l:List T}{xs ys:List (List T)}(h:aB k off l xs=some ys):ys.length=xs.length:=by
 unfold aB at h
 split at h
 ·split at h
  ·simp only [Option.some.injEq] at h;subst h;simp
  ·cases h
 ·cases h
theorem vG{t:TypeId}{a v v':AV}{us:Upd}(h:cu P s t a v (fun u=>some (AV.top,u))=some (v',us))(hk:ka us=true):
  ∃i sz k off j rsz X,a= .el i sz k off/\v= .own j/\(∃bb xs,s.h j=some (.sl false rsz bb xs))/\rsz≠1/\us= [(j, .dead),(i,X)]/\∃b sz' col nx es nx' es',s.h i=some (.rows b sz' col rsz nx es)/\X= .rows b sz' col rsz nx' es'/\es'.length=es.length:=by
 unfold cu at h
 cases ht:az P t with
 | false=>rw [ht] at h;cases h
 | true=>
  rw [ht,cond_true] at h
  split at h
  ·split at h
   ·split at h
    ·simp only [Option.some.injEq,Prod.mk.injEq] at h;obtain⟨_,rfl⟩:=h;simp [ka] at hk
    ·cases h
   ·cases h
  ·rename_i i sz k off
   split at h
   ·obtain⟨l,_,h⟩:=Option.bind_eq_some_iff.1 h
    split at h
    ·replace h:=ah h (.inl rfl);obtain⟨ys,_,h⟩:=h
     simp only [Option.some.injEq,Prod.mk.injEq] at h;obtain⟨_,rfl⟩:=h;simp [ka] at hk
    ·cases h
   ·rename_i b sz' col rsz nx es hi
    split at h
    ·rename_i j
     split at h
     ·rename_i rsz' b' xs hj
      split at h
      ·rename_i hc
       have hrr:=hc.2.2.1
       subst hrr
       replace h:=ah h (.inl rfl);obtain⟨e,_,h⟩:=h
       simp only [Option.some.injEq,Prod.mk.injEq] at h;obtain⟨_,rfl⟩:=h
       refine⟨i,sz,k,off,j,rsz',_,rfl,rfl,⟨_,_,hj⟩, ?_,rfl,b,sz',col,nx,es,_,_,hi,by rw [show sz=sz' from hc.1.symm],by simp⟩
       simpa [ka] using hk
      ·cases h
     ·cases h
    ·cases h
   ·cases h
  ·split at h
   ·replace h:=ah h (.inl rfl);obtain⟨p,_,h⟩:=h
    obtain⟨l,_,h⟩:=Option.bind_eq_some_iff.1 h
    split at h
    ·replace h:=ah h (.inl rfl);obtain⟨ys,_,h⟩:=h
     simp only [Option.some.injEq,Prod.mk.injEq] at h;obtain⟨_,rfl⟩:=h;simp [ka] at hk
    ·cases h
   ·cases h
  ·cases h
theorem tF{t:TypeId}{a v v':AV}{us:Upd}(h:cu P s t a v (fun u=>some (AV.top,u))=some (v',us))(hk:kb us=true):
  ∃i sz k off b ys,a= .el i sz k off/\(∃xs,s.h i=some (.sl false 1 b xs)/\ys.length=xs.length)/\us= [(i, .sl false 1 b ys)]:=by
 unfold cu at h
 cases ht:az P t with
 | false=>rw [ht] at h;cases h
 | true=>
  rw [ht,cond_true] at h
  split at h
  ·split at h
   ·split at h
    ·simp only [Option.some.injEq,Prod.mk.injEq] at h;obtain⟨_,rfl⟩:=h;simp [kb] at hk
    ·cases h
   ·cases h
  ·rename_i i sz k off
   split at h
   ·rename_i sz' b xs hi
    obtain⟨l,_,h⟩:=Option.bind_eq_some_iff.1 h
    split at h
    ·rename_i hc
     obtain⟨hsz,_,_⟩:=hc
     subst hsz
     replace h:=ah h (.inl rfl);obtain⟨ys,hys,h⟩:=h
     simp only [Option.some.injEq,Prod.mk.injEq] at h;obtain⟨_,rfl⟩:=h
     cases hf:frz s.h v with
     | cons q r=>rw [hf] at hk;simp [kb] at hk
     | nil=>
      rw [hf] at hk
      simp only [kb,beq_iff_eq] at hk
      subst hk
      exact⟨_,_,_,_,_,_,rfl,⟨_,hi,Db hys⟩,rfl⟩
    ·cases h
   ·split at h
    ·split at h
     ·split at h
      ·replace h:=ah h (.inl rfl);obtain⟨e,_,h⟩:=h
       simp only [Option.some.injEq,Prod.mk.injEq] at h;obtain⟨_,rfl⟩:=h;simp [kb] at hk
      ·cases h
     ·cases h
    ·cases h
   ·cases h
  ·split at h
   ·replace h:=ah h (.inl rfl);obtain⟨p,_,h⟩:=h
    obtain⟨l,_,h⟩:=Option.bind_eq_some_iff.1 h
    split at h
    ·replace h:=ah h (.inl rfl);obtain⟨ys,_,h⟩:=h
     simp only [Option.some.injEq,Prod.mk.injEq] at h;obtain⟨_,rfl⟩:=h;simp [kb] at hk
    ·cases h
   ·cases h
  ·cases h
theorem rH{o:Oper}{t:TypeId}{a:Nat}{y:Operand}{v:AV}{us:Upd}(hop:o.op= .store t (.tmp a) y)(h:aopD P An Or none o s=some (v,us)):cu P s t (s.get none (.tmp a)) (s.get none y) (fun u=>some (AV.top,u))=some (v,us):=by
 unfold aopD aop at h
 rw [hop] at h
 exact h
theorem tX{a b:Oper}(hl:st4 P An ops a b=true)(ha:a∈ops)(hb:b∈ops){s1 s2:St}{va vb:AV}{ua ub:Upd}(ea:aopD P An Or none a s1=some (va,ua))(eb:aopD P An Or none b s2=some (vb,ub))
  (oka:cQ P An ops a s1 ua=true) (okb:cQ P An ops b s2 ub=true) (hh:s2.h=ae s1.h ua\/s1.h=ae s2.h ub):
  (∀p∈ua,∀q∈ub,p.1≠q.1)/\(∀x∈a.op.operands,∀i∈(s1.get none x).ids,∃p∈ua,p.1=i)/\(∀x∈b.op.operands,∀i∈(s2.get none x).ids,∃p∈ub,p.1=i):=by
 have h1:=Array.all_eq_true_iff_forall_mem.1 oka b hb
 have h2:=Array.all_eq_true_iff_forall_mem.1 okb a ha
 simp only [Bool.and_eq_true] at h1 h2
 replace h1:=h1.1.2.1
 replace h2:=h2.1.2.2
 rw [hl] at h1 h2
 simp only [Bool.not_true,Bool.false_or,Bool.and_eq_true] at h1 h2
 simp only [st4,Bool.and_eq_true] at hl
 obtain⟨ta,xa,ya,ga,opa⟩:=iv hl.1.2
 obtain⟨tb,xb,yb,gb,opb⟩:=iv hl.2
 obtain⟨i,sz,k,off,j,rsz,X,a1,a2,⟨_,_,a4⟩,a5,rfl,_,_,_,_,_,_,_,a3,rfl,_⟩:=vG (rH opa ea) h1
 obtain⟨i',sz',k',off',b',ys',b1,⟨_,b2,_⟩,rfl⟩:=tF (rH opb eb) h2.1
 have hbare:=h2.2
 simp only [pm,opb,List.isEmpty_iff] at hbare
 have ne:i'≠i/\i'≠j:=by
  rcases hh with hh | hh
  ·rw [hh,aO,bo] at b2
   constructor
   ·rintro rfl;rw [upd_same] at b2;cases b2
   ·intro e
    by_cases e2:i'=i
    ·rw [e2,upd_same] at b2;cases b2
    ·rw [ab _ _ e2,e,upd_same] at b2;cases b2
  ·rw [hh,bo] at a3 a4
   constructor
   ·rintro rfl;rw [upd_same] at a3;cases a3
   ·rintro rfl;rw [upd_same] at a4
    simp only [Option.some.injEq,Blk.sl.injEq] at a4
    exact a5 a4.2.1.symm
 refine⟨fun p hp q hq e=> ?_,fun x hx id hid=> ?_,fun x hx id hid=> ?_⟩
 ·simp only [List.mem_cons,List.not_mem_nil,or_false] at hp hq
  subst hq
  rcases hp with rfl | rfl
  ·exact ne.2 e.symm
  ·exact ne.1 e.symm
 ·simp only [opa,Op.operands] at hx
  have hx:x= .tmp xa\/x=ya:=by simpa using hx
  rcases hx with rfl | rfl
  ·rw [a1] at hid
   simp only [AV.ids,List.mem_singleton] at hid;subst hid
   exact⟨_,List.mem_cons_of_mem _ (List.mem_singleton.2 rfl),rfl⟩
  ·rw [a2] at hid
   simp only [AV.ids,List.mem_singleton] at hid;subst hid
   exact⟨_,List.mem_cons_self,rfl⟩
 ·simp only [opb,Op.operands] at hx
  have hx:x= .tmp xb\/x=yb:=by simpa using hx
  rcases hx with rfl | rfl
  ·rw [b1] at hid
   simp only [AV.ids,List.mem_singleton] at hid;subst hid
   exact⟨_,List.mem_cons_self,rfl⟩
  ·rw [hbare] at hid;cases hid
theorem pP{o:Oper}(h:nr P o=true):∃a,o.guard=none/\((∃t e n,o.op= .indexAddr t (.tmp a) n/\fE P t=some e/\P.cellsOf e=1)\/∃t,o.op= .load t (.tmp a)):=by
 unfold nr at h
 split at h
 ·rename_i t a n h1 h2
  split at h
  ·rename_i e he;exact⟨a,h1, .inl ⟨t,e,n,h2,he,by simpa using h⟩⟩
  ·cases h
 ·rename_i t a h1 h2;exact⟨a,h1, .inr ⟨t,h2⟩⟩
 ·cases h
def IxSame(h h':Id->Option Blk):Prop:= ∀m,h' m=h m\/(∃fz sz b xs fz' b' xs',h m=some (.sl fz sz b xs)/\h' m=some (.sl fz' sz b' xs')/\xs'.length=xs.length)\/
 (∃b sz col rsz nx es nx' es',h m=some (.rows b sz col rsz nx es)/\h' m=some (.rows b sz col rsz nx' es')/\es'.length=es.length)\/∃sz b xs,sz≠1/\h m=some (.sl false sz b xs)/\h' m=some .dead
theorem IxSame.index{t e:TypeId}{m:Id}{n:Int}{K:AV->Option (AV×Upd)}{r:AV×Upd}(H:IxSame s.h s'.h)(he:fE P t=some e)(hc:P.cellsOf e=1):cJ P s none t (.own m) n K=some r↔cJ P s' none t (.own m) n K=some r:=by
 unfold cJ
 simp only [he]
 rcases H m with h | ⟨_,_,_,_,_,_,_,h1,h2,h3⟩ | ⟨_,_,_,_,_,_,_,_,h1,h2,h3⟩ | ⟨sz,_,_,h0,h1,h2⟩
 ·rw [h]
 ·rw [h1,h2];simp only [h3]
 ·rw [h1,h2];simp only [h3]
 ·rw [h1,h2]
  simp only [hc,if_neg h0,reduceCtorEq]
theorem IxSame.load{t:TypeId}{m:Id}{off:Nat}{K:AV->Option (AV×Upd)}{r:AV×Upd}(H:IxSame s.h s'.h):cY P s none t (.ref m off) K=some r↔cY P s' none t (.ref m off) K=some r:=by
 unfold cY
 rcases H m with h | ⟨_,_,_,_,_,_,_,h1,h2,h3⟩ | ⟨_,_,_,_,_,_,_,_,h1,h2,h3⟩ | ⟨sz,_,_,h0,h1,h2⟩
 ·simp only [h]
 ·simp only [h1,h2]
 ·simp only [h1,h2]
 ·simp only [h1,h2]
theorem IxSame.store{t:TypeId}{a v v':AV}{us:Upd}(h:cu P s t a v (fun u=>some (AV.top,u))=some (v',us))(hk:ka us=true\/kb us=true):IxSame s.h (ae s.h us):=by
 rcases hk with hk | hk
 ·obtain⟨i,sz,k,off,j,rsz,X,_,_,⟨_,_,a4⟩,a5,rfl,_,_,_,_,_,_,_,a3,rfl,a6⟩:=vG h hk
  intro m
  rw [aO,bo]
  by_cases e1:m=i
  ·subst e1;exact .inr (.inr (.inl ⟨_,_,_,_,_,_,_,_,a3,upd_same _ _ _,a6⟩))
  ·rw [ab _ _ e1]
   by_cases e2:m=j
   ·subst e2;exact .inr (.inr (.inr ⟨_,_,_,a5,a4,upd_same _ _ _⟩))
   ·rw [ab _ _ e2];exact .inl rfl
 ·obtain⟨i,_,_,_,_,_,_,⟨_,b2,b3⟩,rfl⟩:=tF h hk
  intro m
  rw [bo]
  by_cases e1:m=i
  ·subst e1;exact .inr (.inl ⟨_,_,_,_,_,_,_,b2,upd_same _ _ _,b3⟩)
  ·rw [ab _ _ e1];exact .inl rfl
theorem tI{a b:Oper}(hl:st5 P An ops a b=true)(ha:a∈ops)(hb:b∈ops){s1 s2 s3:St}{va:AV}{ua:Upd}{ub:Upd}(ea:aopD P An Or none a s1=some (va,ua))(oka:cQ P An ops a s1 ua=true)(okb:cQ P An ops b s3 ub=true)
  (hh:s2.h=ae s1.h ua) (hget:∀x∈b.op.operands,s2.get none x=s1.get none x) (hg3:∀x∈b.op.operands,s3.get none x=s1.get none x) (r:AV×Upd):aopD P An Or none b s1=some r↔aopD P An Or none b s2=some r:=by
 have h1:=Array.all_eq_true_iff_forall_mem.1 oka b hb
 have h2:=Array.all_eq_true_iff_forall_mem.1 okb a ha
 simp only [Bool.and_eq_true] at h1 h2
 replace h1:=h1.2.1
 replace h2:=h2.2.2
 rw [hl] at h1 h2
 simp only [Bool.not_true,Bool.false_or,Bool.or_eq_true] at h1 h2
 simp only [st5,Bool.and_eq_true,Bool.or_eq_true] at hl
 obtain⟨ta,xa,ya,ga,opa⟩:∃t x y,a.guard=none/\a.op= .store t (.tmp x) y:=by
  rcases hl.1.2 with h | h <;> exact iv h
 have H:=IxSame.store (rH opa ea) h1
 rw [<-hh] at H
 obtain⟨xb,gb,⟨tb,e,n,opb,he,hc⟩ | ⟨tb,opb⟩⟩:=pP hl.2
 case inr=>
  simp only [lD,opb] at h2
  rw [hg3 (.tmp xb) (by simp [opb,Op.operands])] at h2
  split at h2
  ·rename_i m off hm
   unfold aopD aop
   rw [opb]
   dsimp only
   rw [hget (.tmp xb) (by simp [opb,Op.operands]),hm]
   exact H.load
  ·cases h2
 simp only [lD,opb] at h2
 rw [hg3 (.tmp xb) (by simp [opb,Op.operands])] at h2
 split at h2
 ·rename_i m hm
  unfold aopD aop
  rw [opb]
  dsimp only
  rw [hget (.tmp xb) (by simp [opb,Op.operands]),hget n (by simp [opb,Op.operands]),hm]
  unfold gt
  cases(s1.get none n).t? with
  | none=>exact Iff.rfl
  | some y=>
   simp only [Option.bind_some]
   cases boundAV.anyInt y with
   | none=>exact Iff.rfl
   | some z=>
    change (cJ P s1 none tb (AV.own m) z fun v=>some (v,[]))=some r↔(cJ P s2 none tb (AV.own m) z fun v=>some (v,[]))=some r
    exact H.index he hc
 ·cases h2
theorem um{a b:Oper}{s1 s2:St}{us:Upd}{u2:Upd}(hl:ld2 P An ops a b=true)(ha:a∈ops)(hb:b∈ops)(oka:cQ P An ops a s1 us=true)(okb:cQ P An ops b s2 u2=true)(ht:∀k,k∉bX ops.toList->(s1.t k).2= (s2.t k).2):
  ∀x∈b.op.operands,∀i∈(s2.get none x).ids,∀q∈us,q.1≠i:=by
 have h1:=Array.all_eq_true_iff_forall_mem.1 oka b hb
 have h2:=Array.all_eq_true_iff_forall_mem.1 okb a ha
 simp only [Bool.and_eq_true] at h1 h2
 replace h1:=h1.1.1.1.2
 replace h2:=h2.1.1.2
 rw [hl] at h1 h2
 simp only [Bool.not_true,Bool.false_or] at h1 h2
 rcases lr hl with⟨k,hk,hd⟩ | hk
 ·simp only [ldA,ldB,hk,List.all_eq_true,decide_eq_true_eq] at h1 h2
  intro x hx i hi q hq e
  have:=h2 x (Array.mem_toList_iff.2 hx) i hi
  rw [<-ht k hd,<-e] at this
  exact h1 q hq this
 ·simp only [ldB,hk,List.all_eq_true,List.isEmpty_iff] at h2
  intro x hx i hi
  rw [h2 x (Array.mem_toList_iff.2 hx)] at hi
  cases hi
theorem qz{o:Oper}{us:Upd}(ht:∀k,k∉bX ops.toList->s'.t k=s.t k)(hg:∀k,stA ops o=some k\/dc ops o=some none->∀x∈o.op.operands,s'.get none x=s.get none x)(hx5:o.guard=none->∀x∈o.op.operands,s'.get none x=s.get none x)(h:cQ P An ops o s us=true):cQ P An ops o s' us=true:=by
 refine Array.all_eq_true_iff_forall_mem.2 fun o' hm=> ?_
 have h0:=Array.all_eq_true_iff_forall_mem.1 h o' hm
 simp only [Bool.and_eq_true] at h0⊢
 obtain⟨⟨⟨⟨h1,ha⟩,hb⟩,hc,hd4⟩,he5,hf5⟩:=h0
 refine⟨⟨⟨⟨?_, ?_⟩, ?_⟩,hc, ?_⟩,he5, ?_⟩
 ·cases h2:st2 An ops o o' with
  | false=>rfl
  | true=>
   obtain⟨k,k',hk,hk',hne,d1,d2⟩:=rR h2
   rw [h2] at h1
   simp only [Bool.not_true,Bool.false_or,stP,hk,hk',Bool.and_eq_true,List.all_eq_true] at h1⊢
   rw [ht k d1,ht k' d2]
   refine⟨⟨fun x hx=> ?_,h1.1.2⟩,h1.2⟩
   rw [hg k (.inl hk) x (Array.mem_toList_iff.1 hx)]
   exact h1.1.1 x hx
 ·cases h2:ld2 P An ops o o' with
  | false=>rfl
  | true=>
   rw [h2] at ha
   simp only [Bool.not_true,Bool.false_or] at ha⊢
   rcases lr h2 with⟨k,hk,hd⟩ | hk
   ·simp only [ldA,hk] at ha⊢;rw [ht k hd];exact ha
   ·simp only [ldA,hk]
 ·cases h2:ld2 P An ops o' o with
  | false=>rfl
  | true=>
   rw [h2] at hb
   simp only [Bool.not_true,Bool.false_or] at hb⊢
   rcases lr h2 with⟨k,hk,hd⟩ | hk
   ·simp only [ldB,hk,List.all_eq_true] at hb⊢
    rw [ht k hd]
    intro x hx
    rw [hg k (.inl (DE hk)) x (Array.mem_toList_iff.1 hx)]
    exact hb x hx
   ·simp only [ldB,hk,List.all_eq_true] at hb⊢
    intro x hx
    rw [hg 0 (.inr hk) x (Array.mem_toList_iff.1 hx)]
    exact hb x hx
 ·cases h4:st4 P An ops o' o with
  | false=>rfl
  | true=>
   rw [h4] at hd4
   simp only [Bool.not_true,Bool.false_or,Bool.and_eq_true] at hd4⊢
   refine⟨hd4.1, ?_⟩
   have hb2:=hd4.2
   simp only [st4,Bool.and_eq_true] at h4
   obtain⟨t,a,y,hg0,hop⟩:=iv h4.2
   have hk:stA ops o=some (iT ops a):=by simp [stA,hg0,hop]
   simp only [pm,hop] at hb2⊢
   rw [hg _ (.inl hk) y (by simp [hop,Op.operands])]
   exact hb2
 ·cases h5:st5 P An ops o' o with
  | false=>rfl
  | true=>
   rw [h5] at hf5
   simp only [Bool.not_true,Bool.false_or] at hf5⊢
   simp only [st5,Bool.and_eq_true] at h5
   obtain⟨a,hg0,⟨t,e,n,hop,_,_⟩ | ⟨t,hop⟩⟩:=pP h5.2
   ·simp only [lD,hop] at hf5⊢
    rw [hx5 hg0 (.tmp a) (by simp [hop,Op.operands])]
    exact hf5
   ·simp only [lD,hop] at hf5⊢
    rw [hx5 hg0 (.tmp a) (by simp [hop,Op.operands])]
    exact hf5
theorem yQ{listed:Array Bool}{i j:Nat}{oi oj:Oper}(hu:jE ops)(hgk:iM ops=true)(hi:ops[i]? =some oi)(hj:ops[j]? =some oj)(hne:j≠i)(hri:i∈Region.ready .any ops listed)(hrj:j∈Region.ready .any ops listed)
  (hcl:jw ops listed) (hap:oi.apart ops oj=true) (hcm0':iO P An oi oj=true\/st3 P An ops oi oj=true) (hG:jB ops listed s) (e1:oneD P An Or true nt ops oi s=some s1) (e2:oneD P An Or true nt ops oj s1=some s2):
  ∃sj,oneD P An Or true nt ops oj s=some sj/\oneD P An Or true nt ops oi sj=some s2:=by
 obtain⟨gi,vi,usi,wi,rfl⟩:=ph e1
 obtain⟨gj,vj,usj,wj,rfl⟩:=ph e2
 obtain⟨hli,oi',hi',hai⟩:=mem_ready.1 hri
 rw [hi] at hi';simp only [Option.some.injEq] at hi';subst hi'
 obtain⟨hlj,oj',hj',haj⟩:=mem_ready.1 hrj
 rw [hj] at hj';simp only [Option.some.injEq] at hj';subst hj'
 obtain⟨a1,a2,a3⟩:=Oper.apart_spec hap
 have behind:∀(o:Oper) (m:Nat),listed.getD m true=false->(∀e∈o.after,Region.binds .any e=true->listed.getD e.on false=true)->∀e∈o.after,Region.binds .any e=true->¬(e.on=m\/bnd ops 12 e.on m=true):=by
  intro o m hlm hall e he hb h
  rcases h with h | h
  ·exact jV hlm (h▸hall e he hb)
  ·have hl:=hall e he hb
   cases hk:ops[e.on]? with
   | none=>simp [bnd,hk] at h
   | some ok=>
    rw [qN hcl hlm hk (hcl e.on ok hk hl)] at h
    cases h
 have noti:=behind oj i hli haj
 have notj:=behind oi j hlj hai
 have wiok:=wi.ok
 have wjok:=wj.ok
 simp only [gw,Bool.not_true,Bool.false_or,Bool.and_eq_true] at wiok wjok
 obtain⟨⟨⟨i1,i2⟩,i3⟩,⟨⟨⟨⟨⟨i4,i5⟩,i6⟩,i7⟩,i8⟩,i9⟩,i10⟩:=wiok
 obtain⟨⟨⟨j1,j2⟩,j3⟩,⟨⟨⟨⟨⟨j4,j5⟩,j6⟩,j7⟩,j8⟩,j9⟩,j10⟩:=wjok
 have pli:=o7 (g:=gi) (v:=vi) (us:=usi) hu hi hli hG (be ops oi.dst)
 have tj:∀k,k∈oj.looksAt ops->(s.put (be ops oi.dst) oi.dst gi vi usi).t k=s.t k:=by
  intro k hk
  rw [pli]
  exact gX (b:=false) fun e=>a1 k e hk
 have ti:∀(g:Option Gs) (v:AV) (us:Upd) k,k∈oi.looksAt ops->(s.put false oj.dst g v us).t k=s.t k:=fun g v us k hk=>gX (b:=false) fun e=>a3 k e hk
 have gj':aT ops oj s some=some gj:=by
  rw [<-wj.guard]
  exact(xW fun x b d h1 h2=>tj d (yC h1 h2)).symm
 have getj:∀x∈oj.op.operands,(s.put (be ops oi.dst) oi.dst gi vi usi).get gj x=s.get gj x:=fun x hx=>jd fun k e=>tj k (cd (e▸hx))
 have nj:gx ops gj oj s=true:=by
  rw [<-j4]
  exact(wn getj).symm
 have a2':∀d,oj.dst=some d->oi.dst≠some d:=fun d h h'=>a2 d h' h
 have guardA:∀(o:Oper) (g:Option Gs) (s0:St) (k:Nat),stA ops o=some k->aT ops o s0 some=some g->g=none/\isR An o=false/\isD An o=false:=by
  intro o g s0 k h hg
  unfold stA at h
  split at h
  ·rename_i h1 h2
   unfold aT at hg
   rw [h1] at hg
   simp only [Option.some.injEq] at hg
   exact⟨hg.symm,by simp [isR,h2],by simp [isD,h2]⟩
  ·rename_i h1 h2
   unfold aT at hg
   rw [h1] at hg
   simp only [Option.some.injEq] at hg
   exact⟨hg.symm,by simp [isR,h2],by simp [isD,h2]⟩
  ·cases h
 have al_w:∀o:Oper,cw o=true->isW P An o=false:=by
  intro o h
  cases hop:o.op <;> simp only [cw,hop,Bool.false_eq_true] at h <;> simp [isW,hop]
 have w_r:∀o:Oper,isW P An o=false->isR An o=false:=by
  intro o h
  cases hr:isR An o with
  | false=>rfl
  | true=>
   exfalso
   cases hop:o.op <;> simp only [isR,hop,Bool.false_eq_true] at hr
   rename_i cl
   cases hcal:cl.callee <;> simp only [hcal,Bool.false_eq_true] at hr
   rename_i fo
   simp only [isW,hop,hcal] at h
   cases fo with
   | func f=>
    dsimp only at h hr
    cases hb:An.bref f with
    | none=>rw [hb] at hr;simp at hr
    | some x=>rw [hb] at h;simp at h
   | _=>simp at h
 have notmine:∀(o:Oper) (us:Upd) (m:Nat) (om:Oper),ops[m]? =some om->(∀e∈o.after,Region.binds .any e=true->¬(e.on=m\/bnd ops 12 e.on m=true))->jh ops o us=true->(∀d,om.dst=some d->o.dst≠some d)->∀q∈us,∀d k,om.dst=some d->q.1≠ .s d k:=by
  intro o us m om hm hnot hok hdst q hq d k hd e
  have h1:=List.all_eq_true.1 hok q hq
  rw [e] at h1
  simp only [Bool.or_eq_true] at h1
  rcases h1 with h1 | h1
  ·unfold jp at h1
   have h3:=List.all_eq_true.1 h1 m (List.mem_range.2 (Array.getElem?_eq_some_iff.1 hm).1)
   rw [hm] at h3
   simp only [hd,BEq.rfl,Bool.not_true,Bool.false_or] at h3
   obtain⟨e',he,hb⟩:=Array.any_eq_true'.1 h3
   simp only [Bool.and_eq_true,Bool.or_eq_true,beq_iff_eq] at hb
   exact hnot e' he hb.1 hb.2
  ·exact hdst d hd (by simpa using h1)
 have ltd:∀(o:Oper),(match o.dst with | some d=>decide (d < nt) | none=>true)=true->Nat.ble nt 1000000=true->∀d,o.dst=some d->d < 1000000:=by
  intro o h1 h2 d hd
  rw [hd] at h1
  simp only [decide_eq_true_eq] at h1
  exact Nat.lt_of_lt_of_le h1 (Nat.le_of_ble_eq_true h2)
 have guardB:∀(o:Oper) (g:Option Gs) (s0:St) (k:Nat),(stA ops o=some k\/dc ops o=some none)->aT ops o s0 some=some g->g=none:=by
  intro o g s0 k h hg
  rcases h with h | h
  ·exact(guardA o g s0 k h hg).1
  ·have h1:=(ql (P:=P) (An:=An) h).1
   unfold aT at hg
   rw [h1] at hg
   simp only [Option.some.injEq] at hg
   exact hg.symm
 have three:aopD P An Or gj oj s=some (vj,usj)/\aopD P An Or gi oi (s.put false oj.dst gj vj usj)=some (vi,usi)/\(∀p∈usi,∀q∈usj,p.1≠q.1):=by
  rcases hcm0' with hcm | hst
  ·skip
   have hcm0:=hcm
   unfold iO at hcm0
   simp only [Bool.and_eq_true] at hcm0
   obtain⟨⟨hcm1,hcd1⟩,hcd2⟩:=hcm0
   have hcm':(isW P An oi=false\/bR P oj=true\/cw oj=true)/\(isW P An oj=false\/bR P oi=true\/cw oi=true):=by
    simp only [Bool.not_eq_true',Bool.or_eq_false_iff,Bool.and_eq_false_iff,Bool.not_eq_false',Bool.or_eq_true] at hcm1
    exact hcm1
   have hdi:isD An oi=false\/usj= []:=by
    simp only [Bool.or_eq_true,Bool.not_eq_true'] at hcd1
    rcases hcd1 with h | h
    ·exact .inl h
    ·right;simpa [h] using j7
   have hdj:isD An oj=false\/usi= []:=by
    simp only [Bool.or_eq_true,Bool.not_eq_true'] at hcd2
    rcases hcd2 with h | h
    ·exact .inl h
    ·right;simpa [h] using i7
   have purei:bR P oi=true->usi= []:=fun h=>by simpa [h] using i6
   have purej:bR P oj=true->usj= []:=fun h=>by simpa [h] using j6
   have opj:aopD P An Or gj oj s=some (vj,usj):=by
    have old:bR P oj=true\/cw oj=true\/ae s.h usi=s.h\/(isR An oj=false/\isD An oj=false/\∀x∈oj.op.operands,∀id∈(s.get gj x).ids,ae s.h usi id=s.h id)->aopD P An Or gj oj s=some (vj,usj):=by
     intro h
     rw [<-wj.op]
     exact(dN (s:=s) (s':=s.put (be ops oi.dst) oi.dst gi vi usi) (fun x hx k e=>tj k (cd (e▸hx))) h).symm
    rcases hcm'.1 with hw | hp | hp
    case inr.inl=>exact old (.inl hp)
    case inr.inr=>exact old (.inr (.inl hp))
    have hnew:dr oi usi=true:=by simpa [hw] using i5
    have direct:∀x∈oj.op.operands,∀id∈(s.get gj x).ids,∀q∈usi,q.1≠id:=by
     intro x hx id hid q hq e
     obtain⟨d,k,e1,e2⟩:=bQ hnew ⟨q,hq,e⟩
     subst e1
     obtain⟨ed,he,hb,ho⟩:=mo nj hx hid hi e2
     exact noti ed he hb ho
    rcases hdj with hdj | hdj
    case inr=>exact old (.inr (.inr (.inl (by rw [hdj];rfl))))
    rcases hcm'.2 with hwj | hpi | hai'
    ·exact old (.inr (.inr (.inr ⟨w_r oj hwj,hdj,fun x hx id hid=>aY fun q hq e=>direct x hx id hid q hq e⟩)))
    ·exact old (.inr (.inr (.inl (by rw [purei hpi];rfl))))
    ·cases hwj:isW P An oj with
     | false=>exact old (.inr (.inr (.inr ⟨w_r oj hwj,hdj,fun x hx id hid=>aY fun q hq e=>direct x hx id hid q hq e⟩)))
     | true=>
      have hus:jh ops oj usj=true:=by simpa [hwj] using j8
      refine nU (s:=s.put (be ops oi.dst) oi.dst gi vi usi) (s':=s) (N:=fun i=>∃q∈usi,q.1=i) (fun x hx k e=>(tj k (cd (e▸hx))).symm) (fun i hi=> ?_) hdj (fun x hx id hid=> ?_) (fun k=> ?_) (fun p hp=> ?_) wj.op
      ·exact(aY fun q hq e=>hi ⟨q,hq,e⟩).symm
      ·rw [getj x hx] at hid
       rintro⟨q,hq,e⟩
       exact direct x hx id hid q hq e
      ·rintro⟨q,hq,e⟩
       obtain⟨d,k',e1,e2⟩:=bQ hnew ⟨q,hq,e⟩
       simp only [Id.s.injEq] at e1
       have h:=ltd oi i1 i9 d e2
       rw [<-e1.1] at h
       exact absurd h (Nat.not_lt.2 (Nat.le_trans (by decide) (Nat.le_add_right 2000000 _)))
      ·rintro⟨q,hq,e⟩
       obtain⟨d,k',e1,e2⟩:=bQ hnew ⟨q,hq,rfl⟩
       exact notmine oj usj i oi hi noti hus a2 p hp d k' e2 (by rw [<-e,e1])
   have opi:aopD P An Or gi oi (s.put false oj.dst gj vj usj)=some (vi,usi):=by
    have old:bR P oi=true\/cw oi=true\/ae s.h usj=s.h\/(isR An oi=false/\isD An oi=false/\∀x∈oi.op.operands,∀id∈(s.get gi x).ids,ae s.h usj id=s.h id)->aopD P An Or gi oi (s.put false oj.dst gj vj usj)=some (vi,usi):=by
     intro h
     rw [<-wi.op]
     exact dN (fun x hx k e=>ti _ _ _ k (cd (e▸hx))) h
    rcases hcm'.2 with hw | hp | hp
    case inr.inl=>exact old (.inl hp)
    case inr.inr=>exact old (.inr (.inl hp))
    have hnew:dr oj usj=true:=by simpa [hw] using j5
    have direct:∀x∈oi.op.operands,∀id∈(s.get gi x).ids,∀q∈usj,q.1≠id:=by
     intro x hx id hid q hq e
     obtain⟨d,k,e1,e2⟩:=bQ hnew ⟨q,hq,e⟩
     subst e1
     obtain⟨ed,he,hb,ho⟩:=mo i4 hx hid hj e2
     exact notj ed he hb ho
    rcases hdi with hdi | hdi
    case inr=>exact old (.inr (.inr (.inl (by rw [hdi];rfl))))
    rcases hcm'.1 with hwi | hpj | haj'
    ·exact old (.inr (.inr (.inr ⟨w_r oi hwi,hdi,fun x hx id hid=>aY fun q hq e=>direct x hx id hid q hq e⟩)))
    ·exact old (.inr (.inr (.inl (by rw [purej hpj];rfl))))
    ·cases hwi:isW P An oi with
     | false=>exact old (.inr (.inr (.inr ⟨w_r oi hwi,hdi,fun x hx id hid=>aY fun q hq e=>direct x hx id hid q hq e⟩)))
     | true=>
      have hus:jh ops oi usi=true:=by simpa [hwi] using i8
      refine nU (s:=s) (s':=s.put false oj.dst gj vj usj) (N:=fun i=>∃q∈usj,q.1=i) (fun x hx k e=>ti _ _ _ k (cd (e▸hx))) (fun i hi=> ?_) hdi (fun x hx id hid=> ?_) (fun k=> ?_) (fun p hp=> ?_) wi.op
      ·exact aY fun q hq e=>hi ⟨q,hq,e⟩
      ·rintro⟨q,hq,e⟩
       exact direct x hx id hid q hq e
      ·rintro⟨q,hq,e⟩
       obtain⟨d,k',e1,e2⟩:=bQ hnew ⟨q,hq,e⟩
       simp only [Id.s.injEq] at e1
       have h:=ltd oj j1 j9 d e2
       rw [<-e1.1] at h
       exact absurd h (Nat.not_lt.2 (Nat.le_trans (by decide) (Nat.le_add_right 2000000 _)))
      ·rintro⟨q,hq,e⟩
       obtain⟨d,k',e1,e2⟩:=bQ hnew ⟨q,hq,rfl⟩
       exact notmine oi usi j oj hj notj hus a2' p hp d k' e2 (by rw [<-e,e1])
   have disj:∀p∈usi,∀q∈usj,p.1≠q.1:=by
    intro p hp q hq e
    rcases hcm'.1 with hw | hpj | haj'
    ·rcases hcm'.2 with hw' | hpi | hai'
     ·obtain⟨d,k,e1,e2⟩:=bQ (by simpa [hw] using i5:dr oi usi=true) ⟨p,hp,rfl⟩
      obtain⟨d',k',e3,e4⟩:=bQ (by simpa [hw'] using j5:dr oj usj=true) ⟨q,hq,rfl⟩
      rw [e1,e3] at e
      simp only [Id.s.injEq] at e
      obtain⟨rfl,_⟩:=e
      exact a2 d e2 e4
     ·rw [purei hpi] at hp;cases hp
     ·obtain⟨d,k,e1,e2⟩:=bQ (by simpa [hw] using i5:dr oi usi=true) ⟨p,hp,rfl⟩
      cases hwj:isW P An oj with
      | false=>
       obtain⟨d',k',e3,e4⟩:=bQ (by simpa [hwj] using j5:dr oj usj=true) ⟨q,hq,rfl⟩
       rw [e1,e3] at e
       simp only [Id.s.injEq] at e
       obtain⟨rfl,_⟩:=e
       exact a2 d e2 e4
      | true=>exact notmine oj usj i oi hi noti (by simpa [hwj] using j8) a2 q hq d k e2 (by rw [<-e,e1])
    ·rw [purej hpj] at hq;cases hq
    ·obtain⟨d,k,e1,e2⟩:=bQ (by simpa [al_w oj haj'] using j5:dr oj usj=true) ⟨q,hq,rfl⟩
     cases hwi:isW P An oi with
     | false=>
      obtain⟨d',k',e3,e4⟩:=bQ (by simpa [hwi] using i5:dr oi usi=true) ⟨p,hp,rfl⟩
      rw [e1,e3] at e
      simp only [Id.s.injEq] at e
      obtain⟨rfl,_⟩:=e
      exact a2 d' e4 e2
     | true=>exact notmine oi usi j oj hj notj (by simpa [hwi] using i8) a2' p hp d k e2 (by rw [e,e1])
   exact⟨opj,opi,disj⟩
  ·have hst2:(((st2 An ops oi oj=true\/ld2 P An ops oi oj=true)\/ld2 P An ops oj oi=true)\/(st4 P An ops oi oj=true\/st4 P An ops oj oi=true))\/(st5 P An ops oi oj=true\/st5 P An ops oj oi=true):=by
    unfold st3 at hst;simpa only [Bool.or_eq_true] using hst
   rcases hst2 with hst1 | hst5
   case inr=>
    have ixq:∀o,nr P o=true->o.guard=none/\jg P An o=true/\bR P o=false:=fun o h=>by
     obtain⟨a,h1,⟨t,e,n,h2,_⟩ | ⟨t,h2⟩⟩:=pP h
     ·exact⟨h1,by simp [jg,h2],by simp [bR,h2]⟩
     ·exact⟨h1,by simp [jg,h2],by simp [bR,h2]⟩
    have gn:∀(o:Oper) (g:Option Gs) (s0:St),o.guard=none->aT ops o s0 some=some g->g=none:=by
     intro o g s0 h1 hg
     unfold aT at hg
     rw [h1] at hg
     simp only [Option.some.injEq] at hg
     exact hg.symm
    have stg:∀o,(cK P o true=true\/cK P o false=true)->o.guard=none/\isR An o=false/\isD An o=false:=fun o h=>by
     obtain⟨t,a,y,h1,h2⟩:∃t a y,o.guard=none/\o.op= .store t (.tmp a) y:=by rcases h with h | h <;> exact iv h
     exact⟨h1,by simp [isR,h2],by simp [isD,h2]⟩
    rcases hst5 with h5 | h5
    ·have h5':=h5
     simp only [st5,Bool.and_eq_true,Bool.or_eq_true] at h5'
     obtain⟨gdi,ri,di⟩:=stg oi h5'.1.2
     obtain⟨gdj,qj,_⟩:=ixq oj h5'.2
     have gni:=gn oi gi s gdi wi.guard
     have gnj:=gn oj gj s gdj gj'
     have uj:usj= []:=by simpa [qj] using j7
     have eiop:=wi.op
     have ejop:=wj.op
     rw [gni] at eiop
     rw [gnj] at ejop
     have hget:∀x∈oj.op.operands,(s.put (be ops oi.dst) oi.dst gi vi usi).get none x=s.get none x:=fun x hx=>by
      have:=getj x hx
      rwa [gnj] at this
     refine⟨?_, ?_,fun p hp q hq=>by rw [uj] at hq;cases hq⟩
     ·rw [gnj]
      exact(tI h5 (Array.mem_of_getElem? hi) (Array.mem_of_getElem? hj) eiop i10 j10 rfl hget hget _).2 ejop
     ·rw [<-wi.op]
      exact dN (fun x hx k e=>ti _ _ _ k (cd (e▸hx))) (.inr (.inr (.inl (by rw [uj];rfl))))
    ·have h5':=h5
     simp only [st5,Bool.and_eq_true,Bool.or_eq_true] at h5'
     obtain⟨gdj,rj,dj⟩:=stg oj h5'.1.2
     obtain⟨gdi,qi,_⟩:=ixq oi h5'.2
     have gni:=gn oi gi s gdi wi.guard
     have gnj:=gn oj gj s gdj gj'
     have ui:usi= []:=by simpa [qi] using i7
     have eiop:=wi.op
     rw [gni] at eiop
     have opj:aopD P An Or gj oj s=some (vj,usj):=by
      rw [<-wj.op]
      exact(dN (s:=s) (s':=s.put (be ops oi.dst) oi.dst gi vi usi) (fun x hx k e=>tj k (cd (e▸hx))) (.inr (.inr (.inl (by rw [ui];rfl))))).symm
     have geti:∀x∈oi.op.operands,(s.put false oj.dst gj vj usj).get none x=s.get none x:=fun x hx=>jd fun k e=>ti _ _ _ k (cd (e▸hx))
     have okj:cQ P An ops oj s usj=true:=by
      refine qz (fun k hk=> ?_) (fun k hk x hx=> ?_) (fun hg x hx=> ?_) j10
      ·rw [pli];exact(gX (b:=false) fun e=>hk (gW e ops.toList (Array.mem_toList_iff.2 (Array.mem_of_getElem? hi)))).symm
      ·have h:=getj x hx
       rw [gnj] at h
       exact h.symm
      ·have h:=getj x hx
       rw [gnj] at h
       exact h.symm
     refine⟨opj, ?_,fun p hp=>by rw [ui] at hp;cases hp⟩
     rw [gni]
     rw [gnj] at opj
     exact(tI h5 (Array.mem_of_getElem? hj) (Array.mem_of_getElem? hi) opj okj i10 rfl geti (fun _ _=>rfl) _).1 eiop
   have hst1:=hst1
   rcases hst1 with hst0 | hst4
   case inr=>
    have both:∀o,(cK P o true=true\/cK P o false=true)->∃t a y,o.guard=none/\o.op= .store t (.tmp a) y:=fun o h=>by
     rcases h with h | h
     ·exact iv h
     ·exact iv h
    have si:(cK P oi true=true\/cK P oi false=true)/\(cK P oj true=true\/cK P oj false=true):=by
     rcases hst4 with h | h <;> simp only [st4,Bool.and_eq_true] at h
     ·exact⟨.inl h.1.2, .inr h.2⟩
     ·exact⟨.inr h.2, .inl h.1.2⟩
    obtain⟨ti',xi,yi,gdi,opi'⟩:=both oi si.1
    obtain⟨tj',xj,yj,gdj,opj'⟩:=both oj si.2
    have hki:stA ops oi=some (iT ops xi):=by simp [stA,gdi,opi']
    have hkj:stA ops oj=some (iT ops xj):=by simp [stA,gdj,opj']
    obtain⟨gni,ri,di⟩:=guardA oi gi s _ hki wi.guard
    obtain⟨gnj,rj,dj⟩:=guardA oj gj s _ hkj gj'
    have eiop:=wi.op
    have ejop:=wj.op
    rw [gni] at eiop
    rw [gnj] at ejop
    have hres:(∀p∈usi,∀q∈usj,p.1≠q.1)/\(∀x∈oi.op.operands,∀i∈(s.get none x).ids,∃p∈usi,p.1=i)/\(∀x∈oj.op.operands,∀i∈((s.put (be ops oi.dst) oi.dst gi vi usi).get none x).ids,∃p∈usj,p.1=i):=by
     rcases hst4 with h | h
     ·exact tX h (Array.mem_of_getElem? hi) (Array.mem_of_getElem? hj) eiop ejop i10 j10 (.inl rfl)
     ·obtain⟨r1,r2,r3⟩:=tX h (Array.mem_of_getElem? hj) (Array.mem_of_getElem? hi) ejop eiop j10 i10 (.inr rfl)
      exact⟨fun p hp q hq e=>r1 q hq p hp e.symm,r3,r2⟩
    obtain⟨d1,d2,d3⟩:=hres
    refine⟨?_, ?_,d1⟩
    ·rw [<-wj.op]
     refine(dN (s:=s) (s':=s.put (be ops oi.dst) oi.dst gi vi usi) (fun x hx k e=>tj k (cd (e▸hx))) (.inr (.inr (.inr ⟨rj,dj,fun x hx id hid=> ?_⟩)))).symm
     refine aY fun q hq e=> ?_
     rw [<-getj x hx,gnj] at hid
     obtain⟨p,hp,e2⟩:=d3 x hx id hid
     exact d1 q hq p hp (e.trans e2.symm)
    ·rw [<-wi.op]
     refine dN (fun x hx k e=>ti _ _ _ k (cd (e▸hx))) (.inr (.inr (.inr ⟨ri,di,fun x hx id hid=> ?_⟩)))
     refine aY fun q hq e=> ?_
     rw [gni] at hid
     obtain⟨p,hp,e2⟩:=d2 x hx id hid
     exact d1 p hp q hq (e2.trans e.symm)
   have tk:∀k,k∉bX ops.toList->(s.put (be ops oi.dst) oi.dst gi vi usi).t k=s.t k:=fun k dk=>by
    rw [pli];exact gX (b:=false) fun e=>dk (gW e ops.toList (Array.mem_toList_iff.2 (Array.mem_of_getElem? hi)))
   have gnone:∀(o:Oper) (g:Option Gs) (s0:St),o.guard=none->aT ops o s0 some=some g->g=none:=by
    intro o g s0 h1 hg
    unfold aT at hg
    rw [h1] at hg
    simp only [Option.some.injEq] at hg
    exact hg.symm
   rcases hst0 with(hst | hld) | hld
   rotate_left
   ·
    obtain⟨ga,wa,ra,da⟩:=yx hld
    obtain⟨rb',hrb'⟩:∃r,dc ops oj=some r:=by rcases lr hld with⟨k,hk,_⟩ | hk <;> exact⟨_,hk⟩
    obtain⟨gb,wb,rb,db⟩:=ql (P:=P) (An:=An) hrb'
    have gni:=gnone oi gi s ga wi.guard
    have gnj:=gnone oj gj s gb gj'
    have hnew:dr oj usj=true:=by simpa [wb] using j5
    have hus:jh ops oi usi=true:=by simpa [wa] using i8
    have hap2:=um hld (Array.mem_of_getElem? hi) (Array.mem_of_getElem? hj) i10 j10 (fun k hk=>by rw [tk k hk])
    refine⟨?_, ?_, ?_⟩
    ·rw [<-wj.op]
     refine(dN (s:=s) (s':=s.put (be ops oi.dst) oi.dst gi vi usi) (fun x hx k e=>tj k (cd (e▸hx))) (.inr (.inr (.inr ⟨rb,db,fun x hx id hid=> ?_⟩)))).symm
     refine aY fun q hq e=> ?_
     rw [<-getj x hx,gnj] at hid
     exact hap2 x hx id hid q hq e
    ·refine nU (s:=s) (s':=s.put false oj.dst gj vj usj) (N:=fun i=>∃q∈usj,q.1=i) (fun x hx k e=>ti _ _ _ k (cd (e▸hx))) (fun i hi=> ?_) da (fun x hx id hid=> ?_) (fun k=> ?_) (fun p hp=> ?_) wi.op
     ·exact aY fun q hq e=>hi ⟨q,hq,e⟩
     ·rintro⟨q,hq,e⟩
      obtain⟨d,k,e1,e2⟩:=bQ hnew ⟨q,hq,e⟩
      subst e1
      obtain⟨ed,he,hb,ho⟩:=mo i4 hx hid hj e2
      exact notj ed he hb ho
     ·rintro⟨q,hq,e⟩
      obtain⟨d,k',e1,e2⟩:=bQ hnew ⟨q,hq,e⟩
      simp only [Id.s.injEq] at e1
      have h:=ltd oj j1 j9 d e2
      rw [<-e1.1] at h
      exact absurd h (Nat.not_lt.2 (Nat.le_trans (by decide) (Nat.le_add_right 2000000 _)))
     ·rintro⟨q,hq,e⟩
      obtain⟨d,k',e1,e2⟩:=bQ hnew ⟨q,hq,rfl⟩
      exact notmine oi usi j oj hj notj hus a2' p hp d k' e2 (by rw [<-e,e1])
    ·intro p hp q hq e
     obtain⟨d,k,e1,e2⟩:=bQ hnew ⟨q,hq,rfl⟩
     exact notmine oi usi j oj hj notj hus a2' p hp d k e2 (by rw [e,e1])
   ·
    obtain⟨ga,wa,ra,da⟩:=yx hld
    obtain⟨rb',hrb'⟩:∃r,dc ops oi=some r:=by rcases lr hld with⟨k,hk,_⟩ | hk <;> exact⟨_,hk⟩
    obtain⟨gb,wb,rb,db⟩:=ql (P:=P) (An:=An) hrb'
    have gni:=gnone oi gi s gb wi.guard
    have gnj:=gnone oj gj s ga gj'
    have hnew:dr oi usi=true:=by simpa [wb] using i5
    have hus:jh ops oj usj=true:=by simpa [wa] using j8
    have hap2:=um hld (Array.mem_of_getElem? hj) (Array.mem_of_getElem? hi) j10 i10 (fun k hk=>by rw [tk k hk])
    refine⟨?_, ?_, ?_⟩
    ·refine nU (s:=s.put (be ops oi.dst) oi.dst gi vi usi) (s':=s) (N:=fun i=>∃q∈usi,q.1=i) (fun x hx k e=>(tj k (cd (e▸hx))).symm) (fun i hi=> ?_) da (fun x hx id hid=> ?_) (fun k=> ?_) (fun p hp=> ?_) wj.op
     ·exact(aY fun q hq e=>hi ⟨q,hq,e⟩).symm
     ·rw [getj x hx] at hid
      rintro⟨q,hq,e⟩
      obtain⟨d,k,e1,e2⟩:=bQ hnew ⟨q,hq,e⟩
      subst e1
      obtain⟨ed,he,hb,ho⟩:=mo nj hx hid hi e2
      exact noti ed he hb ho
     ·rintro⟨q,hq,e⟩
      obtain⟨d,k',e1,e2⟩:=bQ hnew ⟨q,hq,e⟩
      simp only [Id.s.injEq] at e1
      have h:=ltd oi i1 i9 d e2
      rw [<-e1.1] at h
      exact absurd h (Nat.not_lt.2 (Nat.le_trans (by decide) (Nat.le_add_right 2000000 _)))
     ·rintro⟨q,hq,e⟩
      obtain⟨d,k',e1,e2⟩:=bQ hnew ⟨q,hq,rfl⟩
      exact notmine oj usj i oi hi noti hus a2 p hp d k' e2 (by rw [<-e,e1])
    ·rw [<-wi.op]
     refine dN (fun x hx k e=>ti _ _ _ k (cd (e▸hx))) (.inr (.inr (.inr ⟨rb,db,fun x hx id hid=> ?_⟩)))
     refine aY fun q hq e=> ?_
     rw [gni] at hid
     exact hap2 x hx id hid q hq e
    ·intro p hp q hq e
     obtain⟨d,k,e1,e2⟩:=bQ hnew ⟨p,hp,rfl⟩
     exact notmine oj usj i oi hi noti hus a2 q hq d k e2 (by rw [<-e,e1])
   obtain⟨k,k',sk,sk',nek,dk,dk'⟩:=rR hst
   obtain⟨gni,ri,di⟩:=guardA oi gi s k sk wi.guard
   obtain⟨gnj,rj,dj⟩:=guardA oj gj s k' sk' gj'
   have hst':st2 An ops oj oi=true:=DL hst
   obtain⟨p1,p2,p3⟩:=ul i10 (Array.mem_of_getElem? hj) hst sk sk'
   obtain⟨q1,q2,q3⟩:=ul j10 (Array.mem_of_getElem? hi) hst' sk' sk
   replace tk:=tk k dk
   have tk':(s.put (be ops oi.dst) oi.dst gi vi usi).t k'=s.t k':=by
    rw [pli];exact gX (b:=false) fun e=>dk' (gW e ops.toList (Array.mem_toList_iff.2 (Array.mem_of_getElem? hi)))
   rw [tk] at q3
   rw [tk'] at q2
   refine⟨?_, ?_,fun p hp q hq e=>q3 q hq (e▸p2 p hp)⟩
   ·rw [<-wj.op]
    refine(dN (s:=s) (s':=s.put (be ops oi.dst) oi.dst gi vi usi) (fun x hx k e=>tj k (cd (e▸hx))) (.inr (.inr (.inr ⟨rj,dj,fun x hx id hid=> ?_⟩)))).symm
    refine aY fun q hq e=> ?_
    rw [<-getj x hx,gnj] at hid
    have:=q1 x hx id hid
    rw [tk'] at this
    exact p3 q hq (e▸this)
   ·rw [<-wi.op]
    refine dN (fun x hx k e=>ti _ _ _ k (cd (e▸hx))) (.inr (.inr (.inr ⟨ri,di,fun x hx id hid=> ?_⟩)))
    refine aY fun q hq e=> ?_
    rw [gni] at hid
    exact q3 q hq (e▸p1 x hx id hid)
 obtain⟨opj,opi,disj⟩:=three
 have sj10:cQ P An ops oj s usj=true:=by
  refine qz (fun k hk=> ?_) (fun k hk x hx=> ?_) (fun hg x hx=> ?_) j10
  ·rw [pli];exact(gX (b:=false) fun e=>hk (gW e ops.toList (Array.mem_toList_iff.2 (Array.mem_of_getElem? hi)))).symm
  ·have:=guardB oj gj s k hk gj'
   have h:=getj x hx
   rw [this] at h
   exact h.symm
  ·have hgn:gj=none:=by
    have h:=gj'
    unfold aT at h
    rw [hg] at h
    simp only [Option.some.injEq] at h
    exact h.symm
   have h:=getj x hx
   rw [hgn] at h
   exact h.symm
 have frj:cC (oj.dst.getD 0) s.h usj=true:=by
  unfold cC at j3⊢
  refine List.all_eq_true.2 fun p hp=> ?_
  have:=List.all_eq_true.1 j3 p hp
  split at this
  ·simp only [Bool.or_eq_true,Option.isNone_iff_eq_none] at this⊢
   rcases this with h | h
   ·exact .inl h
   ·exact .inr (oR h).2
  ·rfl
  ·cases this
 have wj0:Went P An Or nt ops oj s gj vj usj:=⟨gj',opj,by
  simp only [gw,Bool.not_true,Bool.false_or,Bool.and_eq_true]
  exact⟨⟨⟨j1,j2⟩,frj⟩,⟨⟨⟨⟨⟨nj,j5⟩,j6⟩,j7⟩,j8⟩,j9⟩,sj10⟩⟩
 have plj:=o7 (g:=gj) (v:=vj) (us:=usj) hu hj hlj hG (be ops oj.dst)
 refine⟨_,wj0.oneD, ?_⟩
 rw [plj]
 have gi':aT ops oi (s.put false oj.dst gj vj usj) some=some gi:=by
  rw [<-wi.guard]
  exact xW fun x b d h1 h2=>ti _ _ _ d (yC h1 h2)
 have geti:∀x∈oi.op.operands,(s.put false oj.dst gj vj usj).get gi x=s.get gi x:=fun x hx=>jd fun k e=>ti _ _ _ k (cd (e▸hx))
 have ni:gx ops gi oi (s.put false oj.dst gj vj usj)=true:=by
  rw [<-i4]
  exact wn geti
 have fri:cC (oi.dst.getD 0) (s.put false oj.dst gj vj usj).h usi=true:=by
  unfold cC at i3⊢
  refine List.all_eq_true.2 fun p hp=> ?_
  have:=List.all_eq_true.1 i3 p hp
  split at this
  ·rename_i d k ep
   simp only [Bool.or_eq_true,Option.isNone_iff_eq_none] at this⊢
   rcases this with h | h
   ·exact .inl h
   ·right
    show ae s.h usj p.1=none
    rw [aY fun q hq e=>disj p hp q hq e.symm];exact h
  ·rfl
  ·cases this
 have si10:cQ P An ops oi (s.put false oj.dst gj vj usj) usi=true:=by
  refine qz (fun k hk=> ?_) (fun k hk x hx=> ?_) (fun hg x hx=> ?_) i10
  ·exact gX (b:=false) fun e=>hk (gW e ops.toList (Array.mem_toList_iff.2 (Array.mem_of_getElem? hj)))
  ·have:=guardB oi gi s k hk wi.guard
   have h:=geti x hx
   rw [this] at h
   exact h
  ·have hgn:gi=none:=by
    have h:=wi.guard
    unfold aT at h
    rw [hg] at h
    simp only [Option.some.injEq] at h
    exact h.symm
   have h:=geti x hx
   rw [hgn] at h
   exact h
 have wi0:Went P An Or nt ops oi (s.put false oj.dst gj vj usj) gi vi usi:=⟨gi',opi,by
  simp only [gw,Bool.not_true,Bool.false_or,Bool.and_eq_true]
  exact⟨⟨⟨i1,i2⟩,fri⟩,⟨⟨⟨⟨⟨ni,i5⟩,i6⟩,i7⟩,i8⟩,i9⟩,si10⟩⟩
 rw [wi0.oneD,pli]
 have dij:∀d,oi.dst=some d->oj.dst≠some d:=a2
 have nog:∀(g:Option Gs) (o:Oper) (m:Nat) (om:Oper),ops[m]? =some om->listed.getD m true=false->aT ops o s some=some g->o∈ops->(∀e∈o.after,Region.binds .any e=true->listed.getD e.on false=true)->∀gs,g=some gs->om.dst≠some gs.d:=by
  intro g o m om hom hlm hgo hmem hall gs hgs hd
  unfold aT at hgo
  cases hog:o.guard with
  | none=>rw [hog] at hgo;simp only [Option.some.injEq] at hgo;rw [hgs] at hgo;cases hgo
  | some p=>
   obtain⟨jj,b⟩:=p
   rw [hog] at hgo
   simp only at hgo
   cases hdd:(ops[jj]?).bind (·.dst) with
   | none=>rw [hdd] at hgo;simp at hgo
   | some d=>
    rw [hdd] at hgo
    simp only at hgo
    replace hgo:=Option.bind_eq_some_iff.1 hgo;obtain⟨x,_,hgo⟩:=hgo
    obtain⟨bb,hgo,_⟩:=ik hgo
    simp only [Option.some.injEq] at hgo
    rw [hgs] at hgo
    simp only [Option.some.injEq] at hgo
    have hgd:gs.d=d:=by rw [<-hgo]
    rw [hgd] at hd
    obtain⟨ojj,h1,h2⟩:=Option.bind_eq_some_iff.1 hdd
    have:=hu hom h1 hd h2
    subst this
    have hge:=Array.all_eq_true_iff_forall_mem.1 hgk o hmem
    rw [hog] at hge
    simp only at hge
    obtain⟨e,he,hb⟩:=Array.any_eq_true'.1 hge
    simp only [Bool.and_eq_true,beq_iff_eq] at hb
    exact jV hlm (hb.2▸hall e he hb.1)
 have nogi:=nog gi oi j oj hj hlj wi.guard (Array.mem_of_getElem? hi) hai
 have nogj:=nog gj oj i oi hi hli gj' (Array.mem_of_getElem? hj) haj
 have nos:∀(m:Nat) (om:Oper),ops[m]? =some om->listed.getD m true=false->∀k g v,s.t k= (some g,v)->om.dst≠some g.d:=by
  intro m om hom hlm k g v hst hd
  obtain⟨x,ox,h1,h2,h3⟩:=hG k g v hst
  have:=hu hom h1 hd h3
  subst this
  exact jV hlm h2
 have tcomm:∀(bi bj:Bool),((s.put false oj.dst gj vj usj).put bi oi.dst gi vi usi).t= ((s.put false oi.dst gi vi usi).put bj oj.dst gj vj usj).t:=by
  intro bi bj
  funext k
  cases hdi:oi.dst with
  | none=>
   cases hdj:oj.dst with
   | none=>rfl
   | some dj=>
    simp only [St.put]
    by_cases ek:k=dj
    ·simp [ek]
    ·simp only [if_neg ek,cond_false]
     cases bj with
     | false=>rfl
     | true=>
      simp only [cond_true]
      cases hst:s.t k with
      | mk gk vk=>
       cases gk with
       | none=>rfl
       | some gk=>
        have:=nos j oj hj hlj k gk vk hst
        rw [hdj] at this
        have hb:(gk.d==dj)=false:=by simp only [beq_eq_false_iff_ne,ne_eq];exact fun e=>this (by rw [e])
        simp [eN,hb]
  | some di=>
   cases hdj:oj.dst with
   | none=>
    simp only [St.put]
    by_cases ek:k=di
    ·simp [ek]
    ·simp only [if_neg ek,cond_false]
     cases bi with
     | false=>rfl
     | true=>
      simp only [cond_true]
      cases hst:s.t k with
      | mk gk vk=>
       cases gk with
       | none=>rfl
       | some gk=>
        have:=nos i oi hi hli k gk vk hst
        rw [hdi] at this
        have hb:(gk.d==di)=false:=by simp only [beq_eq_false_iff_ne,ne_eq];exact fun e=>this (by rw [e])
        simp [eN,hb]
   | some dj=>
    have hne':di≠dj:=fun e=>dij di hdi (by rw [hdj,e])
    simp only [St.put]
    have drop1:∀(b:Bool) (g:Option Gs) (v:AV) (d:Nat),(∀gs,g=some gs->gs.d≠d)->cond b (eN d (g,v)) (g,v)= (g,v):=by
     intro b g v d hg
     cases b with
     | false=>rfl
     | true=>
      cases g with
      | none=>rfl
      | some gs=>
       have hb:(gs.d==d)=false:=by simpa using hg gs rfl
       simp [eN,hb]
    by_cases eki:k=di
    ·subst eki
     simp only [if_true,if_neg hne',cond_false]
     rw [drop1 bj gi vi dj fun gs e h=>nogi gs e (by rw [hdj,h])]
    ·by_cases ekj:k=dj
     ·subst ekj
      simp only [if_true,if_neg eki,cond_false]
      rw [drop1 bi gj vj di fun gs e h=>nogj gs e (by rw [hdi,h])]
     ·simp only [if_neg eki,if_neg ekj,cond_false]
      cases hst:s.t k with
      | mk gk vk=>
       rw [drop1 bi gk vk di fun gs e h=>by subst e;exact nos i oi hi hli k gs vk hst (by rw [hdi,h]),drop1 bj gk vk dj fun gs e h=>by subst e;exact nos j oj hj hlj k gs vk hst (by rw [hdj,h])]
 have:∀(bi bj:Bool),(s.put false oj.dst gj vj usj).put bi oi.dst gi vi usi= (s.put false oi.dst gi vi usi).put bj oj.dst gj vj usj:=by
  intro bi bj
  have ht:=tcomm bi bj
  have hh:((s.put false oj.dst gj vj usj).put bi oi.dst gi vi usi).h= ((s.put false oi.dst gi vi usi).put bj oj.dst gj vj usj).h:=by
   show ae (ae s.h usj) usi=ae (ae s.h usi) usj
   exact(zJ disj).symm
  generalize (s.put false oj.dst gj vj usj).put bi oi.dst gi vi usi=X at *
  generalize (s.put false oi.dst gi vi usi).put bj oj.dst gj vj usj=Y at *
  cases X;cases Y
  simp only at ht hh
  rw [ht,hh]
 rw [this]
theorem Br{o:Oper}{gs:Gs}{listed:Array Bool}(hgk:iM ops=true)(hgo:aT ops o s some=some (some gs))(hmem:o∈ops)(hall:∀e∈o.after,Region.binds .any e=true->listed.getD e.on false=true):
  ∃i oi,ops[i]? =some oi/\listed.getD i false=true/\oi.dst=some gs.d:=by
 unfold aT at hgo
 cases hog:o.guard with
 | none=>rw [hog] at hgo;simp at hgo
 | some p=>
  obtain⟨jj,b⟩:=p
  rw [hog] at hgo
  simp only at hgo
  cases hdd:(ops[jj]?).bind (·.dst) with
  | none=>rw [hdd] at hgo;simp at hgo
  | some d=>
   rw [hdd] at hgo
   simp only at hgo
   replace hgo:=Option.bind_eq_some_iff.1 hgo;obtain⟨x,_,hgo⟩:=hgo
   obtain⟨bb,hgo,_⟩:=ik hgo
   simp only [Option.some.injEq] at hgo
   have hgd:gs.d=d:=by rw [<-hgo]
   obtain⟨ojj,h1,h2⟩:=Option.bind_eq_some_iff.1 hdd
   have hge:=Array.all_eq_true_iff_forall_mem.1 hgk o hmem
   rw [hog] at hge
   simp only at hge
   obtain⟨e,he,hb⟩:=Array.any_eq_true'.1 hge
   simp only [Bool.and_eq_true,beq_iff_eq] at hb
   exact⟨jj,ojj,h1,hb.2▸hall e he hb.1,by rw [hgd];exact h2⟩
theorem tS{listed:Array Bool}{i:Nat}{oi:Oper}(hu:jE ops)(hgk:iM ops=true)(hi:ops[i]? =some oi)(hri:i∈Region.ready .any ops listed)(hG:jB ops listed s)(e:oneD P An Or true nt ops oi s=some s1):
  jB ops (listed.setIfInBounds i true) s1:=by
 obtain⟨g,v,us,wt,rfl⟩:=ph e
 obtain⟨hli,oi',hi',hai⟩:=mem_ready.1 hri
 rw [hi] at hi';simp only [Option.some.injEq] at hi';subst hi'
 rw [o7 hu hi hli hG]
 have old:∀k g v,s.t k= (some g,v)->∃i' o,ops[i']? =some o/\(listed.setIfInBounds i true).getD i' false=true/\o.dst=some g.d:=by
  intro k g v hst
  obtain⟨x,ox,h1,h2,h3⟩:=hG k g v hst
  exact⟨x,ox,h1,getD_set_true h2,h3⟩
 intro k g' v' hk
 unfold St.put at hk
 cases hd:oi.dst with
 | none=>rw [hd] at hk;exact old k g' v' hk
 | some d=>
  rw [hd] at hk
  dsimp only at hk
  split at hk
  ·simp only [Prod.mk.injEq] at hk
   obtain⟨x,ox,h1,h2,h3⟩:=Br hgk (by rw [<-hk.1];exact wt.guard) (Array.mem_of_getElem? hi) hai
   exact⟨x,ox,h1,getD_set_true h2,h3⟩
  ·exact old k g' v' hk
def lN(P:Program)(An:Ann)(Or:Orc)(nt:Nat)(ops:Array Oper)(Q:St->Prop):Nat->Array Bool->St->Prop
 | 0,listed,s=>Region.ready .any ops listed= []/\Q s
 | n+1,listed,s=>(Region.ready .any ops listed= []->Q s)/\∀i∈Region.ready .any ops listed,∃o s1,ops[i]? =some o/\oneD P An Or true nt ops o s=some s1/\lN P An Or nt ops Q n (listed.setIfInBounds i true) s1
theorem Bz{n j i:Nat}{oj:Oper}(hj:ops[j]? =some oj)(h:bnd ops (n+1) j i=false):∀e∈oj.after,Region.binds .any e=true->e.on≠i:=by
 intro e he hb heq
 simp only [bnd,hj] at h
 rw [Array.any_eq_false'] at h
 exact h e he (by simp [hb,heq])
theorem yp{listed:Array Bool}{j:Nat}(hcl:jw ops listed)(hj:j∈Region.ready .any ops listed):jw ops (listed.setIfInBounds j true):=by
 intro k ok hk hl e he hb
 obtain⟨hun,oj,hoj,hall⟩:=mem_ready.1 hj
 refine getD_set_true ?_
 by_cases hjk:j=k
 ·subst hjk
  rw [hk] at hoj;simp only [Option.some.injEq] at hoj;subst hoj
  exact hall e he hb
 ·have hl':listed.getD k false=true:=by
   rw [Array.getD_eq_getD_getElem?,Array.getElem?_setIfInBounds_ne hjk] at hl
   rw [Array.getD_eq_getD_getElem?];exact hl
  exact hcl k ok hk hl' e he hb
theorem Ax{Q:St->Prop}{i:Nat}{oi:Oper}(hu:jE ops)(hgk:iM ops=true)(hi:ops[i]? =some oi):∀(cP:Nat) (listed:Array Bool) (s s1:St),
  (∀j oj,ops[j]? =some oj->j≠i->listed.getD j true=false->bnd ops 12 j i=false->oi.apart ops oj=true/\(iO P An oi oj=true\/st3 P An ops oi oj=true))->jw ops listed->
  i∈Region.ready .any ops listed->jB ops listed s->oneD P An Or true nt ops oi s=some s1->lN P An Or nt ops Q cP (listed.setIfInBounds i true) s1->lN P An Or nt ops Q (cP+1) listed s:=by
 intro cP
 induction cP with
 | zero=>
  intro listed s s1 _ _ hr hG e H
  refine⟨fun h=>(by rw [h] at hr;cases hr),fun j hj=> ?_⟩
  by_cases hji:j=i
  ·subst hji;exact⟨oi,s1,hi,e,H⟩
  ·have:=ready_mono hj hji
   rw [H.1] at this
   cases this
 | succ cP ih=>
  intro listed s s1 hfree hcl hr hG e H
  refine⟨fun h=>(by rw [h] at hr;cases hr),fun j hj=> ?_⟩
  by_cases hji:j=i
  ·subst hji;exact⟨oi,s1,hi,e,H⟩
  ·obtain⟨oj,s2,hoj,e2,H2⟩:=H.2 j (ready_mono hj hji)
   obtain⟨hjun,oj',hoj',hall⟩:=mem_ready.1 hj
   rw [hoj] at hoj';simp only [Option.some.injEq] at hoj';subst hoj'
   have hnot:bnd ops 12 j i=false:=qN hcl (mem_ready.1 hr).1 hoj hall
   obtain⟨hap,hcm⟩:=hfree j oj hoj hji hjun hnot
   obtain⟨sj,g1,g2⟩:=yQ hu hgk hi hoj hji hr hj hcl hap hcm hG e e2
   refine⟨oj,sj,hoj,g1, ?_⟩
   have hfree':∀k ok,ops[k]? =some ok->k≠i->(listed.setIfInBounds j true).getD k true=false->
     bnd ops 12 k i=false->oi.apart ops ok=true/\(iO P An oi ok=true\/st3 P An ops oi ok=true):=fun k ok hk hki hun hno=>by
    refine hfree k ok hk hki ?_ hno
    by_cases hjk:j=k
    ·subst hjk;exact hjun
    ·rw [getD_set_ne true hjk] at hun;exact hun
   refine ih (listed.setIfInBounds j true) sj s2 hfree' (yp hcl hj) (ready_mono hr (Ne.symm hji)) (tS hu hgk hoj hj hG g1) g2 ?_
   rw [Array.setIfInBounds_comm _ _ hji]
   exact H2
theorem yU{i:Nat}{oi:Oper}{listed:Array Bool}(hi:ops[i]? =some oi)(h:qT P An ops listed i=true)(j:Nat)(oj:Oper)(hj:ops[j]? =some oj)(hne:j≠i)(hun:listed.getD j true=false)
  (hno:bnd ops 12 j i=false):iO P An oi oj=true\/st3 P An ops oi oj=true:=by
 simp only [qT,hi,List.all_eq_true,List.mem_range] at h
 have h1:=h j (Array.getElem?_eq_some_iff.1 hj).1
 simp only [hj,Bool.or_eq_true,beq_iff_eq,hne,false_or,hun,Bool.false_eq_true,hno,or_false] at h1
 exact h1
theorem r9{Q:St->Prop}(hu:jE ops)(hgk:iM ops=true):∀(l:List Oper) (k:Nat) (listed:Array Bool) (s:St),(∀j,l[j]? =ops[k+j]?)->Region.lexFrom .any ops l.length k listed=true->nN P An ops l.length k listed=true->jw ops listed->jB ops listed s->
  ropsD P An Or true nt ops l s=some s'->Q s'->lN P An Or nt ops Q l.length listed s
 | [],k,listed,s,_,hB,_,_,_,h,hQ=>by
  simp only [ropsD,Option.some.injEq] at h;subst h
  exact⟨by simpa [Region.lexFrom] using hB,hQ⟩
 | o::l,k,listed,s,hl,hB,hC,hcl,hG,h,hQ=>by
  simp only [ropsD] at h
  obtain⟨s1,h1,h⟩:=Option.bind_eq_some_iff.1 h
  have h0:ops[k]? =some o:=by simpa using (hl 0).symm
  simp only [List.length_cons,Region.lexFrom,Bool.and_eq_true] at hB
  obtain⟨⟨hr,hf⟩,hB'⟩:=hB
  simp only [List.length_cons,nN,Bool.and_eq_true] at hC
  have hr':k∈Region.ready .any ops listed:=by simpa using hr
  exact Ax hu hgk h0 l.length listed s s1 (fun j oj hj hne hun hno=>⟨Region.free_spec h0 hf j oj hj hne hun (Bz hj hno),yU h0 hC.1 j oj hj hne hun hno⟩) hcl hr' hG h1
   (r9 hu hgk l (k+1) _ s1 (fun j=>by have:=hl (j+1);simpa [Nat.add_assoc,Nat.add_comm 1 j] using this) hB' hC.2 (yp hcl hr') (tS hu hgk h0 hr' hG h1) h hQ)
theorem xu(hO:cH P An Or){Q:Exit->Act->World->Prop}{s':St}:∀{cP:Nat} {listed:Array Bool} {w:World} {s:St} {ρ:Id->Option Value} {O:Id->Option Nat} {a:Act},
  Sim c nt w s ρ O a->gJ ops s->lN P An Or nt ops (·=s') cP listed s->(∀a' w' ρ' O',Le w ρ O w' ρ' O'->Sim c nt w' s' ρ' O' a'->Q .normal a' w')->wpAny P .any ops Q cP listed a w
 | 0,listed,w,s,ρ,O,a,sim,hin,h,hQ=>⟨h.1,hQ a w ρ O Le.refl (h.2▸sim)⟩
 | cP+1,listed,w,s,ρ,O,a,sim,hin,h,hQ=>by
  refine⟨fun hr=>hQ a w ρ O Le.refl (h.1 hr▸sim),fun i hi=> ?_⟩
  obtain⟨o,s1,ho,e,H⟩:=h.2 i hi
  obtain⟨hin1,step⟩:=x8 hO sim hin (Array.mem_of_getElem? ho) e
  unfold wpOp
  rw [ho]
  exact step _ Q fun a' w' ρ' O' le sim'=>xu hO sim' hin1 H fun a'' w'' ρ'' O'' le' sim''=>hQ a'' w'' ρ'' O'' (le.trans le') sim''
theorem B9{R:Type}{id:Nat}{draw:Bool}{a:Act}{K:St->Option R}{r:R}(hm:P.follows .mixedOrders=true)(hO:cH P An Or)(sim:Sim c nt w s ρ O a)(hb:Bare s)(e:region P An Or nt draw ops s K=some r):
  ∃s':St,K s'.clear=some r/\∀Q:Exit->Act->World->Prop,(∀a' w' ρ' O',Le w ρ O w' ρ' O'->Sim c nt w' s'.clear ρ' O' a'->Q .normal a' w')->(Code.region id ops draw).wp P Q a w:=by
 unfold region at e
 cases hok:pK P An draw ops with
 | false=>simp [hok] at e
 | true=>
  rw [hok,cond_true,rC] at e
  replace e:=Option.bind_eq_some_iff.1 e;obtain⟨s',e,hk⟩:=e
  refine⟨s',hk,fun Q hQ=> ?_⟩
  cases draw with
  | false=>exact Dv hO sim hb e hQ
  | true=>
   simp only [pK,Bool.not_true,Bool.false_or,Bool.and_eq_true] at hok
   obtain⟨⟨⟨hB,hC⟩,hD⟩,hgk⟩:=hok
   simp only [Region.lexB,Bool.and_eq_true] at hB
   have hu:jE ops:=fun{i j x y d} hi hj hx hy=>r8 hD (by simpa using hi) (by simpa using hj) hx hy
   have lew:Le w ρ O w.drew ρ O:=⟨rfl,rfl,rfl,Nat.le_refl _,fun _ _ h=>h,fun _ _ _=>rfl,fun i b h=> .inl ⟨i,h⟩⟩
   have simw:Sim c nt w.drew s ρ O a:=⟨sim.hs.world lew fun _ _ _=>rfl,SS.mono (fun b hb=>lew.A b hb) lew.rho sim.ss,sim.nt,sim.defers⟩
   refine wp_region_any hm ?_
   have:=r9 (P:=P) (An:=An) (Or:=Or) (nt:=nt) (Q:=(·=s')) hu hgk ops.toList 0 (Array.replicate ops.size false) s (by simp) (by simpa using hB.2) (by simpa using hC) (fun k ok hk hl=>by simp [Array.getD_eq_getD_getElem?,Array.getElem?_replicate] at hl;split at hl <;> simp at hl) (fun k g v h=>(hb k g v h).elim) e rfl
   simp only [Array.length_toList] at this
   exact xu hO simw (hb.inReg ops) this fun a' w' ρ' O' le sim'=>hQ a' w' ρ' O' (lew.trans le) sim'.clear
end
open Go
section
variable {P:Program} {An:Ann} {Or:Orc} {w w':World} {A A':Nat->Prop} {c:Ctx} {ρ:Id->Option Value} {O:Id->Option Nat} {s s':St} {h:Id->Option Blk}
def Ends(P:Program)(f:FuncId)(fn:Func)(todo:List Item)(a:Act)(w:World)(R:Value->World->Prop):Prop:=
 ∀(b:Frame),b.fn=f->b.kind= .normal->∀cs,∃a' w' v todo',Steps P (lone (b.at a todo) cs w) (lone {b.at a' todo' with mode:= .returning} cs w')/\
  a'.defers= []/\(results fn a'.tmps).run P w'= .ok v w'/\R v w'
theorem Ends.mono{f:FuncId}{fn:Func}{todo:List Item}{a:Act}{R R':Value->World->Prop}(h:Ends P f fn todo a w R)(hr:∀v w',R v w'->R' v w'):Ends P f fn todo a w R':=
 fun b hb hk cs=>let⟨a',w',v,t,h1,h2,h3,h4⟩:=h b hb hk cs;⟨a',w',v,t,h1,h2,h3,hr _ _ h4⟩
theorem Ends.step{f:FuncId}{fn:Func}{todo todo':List Item}{a:Act}{R:Value->World->Prop}(hst:∀(b:Frame) cs,step P (lone (b.at a todo) cs w)= .next (lone (b.at a todo') cs w))(h:Ends P f fn todo' a w R):Ends P f fn todo a w R:=
 fun b hb hk cs=>let⟨a',w',v,t,h1,h2⟩:=h b hb hk cs;⟨a',w',v,t, .head (hst b cs) h1,h2⟩
theorem Ends.region{f:FuncId}{fn:Func}{id:Nat}{ops:Array Oper}{draw:Bool}{k:List Item}{a:Act}{R:Value->World->Prop}
  (h:(Code.region id ops draw).wp P (fun e a' w'=>e= .normal/\Ends P f fn k a' w' R) a w):Ends P f fn (.code (.region id ops draw)::k) a w R:=by
 intro b hb hk cs
 obtain⟨e,a₁,w₁,⟨rfl,hq⟩,harr⟩:=h b k cs
 obtain⟨a',w',v,t,h1,h2⟩:=hq b hb hk cs
 exact⟨a',w',v,t,Steps.trans harr h1,h2⟩
theorem CQ{f:FuncId}{fn:Func}{body:Code}{args:Array Value}{R:Value->World->Prop}(hf:P.funcs[f]? =some fn)(hb:fn.body=some body)
  (h:Ends P f fn [.code body] {tmps:=args++Array.replicate (fn.ntmps - args.size) undef,defers:= []} w R):Calls P f args w fun e w'=>∃v,e= .returned v/\R v w':=by
 intro cs
 let b:Frame:={(default:Frame) with fn:=f,kind:= .normal}
 have henter:Frame.enter P f args .normal=b.at {tmps:=args++Array.replicate (fn.ntmps - args.size) undef,defers:= []} [.code body]:=by
  simp [Frame.enter,Frame.at,hf,hb,b]
 obtain⟨a',w',v,todo',hs,hd,hr,hR⟩:=h b rfl rfl cs
 rw [<-henter] at hs
 exact⟨.returned v,w',_,⟨v,rfl,hR⟩,hs,rfl,rfl,hd,rfl,fn,hf,hr⟩
structure Fin (P:Program) (c:Ctx) (B:Nat->Option Value) (sh:List RSh) (outs:List BSh) (xs:List T) (Own:Nat->Prop) (w:World) (v:Value) (w':World):Prop where
 os:w'.os=w.os
 output:w'.output=w.output
 tape:w'.tape=w.tape
 size:w.heap.size<=w'.heap.size
 blk:∀b,b < w.heap.size->¬Own b->w'.heap[b]? =w.heap[b]?
 res:∃rs x1 x2 o1 o2,v=gm rs/\xs=x1++x2/\(o1++o2).Nodup/\(∀b∈o1++o2,c.MO b/\b < w'.heap.size)/\RelRs B w' (fun b=>(c.A0 b\/c.MO b)/\b < w'.heap.size/\b∉o1++o2) sh x1 rs o1/\
  fX B w' (fun b=>(c.A0 b\/c.MO b)/\b < w'.heap.size/\b∉o1++o2) 0 outs x2 o2
theorem Fin.le{B:Nat->Option Value}{sh:List RSh}{os:List BSh}{xs:List T}{v:Value}{w'':World}{ρ':Id->Option Value}{O':Id->Option Nat}(le:Le w ρ O w' ρ' O')(h:Fin P c B sh os xs (bK O') w' v w''):Fin P c B sh os xs (bK O) w v w'' where
 os:=h.os.trans le.os
 output:=h.output.trans le.output
 tape:=h.tape.trans le.tape
 size:=Nat.le_trans le.size h.size
 blk b hb hn:=by
  rw [h.blk b (Nat.lt_of_lt_of_le hb le.size) (fun⟨i,hi⟩=> ?_),le.blk b hb (fun i hi=>hn ⟨i,hi⟩)]
  rcases le.own i b hi with⟨j,hj⟩ | hj
  ·exact hn ⟨j,hj⟩
  ·omega
 res:=h.res
theorem Fin.own{B:Nat->Option Value}{sh:List RSh}{os:List BSh}{xs:List T}{v:Value}{w'':World}{O':Id->Option Nat}(he:∀b,bK O' b->bK O b)(h:Fin P c B sh os xs (bK O') w v w''):Fin P c B sh os xs (bK O) w v w'':=
 {h with blk:=fun b hb hn=>h.blk b hb fun ho=>hn (he b ho)}
theorem s9:∀{l:List Id},oX l=true->l.Nodup
 | [],_=>List.nodup_nil
 | i::r,h=>by
  simp only [oX,Bool.and_eq_true,Bool.not_eq_true'] at h
  refine List.nodup_cons.2 ⟨fun hm=> ?_,s9 h.2⟩
  have:r.contains i=true:=by simpa using hm
  rw [this] at h;cases h.1
def dY(O:Id->Option Nat)(l:List Id):List Nat:=l.filterMap O
theorem sM(hs:HS c w h ρ O):∀{l:List Id},l.Nodup->(dY O l).Nodup
 | [],_=>List.nodup_nil
 | i::l,hn=>by
  obtain⟨h1,h2⟩:=List.nodup_cons.1 hn
  have ih:=sM hs h2
  unfold dY at *
  cases hi:O i with
  | none=>rw [List.filterMap_cons_none hi];exact ih
  | some b=>
   rw [List.filterMap_cons_some hi]
   refine List.nodup_cons.2 ⟨fun hm=> ?_,ih⟩
   obtain⟨j,hj,e⟩:=List.mem_filterMap.1 hm
   have:=hs.inj i j b hi e
   exact h1 (this▸hj)
theorem AD(a b:List Id):dY O (a++b)=dY O a++dY O b:=by simp [dY]
def Blks(O:Id->Option Nat)(l:List Id)(own:List Nat):Prop:=(∀i∈l,i.real=true)/\∃ids,own=dY O ids/\(l.Nodup->ids.Nodup)/\∀x∈ids,Of l x
theorem Blks.nil:Blks O [] []:=⟨by simp,[],rfl,fun h=>h,by simp⟩
theorem Blks.one{i:Id}(hr:i.real=true):Blks O [i] (O i).toList:=by
 refine⟨by simpa using hr,[i], ?_,fun h=>h,fun x hx=> .inl hx⟩
 cases h:O i <;> simp [dY,h]
theorem Blks.append{a b:List Id}{o1 o2:List Nat}(h1:Blks O a o1)(h2:Blks O b o2):Blks O (a++b) (o1++o2):=by
 obtain⟨r1,l1,rfl,n1,m1⟩:=h1
 obtain⟨r2,l2,rfl,n2,m2⟩:=h2
 refine⟨fun i hi=> ?_,l1++l2,(AD _ _).symm,fun hn=> ?_,fun x hx=> ?_⟩
 ·rcases List.mem_append.1 hi with hi | hi
  ·exact r1 i hi
  ·exact r2 i hi
 ·obtain⟨k1,k2,k3⟩:=List.nodup_append.1 hn
  refine List.nodup_append.2 ⟨n1 k1,n2 k2,fun x hx y hy e=> ?_⟩
  subst e
  rcases m1 x hx with g1 | ⟨j,n,g1,e1⟩ <;> rcases m2 x hy with g2 | ⟨j',n',g2,e2⟩
  ·exact k3 x g1 x g2 rfl
  ·have:=r1 x g1;rw [e2] at this;cases this
  ·have:=r2 x g2;rw [e1] at this;cases this
  ·rw [e1] at e2
   simp only [Id.g.injEq] at e2
   exact k3 j g1 j' g2 e2.1
 ·rcases List.mem_append.1 hx with hx | hx
  ·rcases m1 x hx with g | ⟨j,n,g,e⟩
   ·exact .inl (List.mem_append_left _ g)
   ·exact .inr ⟨j,n,List.mem_append_left _ g,e⟩
  ·rcases m2 x hx with g | ⟨j,n,g,e⟩
   ·exact .inl (List.mem_append_right _ g)
   ·exact .inr ⟨j,n,List.mem_append_right _ g,e⟩
theorem Blks.mem{l:List Id}{own:List Nat}(h:Blks O l own){b:Nat}(hb:b∈own):∃i,Of l i/\O i=some b:=by
 obtain⟨_,ids,rfl,_,m⟩:=h
 obtain⟨i,hi,e⟩:=List.mem_filterMap.1 hb
 exact⟨i,m i hi,e⟩
def eK:Nat->List Row->List Row
 | _,[]=> []
 | n,e::r=>{e with n:=n}::eK (n+1) r
theorem ku:∀(es:List Row) (n:Nat),(eK n es).length=es.length
 | [],_=>rfl
 | e::r,n=>by simp [eK,ku r]
theorem mW:∀(es:List Row) (n:Nat),(eK n es).map (·.n)=List.range' n es.length
 | [],_=>rfl
 | e::r,n=>by simp [eK,mW r,List.range'_succ]
theorem vQ:∀{es:List Row} {n:Nat},eE es=true->mj n (es.map fun e=> [.ptr e.cs,qr e])=some (eK n es)
 | [],_,_=>rfl
 | e::r,n,h=>by
  simp only [eE,List.all_cons,Bool.and_eq_true] at h
  have ih:=vQ (es:=r) (n:=n+1) h.2
  obtain⟨en,ecs,eo⟩:=e
  cases eo with
  | none=>simp at h
  | some p=>
   show((mj (n+1) (r.map fun e=> [.ptr e.cs,qr e])).bind fun l=>some (⟨n,ecs,some (p.1,p.2)⟩::l))=_
   rw [ih];rfl
theorem tK{A A':Nat->Prop}{ρ0:Id->Option Value}{O0:Id->Option Nat}{i:Id}{blk sz col rsz:Nat}(hA:∀b,A b->A' b):∀{es:List Row} {k base:Nat},(∀j e,es[j]? =some e->ρ0 (.g i (k+j))=ρ (.g i e.n)/\O0 (.g i (k+j))=O (.g i e.n))->
  RowsAt w A ρ O i blk sz col rsz base es->RowsAt w A' ρ0 O0 i blk sz col rsz base (eK k es)
 | [],_,_,_,_=>trivial
 | e::r,k,base,hg,h=>by
  obtain⟨h0,h1⟩:=h
  obtain⟨g1,g2⟩:=hg 0 e rfl
  refine⟨?_,tK hA (k:=k+1) (fun j f hj=>by
   have:=hg (j+1) f (by simpa using hj)
   rw [show k+1+j=k+ (j+1) by omega];exact this) h1⟩
  have h0:=h0.move (A':=A') (w':=w) (ρ':=ρ) (O':=O) (fun _ _=>rfl) (fun b hb=>⟨hA b hb,rfl⟩) rfl rfl (fun _ _=>rfl)
  obtain⟨a1,a2,a3,u,a4,a5,a7⟩:=h0
  refine⟨a1,a2,a3,u,a4,by rw [<-a5];exact g1, ?_⟩
  revert a7
  show(match e.own with | some p=>SlAt w A' rsz p.1 p.2 u (fun b=>O (.g i e.n)=some b) | none=>O (.g i e.n)=none)->(match e.own with | some p=>SlAt w A' rsz p.1 p.2 u (fun b=>O0 (.g i k)=some b) | none=>O0 (.g i k)=none)
  rw [show O0 (.g i k)=O (.g i e.n) from g2]
  exact id
def jR(w:World)(c:Ctx)(O:Id->Option Nat)(b:List Id)(Q:(Nat->Prop)->Prop):Prop:=
 ∀A:Nat->Prop,(∀k,AA c w O k->A k)->(∀i blk,i∈b->i.real=true->O i=some blk->A blk)->Q A
def Still(m:Nat)(B:Nat->Option Value)(ρ:Id->Option Value):Prop:= ∀j,j < m->∃v,B j=some v/\ρ (.c j)=some v
theorem tl{B:Nat->Option Value}{i:Id}{b:Bool}{sz col rsz nx:Nat}{es:List Row}{u:Value}{l:List Id}(hs:HS c w h ρ O)(hi:h i=some (.rows b sz col rsz nx es))(hv:ρ i=some u)(hao:eE es=true):
  Blks O [i] (dY O (i::es.map fun e=> .g i e.n))/\jR w c O l fun A=>RelR1 B w A (.rows sz col rsz) (pD b es) u (dY O (i::es.map fun e=> .g i e.n)):=by
 have hri:=hs.real (i:=i) (by rw [hi];simp)
 obtain⟨a,cap,r1,r2,r3,⟨n1,n2,n3,n4⟩,r5⟩:=hs.blk i _ hi
 have hnd:(i::es.map fun e=>Id.g i e.n).Nodup:=by
  refine List.nodup_cons.2 ⟨fun hm=> ?_, ?_⟩
  ·obtain⟨e,_,he⟩:=List.mem_map.1 hm
   rw [<-he] at hri;cases hri
  ·have:(es.map fun e=>Id.g i e.n)= (es.map (·.n)).map (Id.g i):=by rw [List.map_map];rfl
   rw [this]
   exact List.pairwise_map.2 (n1.imp fun h e=>h (by simpa using e))
 refine⟨⟨by simpa using hri,_,rfl,fun _=>hnd,fun x hx=> ?_⟩,fun A hA _=> ?_⟩
 ·rcases List.mem_cons.1 hx with rfl | hx
  ·exact .inl List.mem_cons_self
  ·obtain⟨e,_,rfl⟩:=List.mem_map.1 hx
   exact .inr ⟨i,e.n,List.mem_cons_self,rfl⟩
 ·let V:Id->Option Value:=fun x=>match x with
   | .g y k=>if y=i then(es[k]?).bind fun e=>ρ (.g i e.n) else none
   | x=>if x=i then ρ i else none
  let Q:Id->Option Nat:=fun x=>match x with
   | .g y k=>if y=i then(es[k]?).bind fun e=>O (.g i e.n) else none
   | x=>if x=i then O i else none
  have V1:V i=ρ i:=by
   cases i with
   | g y n=>cases hri
   | _=>simp only [V,if_true]
  have Q1:Q i=O i:=by
   cases i with
   | g y n=>cases hri
   | _=>simp only [Q,if_true]
  have V2:∀k,V (.g i k)= (es[k]?).bind fun e=>ρ (.g i e.n):=fun k=>by simp only [V,if_true]
  have Q2:∀k,Q (.g i k)= (es[k]?).bind fun e=>O (.g i e.n):=fun k=>by simp only [Q,if_true]
  have dec:∀x d,Q x=some d->(x=i/\O i=some d)\/∃k e,x= .g i k/\es[k]? =some e/\O (.g i e.n)=some d:=by
   intro x d hx
   cases x with
   | g y k=>
    simp only [Q] at hx
    split at hx
    ·rename_i e;subst e
     obtain⟨e,h1,h2⟩:=Option.bind_eq_some_iff.1 hx
     exact .inr ⟨k,e,rfl,h1,h2⟩
    ·cases hx
   | s y k=>
    simp only [Q] at hx
    split at hx
    ·rename_i e;exact .inl ⟨e,hx⟩
    ·cases hx
   | c k=>
    simp only [Q] at hx
    split at hx
    ·rename_i e;exact .inl ⟨e,hx⟩
    ·cases hx
  refine⟨b,eK 0 es,i,V,Q, ?_,⟨a,cap,by rw [V1,ku];exact r1,by rw [ku];exact r2,r3,⟨?_,fun f hf=> ?_,fun k hk=> ?_,fun k d hk=> ?_⟩, ?_⟩,by rw [V1];exact hv,hri,fun x y d hx hy=> ?_,fun k v hk=> ?_,fun x d hx=> ?_,fun d=> ?_⟩
  ·simp only [pD,eI,vQ hao,Option.bind_some]
  ·rw [mW];exact List.nodup_range'
  ·have:f.n∈(eK 0 es).map (·.n):=List.mem_map.2 ⟨f,hf,rfl⟩
   rw [mW,List.mem_range'_1] at this
   rw [ku];omega
  ·rw [ku] at hk
   rw [V2,List.getElem?_eq_none hk];rfl
  ·rw [Q2] at hk
   obtain⟨e,h1,_⟩:=Option.bind_eq_some_iff.1 hk
   have hlt:=(List.getElem?_eq_some_iff.1 h1).1
   have:k∈(eK 0 es).map (·.n):=by rw [mW,List.mem_range'_1];omega
   obtain⟨f,hf,e2⟩:=List.mem_map.1 this
   exact⟨f,hf,e2⟩
  ·rcases r5 with r5 | ⟨blk,off,arr,t,q1,q2,q3,q4,q5⟩
   ·exact .inl r5
   ·refine .inr ⟨blk,off,arr,t,q1,by rw [Q1];exact q2,q3,q4,tK hA (fun j e hj=> ?_) q5⟩
    rw [Nat.zero_add,V2,Q2,hj];exact⟨rfl,rfl⟩
  ·rcases dec x d hx with⟨rfl,g1⟩ | ⟨k,e,rfl,g1,g2⟩ <;> rcases dec y d hy with⟨rfl,k1⟩ | ⟨k',e',rfl,k1,k2⟩
   ·rfl
   ·have:=hs.inj _ _ d g1 k2
    rw [this] at hri;cases hri
   ·have:=hs.inj _ _ d k1 g2
    rw [this] at hri;cases hri
   ·have:=hs.inj _ _ d g2 k2
    simp only [Id.g.injEq,true_and] at this
    rw [lH n1 g1 k1 this]
  ·rw [V2] at hk
   obtain⟨e,_,h2⟩:=Option.bind_eq_some_iff.1 hk
   exact hs.gone i e.n v h2
  ·rcases dec x d hx with⟨rfl,_⟩ | ⟨k,_,rfl,_⟩
   ·exact .inl rfl
   ·exact .inr ⟨k,rfl⟩
  ·simp only [dY,List.mem_filterMap,List.mem_cons,List.mem_map]
   constructor
   ·rintro⟨x,rfl | ⟨e,he,rfl⟩,hx⟩
    ·exact⟨x,by rw [Q1];exact hx⟩
    ·obtain⟨k,hk⟩:=List.getElem?_of_mem he
     exact⟨.g i k,by rw [Q2,hk];exact hx⟩
   ·rintro⟨x,hx⟩
    rcases dec x d hx with⟨rfl,g1⟩ | ⟨k,e,rfl,g1,g2⟩
    ·exact⟨x, .inl rfl,g1⟩
    ·exact⟨.g i e.n, .inr ⟨e,List.mem_of_getElem? g1,rfl⟩,g2⟩
theorem wH{R:Type}{m:Nat}{B:Nat->Option Value}{r:RSh}{v:AV}{u:Value}{K:T->List Id->List Id->Option R}{res:R}(hB:Still m B ρ)(hs:HS c w h ρ O)(hv:RelV w (AA c w O) ρ v u)(hq:cF m h r v K=some res):
  ∃x a b ob,K x a b=some res/\Blks O a ob/\jR w c O b fun A=>RelR1 B w A r x u ob:=by
 cases r with
 | f k=>
  simp only [cF] at hq
  replace hq:=Option.bind_eq_some_iff.1 hq;obtain⟨x,hx,hq⟩:=hq
  replace hq:=ah hq (.inl rfl);obtain⟨y,hy,hq⟩:=hq
  rw [AV.t?_eq hx] at hv
  simp only [RelV] at hv
  exact⟨_,_,_,[],hq, .nil,fun A hA hO=>⟨hy,hv.flat hy,rfl⟩⟩
 | t k=>
  simp only [cF] at hq
  replace hq:=Option.bind_eq_some_iff.1 hq;obtain⟨x,hx,hq⟩:=hq
  refine⟨_,_,_,[],hq, .nil,fun A hA hO=>⟨eT hs hv hx hA (fun i blk hi ho=> ?_),rfl⟩⟩
  obtain⟨p,hp,e⟩:=oK hs hx hi ho
  refine hO i blk (List.mem_map.2 ⟨p,hp,e⟩) ?_ ho
  rw [<-e]
  refine hs.real fun e0=> ?_
  have h2:=lf (h:=h) v p hp
  rw [e0] at h2
  rcases h2 with⟨sz,b,l,_,h2⟩ | ⟨l,_,h2⟩ <;> simp at h2
 | own sz=>
  simp only [cF] at hq
  split at hq
  ·rename_i i
   replace hq:=Option.bind_eq_some_iff.1 hq;obtain⟨p,hp,hq⟩:=hq
   simp only [xy] at hp
   split at hp
   ·rename_i sz' b xs hi
    split at hp
    ·rename_i hsz;subst hsz
     simp only [Option.some.injEq] at hp;subst hp
     refine⟨_,_,_,(O i).toList,hq, .one (hs.real (by rw [hi];simp)),fun A hA hO=> ?_⟩
     obtain⟨v',g1,g2,_⟩:=hs.blk i _ hi
     simp only [RelV] at hv
     rw [g1] at hv;simp only [Option.some.injEq] at hv;subst hv
     exact⟨O i,(b,xs),rfl,by simp [T.lst?],g2.mono (fun b hb=>⟨hA b hb,rfl⟩) (fun b hb=>⟨by simpa using hb,rfl⟩)⟩
    ·simp at hp
   ·simp at hp
  ·rename_i i sz1 n
   split at hq
   ·rename_i sz2 b xs hi
    split at hq
    ·rename_i hcond
     obtain⟨rfl,rfl⟩:=hcond
     refine⟨_,_,_,(O i).toList,hq, .one (hs.real (by rw [hi];simp)),fun A hA hO=> ?_⟩
     obtain⟨v',g1,⟨a,cap,rfl,f2,f3,_,f4⟩,_⟩:=hs.blk i _ hi
     simp only [RelV] at hv
     obtain⟨a1,L,cap1,a',e1,e2,e3,rfl,e4⟩:=hv
     rw [g1] at e1;simp only [Option.some.injEq,Value.slice.injEq] at e1
     obtain⟨rfl,rfl,rfl⟩:=e1
     have hlen:(xs.take n).length=n:=by rw [List.length_take];omega
     have ha:a'=none↔a=none:=by
      rcases e4 with⟨_,rfl⟩ | ⟨_,h,_⟩ | ⟨_,_,rfl,rfl⟩
      ·exact Iff.rfl
      ·exact h
      ·simp
     refine⟨O i,(b,xs.take n),rfl,by simp [T.lst?],a',cap,by rw [hlen];rfl,by rw [hlen];omega,by rw [ha];exact f3,trivial, ?_⟩
     ·rcases f4 with f4 | ⟨blk,off,arr',t',q1,q2,q3,q4,q5⟩
      ·exact .inl f4
      ·by_cases hc0:cap=0
       ·exact .inl hc0
       ·right
        subst q1
        have:a'=some ⟨blk,off,none⟩:=by
         rcases e4 with⟨_,rfl⟩ | ⟨h,_⟩ | ⟨b',o,e5,rfl⟩
         ·rfl
         ·exact absurd h.symm hc0
         ·simp only [Option.some.injEq,Addr.mk.injEq] at e5
          obtain⟨rfl,rfl,_⟩:=e5
          simp
        exact⟨blk,off,arr',t',this,by simpa using q2,q3,q4,(RelEls.mono' (fun b hb=>⟨hA b hb,rfl⟩) blk _ rfl off xs q5).take n⟩
    ·simp at hq
   ·simp at hq
  ·rename_i b
   simp only [RelV,RelT] at hv
   refine⟨_,_,_,[],hq, .nil,fun A hA hO=>⟨none,(b,[]),rfl,by simp [T.lst?], ?_⟩⟩
   rcases hv with⟨rfl,rfl⟩ | ⟨rfl,blk,off,sp,rfl⟩
   ·exact⟨none,0,rfl,by simp,by simp,trivial, .inl rfl⟩
   ·exact⟨some ⟨blk,off,sp⟩,0,rfl,by simp,by simp,trivial, .inl rfl⟩
  ·simp only [RelV,RelT] at hv
   refine⟨_,_,_,[],hq, .nil,fun A hA hO=>⟨none,(true,[]),rfl,by simp [T.lst?], ?_⟩⟩
   rcases hv with⟨_,_,rfl⟩ | ⟨h,_⟩
   ·exact⟨none,0,rfl,by simp,by simp,trivial, .inl rfl⟩
   ·cases h
  ·simp at hq
 | ref k off=>
  simp only [cF] at hq
  split at hq
  ·rename_i k' off'
   split at hq
   ·rename_i hcond
    obtain⟨rfl,rfl,hlt⟩:=hcond
    refine⟨_,_,_,[],hq, .nil,fun A hA hO=>⟨?_,rfl⟩⟩
    simp only [RelV] at hv
    obtain⟨b,e1,rfl⟩:=hv
    obtain⟨v,e2,e3⟩:=hB _ hlt
    rw [e1] at e3;simp only [Option.some.injEq] at e3;subst e3
    exact⟨b,e2,rfl⟩
   ·simp at hq
  ·simp at hq
 | same k=>
  simp only [cF] at hq
  split at hq
  ·rename_i k'
   split at hq
   ·rename_i hcond
    obtain⟨rfl,hlt⟩:=hcond
    refine⟨_,_,_,[],hq, .nil,fun A hA hO=>⟨?_,rfl⟩⟩
    simp only [RelV] at hv
    obtain⟨v,e2,e3⟩:=hB _ hlt
    rw [hv] at e3;simp only [Option.some.injEq] at e3;subst e3
    exact⟨e2,cL hs hv⟩
   ·simp at hq
  ·simp at hq
 | no=>
  simp only [cF] at hq
  split at hq
  ·refine⟨_,_,_,[],hq, .nil,fun A hA hO=>⟨?_,rfl⟩⟩
   simp only [RelV] at hv
   obtain⟨b,_,rfl⟩:=hv
   exact⟨rfl,rfl⟩
  ·simp at hq
 | rows sz col rsz=>
  simp only [cF] at hq
  split at hq
  ·rename_i i
   split at hq
   ·rename_i b sz' col' rsz' nx es hi
    split at hq
    ·rename_i hcond
     obtain⟨rfl,rfl,rfl⟩:=hcond
     replace hq:=ah hq (.inl rfl);obtain⟨_,hao,hq⟩:=hq
     have hao:eE es=true:=by
      split at hao
      ·assumption
      ·cases hao
     simp only [RelV] at hv
     exact⟨_,_,_,_,hq,(tl (B:=B) (l:= []) hs hi hv hao).1,(tl hs hi hv hao).2⟩
    ·simp at hq
   ·simp at hq
  ·simp at hq
 | mp ag ks vk=>
  simp only [cF] at hq
  split at hq
  ·rename_i i
   split at hq
   ·rename_i ag' ks' vk' es hi
    split at hq
    ·rename_i hcond
     obtain⟨rfl,rfl,rfl⟩:=hcond
     obtain⟨b,ents,clock,g1,g2,g3,g4,g5⟩:=hs.blk i _ hi
     simp only [RelV] at hv
     rw [g1] at hv;simp only [Option.some.injEq] at hv;subst hv
     refine⟨_,_,_,[b],hq, ?_,fun A hA hO=>⟨es,b,ents,clock,rfl,rfl,rfl,g3,g4,g5⟩⟩
     have:=Blks.one (O:=O) (hs.real (i:=i) (by rw [hi];simp))
     rw [g2] at this;exact this
    ·simp at hq
   ·simp at hq
  ·simp at hq
 | agg l=>simp [cF] at hq
 | new l=>simp [cF] at hq
theorem oL{R:Type}{m:Nat}{B:Nat->Option Value}(hB:Still m B ρ)(hs:HS c w h ρ O):∀{rs:List RSh} {vs:List AV} {us:List Value} {K:List T->List Id->List Id->Option R} {res:R},RelVs w (AA c w O) ρ vs us->fi m h rs vs K=some res->
  ∃xs a b own,K xs a b=some res/\Blks O a own/\jR w c O b fun A=>RelRL B w A rs xs us own
 | [],[],us,K,res,hv,hq=>by
  simp only [RelVs] at hv;subst hv
  simp only [fi] at hq
  exact⟨_,_,_,[],hq, .nil,fun A _ _=>⟨rfl,rfl,rfl⟩⟩
 | [],v::vs,us,K,res,hv,hq=>by simp [fi] at hq
 | r::rs,[],us,K,res,hv,hq=>by simp [fi] at hq
 | r::rs,v::vs,us,K,res,hv,hq=>by
  simp only [RelVs] at hv;obtain⟨u,us',rfl,h1,h2⟩:=hv
  simp only [fi] at hq
  obtain⟨x,a,b,ob,hq,b1,g1⟩:=wH hB hs h1 hq
  obtain⟨xs,a',b',own,hq,b2,g2⟩:=oL hB hs h2 hq
  refine⟨_,_,_,_,hq,b1.append b2,fun A hA hO=> ?_⟩
  have k1:=g1 A hA (fun i blk hi hr ho=>hO i blk (List.mem_append_left _ hi) hr ho)
  exact⟨x,xs,u,us',ob,own,rfl,rfl,rfl,k1,g2 A hA (fun i blk hi hr ho=>hO i blk (List.mem_append_right _ hi) hr ho)⟩
theorem ny{R:Type}{m:Nat}{B:Nat->Option Value}(hB:Still m B ρ)(hs:HS c w h ρ O):∀{rs:List RSh} {vs:List AV} {us:List Value} {K:List T->List Id->List Id->Option R} {res:R},RelVs w (AA c w O) ρ vs us->bJ m h rs vs K=some res->
  ∃xs a b own,K xs a b=some res/\Blks O a own/\jR w c O b fun A=>RelRs B w A rs xs us own
 | [],[],us,K,res,hv,hq=>by
  simp only [RelVs] at hv;subst hv
  simp only [bJ] at hq
  exact⟨_,_,_,[],hq, .nil,fun A _ _=>⟨rfl,rfl,rfl⟩⟩
 | [],v::vs,us,K,res,hv,hq=>by simp [bJ] at hq
 | r::rs,[],us,K,res,hv,hq=>by cases r <;> simp [bJ] at hq
 | r::rs,v::vs,us,K,res,hv,hq=>by
  simp only [RelVs] at hv;obtain⟨u,us',rfl,h1,h2⟩:=hv
  have simple:(cF m h r v fun x a b=>bJ m h rs vs fun xs a' b'=>K (x::xs) (a++a') (b++b'))=some res->(∀l,r≠ .agg l)->(∀l,r≠ .new l)->
    ∃xs a b own,K xs a b=some res/\Blks O a own/\jR w c O b fun A=>RelRs B w A (r::rs) xs (u::us') own:=by
   intro hq hr hr'
   obtain⟨x,a,b,ob,hq,b1,g1⟩:=wH hB hs h1 hq
   obtain⟨xs,a',b',own,hq,b2,g2⟩:=ny hB hs h2 hq
   refine⟨_,_,_,_,hq,b1.append b2,fun A hA hO=> ?_⟩
   have k1:=g1 A hA (fun i blk hi hr ho=>hO i blk (List.mem_append_left _ hi) hr ho)
   have:∃x0 xs' v vs' ob' own',x::xs=x0::xs'/\u::us'=v::vs'/\ob++own=ob'++own'/\RelR1 B w A r x0 v ob'/\RelRs B w A rs xs' vs' own':=
    ⟨x,xs,u,us',ob,own,rfl,rfl,rfl,k1,g2 A hA (fun i blk hi hr ho=>hO i blk (List.mem_append_right _ hi) hr ho)⟩
   cases r with
   | agg l=>exact(hr l rfl).elim
   | new l=>exact(hr' l rfl).elim
   | _=>exact this
  cases r with
  | f k=>exact simple (by simpa [bJ] using hq) (by simp) (by simp)
  | t k=>exact simple (by simpa [bJ] using hq) (by simp) (by simp)
  | own sz=>exact simple (by simpa [bJ] using hq) (by simp) (by simp)
  | rows sz col rsz=>exact simple (by simpa [bJ] using hq) (by simp) (by simp)
  | mp ag ks vk=>exact simple (by simpa [bJ] using hq) (by simp) (by simp)
  | new l=>
   simp only [bJ] at hq
   split at hq
   ·rename_i i
    split at hq
    ·rename_i cs hi
     obtain⟨b0,arr,ty,e1,e2,e3,e4,e5⟩:=hs.blk i _ hi
     simp only [RelV] at h1
     obtain⟨b,k1,rfl⟩:=h1
     rw [e1] at k1;simp only [Option.some.injEq,Value.pointer.injEq,Addr.mk.injEq] at k1
     obtain⟨rfl,_⟩:=k1
     obtain⟨xs,a,b,o1,hq,b1,g1⟩:=oL hB hs e4 hq
     obtain⟨ys,a',b',o2,hq,b2,g2⟩:=ny hB hs h2 hq
     refine⟨_,_,_,_,hq,(Blks.one (hs.real (i:=i) (by rw [hi];simp))).append (b1.append b2),fun A hA hO=> ?_⟩
     exact⟨xs,ys,b0,arr,ty,us',o1,o2,rfl,by simp,by simp [e2],e3,g1 A hA (fun i blk hi hr ho=>hO i blk (List.mem_append_left _ hi) hr ho),g2 A hA (fun i blk hi hr ho=>hO i blk (List.mem_append_right _ hi) hr ho)⟩
    ·simp at hq
   ·simp at hq
  | ref k off=>exact simple (by simpa [bJ] using hq) (by simp) (by simp)
  | same k=>exact simple (by simpa [bJ] using hq) (by simp) (by simp)
  | no=>exact simple (by simpa [bJ] using hq) (by simp) (by simp)
  | agg l=>
   cases v with
   | agg cs=>
    simp only [bJ] at hq
    simp only [RelV] at h1
    obtain⟨ws,rfl,k1,k2⟩:=h1
    obtain⟨xs,a,b,o1,hq,b1,g1⟩:=oL hB hs k1 hq
    obtain⟨ys,a',b',o2,hq,b2,g2⟩:=ny hB hs h2 hq
    refine⟨_,_,_,_,hq,b1.append b2,fun A hA hO=> ?_⟩
    exact⟨xs,ys,ws,us',o1,o2,rfl,rfl,rfl,g1 A hA (fun i blk hi hr ho=>hO i blk (List.mem_append_left _ hi) hr ho),g2 A hA (fun i blk hi hr ho=>hO i blk (List.mem_append_right _ hi) hr ho)⟩
   | _=>simp [bJ] at hq
def mZ(tmps:Array Value):ResultVar->Sem Value
 | .tmp t=>pure (tmps.getD t undef)
 | .cell b t=>do loadVar t (<-asAddr (tmps.getD b undef))
theorem B2(fn:Func)(tmps:Array Value):results fn tmps= (do
  let vs <-fn.results.mapM (mZ tmps)
  pure (if h:vs.size=1 then vs[0] else .tuple vs)):=rfl
theorem rc{R:Type}{a:Act}(hs:HS c w s.h ρ O)(ht:SS w (AA c w O) ρ s.t a.tmps):∀{l:List ResultVar} {K:List AV->Option R} {r:R},jb P s l K=some r->
  ∃vs us,K vs=some r/\RelVs w (AA c w O) ρ vs us/\(l.mapM (mZ a.tmps)).run P w= .ok us w
 | [],K,r,h=>⟨[],[],h,by simp [RelVs],by simp⟩
 | .tmp k::l,K,r,h=>by
  simp only [jb] at h
  have hk:=ht k
  split at h
  ·rename_i v e
   rw [e] at hk
   obtain⟨vs,us,h1,h2,h3⟩:=rc hs ht h
   refine⟨v::vs,_::us,h1,by simp only [RelVs];exact⟨_,us,rfl,hk,h2⟩, ?_⟩
   rw [List.mapM_cons]
   simp only [mZ,Sem.run_bind,Sem.run_pure,Result.andThen_ok,h3]
  ·simp at h
 | .cell k t::l,K,r,h=>by
  simp only [jb] at h
  have hk:=ht k
  split at h
  ·rename_i v e
   rw [e] at hk
   obtain⟨av,y,h0,run,hv⟩:=vK hs hk (.inl rfl) h
   obtain⟨vs,us,h1,h2,h3⟩:=rc hs ht h0
   refine⟨av::vs,y::us,h1,by simp only [RelVs];exact⟨y,us,rfl,hv,h2⟩, ?_⟩
   rw [List.mapM_cons]
   have:(do loadVar t (<-asAddr (a.tmps.getD k undef)):Sem Value).run P w= .ok y w:=by
    rw [<-run]
    generalize a.tmps.getD k undef=va at *
    unfold Instr.loadAt at *
    cases va with
    | pointer p=>
     cases p with
     | none=>simp [Instr.sureAddr,runtimePanic] at run
     | some b=>simp [Instr.sureAddr,asAddr]
    | _=>simp [Instr.sureAddr,runtimePanic] at run
   simp only [mZ,Sem.run_bind,Sem.run_pure,Result.andThen_ok] at this⊢
   rw [this]
   simp only [Result.andThen_ok,h3]
  ·simp at h
theorem kj{R:Type}{m:Nat}{B:Nat->Option Value}(hB:Still m B ρ)(hs:HS c w h ρ O):∀{os:List BSh} {j:Nat} {K:List T->List Id->List Id->Option R} {res:R},j+os.length<=m->dL m h j os K=some res->
  ∃xs a b own,K xs a b=some res/\Blks O a own/\jR w c O b fun A=>fX B w A j os xs own
 | [],j,K,res,_,hq=>by
  simp only [dL] at hq
  exact⟨_,_,_,[],hq, .nil,fun A _ _=>⟨rfl,rfl⟩⟩
 | .box l::os,j,K,res,hm,hq=>by
  simp only [List.length_cons] at hm
  simp only [dL] at hq
  split at hq
  ·rename_i cs hi
   obtain⟨b0,arr,t,h1,h2,h3,h4,h5⟩:=hs.blk _ _ hi
   obtain⟨xs,a,b,o1,hq,c1,g1⟩:=oL hB hs h4 hq
   obtain⟨ys,a',b',o2,hq,c2,g2⟩:=kj hB hs (by omega) hq
   refine⟨_,_,_,_,hq,(Blks.one (i:= .c j) rfl).append (c1.append c2),fun A hA hO=> ?_⟩
   obtain⟨v,e1,e2⟩:=hB j (by omega)
   rw [h1] at e2;simp only [Option.some.injEq] at e2;subst e2
   exact⟨xs,ys,b0,arr,t,o1,o2,rfl,by simp [h2],e1,h3,g1 A hA (fun i blk hi hr ho=>hO i blk (List.mem_append_left _ hi) hr ho),g2 A hA (fun i blk hi hr ho=>hO i blk (List.mem_append_right _ hi) hr ho)⟩
  ·simp at hq
 | .sl sz::os,j,K,res,hm,hq=>by
  simp only [List.length_cons] at hm
  simp only [dL] at hq
  split at hq
  ·rename_i sz' bb l hi
   split at hq
   ·rename_i hsz;subst hsz
    obtain⟨v,h1,h2,_⟩:=hs.blk _ _ hi
    obtain⟨ys,a',b',o2,hq,c2,g2⟩:=kj hB hs (by omega) hq
    refine⟨_,_,_,_,hq,(Blks.one (i:= .c j) rfl).append c2,fun A hA hO=> ?_⟩
    obtain⟨v',e1,e2⟩:=hB j (by omega)
    rw [h1] at e2;simp only [Option.some.injEq] at e2;subst e2
    exact⟨bb,l,ys,O (.c j),_,o2,rfl,rfl,e1,h2.mono (fun b hb=>⟨hA b hb,rfl⟩) (fun b hb=>⟨by simpa using hb,rfl⟩),g2 A hA hO⟩
   ·simp at hq
  ·simp at hq
 | .mp ag ks vk::os,j,K,res,hm,hq=>by
  simp only [List.length_cons] at hm
  simp only [dL] at hq
  split at hq
  ·rename_i ag' ks' vk' es hi
   split at hq
   ·rename_i hcond
    obtain⟨rfl,rfl,rfl⟩:=hcond
    obtain⟨b0,ents,clock,h1,h2,h3,h4,h5⟩:=hs.blk _ _ hi
    obtain⟨ys,a',b',o2,hq,c2,g2⟩:=kj hB hs (by omega) hq
    refine⟨_,_,_,_,hq,(Blks.one (i:= .c j) rfl).append c2,fun A hA hO=> ?_⟩
    obtain⟨v',e1,e2⟩:=hB j (by omega)
    rw [h1] at e2;simp only [Option.some.injEq] at e2;subst e2
    exact⟨es,b0,ents,clock,ys,o2,rfl,by simp [h2],e1,h3,h4,h5,g2 A hA hO⟩
   ·simp at hq
  ·simp at hq
 | .dead::os,j,K,res,hm,hq=>by
  simp only [List.length_cons] at hm
  simp only [dL] at hq
  obtain⟨ys,a',b',o2,hq,c2,g2⟩:=kj hB hs (by omega) hq
  exact⟨_,_,_,o2,hq,c2,fun A hA hO=>g2 A hA hO⟩
theorem tW{f:FuncId}{fn:Func}{nt:Nat}{m:Nat×Nat}{B:Nat->Option Value}{xs:List T}{a:Act}(hB:Still m.1 B ρ)(sim:Sim c nt w s ρ O a)(h:oJ P An f fn m s=some xs):
  ∃v,(results fn a.tmps).run P w= .ok v w/\Fin P c B (aP P An f m.2 fn) (bY An f m.2) xs (bK O) w v w:=by
 unfold oJ at h
 obtain⟨vs,us,h,h1,h2⟩:=rc sim.hs sim.ss h
 split at h
 ·rename_i hm
  obtain⟨ys,ia,ib,o1,h,c1,hand⟩:=ny hB sim.hs h1 h
  obtain⟨zs,ia',ib',o2,h,c2,hand'⟩:=kj hB sim.hs (by omega) h
  split at h
  ·rename_i hok
   simp only [Option.some.injEq] at h;subst h
   simp only [Bool.and_eq_true,List.all_eq_true,Bool.not_eq_true'] at hok
   have hnd:=s9 hok.1
   have hbl:=c1.append c2
   have inOwn:∀b,b∈o1++o2->∃i,Of (ia++ia') i/\O i=some b:=fun b hb=>hbl.mem hb
   have hA:∀k,AA c w O k->(c.A0 k\/c.MO k)/\k < w.heap.size/\k∉o1++o2:=by
    intro b hb
    refine⟨hb.1,hb.2.1,fun hm=> ?_⟩
    obtain⟨i,hi,e⟩:=inOwn b hm
    exact hb.2.2 i e
   have hS:∀i blk,i∈ib++ib'->i.real=true->O i=some blk->(c.A0 blk\/c.MO blk)/\blk < w.heap.size/\blk∉o1++o2:=by
    intro i blk hi hr ho
    refine⟨.inr (sim.hs.own i blk ho),sim.hs.lt i blk ho,fun hm=> ?_⟩
    obtain⟨j,hj,e⟩:=inOwn blk hm
    have:=sim.hs.inj i j blk ho e
    subst this
    have h1:=hok.2 i hi
    rcases hj with hj | ⟨y,n,_,e2⟩
    ·have h2:(ia++ia').contains i=true:=by simpa using hj
     rw [h2] at h1;cases h1
    ·rw [e2] at hr;cases hr
   have hnodup:(o1++o2).Nodup:=by
    obtain⟨_,ids,e,n,_⟩:=hbl
    rw [e];exact sM sim.hs (n hnd)
   refine⟨gm us, ?_,rfl,rfl,rfl,Nat.le_refl _,fun _ _ _=>rfl,us,ys,zs,o1,o2,rfl,rfl,hnodup,fun b hb=> ?_, ?_, ?_⟩
   ·rw [B2,Array.mapM_eq_mapM_toList]
    simp only [Sem.run_bind,map_eq_pure_bind,Sem.run_pure]
    rw [h2]
    simp only [Result.andThen_ok]
    congr 1
    unfold gm
    split
    ·rename_i hsz
     have hl:us.length=1:=by simpa using hsz
     obtain⟨u,rfl⟩:=List.length_eq_one_iff.1 hl
     rfl
    ·rename_i hsz
     split
     ·rename_i u
      simp at hsz
     ·rfl
   ·obtain⟨i,hi,e⟩:=inOwn b hb
    exact⟨sim.hs.own i b e,sim.hs.lt i b e⟩
   ·exact hand _ hA fun i blk hi hr ho=>hS i blk (List.mem_append_left _ hi) hr ho
   ·exact hand' _ hA fun i blk hi hr ho=>hS i blk (List.mem_append_right _ hi) hr ho
  ·simp at h
 ·simp at h
end
open Go
section
variable {P:Program} {An:Ann} {Or:Orc} {w w':World} {A A':Nat->Prop} {c:Ctx} {ρ:Id->Option Value} {O:Id->Option Nat} {s s':St} {h:Id->Option Blk}
theorem yG{v:AV}{u:Value}(hs:HS c w h ρ O)(hv:RelV w (AA c w O) ρ v u):RelV w (AA c w O) ρ (iG h v) u:=by
 cases v
 case own i=>
  simp only [iG]
  split
  ·rename_i sz b xs hi
   have hn:O i=none:=by
    obtain⟨_,_,_,h3⟩:=hs.blk i _ hi
    exact h3 rfl
   have:=eT (x:= .lst sz b xs) (A':=AA c w O) hs hv (by simp [aS,hi]) (fun _ h=>h) (fun j blk hj ho=>by
    rcases hj with e | ⟨_,_,_,e⟩ | ⟨_,e⟩
    ·cases e;rw [hn] at ho;cases ho
    ·cases e
    ·cases e)
   simpa [RelV] using this
  ·exact hv
 case part i sz off n=>
  simp only [iG]
  split
  ·rename_i sz' b xs hi
   split
   ·rename_i hsz
    have hn:O i=none:=by
     obtain⟨_,_,_,h3⟩:=hs.blk i _ hi
     exact h3 rfl
    have:=eT (x:= .lst sz b ((xs.drop off).take n)) (A':=AA c w O) hs hv (by simp [aS,hi,hsz]) (fun _ h=>h) (fun j blk hj ho=>by
     rcases hj with e | ⟨_,_,_,e⟩ | ⟨_,e⟩
     ·cases e
     ·cases e;rw [hn] at ho;cases ho
     ·cases e)
    simpa [RelV] using this
   ·exact hv
  ·exact hv
 case ref i off=>
  simp only [iG]
  split
  ·rename_i l hi
   obtain⟨b,h1,h2,h3,h4⟩:=hs.blk i _ hi
   simp only [RelV] at hv
   obtain⟨b',e1,rfl⟩:=hv
   rw [h1] at e1;simp only [Option.some.injEq,Value.pointer.injEq,Addr.mk.injEq] at e1
   obtain⟨rfl,_⟩:=e1
   simp only [RelV,RelT]
   refine⟨b,off,rfl, .inr h3, ?_⟩
   have:=h4.drop off
   rwa [Nat.zero_add] at this
  ·exact hv
 all_goals exact hv
theorem DB{k:Nat×Option Nat}{p:AV×Upd}{tmps:Array Value}{ρ1:Id->Option Value}(hs:HS c w s.h ρ O)(ht:SS w (AA c w O) ρ s.t tmps)(e:kI s k=some p)(hρ:∀i v,ρ i=some v->ρ1 i=some v)
  (h1:∀q∈p.2,ρ1 q.1=some (tmps.getD k.1 undef)):RelV w (AA c w O) ρ1 p.1 (tmps.getD k.1 undef):=by
 unfold kI at e
 have hk:=ht k.1
 split at e
 ·simp at e
 ·rename_i v hst
  rw [hst] at hk
  simp only at hk
  split at e
  ·simp only [Option.some.injEq] at e;subst e
   exact RelV.mono (fun b hb=>⟨hb,rfl⟩) hρ _ _ (yG hs hk)
  ·split at e
   ·simp only [Option.some.injEq] at e;subst e
    exact RelV.mono (fun b hb=>⟨hb,rfl⟩) hρ _ _ (yG hs hk)
   split at e
   ·split at e
    ·simp only [Option.some.injEq] at e;subst e
     exact RelV.mono (fun b hb=>⟨hb,rfl⟩) hρ _ _ hk
    ·simp at e
   ·simp only [Option.some.injEq] at e;subst e
    simp only [RelV]
    exact h1 _ (List.mem_singleton.2 rfl)
   ·simp at e
theorem xl{tmps:Array Value}{ρ1:Id->Option Value}(hs:HS c w s.h ρ O)(ht:SS w (AA c w O) ρ s.t tmps)(hρ:∀i v,ρ i=some v->ρ1 i=some v):∀{l:List (Nat×Option Nat)} {p:List AV×Upd},fS s l=some p->
  (∀q∈p.2,∀k,q.1= .s (1000000+k) 0->ρ1 q.1=some (tmps.getD k undef))->RelVs w (AA c w O) ρ1 p.1 (l.map fun k=>tmps.getD k.1 undef)/\
   ∀q∈p.2,∃k sz b,q= (.s (1000000+k) 0, .sl false sz b [])/\RelT w (AA c w O) (.emp b) (tmps.getD k undef)
 | [],p,e,_=>by
  simp only [fS,Option.some.injEq] at e;subst e
  exact⟨by simp [RelVs],(by intro q hq;cases hq)⟩
 | k::l,p,e,h1=>by
  simp only [fS] at e
  replace e:=Option.bind_eq_some_iff.1 e;obtain⟨x,hx,e⟩:=e
  replace e:=Option.bind_eq_some_iff.1 e;obtain⟨y,hy,e⟩:=e
  simp only [Option.some.injEq] at e;subst e
  have hx2:∀q∈x.2,∃sz b,q= (.s (1000000+k.1) 0, .sl false sz b [])/\RelT w (AA c w O) (.emp b) (tmps.getD k.1 undef):=by
   intro q hq
   have hk:=ht k.1
   unfold kI at hx
   split at hx
   ·simp at hx
   ·rename_i v hst
    rw [hst] at hk
    simp only at hk
    split at hx
    ·simp only [Option.some.injEq] at hx;subst hx;cases hq
    ·split at hx
     ·simp only [Option.some.injEq] at hx;subst hx;cases hq
     split at hx
     ·split at hx
      ·simp only [Option.some.injEq] at hx;subst hx;cases hq
      ·simp at hx
     ·simp only [Option.some.injEq] at hx;subst hx
      simp only [List.mem_singleton] at hq;subst hq
      exact⟨_,_,rfl,by simpa [RelV] using hk⟩
     ·simp at hx
  obtain⟨g1,g2⟩:=xl hs ht hρ hy (fun q hq=>h1 q (List.mem_append_right _ hq))
  refine⟨?_,fun q hq=> ?_⟩
  ·simp only [List.map_cons,RelVs]
   refine⟨_,_,rfl,DB hs ht hx hρ (fun q hq=> ?_),g1⟩
   obtain⟨sz,b,e,_⟩:=hx2 q hq
   exact h1 q (List.mem_append_left _ hq) k.1 (by rw [e])
  ·rcases List.mem_append.1 hq with hq | hq
   ·obtain⟨sz,b,e,hr⟩:=hx2 q hq
    exact⟨k.1,sz,b,e,hr⟩
   ·exact g2 q hq
theorem vJ:∀{us:Upd} {h:Id->Option Blk} {i:Id} {b:Blk},ae h us i=some b->(i,b)∈us\/((∀q∈us,q.1≠i)/\h i=some b)
 | [],h,i,b,e=> .inr ⟨by simp,e⟩
 | (j,x)::us,h,i,b,e=>by
  rw [aO] at e
  rcases vJ e with e | ⟨e1,e2⟩
  ·exact .inl (List.mem_cons_of_mem _ e)
  ·by_cases hij:i=j
   ·subst hij;rw [upd_same] at e2;simp only [Option.some.injEq] at e2;subst e2;exact .inl List.mem_cons_self
   ·rw [ab _ _ hij] at e2
    refine .inr ⟨fun q hq=> ?_,e2⟩
    rcases List.mem_cons.1 hq with rfl | hq
    ·exact fun e=>hij e.symm
    ·exact e1 q hq
theorem HS.addEmps{us:Upd}{ρ1:Id->Option Value}(hr:∀q∈us,q.1.real=true)(hs:HS c w h ρ O)(hf:∀q∈us,h q.1=none)(hus:∀q∈us,∃sz b u,q.2= .sl false sz b []/\ρ1 q.1=some u/\RelT w A (.emp b) u)
  (hρ:∀i,(∀q∈us,q.1≠i)->ρ1 i=ρ i):HS c w (ae h us) ρ1 O:=by
 have mono:∀i v,ρ i=some v->ρ1 i=some v:=by
  intro i v hi
  rw [hρ i (fun q hq e=> ?_)]
  ·exact hi
  ·have:=(hs.nodom _ (hr q hq) (hf q hq)).1
   rw [e,hi] at this;cases this
 have hng:∀i n,∀q∈us,q.1≠ .g i n:=fun i n q hq e=>by have:=hr q hq;rw [e] at this;cases this
 have le:Le w ρ O w ρ1 O:=⟨rfl,rfl,rfl,Nat.le_refl _,mono,fun _ _ _=>rfl,fun i b h=> .inl ⟨i,h⟩⟩
 refine hs.go le (fun i n=>⟨hρ _ (hng i n),rfl,fun _ _=>rfl⟩) (fun i b hb=> ?_) (fun i hir hi=> ?_) (fun i hi=>(oR hi).2) (fun i n=>by rw [aY (hng i n)];exact hs.nog i n) hs.inj hs.lt
 ·rcases vJ hb with hm | ⟨_,hb⟩
  ·right
   obtain⟨sz,b',u,e1,e2,e3⟩:=hus _ hm
   simp only at e1 e2;subst e1
   refine⟨u,e2, ?_,by simp⟩
   simp only [RelT] at e3
   rcases e3 with⟨rfl,rfl⟩ | ⟨rfl,blk,off,sp,rfl⟩
   ·exact⟨none,0,rfl,by simp,by simp,by simp, .inl rfl⟩
   ·exact⟨some ⟨blk,off,sp⟩,0,rfl,by simp,by simp,trivial, .inl rfl⟩
  ·exact .inl ⟨hb,rfl,fun _ _=>rfl⟩
 ·obtain⟨h1,h2⟩:=oR hi
  rw [hρ i h1];exact hs.nodom i hir h2
theorem tO{ρ1:Id->Option Value}{tmps:Array Value}:∀{live:List (Nat×Option Nat)} {vals:List AV},RelVs w A ρ1 vals (live.map fun k=>tmps.getD k.1 undef)->∀k,RelV w A ρ1 (fromNode.look live vals k) (tmps.getD k undef)
 | [],vals,hv,k=>by cases vals <;> simp [fromNode.look,RelV]
 | (j,o)::live,vals,hv,k=>by
  cases vals with
  | nil=>simp [RelVs] at hv
  | cons v vals=>
   simp only [List.map_cons,RelVs,List.cons.injEq] at hv
   obtain⟨u,r,⟨rfl,rfl⟩,h1,h2⟩:=hv
   simp only [fromNode.look]
   split
   ·rename_i e;subst e;exact h1
   ·exact tO h2 k
def lO:List Item->List Item
 | .inLoop b::k=> .code b:: .inLoop b::k
 | t=>t
def hJ(P:Program)(An:Ann)(Or:Orc):Prop:= ∀f fn todo live m vals blks xs,Or (.node f todo live m) vals blks=some xs->P.funcs[f]? =some fn->
 ∀c w ρ O a B,Still m.1 B ρ->Sim c fn.ntmps w (fromNode live vals blks) ρ O a->Ends P f fn (lO todo) a w (Fin P c B (aP P An f m.2 fn) (bY An f m.2) xs (bK O) w)
theorem Sim.silent{nt:Nat}{a:Act}{h':Id->Option Blk}{ρ':Id->Option Value}{O':Id->Option Nat}(sim:Sim c nt w s ρ O a)(le:Le w ρ O w ρ' O')(hs:HS c w h' ρ' O'):Sim c nt w {t:=s.t,h:=h'} ρ' O' a:=
 ⟨hs,SS.mono (fun b hb=>le.A b hb) le.rho sim.ss,sim.nt,sim.defers⟩
theorem Still.le{m:Nat}{B:Nat->Option Value}{ρ':Id->Option Value}(h:Still m B ρ)(le:∀i v,ρ i=some v->ρ' i=some v):Still m B ρ':=fun j hj=>by
 obtain⟨v,e1,e2⟩:=h j hj
 exact⟨v,e1,le _ _ e2⟩
theorem pb{s:St}:∀{live:List (Nat×Option Nat)} {p:List AV×Upd},fS s live=some p->∀q∈p.2,∃k,q.1=Id.s (1000000+k) 0
 | [],p,hp,q,hq=>by simp only [fS,Option.some.injEq] at hp;subst hp;cases hq
 | k::live,p,hp,q,hq=>by
  simp only [fS] at hp
  obtain⟨p1,h1,hp⟩:=Option.bind_eq_some_iff.1 hp
  obtain⟨p2,h2,hp⟩:=Option.bind_eq_some_iff.1 hp
  simp only [Option.some.injEq] at hp;subst hp
  rcases List.mem_append.1 hq with hq | hq
  ·unfold kI at h1
   split at h1
   ·cases h1
   ·split at h1
    ·simp only [Option.some.injEq] at h1;subst h1;cases hq
    ·split at h1
     ·simp only [Option.some.injEq] at h1;subst h1;cases hq
     ·split at h1
      ·split at h1
       ·simp only [Option.some.injEq] at h1;subst h1;cases hq
       ·cases h1
      ·simp only [Option.some.injEq] at h1;subst h1
       rw [List.mem_singleton.1 hq];exact⟨_,rfl⟩
      ·cases h1
  ·exact pb h2 q hq
theorem AW{f:FuncId}{fn:Func}{todo:List Item}{live:List (Nat×Option Nat)}{m:Nat×Nat}{B:Nat->Option Value}{xs:List T}{a:Act}(hN:hJ P An Or)(hfn:P.funcs[f]? =some fn)(hB:Still m.1 B ρ)(sim:Sim c fn.ntmps w s ρ O a)(e:toNode1 Or f todo live m s=some xs):
  Ends P f fn (lO todo) a w (Fin P c B (aP P An f m.2 fn) (bY An f m.2) xs (bK O) w):=by
 unfold toNode1 at e
 replace e:=Option.bind_eq_some_iff.1 e;obtain⟨p,hp,e⟩:=e
 split at e
 ·rename_i hfresh
  replace e:=Option.bind_eq_some_iff.1 e;obtain⟨seen,hseen,e⟩:=e
  let ρ1:Id->Option Value:=fun i=>if p.2.any (fun q=>decide (q.1=i)) then(match i with | .s d _=>some (a.tmps.getD (d - 1000000) undef) | _=>none) else ρ i
  have hf:∀q∈p.2,s.h q.1=none:=by
   intro q hq
   have:=List.all_eq_true.1 hfresh q hq
   simpa using this
  have hnot:∀i,(∀q∈p.2,q.1≠i)->ρ1 i=ρ i:=by
   intro i hi
   have:p.2.any (fun q=>decide (q.1=i))=false:=by
    rw [List.any_eq_false]
    intro q hq;simpa using hi q hq
   simp only [ρ1,this,Bool.false_eq_true,if_false]
  have hin:∀q∈p.2,∀k,q.1= .s (1000000+k) 0->ρ1 q.1=some (a.tmps.getD k undef):=by
   intro q hq k e
   have:p.2.any (fun x=>decide (x.1=q.1))=true:=List.any_eq_true.2 ⟨q,hq,by simp⟩
   simp only [ρ1,this,if_true]
   rw [e]
   simp
  have mono:∀i v,ρ i=some v->ρ1 i=some v:=by
   intro i v hi
   rw [hnot i (fun q hq e=> ?_)]
   ·exact hi
   ·cases hr:q.1.real with
    | true=>
     have:=(sim.hs.nodom _ hr (hf q hq)).1
     rw [e,hi] at this;cases this
    | false=>
     have hm:p.2.any (fun x=>decide (x.1=q.1))=true:=List.any_eq_true.2 ⟨q,hq,by simp⟩
     obtain⟨k,ek⟩:=pb hp q hq
     rw [ek] at hr;cases hr
  obtain⟨hv,hus⟩:=xl sim.hs sim.ss mono hp hin
  have hs1:HS c w (ae s.h p.2) ρ1 O:=sim.hs.addEmps (fun q hq=>by obtain⟨k,ek⟩:=pb hp q hq;rw [ek];rfl) hf (A:=AA c w O) (fun q hq=>by
   obtain⟨k,sz,b,e,hr⟩:=hus q hq
   exact⟨sz,b,_,by rw [e],hin q hq k (by rw [e]),hr⟩) hnot
  obtain⟨g1,g2,g3,g4,g5⟩:=kC hseen List.nodup_nil (by simp) (by simp)
  obtain⟨hs2,hown⟩:=hs1.rn g1 g4 g5
  have hA:∀b,AA c w O b->AA c w (rnρ seen O) b:=fun b hb=>⟨hb.1,hb.2.1,fun i hi=>by
   obtain⟨k,hk⟩:=hown b ⟨i,hi⟩
   exact hb.2.2 k hk⟩
  have hv2:=RelVs.rn (m:=seen) hA _ _ (fun i hi=>g3 i (List.mem_append_right _ hi)) hv
  have sim2:Sim c fn.ntmps w (fromNode live (rnL seen p.1) (seen.map fun i=>rnB seen (ae s.h p.2 i))) (rnρ seen ρ1) (rnρ seen O) a:=
   ⟨hs2,fun k=>tO hv2 k,sim.nt,sim.defers⟩
  have hpre:=tc hseen (by
   exact List.pairwise_map.2 (List.nodup_range.imp fun h e=>h (by simpa using e))) (by simp)
  rw [List.nil_append] at hpre
  have hB2:Still m.1 B (rnρ seen ρ1):=by
   intro j hj
   obtain⟨v,e1,e2⟩:=hB.le mono j hj
   refine⟨v,e1, ?_⟩
   obtain⟨t,ht⟩:=hpre
   have:seen[j]? =some (.c j):=by
    rw [<-ht,List.getElem?_append_left (by simpa using hj)]
    simp [hj]
   simp [rnρ,this,e2]
  exact(hN f fn todo live m _ _ xs e hfn c w _ _ a B hB2 sim2).mono fun v w' hfin=>hfin.own hown
 ·simp at e
theorem me:∀{l:List (Nat×Option Nat)},FrzOk s.h (gy s l)
 | []=>by intro p hp;cases hp
 | (k,none)::l=>by simp only [gy];exact me
 | (k,some 0)::l=>by simp only [gy];exact(lf _).append me
 | (k,some (n+1))::l=>by simp only [gy];exact me
theorem pJ{f:FuncId}{fn:Func}{todo:List Item}{live:List (Nat×Option Nat)}{m:Nat×Nat}{B:Nat->Option Value}{xs:List T}{a:Act}(hN:hJ P An Or)(hfn:P.funcs[f]? =some fn)(hB:Still m.1 B ρ)(sim:Sim c fn.ntmps w s ρ O a)(e:toNode Or f todo live m s=some xs):
  Ends P f fn (lO todo) a w (Fin P c B (aP P An f m.2 fn) (bY An f m.2) xs (bK O) w):=by
 unfold toNode at e
 obtain⟨us,hus,e⟩:=Option.bind_eq_some_iff.1 e
 obtain⟨O1,le1,hs1,_⟩:=sim.hs.freezes' me
 have sim1:=sim.silent le1 hs1
 obtain⟨ρ2,O2,le2,hs2⟩:=pG sim1.hs hus
 have sim2:=sim1.silent le2 hs2
 exact(AW hN hfn (hB.le le2.rho) sim2 e).mono fun v w' hfin=>Fin.le le1 (Fin.le le2 hfin)
theorem vI(live:List (Nat×Option Nat))(vals:List AV)(blks:List Blk):Bare (fromNode live vals blks):=by
 intro k g v e;simp [fromNode] at e
theorem SlAt.toT{sz:Nat}{b:Bool}{xs:List (List T)}{v:Value}{Q:Nat->Prop}(h:SlAt w A sz b xs v Q)(hQ:∀d,Q d->A d):RelT w A (.lst sz b xs) v:=by
 obtain⟨a,cap,rfl,h2,h3,_,h5⟩:=h
 simp only [RelT]
 cases a with
 | none=>
  rcases h5 with rfl | ⟨_,_,_,_,e,_⟩
  ·have:xs= []:=List.length_eq_zero_iff.1 (by omega)
   subst this
   exact .inl ⟨h3.1 rfl,rfl,rfl⟩
  ·cases e
 | some a=>
  have hb:b=false:=by
   cases b with
   | false=>rfl
   | true=>have:=h3.2 rfl;cases this
  obtain⟨blk,off,sp⟩:=a
  right
  rcases h5 with rfl | ⟨blk',off',arr,t,e,g1,g2,g3,g4⟩
  ·have:xs= []:=List.length_eq_zero_iff.1 (by omega)
   subst this
   exact⟨hb,blk,off,sp,0,rfl,h2, .inl rfl,by simp [RelEls]⟩
  ·cases e
   exact⟨hb,blk,off,none,cap,rfl,h2, .inr ⟨rfl,hQ _ g1⟩,g4⟩
theorem RelAt.of_get{blk:Nat}:∀{cs:List T} {off:Nat},(∀(j:Nat) (x:T),cs[j]? =some x->∃v,w.cell? ⟨blk,off+j,none⟩=some v/\RelT w A x v)->RelAt w A blk off cs
 | [],_,_=>by simp [RelAt]
 | x::cs,off,h=>by
  simp only [RelAt]
  refine⟨by simpa using h 0 x rfl,RelAt.of_get fun j y hj=> ?_⟩
  have:=h (j+1) y (by simpa using hj)
  rw [show off+1+j=off+ (j+1) by omega];exact this
theorem tP{i:Id}{blk sz col rsz:Nat}:∀{es:List Row} {base:Nat},eE es=true->RowsAt w A ρ O i blk sz col rsz base es->(∀e∈es,∀d,O (.g i e.n)=some d->A d)->RelEls w A blk sz base (es.map (kW col rsz))
 | [],_,_,_,_=>by simp [RelEls]
 | e::es,base,hao,hr,hd=>by
  simp only [eE,List.all_cons,Bool.and_eq_true] at hao
  obtain⟨hr1,hr2⟩:=hr
  simp only [List.map_cons,RelEls]
  obtain⟨a1,a2,a3,u,a4,a5,a7⟩:=hr1
  have key:∃x,kW col rsz e=e.cs.set col x/\RelT w A x u:=by
   obtain⟨en,ecs,eo⟩:=e
   cases eo with
   | none=>simp at hao
   | some p=>
    refine⟨_,rfl, ?_⟩
    exact SlAt.toT a7 fun d hq=>hd _ List.mem_cons_self d hq
  obtain⟨x,hx,hu⟩:=key
  rw [hx]
  refine⟨by rw [List.length_set];exact a1,RelAt.of_get fun j y hj=> ?_,tP hao.2 hr2 fun f hf=>hd f (List.mem_cons_of_mem _ hf)⟩
  rw [List.getElem?_set] at hj
  split at hj
  ·rename_i e1;subst e1
   split at hj
   ·cases hj;exact⟨u,a4,hu⟩
   ·cases hj
  ·rename_i e1
   exact a3 j y (fun e=>e1 e.symm) hj
theorem HS.shutRows{i:Id}{b:Bool}{sz col rsz nx:Nat}{es:List Row}(hs:HS c w h ρ O)(hi:h i=some (.rows b sz col rsz nx es))(hao:eE es=true):
  ∃O',Le w ρ O w ρ O'/\HS c w (upd h i (some (.sl true sz b (es.map (kW col rsz))))) ρ O':=by
 classical
 have hri:=hs.real (i:=i) (by rw [hi];simp)
 let Q:Id->Option Nat:=fun x=>if Of [i] x then none else O x
 have Q1:Q i=none:=if_pos (.inl List.mem_cons_self)
 have Q2:∀n,Q (.g i n)=none:=fun n=>if_pos (.inr ⟨i,n,List.mem_cons_self,rfl⟩)
 have Q3:∀x d,Q x=some d->O x=some d/\¬Of [i] x:=by
  intro x d hx
  simp only [Q] at hx
  split at hx
  ·cases hx
  ·rename_i hn;exact⟨hx,hn⟩
 have Q4:∀x,x.real=true->x≠i->Q x=O x:=by
  intro x hr hx
  refine if_neg ?_
  rintro(hm | ⟨j,n,_,rfl⟩)
  ·exact hx (List.mem_singleton.1 hm)
  ·cases hr
 have Q5:∀x n,x≠i->Q (.g x n)=O (.g x n):=by
  intro x n hx
  refine if_neg ?_
  rintro(hm | ⟨j,m,hj,e⟩)
  ·rw [<-List.mem_singleton.1 hm] at hri;cases hri
  ·simp only [Id.g.injEq] at e
   exact hx (e.1.trans (List.mem_singleton.1 hj))
 have le:Le w ρ O w ρ Q:=⟨rfl,rfl,rfl,Nat.le_refl _,fun _ _ h=>h,fun _ _ _=>rfl,fun x d hx=> .inl ⟨x,(Q3 x d hx).1⟩⟩
 have hAi:∀x d,Of [i] x->O x=some d->AA c w Q d:=by
  intro x d hx hd
  refine⟨.inr (hs.own x d hd),hs.lt x d hd,fun y hy=> ?_⟩
  obtain⟨k1,k2⟩:=Q3 y d hy
  exact k2 (hs.inj x y d hd k1▸hx)
 refine⟨Q,le,hs.goG le (fun x y hx=> ?_) (fun x hr hx=> ?_) (fun x n=>by rw [ab _ _ (ai hri)];exact hs.nog x n) (fun x n hx=> ?_) hs.gone (fun x y d hx hy=>hs.inj x y d (Q3 x d hx).1 (Q3 y d hy).1) (fun x d hx=>hs.lt x d (Q3 x d hx).1)⟩
 ·by_cases e:x=i
  ·subst e;rw [upd_same] at hx;cases hx
   right
   obtain⟨a,cap,r1,r2,r3,r4,r5⟩:=hs.blk x _ hi
   refine⟨_,r1,⟨a,cap,by rw [List.length_map],by rw [List.length_map];exact r2,r3,trivial, ?_⟩,fun _=>Q1⟩
   rcases r5 with r5 | ⟨blk,off,arr,t,q1,q2,q3,q4,q5⟩
   ·exact .inl r5
   ·refine .inr ⟨blk,off,arr,t,q1,by simp only [if_true];exact hAi x blk (.inl List.mem_cons_self) q2,q3,q4, ?_⟩
    refine tP (ρ:=ρ) (O:=O) (i:=x) hao (RowsAt.move (fun b hb=>le.A b hb) (fun _ _=>rfl) (fun f _=>⟨rfl,rfl,fun _ _=>rfl⟩) q5) fun f hf d hd=>hAi _ d (.inr ⟨x,f.n,List.mem_cons_self,rfl⟩) hd
  ·rw [ab _ _ e] at hx
   have hrx:=hs.real (i:=x) (by rw [hx];simp)
   exact .inl ⟨hx,Q4 x hrx e,fun _ _=>rfl,fun n=>⟨rfl,Q5 x n e,fun _ _=>rfl⟩⟩
 ·have hne:x≠i:=fun e=>by rw [e,upd_same] at hx;cases hx
  rw [ab _ _ hne] at hx
  rw [Q4 x hr hne];exact hs.nodom x hr hx
 ·have hne:x≠i:=fun e=>by rw [e,upd_same] at hx;cases hx
  rw [ab _ _ hne] at hx
  rw [Q5 x n hne];exact hs.gdom x n hx
theorem pZ{R:Type}:∀{l:List Id} {h:Id->Option Blk} {O:Id->Option Nat} {K:Upd->Option R} {r:R},HS c w h ρ O->jX h l K=some r->∃us O',K us=some r/\Le w ρ O w ρ O'/\HS c w (ae h us) ρ O'
 | [],h,O,K,r,hs,e=>⟨[],O,e,Le.refl,hs⟩
 | i::l,h,O,K,r,hs,e=>by
  simp only [jX] at e
  split at e
  ·rename_i b sz col rsz nx es hi
   replace e:=ah e (.inl rfl);obtain⟨_,hao,e⟩:=e
   have hao:eE es=true:=by
    split at hao
    ·assumption
    ·cases hao
   obtain⟨O1,le1,hs1⟩:=hs.shutRows hi hao
   obtain⟨us,O2,e,le2,hs2⟩:=pZ hs1 e
   exact⟨_,O2,e,le1.trans le2,by rw [aO];exact hs2⟩
  ·exact pZ hs e
theorem tL{f:FuncId}{fn:Func}{nt:Nat}{m:Nat×Nat}{B:Nat->Option Value}{xs:List T}{a:Act}(hB:Still m.1 B ρ)(sim:Sim c nt w s ρ O a)(h:mR P An f fn m s=some xs):
  ∃v,(results fn a.tmps).run P w= .ok v w/\Fin P c B (aP P An f m.2 fn) (bY An f m.2) xs (bK O) w v w:=by
 unfold mR at h
 cases hr:(aP P An f m.2 fn).any uW with
 | true=>rw [hr,cond_true] at h;exact tW hB sim h
 | false=>
  rw [hr,cond_false] at h
  obtain⟨us,O1,h,le1,hs1⟩:=pZ sim.hs h
  obtain⟨v,h1,h2⟩:=tW hB (sim.silent le1 hs1) h
  exact⟨v,h1,Fin.le le1 h2⟩
theorem ef(hm:P.follows .mixedOrders=true)(hO:cH P An Or)(hN:hJ P An Or){f:FuncId}{fn:Func}{m:Nat×Nat}{B:Nat->Option Value}(hfn:P.funcs[f]? =some fn):∀{n:Nat} {cut:Bool} {todo:List Item} {xs:List T} {w:World} {s:St} {ρ:Id->Option Value} {O:Id->Option Nat} {a:Act},
  Still m.1 B ρ->Sim c fn.ntmps w s ρ O a->Bare s->ev P An Or f fn m n cut todo s=some xs->Ends P f fn todo a w (Fin P c B (aP P An f m.2 fn) (bY An f m.2) xs (bK O) w)
 | 0,cut,todo,xs,w,s,ρ,O,a,hB,sim,hb,e=>by simp [ev] at e
 | n+1,cut,[],xs,w,s,ρ,O,a,hB,sim,hb,e=>by
  simp only [ev] at e
  obtain⟨v,h1,h2⟩:=tL hB sim e
  exact fun b hbf hk cs=>⟨a,w,v,[], .one step_end,sim.defers,h1,h2⟩
 | n+1,cut, .code .skip::k,xs,w,s,ρ,O,a,hB,sim,hb,e=>by
  simp only [ev] at e
  exact Ends.step (fun b cs=>step_skip) (ef hm hO hN hfn hB sim hb e)
 | n+1,cut, .code (.seq x y)::k,xs,w,s,ρ,O,a,hB,sim,hb,e=>by
  simp only [ev] at e
  exact Ends.step (fun b cs=>step_seq) (ef hm hO hN hfn hB sim hb e)
 | n+1,cut, .code (.region id ops draw)::k,xs,w,s,ρ,O,a,hB,sim,hb,e=>by
  simp only [ev] at e
  split at e
  ·rename_i live _
   exact pJ (todo:= .code (.region id ops draw)::k) hN hfn hB sim e
  ·obtain⟨s',e,hreg⟩:=B9 hm hO sim hb e
   refine Ends.region (hreg _ fun a' w' ρ' O' le sim'=>⟨rfl, ?_⟩)
   exact(ef hm hO hN hfn (hB.le le.rho) sim' (Dz _) e).mono fun v w'' hfin=>hfin.le le
 | n+1,cut, .code (.cond x p q)::k,xs,w,s,ρ,O,a,hB,sim,hb,e=>by
  simp only [ev] at e
  replace e:=Option.bind_eq_some_iff.1 e;obtain⟨y,hy,e⟩:=e
  replace e:=ah e (.inl rfl);obtain⟨t,ht,e⟩:=e
  have hx:=SS.get (h:=s.h) sim.ss (g:=none) trivial x
  rw [show(⟨s.t,s.h⟩:St)=s from rfl,AV.t?_eq hy,T.bool?_eq ht] at hx
  simp only [RelV,RelT] at hx
  refine Ends.step (todo':= .code (if t then p else q)::k) (fun b cs=>step_cond hx) ?_
  cases t with
  | true=>exact ef hm hO hN hfn hB sim hb e
  | false=>exact ef hm hO hN hfn hB sim hb e
 | n+1,cut, .code (.block id b)::k,xs,w,s,ρ,O,a,hB,sim,hb,e=>by
  simp only [ev] at e
  exact Ends.step (fun b cs=>step_block) (ef hm hO hN hfn hB sim hb e)
 | n+1,cut, .code (.loop b)::k,xs,w,s,ρ,O,a,hB,sim,hb,e=>by
  simp only [ev] at e
  split at e
  ·exact Ends.step (fun b cs=>step_loop) (pJ (todo:= .inLoop b::k) hN hfn hB sim e)
  ·simp at e
 | n+1,cut, .code (.exit id)::k,xs,w,s,ρ,O,a,hB,sim,hb,e=>by
  simp only [ev] at e
  split at e
  ·rename_i k' hk
   exact Ends.step (fun b cs=>step_exit hk) (ef hm hO hN hfn hB sim hb e)
  ·simp at e
 | n+1,cut, .code .ret::k,xs,w,s,ρ,O,a,hB,sim,hb,e=>by
  simp only [ev] at e
  obtain⟨v,h1,h2⟩:=tL hB sim e
  exact fun b hbf hk cs=>⟨a,w,v,_, .one step_ret,sim.defers,h1,h2⟩
 | n+1,cut, .inBlock id::k,xs,w,s,ρ,O,a,hB,sim,hb,e=>by
  simp only [ev] at e
  exact Ends.step (fun b cs=>step_inBlock) (ef hm hO hN hfn hB sim hb e)
 | n+1,cut, .inLoop b::k,xs,w,s,ρ,O,a,hB,sim,hb,e=>by
  simp only [ev] at e
  split at e
  ·exact Ends.step (fun b cs=>step_inLoop) (pJ (todo:= .inLoop b::k) hN hfn hB sim e)
  ·simp at e
 | n+1,cut, .code (.label _)::k,xs,w,s,ρ,O,a,hB,sim,hb,e=>by simp [ev] at e
 | n+1,cut, .code (.goto _)::k,xs,w,s,ρ,O,a,hB,sim,hb,e=>by simp [ev] at e
theorem A5{ρ1:Id->Option Value}{vals:List AV}{args:List Value}(hv:RelVs w A ρ1 vals args)(m k:Nat):RelV w A ρ1 (vals.getD k .top) ((args.toArray++Array.replicate m undef).getD k undef):=by
 have e:(args.toArray++Array.replicate m undef).getD k undef= (args++List.replicate m undef).getD k undef:=by
  rw [Array.getD_eq_getD_getElem?,List.getD_eq_getElem?_getD,<-Array.getElem?_toList]
  simp
 rw [e,List.getD_eq_getElem?_getD,List.getD_eq_getElem?_getD]
 cases hk:vals[k]? with
 | none=>simp [RelV]
 | some v=>
  obtain⟨u,hu,hr⟩:=hv.get hk
  have hlt:k < args.length:=(List.getElem?_eq_some_iff.1 hu).1
  rw [List.getElem?_append_left hlt,hu]
  exact hr
theorem Bu(hX:ESound P An)(hm:P.follows .mixedOrders=true)(hn:∀(f:FuncId) (fn:Func),P.funcs[f]? =some fn->fn.name≠ "runtime.NumGoroutine")(hO:cH P An Or)(hN:hJ P An Or):cH P An (stepO P An Or):=by
 intro f vals blks xs e
 simp only [stepO] at e
 split at e
 ·rename_i r hr
  exact hX f vals blks xs (hr.trans e)
 split at e
 ·rename_i fn hfn
  split at e
  ·rename_i body hbody
   split at e
   ·rename_i hlen
    refine⟨fn,body,hfn,hbody,hn f fn hfn,fun c w ρ O args hN0 hs hrel=> ?_⟩
    have hl:=hrel.length
    have eh:(lM vals blks).h=cX blks:=by funext i;cases i <;> rfl
    have sim:Sim c fn.ntmps w (lM vals blks) ρ O {tmps:=args.toArray++Array.replicate (fn.ntmps - args.toArray.size) undef,defers:= []}:=by
     refine⟨by rw [eh];exact hs,fun k=>A5 hrel _ k, ?_,rfl⟩
     simp only [Array.size_append,List.size_toArray,Array.size_replicate];omega
    have hbare:Bare (lM vals blks):=by intro k g v e;simp [lM] at e
    have hB:Still (blks.length,ce blks.head?).1 (gI blks.length ρ) ρ:=by
     intro j hj
     simp only at hj
     have hj':cX blks (.c j)=some blks[j]:=by simp [cX,hj]
     obtain⟨v,hv,_⟩:=hs.someRho hj'
     exact⟨v,by simp [gI,hj,hv],hv⟩
    refine(CQ hfn hbody (ef hm hO hN hfn hB sim hbare e)).mono fun e w' ⟨v,he,hfin⟩=> ?_
    obtain⟨rs,x1,x2,o1,o2,hv,hx,hnd,hown,hr,ho⟩:=hfin.res
    exact⟨rs,x1,x2,o1,o2,by rw [he,hv],⟨hfin.os,hfin.output,hfin.tape,hfin.size,hfin.blk⟩,hx,hnd,hown,hr,ho⟩
   ·simp at e
  ·simp at e
 ·simp at e
theorem Ds(hm:P.follows .mixedOrders=true)(hO:cH P An Or)(hN:hJ P An Or):hJ P An (stepO P An Or):=by
 intro f fn todo live m vals blks xs e hfn c w ρ O a B hB sim
 simp only [stepO,hfn] at e
 split at e
 ·exact ef hm hO hN hfn hB sim (vI _ _ _) e
 ·rename_i hne
  have:lO todo=todo:=by
   unfold lO
   split
   ·rename_i b k;exact(hne b k rfl).elim
   ·rfl
  rw [this]
  exact ef hm hO hN hfn hB sim (vI _ _ _) e
theorem wQ(hX:ESound P An)(hm:P.follows .mixedOrders=true)(hn:∀(f:FuncId) (fn:Func),P.funcs[f]? =some fn->fn.name≠ "runtime.NumGoroutine"):∀n,cH P An (cB P An n)/\hJ P An (cB P An n)
 | 0=>⟨fun _ _ _ _ e=>by simp [cB] at e,fun _ _ _ _ _ _ _ _ e=>by simp [cB] at e⟩
 | n+1=>by
  obtain⟨h1,h2⟩:=wQ hX hm hn n
  exact⟨Bu hX hm hn h1 h2,Ds hm h1 h2⟩
theorem xz{k:Key}{vs:List AV}{bs:List Blk}{r:List T}(e:orc P An k vs bs=some r):∃n,cB P An n k vs bs=some r:=by
 unfold orc at e
 split at e
 ·rename_i hex
  simp only [Option.some.injEq] at e
  exact⟨_,by rw [<-e];exact Classical.choose_spec (Classical.choose_spec hex)⟩
 ·simp at e
theorem AG(hX:ESound P An)(hm:P.follows .mixedOrders=true)(hn:∀(f:FuncId) (fn:Func),P.funcs[f]? =some fn->fn.name≠ "runtime.NumGoroutine"):cH P An (orc P An):=by
 intro f vals blks xs e
 obtain⟨n,e⟩:=xz e
 exact(wQ hX hm hn n).1 f vals blks xs e
end
open Go
abbrev Ask:=Key×List AV×List Blk×List T
def qE(O:Orc)(L:List Ask):Prop:= ∀q∈L,O q.1 q.2.1 q.2.2.1=some q.2.2.2
def Det{R:Type}(F:Orc->Option R):Prop:= ∀O r,F O=some r->∃L,qE O L/\∀O',qE O' L->F O'=some r
section
variable {P:Program} {A:Ann} {R S:Type}
theorem Det.const(m:Option R):Det (fun _=>m):=fun _ r h=>⟨[],(by intro q hq;cases hq),fun _ _=>h⟩
theorem Det.bind{F:Orc->Option R}{G:R->Orc->Option S}(h1:Det F)(h2:∀a,Det (G a)):Det (fun O=>(F O).bind fun a=>G a O):=by
 intro O r h
 obtain⟨a,ha,h⟩:=Option.bind_eq_some_iff.1 h
 obtain⟨L1,e1,g1⟩:=h1 O a ha
 obtain⟨L2,e2,g2⟩:=h2 a O r h
 refine⟨L1++L2,fun q hq=> ?_,fun O' hO=> ?_⟩
 ·rcases List.mem_append.1 hq with hq | hq
  ·exact e1 q hq
  ·exact e2 q hq
 ·have:=g1 O' (fun q hq=>hO q (List.mem_append_left _ hq))
  simp only [this,Option.bind_some]
  exact g2 O' (fun q hq=>hO q (List.mem_append_right _ hq))
theorem Det.ask(k:Key)(vs:List AV)(bs:List Blk):Det (fun O=>O k vs bs):=fun O r h=>⟨[(k,vs,bs,r)],(by intro q hq;simp only [List.mem_singleton] at hq;subst hq;exact h),
 fun O' hO=>hO _ (List.mem_singleton.2 rfl)⟩
theorem Det.cond{b:Bool}{F G:Orc->Option R}(h1:Det F)(h2:Det G):Det (fun O=>cond b (F O) (G O)):=by cases b <;> assumption
theorem Det.ite{p:Prop}[Decidable p]{F G:Orc->Option R}(h1:Det F)(h2:Det G):Det (fun O=>if p then F O else G O):=by
 by_cases hp:p
 ·simp only [hp,if_true];exact h1
 ·simp only [hp,if_false];exact h2
theorem Det.gdK{α:Type}[Inhabited α]{c:Option Bool}{m:Option α}{K:α->Orc->Option R}(h:∀a,Det (K a)):Det (fun O=>gdK c m fun a=>K a O):=by
 unfold Aev.gdK
 cases m with
 | some a=>exact h a
 | none=>cases c with
  | none=>exact Det.const none
  | some b=>exact Det.cond (Det.const none) (h default)
theorem Det.typK{k:Ck}{c:Option Bool}{x:T}{K:T->Orc->Option R}(h:∀a,Det (K a)):Det (fun O=>typK k c x fun a=>K a O):=by
 unfold Aev.typK
 cases k <;> (try dsimp only)
 case x=>exact h x
 all_goals exact Det.gdK fun a=>h _
theorem Det.typKs{c:Option Bool}:∀{ks:List Ck} {xs:List T} {K:List T->Orc->Option R},(∀a,Det (K a))->Det (fun O=>typKs c ks xs fun a=>K a O)
 | [],xs,K,h=>h xs
 | _::_,[],K,h=>h []
 | k::ks,x::xs,K,h=>by
  simp only [Aev.typKs]
  exact Det.typK (K:=fun y O=>Aev.typKs c ks xs fun ys=>K (y::ys) O) fun y=>Det.typKs (K:=fun ys O=>K (y::ys) O) fun ys=>h _
theorem Det.typV{c:Option Bool}{t:TypeId}{v:AV}{K:AV->Orc->Option R}(h:∀a,Det (K a)):Det (fun O=>typV P c t v fun a=>K a O):=by
 unfold Aev.typV
 cases v <;> (try exact h _)
 case t x=>exact Det.typK (K:=fun y O=>K (.t y) O) fun y=>h _
 case agg vs=>
  dsimp only
  cases bx vs with
  | none=>exact h _
  | some l=>exact Det.typKs (K:=fun l O=>K (.agg (l.map .t)) O) fun y=>h _
theorem Det.typVs{c:Option Bool}:∀{ts:List TypeId} {vs:List AV} {K:List AV->Orc->Option R},(∀a,Det (K a))->Det (fun O=>typVs P c ts vs fun a=>K a O)
 | [],vs,K,h=>h vs
 | _::_,[],K,h=>h []
 | t::ts,v::vs,K,h=>by
  simp only [Aev.typVs]
  exact Det.typV (K:=fun u O=>Aev.typVs P c ts vs fun us=>K (u::us) O) fun u=>Det.typVs (K:=fun us O=>K (u::us) O) fun us=>h _
theorem Det.callAV{s:St}{d:Nat}{c:Option Bool}{f:FuncId}{args:List AV}{K:AV->Upd->Option R}:Det (fun O=>callAV P A O s d c f args K):=by
 unfold Aev.callAV
 cases P.funcs[f]? with
 | none=>exact Det.const none
 | some fn=>
  dsimp only
  have e:∀(m:Option (List T)) (k:List T->Option R),Aev.gdK none m k=m.bind k:=by intro m k;cases m <;> rfl
  cases A.bref f with
  | none=>
   dsimp only
   refine Det.bind (F:=fun _=>dM ((aP P A f 0 fn).all iD) (A.deep f) s.h args) (Det.const _) fun p=> ?_
   simp only [e]
   refine Det.typVs fun q=> ?_
   refine Det.bind (F:=fun O=>bq c (O (.call f) q [])) ?_ fun xs=>Det.const _
   unfold bq
   cases c with
   | none=>exact Det.ask _ _ _
   | some b=>exact Det.cond (Det.ask _ _ _) (Det.const _)
  | some fl=>
   cases c with
   | some b=>exact Det.const none
   | none=>
    dsimp only
    refine Det.bind (F:=fun _=>eP s.h (rY fl args) fl args) (Det.const _) fun p=> ?_
    refine Det.bind (F:=fun _=>cS (2000000+d) 0 (ae s.h p.2) (fj (ix (aD p.1) []) (bY A f (ce ((aD p.1).head?.bind (ae s.h p.2)))))) (Det.const _) fun us=> ?_
    refine Det.bind (F:=fun _=>bB (ae (ae s.h p.2) us) 1000 (aD p.1) []) (Det.const _) fun seen=> ?_
    refine Det.cond ?_ (Det.const none)
    simp only [e]
    refine Det.typVs fun q=> ?_
    exact Det.bind (Det.ask _ _ _) fun xs=>Det.const _
theorem Det.callL{lend:Bool}{s:St}{d:Nat}{c:Option Bool}{f:FuncId}{args:List AV}{K:AV->Upd->Option R}:Det (fun O=>callL lend P A O s d c f args K):=by
 unfold Aev.callL
 cases _root_.cond lend (fg args) none with
 | none=>exact Det.callAV
 | some q=>
  obtain⟨l1,i,n,l2⟩:=q
  cases c with
  | some b=>exact Det.const none
  | none=>
   dsimp only
   cases s.h i with
   | none=>exact Det.const none
   | some b=>
    cases b with
    | rows b sz col rsz nx es=>
     dsimp only
     cases cf n es with
     | none=>exact Det.const none
     | some p=>exact Det.cond Det.callAV (Det.const none)
    | _=>exact Det.const none
theorem Det.aopD{g:Option Gs}{o:Oper}{s:St}:Det (fun O=>aopD P A O g o s):=by
 unfold Aev.aopD aop
 cases o.op <;> (try dsimp only) <;> try exact Det.const _
 case makeFunc fn a b=>cases fn <;> (try dsimp only) <;> exact Det.const _
 case call cl=>
  cases cl.callee <;> (try dsimp only)
  case value fo=>
   cases s.get g fo <;> (try dsimp only) <;> first | exact Det.callL | exact Det.const _
  case builtin b=>cases b <;> (try dsimp only) <;> exact Det.const _
  all_goals exact Det.const _
theorem Det.oneD{draw:Bool}{nt:Nat}{ops:Array Oper}{o:Oper}{s:St}:Det (fun O=>oneD P A O draw nt ops o s):=by
 unfold Aev.oneD gB
 have key:∀{G:Orc->Option Gs->Option St},(∀g,Det (fun O=>G O g))->Det (fun O=>aT ops o s (G O)):=fun{G} hG=>by
  rw [show(fun O=>aT ops o s (G O))=fun O=>(aT ops o s some).bind (G O) from funext fun O=>ma _ _ _ _]
  exact Det.bind (Det.const _) hG
 refine key fun g=> ?_
 cases gM A draw o g with
 | none=>
  simp only [iJ]
  exact Det.bind Det.aopD fun p=>Det.const _
 | some gs=>
  simp only [iJ]
  exact Det.cond (Det.cond (Det.bind Det.aopD fun p=>Det.const _) (Det.const _)) (Det.const _)
theorem Det.ropsD{draw:Bool}{nt:Nat}{ops:Array Oper}:∀(l:List Oper) (s:St),Det (fun O=>ropsD P A O draw nt ops l s)
 | [],s=>Det.const _
 | o::r,s=>Det.bind (F:=fun O=>Aev.oneD P A O draw nt ops o s) Det.oneD fun s'=>Det.ropsD r s'
theorem Det.region{nt:Nat}{draw:Bool}{ops:Array Oper}{s:St}{K:St->Orc->Option R}(h:∀s,Det (K s)):Det (fun O=>region P A O nt draw ops s fun s'=>K s' O):=by
 unfold Aev.region
 refine Det.cond ?_ (Det.const none)
 have:(fun O=>lK P A O draw nt ops ops.toList s fun s'=>K s'.clear O)=fun O=>(Aev.ropsD P A O draw nt ops ops.toList s).bind fun s'=>K s'.clear O:=by
  funext O;rw [rC]
 rw [this]
 exact Det.bind (Det.ropsD _ _) fun s'=>h _
theorem Det.toNode{f:FuncId}{todo:List Item}{live:List (Nat×Option Nat)}{m:Nat×Nat}{s:St}:Det (fun O=>toNode O f todo live m s):=by
 unfold Aev.toNode
 refine Det.bind (Det.const _) fun us=> ?_
 unfold Aev.toNode1
 refine Det.bind (Det.const _) fun p=>Det.ite ?_ (Det.const none)
 exact Det.bind (Det.const _) fun seen=>Det.ask _ _ _
theorem Det.ev{f:FuncId}{fn:Func}{m:Nat×Nat}:∀(n:Nat) (cut:Bool) (todo:List Item) (s:St),Det (fun O=>ev P A O f fn m n cut todo s)
 | 0,cut,todo,s=>by simp only [Aev.ev];exact Det.const none
 | n+1,cut,[],s=>by simp only [Aev.ev];exact Det.const _
 | n+1,cut, .code .skip::k,s=>by simp only [Aev.ev];exact Det.ev n _ _ _
 | n+1,cut, .code (.seq x y)::k,s=>by simp only [Aev.ev];exact Det.ev n _ _ _
 | n+1,cut, .code (.region id ops draw)::k,s=>by
  simp only [Aev.ev]
  cases hj:(bif cut then A.join f id else none) with
  | some live=>exact Det.toNode
  | none=>exact Det.region fun s'=>Det.ev n _ _ _
 | n+1,cut, .code (.cond x p q)::k,s=>by
  simp only [Aev.ev]
  refine Det.bind (F:=fun _=>(s.get none x).t?) (Det.const _) fun y=>Det.gdK fun t=>Det.cond (Det.ev n _ _ _) (Det.ev n _ _ _)
 | n+1,cut, .code (.block id b)::k,s=>by simp only [Aev.ev];exact Det.ev n _ _ _
 | n+1,cut, .code (.loop b)::k,s=>by
  simp only [Aev.ev]
  cases A.live f (rid b) with
  | some live=>exact Det.toNode
  | none=>exact Det.const none
 | n+1,cut, .code (.exit id)::k,s=>by
  simp only [Aev.ev]
  cases exitTo id k with
  | some k'=>exact Det.ev n _ _ _
  | none=>exact Det.const none
 | n+1,cut, .code .ret::k,s=>by simp only [Aev.ev];exact Det.const _
 | n+1,cut, .inBlock id::k,s=>by simp only [Aev.ev];exact Det.ev n _ _ _
 | n+1,cut, .inLoop b::k,s=>by
  simp only [Aev.ev]
  cases A.live f (rid b) with
  | some live=>exact Det.toNode
  | none=>exact Det.const none
 | n+1,cut, .code (.label _)::k,s=>by simp only [Aev.ev];exact Det.const _
 | n+1,cut, .code (.goto _)::k,s=>by simp only [Aev.ev];exact Det.const _
 | n+1,cut, .code (.rangeFunc ..)::k,s=>by simp only [Aev.ev];exact Det.const _
 | n+1,cut, .code (.scope _)::k,s=>by simp only [Aev.ev];exact Det.const _
 | n+1,cut, .code (.refuse _)::k,s=>by simp only [Aev.ev];exact Det.const _
 | n+1,cut, .inRegion ..::k,s=>by simp only [Aev.ev];exact Det.const _
 | n+1,cut, .inScope _::k,s=>by simp only [Aev.ev];exact Det.const _
 | n+1,cut, .inRangeFunc _::k,s=>by simp only [Aev.ev];exact Det.const _
 | n+1,cut, .endRangeFunc _::k,s=>by simp only [Aev.ev];exact Det.const _
 | n+1,cut, .beginRound::k,s=>by simp only [Aev.ev];exact Det.const _
 | n+1,cut, .extern ..::k,s=>by simp only [Aev.ev];exact Det.const _
 | n+1,cut, .call ..::k,s=>by simp only [Aev.ev];exact Det.const _
theorem Det.stepO(k:Key)(vs:List AV)(bs:List Blk):Det (fun O=>stepO P A O k vs bs):=by
 cases k with
 | call f=>
  simp only [Aev.stepO]
  cases A.ext f vs bs with
  | some r=>exact Det.const _
  | none=>
   dsimp only
   cases P.funcs[f]? with
   | none=>exact Det.const _
   | some fn=>
    dsimp only
    cases fn.body with
    | none=>exact Det.const _
    | some c=>exact Det.ite (Det.ev _ _ _ _) (Det.const _)
 | node f todo live m=>
  simp only [Aev.stepO]
  cases P.funcs[f]? with
  | none=>exact Det.const _
  | some fn=>
   dsimp only
   split
   ·exact Det.ev _ _ _ _
   ·exact Det.ev _ _ _ _
theorem uG:∀(n:Nat) {k:Key} {vs:List AV} {bs:List Blk} {r:List T},cB P A n k vs bs=some r->cB P A (n+1) k vs bs=some r
 | 0,k,vs,bs,r,h=>by simp [cB] at h
 | n+1,k,vs,bs,r,h=>by
  obtain⟨L,e,g⟩:=Det.stepO (P:=P) (A:=A) k vs bs _ r h
  exact g _ fun q hq=>uG n (e q hq)
theorem lW{n m:Nat}(hnm:n<=m){k:Key}{vs:List AV}{bs:List Blk}{r:List T}(h:cB P A n k vs bs=some r):cB P A m k vs bs=some r:=by
 induction hnm with
 | refl=>exact h
 | step _ ih=>exact uG _ ih
theorem ze{n:Nat}{k:Key}{vs:List AV}{bs:List Blk}{r:List T}(h:cB P A n k vs bs=some r):orc P A k vs bs=some r:=by
 unfold orc
 have hex:∃n r,cB P A n k vs bs=some r:=⟨n,r,h⟩
 rw [dif_pos hex]
 have h2:=Classical.choose_spec (Classical.choose_spec hex)
 have a:=lW (Nat.le_max_left n (Classical.choose hex)) h
 have b:=lW (Nat.le_max_right n (Classical.choose hex)) h2
 rw [a] at b
 exact b.symm
theorem aa{k:Key}{vs:List AV}{bs:List Blk}{r:List T}(h:stepO P A (orc P A) k vs bs=some r):orc P A k vs bs=some r:=by
 obtain⟨L,e,g⟩:=Det.stepO (P:=P) (A:=A) k vs bs _ r h
 have:∃n,qE (cB P A n) L:=by
  clear g h
  induction L with
  | nil=>exact⟨0,(by intro q hq;cases hq)⟩
  | cons q L ih=>
   obtain⟨n,hn⟩:=ih fun q' hq=>e q' (List.mem_cons_of_mem _ hq)
   obtain⟨m,hm⟩:=xz (e q List.mem_cons_self)
   refine⟨max n m,fun q' hq=> ?_⟩
   rcases List.mem_cons.1 hq with rfl | hq
   ·exact lW (Nat.le_max_right _ _) hm
   ·exact lW (Nat.le_max_left _ _) (hn q' hq)
 obtain⟨n,hn⟩:=this
 exact ze (n:=n+1) (g _ hn)
end
open Go
section
variable {P:Program} {An:Ann} {w w':World}
theorem Keep.below(k:Keep w w'):Go.RowKit.Below w.heap.size w w':=⟨k.os,k.tape,k.output,k.size,k.blk⟩
theorem Az{f:FuncId}{fn:Func}{vals:List AV}{args:List Value}{A0:Nat->Prop}(hX:ESound P An)(hm:P.follows .mixedOrders=true)(hn:∀(f:FuncId) (fn:Func),P.funcs[f]? =some fn->fn.name≠ "runtime.NumGoroutine")
  (hfn:P.funcs[f]? =some fn) (hout:An.bref f=none) (hres:aP P An f 0 fn= [.f .b]) (hA:∀b,A0 b->b < w.heap.size) (hrel:RelVs w A0 (fun _=>none) vals args)
  (e:orc P An (.call f) vals []=some [.bool true]):Calls P f args.toArray w fun e w'=>e= .returned (.bool true)/\Go.RowKit.Below w.heap.size w w':=by
 obtain⟨fn',body,h1,_,_,h2⟩:=AG hX hm hn f vals [] _ e
 rw [hfn] at h1;simp only [Option.some.injEq] at h1;subst h1
 refine(h2.values hout A0 w args hA hrel).mono fun e w' ⟨rs,own,he,kp,_,_,hr⟩=> ?_
 rw [hres] at hr
 obtain⟨x,xs',v,vs',ob,own',e1,rfl,_,h3,e2,rfl,_⟩:=hr
 simp only [List.cons.injEq] at e1
 obtain⟨rfl,rfl⟩:=e1
 obtain⟨_,h4,_⟩:=h3
 simp only [RelT] at h4;subst h4
 exact⟨he,kp.below⟩
end
open Go
abbrev I(n:Int):AV:= .t (.int .i64 n)
abbrev B(b:Bool):AV:= .t (.bool b)
theorem gd1{α R:Type}[Inhabited α](c:Option Bool)(a:α)(k:α->Option R):gdK c (some a) k=k a:=by cases c <;> rfl
theorem gdF{α R:Type}[Inhabited α](m:Option α)(k:α->Option R):gdK (some false) m k=k (m.getD default):=by cases m <;> rfl
theorem hd1{α:Type}(x:α)(l:List α):(x::l).head? =some x:=by cases l <;> rfl
theorem tl1{α:Type}(x:α)(l:List α):(x::l).tail=l:=by cases l <;> rfl
theorem dr0{α:Type}(l:List α):l.drop 0=l:=by cases l <;> rfl
theorem dr1{α:Type}(x:α)(l:List α):(x::l).drop 1=l:=by cases l <;> rfl
theorem dr2{α:Type}(x y:α)(l:List α):(x::y::l).drop 2=l:=by cases l <;> rfl
theorem dr3{α:Type}(x y z:α)(l:List α):(x::y::z::l).drop 3=l:=by cases l <;> rfl
theorem dr4{α:Type}(x y z u:α)(l:List α):(x::y::z::u::l).drop 4=l:=by cases l <;> rfl
theorem dr5{α:Type}(x y z u v:α)(l:List α):(x::y::z::u::v::l).drop 5=l:=by cases l <;> rfl
theorem dr6{α:Type}(x y z u v t:α)(l:List α):(x::y::z::u::v::t::l).drop 6=l:=by cases l <;> rfl
theorem bo1(b:Bool):(T.bool b).bool? =some b:=by cases b <;> rfl
theorem in1(k:IntKind)(n:Int):(T.int k n).int? k=some n:=by cases k <;> simp [T.int?]
theorem st1(s:ByteArray):(T.str s).str? =some s:=by cases s;rfl
theorem ls1(sz:Nat)(b:Bool)(l:List (List T)):(T.lst sz b l).lst? sz=some (b,l):=by cases b <;> simp [T.lst?]
theorem le1(sz:Nat)(b:Bool):(T.emp b).lst? sz=some (b,[]):=by cases b <;> rfl
theorem pt1(l:List T):(T.ptr l).ptr? =some l:=by cases l <;> rfl
theorem fi1(k:IntKind)(n:Int):(T.int k n).flat? =some ():=by cases k <;> rfl
theorem fb1(b:Bool):(T.bool b).flat? =some ():=by cases b <;> rfl
theorem fs1(b:ByteArray):(T.str b).flat? =some ():=by cases b;rfl
theorem ct1{α:Type}(a b:α):cond true a b=a:=by simp
theorem cf1{α:Type}(a b:α):cond false a b=b:=by simp
theorem nt1:(!true)=false:=by decide
theorem nf1:(!false)=true:=by decide
theorem ak0(m:Option (List T)):bq none m=m:=by cases m <;> rfl
theorem akT(m:Option (List T)):bq (some true) m=m:=by cases m <;> rfl
theorem akF(m:Option (List T)):bq (some false) m=some []:=by cases m <;> rfl
theorem lI{α:Type}(p:Prop)[Decidable p](a b:α):(bif decide p then a else b)=if p then a else b:=by by_cases h:p <;> simp [h]
theorem ur{α:Type}(p:Prop)[Decidable p](a b:α):(bif !decide p then a else b)=if p then b else a:=by by_cases h:p <;> simp [h]
theorem ym{α:Type}(m n:Int)(a b:α):(bif m==n then a else b)=if m=n then a else b:=by
 by_cases h:m=n
 ·simp [h]
 ·have:(m==n)=false:=by simpa using h
  simp [h,this]
theorem wJ{α:Type}(m n:Int)(a b:α):(bif !m==n then a else b)=if m=n then b else a:=by
 by_cases h:m=n
 ·simp [h]
 ·have:(m==n)=false:=by simpa using h
  simp [h,this]
theorem bh(a b:Bool):(bif a then b else false)= (a && b):=by cases a <;> simp
theorem cor(a b:Bool):(bif a then true else b)= (a || b):=by cases a <;> simp
theorem wr{v:Int}(h: -9223372036854775808<=v/\v < 9223372036854775808):IntKind.i64.wrap v=v:=by
 simp [IntKind.wrap,IntKind.signed,IntKind.bits]
 omega
theorem STL:(type_of% @gd1)/\(type_of% @hd1)/\(type_of% @tl1)/\(type_of% @dr0)/\(type_of% @dr1)/\(type_of% @dr2)/\(type_of% @dr3)/\(type_of% @dr4)/\(type_of% @dr5)/\(type_of% @dr6)/\(type_of% @bo1)/\(type_of% @in1)/\(type_of% @st1)/\(type_of% @ls1)/\(type_of% @le1)/\(type_of% @pt1)/\(type_of% @fi1)/\(type_of% @fb1)/\(type_of% @fs1)/\(type_of% @ct1)/\(type_of% @cf1)/\(type_of% @nt1)/\(type_of% @nf1)/\(type_of% @ak0)/\(type_of% @akT)/\(type_of% @akF)/\(type_of% @lI)/\(type_of% @ur)/\(type_of% @ym)/\(type_of% @wJ)/\(type_of% @beq_self_eq_true.{0})/\(type_of% @Bool.and_true)/\(type_of% @Bool.true_and)/\(type_of% @Bool.false_and)/\(type_of% @Bool.and_false):=⟨@gd1,@hd1,@tl1,@dr0,@dr1,@dr2,@dr3,@dr4,@dr5,@dr6,@bo1,@in1,@st1,@ls1,@le1,@pt1,@fi1,@fb1,@fs1,@ct1,@cf1,@nt1,@nf1,@ak0,@akT,@akF,@lI,@ur,@ym,@wJ,@beq_self_eq_true.{0},@Bool.and_true,@Bool.true_and,@Bool.false_and,@Bool.and_false⟩
open Go Go.ChangeShapes Go.WideShapes Go.ChangeAt Go.RowKit
def jS(P:Program)(go:TypeId->Bool):List Field->Nat->Option Nat
 | [],off=>some off
 | f::r,off=>if f.offset=off/\go f.type=true then jS P go r (off+P.cellsOf f.type) else none
def okT(P:Program):Nat->TypeId->Bool
 | 0,_=>false
 | n+1,t=>match P.underlying t with
  | some .bool=>true
  | some (.int _)=>true
  | some .string=>true
  | some (.slice e)=>okT P n e && decide (0 < P.cellsOf e)
  | some (.struct fs)=>decide (jS P (okT P n) fs.toList 0=some (P.cellsOf t))
  | some (.array m e)=>okT P n e && decide (P.cellsOf t=m * P.cellsOf e)
  | _=>false
def WtF(W:TypeId->List T->Prop):List Field->List T->Prop
 | [],ts=>ts= []
 | f::r,ts=>∃a b,ts=a++b/\W f.type a/\WtF W r b
def WtA(W:List T->Prop):Nat->List T->Prop
 | 0,ts=>ts= []
 | m+1,ts=>∃a b,ts=a++b/\W a/\WtA W m b
def Wt(P:Program):Nat->TypeId->List T->Prop
 | 0,_,_=>False
 | n+1,t,ts=>match P.underlying t with
  | some .bool=>∃b,ts= [.bool b]
  | some (.int k)=>∃m,ts= [.int k m]/\(Lit.int k m).wf=true
  | some .string=>∃s,ts= [.str s]/\s.size<=maxLen
  | some (.slice e)=>∃b xs,ts= [.lst (P.cellsOf e) b xs]/\(b=true->xs= [])/\xs.length<=maxLen/\(∀cs∈xs,Wt P n e cs)/\xs.length * P.bytesOf e<=reachBytes
  | some (.struct fs)=>WtF (Wt P n) fs.toList ts
  | some (.array m e)=>WtA (Wt P n e) m ts
  | _=>False
section
variable {H:Type} {enc:TypeId×Value->H} {P:Program} {w:World} {base:Nat} {sp:Nat->Bool} {held:Bool}
def Fit{H:Type}(P:Program)(t:TypeId)(d:DataW H):Prop:= ∀k∈DataW.weights P t d,k<=reachBytes
theorem pu{H:Type}{P:Program}{e:TypeId}:∀{l:List (DataW H)} {d:DataW H},d∈l->∀k∈DataW.weights P e d,k∈DataW.weightsAll P e l
 | [],d,h,k,_=>by cases h
 | c::l,d,h,k,hk=>by
  simp only [DataW.weightsAll,List.mem_append]
  rcases List.mem_cons.1 h with rfl | h
  ·exact .inl hk
  ·exact .inr (pu h k hk)
theorem sE{H:Type}{P:Program}{us:List TypeId}{gs:List (DataW H)}{k:Nat}:∀{ts:List TypeId} {ds:List (DataW H)},k∈DataW.weightsEach P ts ds->k∈DataW.weightsEach P (ts++us) (ds++gs)
 | [],ds,h=>by simp [DataW.weightsEach] at h
 | t::ts,[],h=>by simp [DataW.weightsEach] at h
 | t::ts,d::ds,h=>by
  simp only [DataW.weightsEach,List.cons_append,List.mem_append] at h⊢
  exact h.imp id sE
theorem RelTs.append'{A:Nat->Prop}:∀{a b:List T} {vs us:List Value},RelTs w A a vs->RelTs w A b us->RelTs w A (a++b) (vs++us)
 | [],b,vs,us,h,h'=>by simp only [RelTs] at h;subst h;simpa using h'
 | c::a,b,vs,us,⟨v,r,e,h1,h2⟩,h'=>by subst e;exact⟨v,r++us,rfl,h1,RelTs.append' h2 h'⟩
theorem td{n m:Nat}(ih:∀(t:TypeId) (cs:List Value) (x:DataW H×List MemPlace),okT P n t=true->DataW.trod enc P w base sp held m t cs=some x->Fit P t x.1->
   ∃ts,RelTs w (fun b=>b < w.heap.size) ts cs/\Wt P n t ts) (cs:List Value):∀(fs:List Field) (off E:Nat),jS P (okT P n) fs off=some E->E<=cs.length->
   (∀f∈fs,∃x,DataW.trod enc P w base sp held m f.type ((cs.drop f.offset).take (P.cellsOf f.type))=some x/\Fit P f.type x.1)->
   off<=E/\∃ts,RelTs w (fun b=>b < w.heap.size) ts ((cs.drop off).take (E - off))/\WtF (Wt P n) fs ts
 | [],off,E,ht,hE,_=>by
  simp only [jS,Option.some.injEq] at ht;subst ht
  exact⟨Nat.le_refl _,[],by simp [RelTs],rfl⟩
 | f::fs,off,E,ht,hE,hr=>by
  simp only [jS] at ht
  split at ht
  ·rename_i hf
   obtain⟨e1,e2⟩:=hf
   obtain⟨x,hx,hfit⟩:=hr f List.mem_cons_self
   obtain⟨a,ra,wa⟩:=ih _ _ _ e2 hx hfit
   obtain⟨hle,b,rb,wb⟩:=td ih cs fs _ E ht hE fun g hg=>hr g (List.mem_cons_of_mem _ hg)
   refine⟨by omega,a++b, ?_,⟨a,b,rfl,wa,wb⟩⟩
   have e:(cs.drop off).take (E - off)= (cs.drop f.offset).take (P.cellsOf f.type)++ (cs.drop (off+P.cellsOf f.type)).take (E - (off+P.cellsOf f.type)):=by
    rw [e1,<-List.drop_drop]
    have:E - off=P.cellsOf f.type+ (E - (off+P.cellsOf f.type)):=by omega
    rw [this,List.take_add]
   rw [e]
   exact RelTs.append' ra rb
  ·cases ht
theorem wD{n m e:Nat}(ih:∀(t:TypeId) (cs:List Value) (x:DataW H×List MemPlace),okT P n t=true->DataW.trod enc P w base sp held m t cs=some x->Fit P t x.1->
   ∃ts,RelTs w (fun b=>b < w.heap.size) ts cs/\Wt P n t ts) (he:okT P n e=true):∀(k:Nat) (cs:List Value),cs.length=k * P.cellsOf e->
   (∀i,i < k->∃x,DataW.trod enc P w base sp held m e ((cs.drop (i * P.cellsOf e)).take (P.cellsOf e))=some x/\Fit P e x.1)->∃ts,RelTs w (fun b=>b < w.heap.size) ts cs/\WtA (Wt P n e) k ts
 | 0,cs,hl,_=>by
  have:cs= []:=List.length_eq_zero_iff.1 (by simpa using hl)
  subst this
  exact⟨[],rfl,rfl⟩
 | k+1,cs,hl,hr=>by
  obtain⟨x,hx,hfit⟩:=hr 0 (Nat.zero_lt_succ _)
  simp only [Nat.zero_mul,List.drop_zero] at hx
  obtain⟨a,ra,wa⟩:=ih _ _ _ he hx hfit
  obtain⟨b,rb,wb⟩:=wD ih he k (cs.drop (P.cellsOf e)) (by rw [List.length_drop,hl,Nat.succ_mul];omega) fun i hi=>by
   obtain⟨y,hy,hfit⟩:=hr (i+1) (by omega)
   refine⟨y, ?_,hfit⟩
   rw [List.drop_drop]
   have:P.cellsOf e+i * P.cellsOf e= (i+1) * P.cellsOf e:=by rw [Nat.succ_mul];omega
   rw [this];exact hy
  refine⟨a++b, ?_,⟨a,b,rfl,wa,wb⟩⟩
  have:=RelTs.append' ra rb
  rwa [List.take_append_drop] at this
theorem xn{A:Nat->Prop}{blk sz:Nat}{n e:Nat}:∀(len off:Nat),(∀i,i < len->∃ts cs',ts.length=sz/\RelTs w A ts cs'/\Wt P n e ts/\∀j v,cs'[j]? =some v->w.cell? ⟨blk,off+i * sz+j,none⟩=some v)->
  ∃xs:List (List T),xs.length=len/\RelEls w A blk sz off xs/\∀cs∈xs,Wt P n e cs
 | 0,off,_=>⟨[],rfl,trivial,(by intro c hc;cases hc)⟩
 | len+1,off,h=>by
  obtain⟨ts,cs',h1,h2,h3,h4⟩:=h 0 (Nat.zero_lt_succ _)
  obtain⟨xs,k1,k2,k3⟩:=xn (A:=A) (blk:=blk) (sz:=sz) (n:=n) (e:=e) len (off+sz) fun i hi=>by
   obtain⟨ts,cs',h1,h2,h3,h4⟩:=h (i+1) (by omega)
   refine⟨ts,cs',h1,h2,h3,fun j v hj=> ?_⟩
   have:=h4 j v hj
   have e:off+ (i+1) * sz+j=off+sz+i * sz+j:=by rw [Nat.succ_mul];omega
   rwa [e] at this
  refine⟨ts::xs,by simp [k1],⟨h1,RelAt.of_vals h2 fun j v hj=> ?_,k2⟩,fun c hc=> ?_⟩
  ·have:=h4 j v hj
   simpa using this
  ·rcases List.mem_cons.1 hc with rfl | hc
   ·exact h3
   ·exact k3 c hc
theorem oc:∀(n:Nat) (m:Nat) (t:TypeId) (cs:List Value) (x:DataW H×List MemPlace),okT P n t=true->DataW.trod enc P w base sp held m t cs=some x->Fit P t x.1->
  ∃ts,RelTs w (fun b=>b < w.heap.size) ts cs/\Wt P n t ts
 | 0,m,t,cs,x,hok,_,_=>by simp [okT] at hok
 | n+1,m,t,cs,x,hok,h,hfit=>by
  simp only [okT] at hok
  split at hok
  ·rename_i hu
   obtain⟨b,rfl,_⟩:=DataW.trod_bool hu h
   exact⟨[.bool b],⟨_,[],rfl,rfl,rfl⟩,by simp only [Wt,hu];exact⟨b,rfl⟩⟩
  ·rename_i k hu
   obtain⟨z,rfl,_,hw⟩:=DataW.trod_int hu h
   exact⟨[.int k z],⟨_,[],rfl,rfl,rfl⟩,by simp only [Wt,hu];exact⟨z,rfl,hw⟩⟩
  ·rename_i hu
   obtain⟨s,rfl,_,hw⟩:=DataW.trod_string hu h
   exact⟨[.str s],⟨_,[],rfl,rfl,rfl⟩,by simp only [Wt,hu];exact⟨s,rfl,hw⟩⟩
  ·rename_i e hu
   simp only [Bool.and_eq_true,decide_eq_true_eq] at hok
   obtain⟨hoke,hpos⟩:=hok
   rcases Go.Deep.open_slice hu h with⟨rfl,_⟩ | ⟨a,len,cap,k,n',D,Pl,rfl,hb,hl,hm,hk,rfl,hel⟩
   ·exact⟨[.lst (P.cellsOf e) true []],⟨_,[],rfl, .inl ⟨rfl,rfl,rfl⟩,rfl⟩,by simp only [Wt,hu];exact⟨true,[],rfl,fun _=>rfl,by simp,(by intro c hc;cases hc),by simp⟩⟩
   ·obtain⟨blk,off,s⟩:=a
    have hlk:len<=k:=by rw [hk];split <;> omega
    dsimp only at hfit
    have hbyt:len * P.bytesOf e<=reachBytes:=by
     have:=hfit ((len+ (k - len)) * P.bytesOf e) (by simp [DataW.weights,hu])
     exact Nat.le_trans (Nat.mul_le_mul_right _ (Nat.le_add_right _ _)) this
    have hfitE:∀i,i < len->Fit P e (D i):=fun i hi q hq=>hfit q (by
     simp only [DataW.weights,hu,List.mem_cons,List.mem_append]
     exact .inr (.inl (pu (List.mem_map.2 ⟨i,List.mem_range.2 hi,rfl⟩) q hq)))
    have spot: 0 < len->s=none/\blk < w.heap.size:=by
     intro h0
     obtain⟨cs',hc,_⟩:=hel 0 (by omega)
     obtain⟨hbase,hlen,hget⟩:=World.cells?_some hc
     have hc0:=World.cells?_block hc hpos
     have hc1:=hget 0 hpos
     have hadd:((⟨blk,off,s⟩:Addr).add (0 * P.cellsOf e)).add 0= ⟨blk,off,s⟩:=by simp [Addr.add]
     rw [hadd] at hc1
     have hc2:∃v,cs'[0]? =some v:=⟨_,List.getElem?_eq_getElem (by omega)⟩
     obtain⟨v,hv⟩:=hc2
     rw [hv] at hc1
     refine⟨?_, ?_⟩
     ·cases s with
      | none=>rfl
      | some z=>
       simp only [World.cell?] at hc1
       split at hc1 <;> simp at hc1
     ·have e:((⟨blk,off,s⟩:Addr).add (0 * P.cellsOf e))= ⟨blk,off,s⟩:=by simp [Addr.add]
      rw [e] at hc0
      exact hc0
    obtain⟨xs,k1,k2,k3⟩:=xn (P:=P) (w:=w) (A:=fun b=>b < w.heap.size) (blk:=blk) (sz:=P.cellsOf e) (n:=n) (e:=e) len off fun i hi=>by
     obtain⟨cs',hc,hd⟩:=hel i (by omega)
     obtain⟨hs,_⟩:=spot (by omega)
     subst hs
     obtain⟨ts,r1,r2⟩:=oc n n' e cs' _ hoke hd (hfitE i (by omega))
     obtain⟨hbase,hlen,hget⟩:=World.cells?_some hc
     refine⟨ts,cs',by rw [<-r1.length,hlen],r1,r2,fun j v hj=> ?_⟩
     have hj':j < P.cellsOf e:=by rw [<-hlen];exact(List.getElem?_eq_some_iff.1 hj).1
     have:=hget j hj'
     rw [hj,b8,b8] at this
     exact this
    refine⟨[.lst (P.cellsOf e) false xs],⟨_,[],rfl, .inr ⟨rfl,blk,off,s,cap,by rw [k1],by omega, ?_,k2⟩,rfl⟩,by simp only [Wt,hu];exact⟨false,xs,rfl,fun h=>(by cases h),by omega,k3,by rw [k1];exact hbyt⟩⟩
    by_cases h0:len=0
    ·left;exact List.length_eq_zero_iff.1 (by omega)
    ·right;exact spot (by omega)
  ·rename_i fs hu
   simp only [decide_eq_true_eq] at hok
   obtain⟨xs,n',rfl,rfl,hl,hsz,hf⟩:=DataW.trod_struct hu h
   dsimp only at hfit
   obtain⟨_,ts,r1,r2⟩:=td (fun t cs x=>oc n n' t cs x) cs fs.toList 0 _ hok (by omega) fun f hf'=>by
    obtain⟨i,hi,e⟩:=List.getElem_of_mem hf'
    have e':fs.toList[i]? =some f:=by rw [List.getElem?_eq_getElem hi,e]
    have:=hf i f (by rw [<-Array.getElem?_toList];exact e')
    rw [this]
    have hx:xs[i]? =some (xs[i]'(by simp at hi;omega)):=List.getElem?_eq_getElem (by simp at hi;omega)
    refine⟨_,hx,fun q hq=>hfit q ?_⟩
    simp only [DataW.weights,hu]
    exact DataW.weights_mem_each (j:=i) (by rw [List.getElem?_map,e'];rfl) (by rw [List.getElem?_map,hx];rfl) q hq
   refine⟨ts, ?_,by simp only [Wt,hu];exact r2⟩
   simp only [List.drop_zero,Nat.sub_zero] at r1
   rwa [<-hl,List.take_length] at r1
  ·rename_i m' e hu
   simp only [Bool.and_eq_true,decide_eq_true_eq] at hok
   obtain⟨xs,n',rfl,rfl,hl,hsz,hf⟩:=DataW.trod_array hu h
   dsimp only at hfit
   obtain⟨ts,r1,r2⟩:=wD (fun t cs x=>oc n n' t cs x) hok.1 m' cs (by omega) fun i hi=>by
    rw [hf i hi]
    refine⟨_,List.getElem?_eq_getElem (by omega),fun q hq=>hfit q ?_⟩
    simp only [DataW.weights,hu]
    exact pu (List.mem_map.2 ⟨_,List.getElem_mem _,rfl⟩) q hq
   exact⟨ts,r1,by simp only [Wt,hu];exact r2⟩
  ·cases hok
end
def lY(P:Program)(n:Nat):List TypeId->List AV->Prop
 | [],as=>as= []
 | t::ts,as=>∃a r,as=a::r/\((al P t=true/\∃l,Wt P n t l/\a= .agg (l.map .t))\/(al P t=false/\∃x,Wt P n t [x]/\a= .t x))/\lY P n ts r
section
variable {H:Type} {enc:TypeId×Value->H} {P:Program} {W W':World} {sp:Nat->Bool} {held:Bool}
theorem AR{n:Nat}{t:TypeId}{v:Value}{d:DataW H}{ps:List MemPlace}{r:Reach}{b0 base:Nat}(hok:okT P (n+1) t=true)(hval:Value.okWide P W r b0 t v)(h:DataW.Trod enc P W base sp held t v d ps)(hfit:Fit P t d):
  ∃a,((al P t=true/\∃l,Wt P (n+1) t l/\a= .agg (l.map .t))\/(al P t=false/\∃x,Wt P (n+1) t [x]/\a= .t x))/\RelV W (fun b=>b < W.heap.size) (fun _=>none) a v:=by
 obtain⟨m,hm⟩:=h
 obtain⟨ts,r1,r2⟩:=oc (n+1) m t _ _ hok hm hfit
 have simple:al P t=false->v.cells= #[v]->∃a,((al P t=true/\∃l,Wt P (n+1) t l/\a= .agg (l.map .t))\/(al P t=false/\∃x,Wt P (n+1) t [x]/\a= .t x))/\RelV W (fun b=>b < W.heap.size) (fun _=>none) a v:=by
  intro h1 h2
  rw [h2] at r1
  match ts,r1 with
  | [],r1=>simp [RelTs] at r1
  | [x],⟨u,q,e,g,_⟩=>
   simp only [List.cons.injEq] at e
   obtain⟨rfl,_⟩:=e
   exact⟨.t x, .inr ⟨h1,x,r2,rfl⟩,by simpa [RelV] using g⟩
  | x::y::z,⟨u,q,e,_,⟨u',q',e',_⟩⟩=>
   subst e'
   simp at e
 have agg:al P t=true->(∃cs,v= .agg cs)->∃a,((al P t=true/\∃l,Wt P (n+1) t l/\a= .agg (l.map .t))\/(al P t=false/\∃x,Wt P (n+1) t [x]/\a= .t x))/\RelV W (fun b=>b < W.heap.size) (fun _=>none) a v:=by
  rintro h1 ⟨cs,rfl⟩
  refine⟨.agg (ts.map .t), .inl ⟨h1,ts,r2,rfl⟩, ?_⟩
  simp only [RelV]
  exact⟨cs.toList,by simp,RelVs.of_ts r1,r1.one⟩
 simp only [okT] at hok
 split at hok
 ·rename_i hu
  simp only [Value.okWide,hu,Cell.okWide] at hval
  refine simple (by simp [al,hu]) ?_
  cases v <;> first | rfl | (simp [Cell.ok,hu] at hval)
 ·rename_i k hu
  simp only [Value.okWide,hu,Cell.okWide] at hval
  refine simple (by simp [al,hu]) ?_
  cases v <;> first | rfl | (simp [Cell.ok,hu] at hval)
 ·rename_i hu
  simp only [Value.okWide,hu,Cell.okWide] at hval
  refine simple (by simp [al,hu]) ?_
  cases v <;> first | rfl | (simp [Cell.ok,hu] at hval)
 ·rename_i e hu
  simp only [Value.okWide,hu,Cell.okWide] at hval
  refine simple (by simp [al,hu]) ?_
  cases v <;> first | rfl | (simp [Cell.ok,hu] at hval)
 ·rename_i fs hu
  simp only [Value.okWide,hu] at hval
  obtain⟨cs,e,_⟩:=hval
  exact agg (by simp [al,hu]) ⟨cs,e⟩
 ·rename_i m' e hu
  simp only [Value.okWide,hu] at hval
  obtain⟨cs,e,_⟩:=hval
  exact agg (by simp [al,hu]) ⟨cs,e⟩
 ·cases hok
theorem vY{n:Nat}{r:Reach}{b0 base:Nat}:∀{ts:List TypeId} {vs:List Value} {ds:List (DataW H)} {ps:List MemPlace},ts.all (okT P (n+1))=true->(∀(j:Nat) (t:TypeId) (v:Value),ts[j]? =some t->vs[j]? =some v->Value.okWide P W r b0 t v)->
  DataW.TrodAll enc P W base sp held ts vs ds ps->(∀k∈DataW.weightsEach P ts ds,k<=reachBytes)->∃as,lY P (n+1) ts as/\RelVs W (fun b=>b < W.heap.size) (fun _=>none) as vs
 | [],vs,ds,ps,_,_,h,_=>by
  obtain⟨rfl,_,_⟩:=trodAll_nil h
  exact⟨[],rfl,by simp [RelVs]⟩
 | t::ts,vs,ds,ps,hok,hval,h,hfit=>by
  simp only [List.all_cons,Bool.and_eq_true] at hok
  obtain⟨v,vs',d,ds',p,q,rfl,rfl,rfl,h1,h2⟩:=trodAll_cons h
  obtain⟨a,ha,hr⟩:=AR hok.1 (hval 0 t v rfl rfl) h1 (fun k hk=>hfit k (by simp only [DataW.weightsEach,List.mem_append];exact .inl hk))
  obtain⟨as,has,hrs⟩:=vY hok.2 (fun j t' v' ht hv=>hval (j+1) t' v' (by simpa using ht) (by simpa using hv)) h2 (fun k hk=>hfit k (by simp only [DataW.weightsEach,List.mem_append];exact .inr hk))
  exact⟨a::as,⟨a,as,rfl,ha,has⟩,by simp only [RelVs];exact⟨v,vs',rfl,hr,hrs⟩⟩
theorem sB(hl:laidOutB P=true)(hb:Below W.heap.size W W'):∀{ts:List TypeId} {vs:List Value} {ds:List (DataW H)} {ps:List MemPlace},(ts.all fun t=>P.readableRec t && decide (t < P.types.size))=true->
  DataW.TrodAll enc P W 0 (fun _=>true) true ts vs ds ps->(∀x∈ps,x.block < W.heap.size)->DataW.TrodAll enc P W' 0 (fun b=>decide (b < W.heap.size)) true ts vs ds ps
 | [],vs,ds,ps,_,h,_=>by
  obtain⟨rfl,rfl,rfl⟩:=trodAll_nil h
  exact trodAll_mk0
 | t::ts,vs,ds,ps,hr,h,hlt=>by
  simp only [List.all_cons,Bool.and_eq_true,decide_eq_true_eq] at hr
  obtain⟨v,vs',d,ds',p,q,rfl,rfl,rfl,h1,h2⟩:=trodAll_cons h
  exact trodAll_cons_mk (Below.trod hl hr.1.1 hr.1.2 h1 hb fun x hx=>hlt x (List.mem_append_left _ hx)) (sB hl hb (by simpa using hr.2) h2 fun x hx=>hlt x (List.mem_append_right _ hx))
theorem Am(hb:Below W.heap.size W W')(may:MemPlace->Prop):W.keptBut W' may:=by
 refine⟨hb.os,hb.output,fun i hi=> ?_⟩
 rw [hb.block i hi]
 cases W.heap[i]? with
 | none=>rfl
 | some o=>cases o <;> first | exact⟨rfl,rfl,rfl,fun _ _=>rfl⟩ | exact .inr ⟨rfl,rfl⟩ | rfl
theorem law_contract{n:Nat}{fn:Func}{s:ChangeSpec}{An:Ann}{f:FuncId}{tb:TypeId}(hm:P.follows .mixedOrders=true)(hn:(P.funcs.toList.all fun fn=>fn.name != "runtime.NumGoroutine")=true)(hl:laidOutB P=true)
  (hfn:P.funcs[f]? =some fn) (hout:An.bref f=none) (hres:aP P An f 0 fn= [.f .b]) (hub:P.underlying tb=some .bool) (hrt:fn.resultTypes= #[tb])
  (hok:fn.params.toList.all (okT P (n+1))=true) (hread:(fn.params.toList.all fun t=>P.readableRec t && decide (t < P.types.size))=true)
  (hvars:s.vars= []) (hspec:∀(ds:List (DataW H)),ds.length=fn.params.toList.length->s.fn H ds= {results:= [.lit (.bool true)],args:=ds})
  (claim:∀as,lY P (n+1) fn.params.toList as->orc P An (.call f) as []=some [.bool true])
  (W:World) (base:Nat) (args:Array Value) (ds gs:List (DataW H)) (before:List MemPlace) (hval:∀(j:Nat) t v,fn.params[j]? =some t->args[j]? =some v->Value.okWide P W .any base t v)
  (hW:DataW.Whole enc P fn.params.toList s.vars false W args.toList ds gs before)
  (hsz:(DataW.weightsEach P (fn.params.toList++s.plain.varTypes P) (ds++gs)).all (·<=reachBytes)=true)
  (hX:ESound P An:=by exact Go.Aev.ESound.no fun _ _ _=>rfl):
  Calls P f args W fun e W'=>∃v,e= .returned v/\s.post enc P fn false true false false W args v W':=by
 have hW':=hW
 obtain⟨p,q,hA,hV,rfl,hz,hnd⟩:=hW
 rw [hvars] at hV
 obtain⟨rfl,rfl⟩:=trodVars_none hV
 obtain⟨as,ha,hr⟩:=vY hok (fun j t v ht hv=>hval j t v (by rw [<-Array.getElem?_toList];exact ht) (by rw [<-Array.getElem?_toList];exact hv)) hA (fun k hk=>by simpa using List.all_eq_true.1 hsz k (sE hk))
 have hlen:ds.length=fn.params.toList.length:=by
  clear hW' hr ha hval hz hnd hV hread hok claim hsz
  generalize fn.params.toList=ts at hA
  generalize args.toList=vs at hA
  induction ts generalizing vs ds p with
  | nil=>obtain⟨_,rfl,_⟩:=trodAll_nil hA;rfl
  | cons t ts ih=>
   obtain⟨v,vs',d,ds',p',q',_,rfl,_,_,h2⟩:=trodAll_cons hA
   simp [ih _ _ _ h2]
 have hnn:∀(f:FuncId) (fn:Func),P.funcs[f]? =some fn->fn.name≠ "runtime.NumGoroutine" :=by
  intro f fn h
  have:=List.all_eq_true.1 hn fn (List.mem_of_getElem? (i:=f) (by rw [Array.getElem?_toList];exact h))
  simpa using this
 have:=Az (w:=W) (A0:=fun b=>b < W.heap.size) hX hm hnn hfn hout hres (fun _ h=>h) hr (claim as ha)
 rw [show args.toList.toArray=args from by simp] at this
 refine this.mono fun e W' ⟨he,hb⟩=>⟨.bool true,he, ?_⟩
 have hsp:=hspec ds hlen
 refine⟨ds,[],p++ [],[],p,[],hW', ?_, ?_, ?_,Am hb _,fun h=>by cases h⟩
 ·rw [List.append_nil,hsp,hrt]
  exact trodAll_cons_mk (shut_bool hub true) trodAll_mk0
 ·rw [List.append_nil,hsp]
  exact sB hl hb hread hA (fun x hx=>hW'.lt x (by simpa using hx))
 ·rw [List.append_nil,hsp,hvars]
  rfl
end
section
variable {P:Program} {n:Nat} {t:TypeId} {ts:List T}
theorem B4{k:IntKind}(hu:P.underlying t=some (.int k))(h:Wt P (n+1) t ts):∃m,ts= [.int k m]/\(Lit.int k m).wf=true:=by simpa only [Wt,hu] using h
theorem sL{fs:Array Field}(hu:P.underlying t=some (.struct fs))(h:Wt P (n+1) t ts):WtF (Wt P n) fs.toList ts:=by simpa only [Wt,hu] using h
theorem DQ{e:TypeId}(hu:P.underlying t=some (.slice e))(h:Wt P (n+1) t ts):∃b xs,ts= [.lst (P.cellsOf e) b xs]/\(b=true->xs= [])/\xs.length<=maxLen/\(∀cs∈xs,Wt P n e cs)/\xs.length * P.bytesOf e<=reachBytes:=by simpa only [Wt,hu] using h
theorem yk{α:Type}(g:α->List T){e:TypeId}(hu:P.underlying t=some (.slice e))(h:Wt P (n+1) t ts)(hg:∀cs,Wt P n e cs->∃a,cs=g a):
  ∃b l,ts= [.lst (P.cellsOf e) b (l.map g)]/\(b=true->l= [])/\l.length<=maxLen/\l.length * P.bytesOf e<=reachBytes:=by
 obtain⟨b,xs,rfl,h1,h2,h3,h4⟩:=DQ hu h
 have:∃l:List α,xs=l.map g:=by
  clear h1 h2 h h4
  induction xs with
  | nil=>exact⟨[],rfl⟩
  | cons c xs ih=>
   obtain⟨a,ha⟩:=hg c (h3 c List.mem_cons_self)
   obtain⟨l,hl⟩:=ih fun cs hc=>h3 cs (List.mem_cons_of_mem _ hc)
   exact⟨a::l,by rw [ha,hl];rfl⟩
 obtain⟨l,rfl⟩:=this
 exact⟨b,l,rfl,fun hb=>by simpa using h1 hb,by simpa using h2,by simpa using h4⟩
theorem pL{α:Type}(g:α->List T){e:TypeId}(hu:P.underlying t=some (.slice e))(h:Wt P (n+1) t ts)(hg:∀cs,Wt P n e cs->∃a,cs=g a):
  ∃b l,ts= [.lst (P.cellsOf e) b (l.map g)]/\(b=true->l= [])/\l.length<=maxLen:=by
 obtain⟨b,l,h1,h2,h3,_⟩:=yk g hu h hg
 exact⟨b,l,h1,h2,h3⟩
theorem Co{a:AV}(h:(al P t=true/\∃l,Wt P n t l/\a= .agg (l.map .t))\/(al P t=false/\∃x,Wt P n t [x]/\a= .t x))(hb:al P t=true):∃l,Wt P n t l/\a= .agg (l.map .t):=by
 rcases h with h | h
 ·exact h.2
 ·rw [hb] at h;cases h.1
theorem nT{a:AV}(h:(al P t=true/\∃l,Wt P n t l/\a= .agg (l.map .t))\/(al P t=false/\∃x,Wt P n t [x]/\a= .t x))(hb:al P t=false):∃x,Wt P n t [x]/\a= .t x:=by
 rcases h with h | h
 ·rw [hb] at h;cases h.1
 ·exact h.2
end
end Go.Aev
