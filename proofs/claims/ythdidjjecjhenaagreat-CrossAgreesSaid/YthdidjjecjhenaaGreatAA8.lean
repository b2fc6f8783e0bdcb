/- Lemmas for this claim, part A8: each holds under what it names. -/
import Derived.Test.YthdidjjecjhenaaGreatAA7
import Derived.RecoverIn
import Derived.RangeFuncLeaves
import Derived.ProofKit
import Derived.SizedLaws
import Derived.JoinedCond
set_option linter.all false
namespace Go
open List renaming length → aa, replicate → aD
open Bool renaming true → ab, false → am
open Option renaming some → ar, none → aL
open Decidable renaming decide → aM
open Go.IntKind renaming wrap → a5
open Go.Result renaming andThen → a8
open Go.Abs.V renaming drops → aE, dat → a6, dats → a7
def Jh:List Item->Prop
 | .call ..::_=>False
 |_=>True
def Code.wpP(F:Fence)(n:Nat)(P:Program)(c:Code)(Q:Exit->Act->World->Prop)(QP:List PanicEntry->Act->World->Prop)(a:Act)(w:World):Prop :=
 ∀b k cs,b.roundOf=F.round->F.fn b.fn->F.room (aa cs+1+n) ->
  (∃e a' w',Q e a' w'/\ArrivesIn (Machine.fenced P F) P (lone (b.atR a (.code c::k)) cs w) b k cs e a' w') \/
  (∃chain a' w' todo,QP chain a' w'/\Jh todo/\StepsIn (Machine.fenced P F) P (lone (b.atR a (.code c::k)) cs w) (lone {b.atR a' todo with mode:= .panicking chain} cs w'))
section
variable{F:Fence}{n:Nat}{P:Program}{Q:Exit->Act->World->Prop}{QP:List PanicEntry->Act->World->Prop}{a:Act}{w:World}
variable{c:Code}
theorem H7(h:c.wpIn F n P Q a w):c.wpP F n P Q QP a w:=λb k cs h1 h2 h3=> .inl (h b k cs h1 h2 h3)
variable{x y:Code}
theorem Vu(h:x.wpP F n P (Exit.then (y.wpP F n P Q QP) Q) QP a w):(Code.seq x y).wpP F n P Q QP a w:=by
 intro b k cs hro hb hr;have i0:(lone (b.atR a (.code (.seq x y)::k)) cs w).fenced P F:=fenced_calm hb hr rfl;rcases h b (.code y::k) cs hro hb hr with⟨e,a1,w1,hq,harr⟩|⟨ch,a1,w1,td,hq,hn,hs⟩
 ·cases e
  case normal =>
   rcases hq b k cs hro hb hr with⟨e2,a2,w2,hq2,harr2⟩|⟨ch,a2,w2,td,hq2,hn,hs⟩
   ·exact .inl ⟨e2,a2,w2,hq2,.of_steps (.head i0 stepR_seq harr) harr2⟩
   ·exact .inr ⟨ch,a2,w2,td,hq2,hn,(StepsIn.head i0 stepR_seq harr).trans hs⟩
  all_goals exact .inl ⟨_,a1,w1,hq,.of_steps (.one i0 stepR_seq) (.pass (x:= .code y) rfl (λ_ _=> .inl (by simp)) harr)⟩
 ·exact .inr ⟨ch,a1,w1,td,hq,hn,.head i0 stepR_seq hs⟩
theorem SE{c:Operand}{t:Bool}(hc:a.eval c= .bool t)(h:(if t then x else y).wpP F n P Q QP a w):(Code.cond c x y).wpP F n P Q QP a w:=by
 intro b k cs hro hb hr;rcases h b k cs hro hb hr with⟨e,a1,w1,hq,harr⟩|⟨ch,a1,w1,td,hq,hn,hs⟩
 ·exact .inl ⟨e,a1,w1,hq,.of_steps (.one (fenced_calm hb hr rfl) (stepR_cond hc)) harr⟩
 ·exact .inr ⟨ch,a1,w1,td,hq,hn,.head (fenced_calm hb hr rfl) (stepR_cond hc) hs⟩
variable{id:Nat}
theorem OH(h:c.wpP F n P (λe a w=>(e= .normal\/e= .exit id)/\Q .normal a w) QP a w):(Code.block id c).wpP F n P Q QP a w:=by
 intro b k cs hro hb hr;have i0:(lone (b.atR a (.code (.block id c)::k)) cs w).fenced P F:=fenced_calm hb hr rfl;rcases h b (.inBlock id::k) cs hro hb hr with⟨e,a1,w1,⟨he,hq⟩,harr⟩|⟨ch,a1,w1,td,hq,hn,hs⟩
 ·rcases he with rfl|rfl
  ·exact .inl ⟨.normal,a1,w1,hq,.head i0 stepR_block (StepsIn.trans harr (.one (fenced_calm hb hr rfl) stepR_inBlock))⟩
  ·exact .inl ⟨.normal,a1,w1,hq,.head i0 stepR_block (harr.1 k (by simp[exitTo]))⟩
 ·exact .inr ⟨ch,a1,w1,td,hq,hn,.head i0 stepR_block hs⟩
theorem SG(I:Nat->Act->World->Prop)(m₀:Nat)(h₀:I m₀ a w)
 (round:∀m a w,I m a w->c.wpP F n P (λe a' w'=>(e= .normal/\∃m',m'<m/\I m' a' w')\/(e= .exit id/\Q (.exit id) a' w')) QP a w):(Code.loop c).wpP F n P Q QP a w:=by
 intro b k cs hro hb hr;have key:∀j,∀m a w,m<j->I m a w ->
  (∃e a' w',Q e a' w'/\ArrivesIn (Machine.fenced P F) P (lone (b.atR a (.code c:: .inLoop c::k)) cs w) b k cs e a' w') \/
  (∃chain a' w' todo,QP chain a' w'/\Jh todo/\StepsIn (Machine.fenced P F) P (lone (b.atR a (.code c:: .inLoop c::k)) cs w) (lone {b.atR a' todo with mode:= .panicking chain} cs w')):=by
  intro j
  induction j with
  |zero=>intro m a w hm;omega
  |succ j ih =>
   intro m a w hm hI;rcases round m a w hI b (.inLoop c::k) cs hro hb hr with⟨e,a1,w1,hq,harr⟩|⟨ch,a1,w1,td,hq,hn,hs⟩
   ·rcases hq with⟨rfl,m',hlt,hI'⟩|⟨rfl,hq⟩
    ·have s1:=StepsIn.trans harr (.one (fenced_calm (fr:=b.atR a1 (.inLoop c::k)) hb hr rfl) stepR_inLoop);rcases ih m' a1 w1 (by omega) hI' with⟨e2,a2,w2,hq2,harr2⟩|⟨ch,a2,w2,td,hq2,hn,hs⟩
     ·exact .inl ⟨e2,a2,w2,hq2,.of_steps s1 harr2⟩
     ·exact .inr ⟨ch,a2,w2,td,hq2,hn,s1.trans hs⟩
    ·exact .inl ⟨_,a1,w1,hq,.pass (x:= .inLoop c) rfl (λ_ _=> .inl (by simp)) harr⟩
   ·exact .inr ⟨ch,a1,w1,td,hq,hn,hs⟩
 have i0:(lone (b.atR a (.code (.loop c)::k)) cs w).fenced P F:=fenced_calm hb hr rfl;rcases key (m₀+1) m₀ a w (Nat.lt_succ_self _) h₀ with⟨e,a1,w1,hq,harr⟩|⟨ch,a1,w1,td,hq,hn,hs⟩
 ·exact .inl ⟨e,a1,w1,hq,.of_steps (.one i0 stepR_loop) harr⟩
 ·exact .inr ⟨ch,a1,w1,td,hq,hn,.head i0 stepR_loop hs⟩
def Oper.wpP(F:Fence)(n:Nat)(P:Program)(o:Oper)(a:Act)(w:World)(next:Act->World->Prop)(QP:List PanicEntry->Act->World->Prop):Prop :=
 ∃vs w',(o.semAt F.round a.eval).run P w= .ok vs w'/\(∀f,o.about P w a.eval=ar f->F.fn f)/\(F.depth=aL)/\match vs with
  | .value v=>next (a.put o.dst v) w'
  | .skip=>next (a.put o.dst undef) w'
  | .enter g args => CallsIn F (n - 1) P g args w' fun
   | .returned v,w''=>next (a.put o.dst v) w''
   | .panicked chain,w''=>QP chain a w''
   | .outgrown,_=>False
  |_=>False
def Ji(F:Fence)(n:Nat)(P:Program)(ops:Array Oper)(Q:Exit->Act->World->Prop)(QP:List PanicEntry->Act->World->Prop):List Nat->Act->World->Prop
 |[],a,w=>Q .normal a w
 |i::rest,a,w=>∃o,ops[i]? =ar o/\Region.wanted o (yielded ops a.tmps)=ab/\o.wpP F n P a w (Ji F n P ops Q QP rest) QP
theorem CW{ops:Array Oper}:∀(l:List Nat)(a:Act)(w:World),Ji F n P ops Q QP l a w->∀(b:Frame)(k:List Item)(cs:List Frame),b.roundOf=F.round->F.fn b.fn->F.room (aa cs+1+n) ->
 (∃e a' w',Q e a' w'/\ArrivesIn (Machine.fenced P F) P (lone (b.atR a (.inRegion ops l::k)) cs w) b k cs e a' w') \/
 (∃chain a' w' todo,QP chain a' w'/\Jh todo/\StepsIn (Machine.fenced P F) P (lone (b.atR a (.inRegion ops l::k)) cs w) (lone {b.atR a' todo with mode:= .panicking chain} cs w'))
 |[],a,w,h,b,k,cs,hro,hb,hr=> .inl ⟨.normal,a,w,h,.one (fenced_calm hb hr rfl) stepR_region_end⟩
 |i::rest,a,w,h,b,k,cs,hro,hb,hr=>by
  obtain⟨o,ho,hw,nx,w1,hrun,habout,hdep,hnx⟩:=h;have i0:(lone (b.atR a (.inRegion ops (i::rest)::k)) cs w).fenced P F:=fenced_oper hb hr ho habout;have hg:=stepGR_op (P:=P) (b:=b) (k:=k) (cs:=cs) (w:=w) (rest:=rest) ho hw;rw[hro]at hg;have hfin:∀v,(b.atR a (.inRegion ops (i::rest)::k)).finish v=b.atR (a.put o.dst v) (.inRegion ops rest::k):=λv=>by rw[Frame.finish_atR,ho];rfl
  cases nx<;>try exact hnx.elim
  case value v =>
   have s1:StepsIn (Machine.fenced P F) P (lone (b.atR a (.inRegion ops (i::rest)::k)) cs w) (lone (b.atR (a.put o.dst v) (.inRegion ops rest::k)) cs w1) :=
    .one i0 (step_lone_go (by rw[hg,<-hfin];simp[stepG.apply,hrun]))
   rcases CW rest _ _ hnx b k cs hro hb hr with⟨e,a2,w2,hq,harr⟩|⟨ch,a2,w2,td,hq,hn,hs⟩
   ·exact .inl ⟨e,a2,w2,hq,.of_steps s1 harr⟩
   ·exact .inr ⟨ch,a2,w2,td,hq,hn,s1.trans hs⟩
  case skip =>
   have s1:StepsIn (Machine.fenced P F) P (lone (b.atR a (.inRegion ops (i::rest)::k)) cs w) (lone (b.atR (a.put o.dst undef) (.inRegion ops rest::k)) cs w1) :=
    .one i0 (step_lone_go (by rw[hg,<-hfin];simp[stepG.apply,hrun]))
   rcases CW rest _ _ hnx b k cs hro hb hr with⟨e,a2,w2,hq,harr⟩|⟨ch,a2,w2,td,hq,hn,hs⟩
   ·exact .inl ⟨e,a2,w2,hq,.of_steps s1 harr⟩
   ·exact .inr ⟨ch,a2,w2,td,hq,hn,s1.trans hs⟩
  case enter g args =>
   obtain⟨hF,hc⟩:=hnx;have hroom:F.room (aa (b.atR a (.inRegion ops (i::rest)::k)::cs)+1+(n-1)):=Fence.room_enter hr (λh=>by rw[hdep]at h;cases h);obtain⟨e,w2,fr,hR,hsteps,hfn,hleave⟩:=hc (b.atR a (.inRegion ops (i::rest)::k)::cs) hroom;have henter:step P (lone (b.atR a (.inRegion ops (i::rest)::k)) cs w)= .next (lone (Frame.enter P g args .normal) (b.atR a (.inRegion ops (i::rest)::k)::cs) w1) :=
    step_lone_go (by rw[hg];simp[stepG.apply,hrun,Frame.atR])
   cases e with
   |outgrown=>exact hR.elim
   |returned v =>
    have il:(lone fr (b.atR a (.inRegion ops (i::rest)::k)::cs) w2).fenced P F:=fenced_leaving (hfn▸hF) hroom hleave;have s1:StepsIn (Machine.fenced P F) P (lone (b.atR a (.inRegion ops (i::rest)::k)) cs w) (lone (b.atR (a.put o.dst v) (.inRegion ops rest::k)) cs w2):=by refine .head i0 henter (StepsIn.trans hsteps (.one il ?_));rw[<-hfin];exact step_leave_returned hleave
    rcases CW rest _ _ hR b k cs hro hb hr with⟨e,a2,w2,hq,harr⟩|⟨ch,a2,w2,td,hq,hn,hs⟩
    ·exact .inl ⟨e,a2,w2,hq,.of_steps s1 harr⟩
    ·exact .inr ⟨ch,a2,w2,td,hq,hn,s1.trans hs⟩
   |panicked chain=>have il:(lone fr (b.atR a (.inRegion ops (i::rest)::k)::cs) w2).fenced P F:=fenced_leaving (hfn▸hF) hroom hleave;refine .inr ⟨chain,a,w2,.inRegion ops (i::rest)::k,hR,trivial,.head i0 henter (StepsIn.trans hsteps (.one il ?_))⟩;rw[<-Frame.raise_atR];exact step_leave_panicked hleave
theorem LD{ops:Array Oper}(h:Ji F n P ops Q QP (List.range ops.size) a w):(Code.region id ops am).wpP F n P Q QP a w:=by
 intro b k cs hro hb hr;have i0:(lone (b.atR a (.code (.region id ops am)::k)) cs w).fenced P F:=fenced_calm hb hr rfl;rcases CW _ a w h b k cs hro hb hr with⟨e,a2,w2,hq,harr⟩|⟨ch,a2,w2,td,hq,hn,hs⟩
 ·exact .inl ⟨e,a2,w2,hq,.of_steps (.one i0 stepR_region) harr⟩
 ·exact .inr ⟨ch,a2,w2,td,hq,hn,.head i0 stepR_region hs⟩
variable{o:Oper}{QP':List PanicEntry->Act->World->Prop}
theorem Oper.wpP_mono{nx nx':Act->World->Prop}(h:o.wpP F n P a w nx QP)(h1:∀a w,nx a w->nx' a w)(h2:∀ch a w,QP ch a w->QP' ch a w):o.wpP F n P a w nx' QP':=by
 obtain⟨vs,w',hr,ha,hd,hm⟩:=h;refine⟨vs,w',hr,ha,hd,?_⟩;cases vs<;>try exact hm.elim
 case value v=>exact h1 _ _ hm
 case skip=>exact h1 _ _ hm
 case enter g args =>
  refine CallsIn.mono hm λe w'' hq=> ?_;cases e with
  |returned v=>exact h1 _ _ hq
  |panicked ch=>exact h2 _ _ _ hq
  |outgrown=>exact hq.elim
def yN(F:Fence)(n:Nat)(P:Program)(ops:Array Oper)(Q:Exit->Act->World->Prop)(QP:List PanicEntry->Act->World->Prop):List Oper->Act->World->Prop
 |[],a,w=>Q .normal a w
 |o::rest,a,w=>Region.wanted o (yielded ops a.tmps)=ab/\o.wpP F n P a w (yN F n P ops Q QP rest) QP
theorem rE{ops:Array Oper}:∀(l:List Oper)(k:Nat)(a:Act)(w:World),(∀j,j<aa l->l[j]? =ops[k+j]?)->yN F n P ops Q QP l a w->Ji F n P ops Q QP (List.range' k (aa l)) a w
 |[],k,a,w,_,h=>h
 |o::rest,k,a,w,hl,h=>by
  refine⟨o,by have:=hl 0 (by simp);simpa using this.symm,h.1,Oper.wpP_mono h.2 (λa w h=>rE rest (k+1) a w (λj hj=> ?_) h) λ_ _ _ h=>h⟩;have:=hl (j+1) (by simpa using hj);rw[List.getElem?_cons_succ]at this;rw[this]
  congr 1
  omega
variable{l:List Oper}
theorem SH(h:yN F n P l.toArray Q QP l a w):(Code.region id l.toArray am).wpP F n P Q QP a w:=by
 refine LD ?_;rw[List.range_eq_range'];have e:l.toArray.size=aa l:=by simp
 rw[e];exact rE l 0 a w (λj _=>by simp) h
theorem tX{Q':Exit->Act->World->Prop}(h:c.wpP F n P Q QP a w)(h1:∀e a w,Q e a w->Q' e a w)(h2:∀ch a w,QP ch a w->QP' ch a w):c.wpP F n P Q' QP' a w:=by
 intro b k cs hro hb hr;rcases h b k cs hro hb hr with⟨e,a1,w1,hq,harr⟩|⟨ch,a1,w1,td,hq,hn,hs⟩
 ·exact .inl ⟨e,a1,w1,h1 _ _ _ hq,harr⟩
 ·exact .inr ⟨ch,a1,w1,td,h2 _ _ _ hq,hn,hs⟩
theorem OI{fr c:Frame}{cs:List Frame}{chain:List PanicEntry}(hm:fr.mode= .panicking chain)(hd:fr.defers=[])(ht:Jh fr.todo):step P (lone fr (c::cs) w)= .next (lone (c.raise chain) cs w):=by
 have hc:fr.catches P=am:=by
  unfold Frame.catches;split
  ·rename_i h1 h2;rw[h2]at ht;exact ht.elim
  ·rfl
 exact step_lone_go (by simp[stepG,unwind,hm,hd,hc])
theorem Au{l:Nat}{f:FuncId}{tmps:Array Value}{assign body:Code}{R:Ending->World->Prop}(hF:F.fn f)
 (h:assign.wpIn (F.inRound l) n P (Exit.then (λa₁ w₁=>∃w₂,(Instr.beginRound l).run P w₁= .ok () w₂ /\
  body.wpP (F.inRound l) n P (λe a w=>e= .normal/\∃v w',(Instr.endRound l aL).run P w= .ok v w'/\R (.returned v) w') (λch a w=>a.defers=[]/\R (.panicked ch) w) a₁ w₂) (λ_ _ _=>False)) {tmps:=tmps,defers:=[]} w) :
 RoundIn F n P l f tmps assign body w R:=by
 refine⟨hF,λc cs hr=> ?_⟩;obtain⟨b,eb⟩:∃b:Frame,b={(default:Frame)with fn:=f,kind:= .normal,roundOf:=ar l}:=⟨_,rfl⟩;have hb0:Frame.round l f tmps assign body .normal=b.atR {tmps:=tmps,defers:=[]} [.code assign,.beginRound,.code body]:=by
  rw[eb];simp[Frame.round,Frame.atR]
 have hr':(F.inRound l).room (aa (c::cs)+1+n):=hr;have hF':(F.inRound l).fn b.fn:=by rw[eb];exact hF
 have hro:b.roundOf=(F.inRound l).round:=by rw[eb];rfl
 have hro2:b.roundOf=ar l:=by rw[eb]
 have hkd:b.kind= .normal:=by rw[eb]
 obtain⟨e,a1,w1,hq,harr⟩:=h b [.beginRound,.code body] (c::cs) hro hF' hr';rw[<-hb0]at harr;cases e<;>try exact hq.elim
 obtain⟨w2,hbr,hbody⟩:=hq;have s1:StepsIn (Machine.fenced P (F.inRound l)) P (lone (b.atR a1 [.beginRound,.code body]) (c::cs) w1) (lone (b.atR a1 [.code body]) (c::cs) w2) :=
  .one (fenced_calm (fr:=b.atR a1 [.beginRound,.code body]) hF' hr' rfl) (stepR_beginRound hro2 hbr)
 have s2:=StepsIn.trans harr s1;rcases hbody b [] (c::cs) hro hF' hr' with⟨e,a3,w3,⟨rfl,v,w4,hend,hR⟩,harr2⟩|⟨ch,a3,w3,td,⟨hd,hR⟩,hn,hs⟩
 ·exact⟨.returned v,w4,hR,s2.trans (StepsIn.trans harr2 (.one (fenced_calm (fr:=b.atR a3 []) hF' hr' rfl) (stepR_round_end hro2 hkd hend)))⟩
 ·refine⟨.panicked ch,w3,hR,s2.trans (StepsIn.trans hs (.one (fenced_calm (fr:={b.atR a3 td with mode:= .panicking ch}) hF' hr' ?_) (OI rfl hd hn)))⟩;obtain⟨fr,efr⟩:∃fr:Frame,fr={b.atR a3 td with mode:= .panicking ch}:=⟨_,rfl⟩;have hd':fr.defers=[]:=by rw[efr];exact hd
  have hm':fr.mode= .panicking ch:=by rw[efr]
  rw[<-efr];simp[Frame.about,hd',hm']
end
end Go
namespace Go.Abs
open Go Go.RowKit
open List renaming length → aa, replicate → aD
open Bool renaming true → ab, false → am
open Option renaming some → ar, none → aL
open Decidable renaming decide → aM
open Go.IntKind renaming wrap → a5
open Go.Result renaming andThen → a8
open Go.Abs.V renaming drops → aE, dat → a6, dats → a7
def Vw(e:E)(n:Nat)(ok:Nat->Prop)(pl0:Nat->Option Nat)(w0:World)(QP:V->Fr->H->Prop):List PanicEntry->Act->World->Prop :=
 λch a' w'=>∃pl' f' h' v x,SSim e n ok pl0 w0 f' h' pl' w' a'/\ch=[{v:=x,recovered:=am}]/\VRel (cx ok pl' w') v x/\QP v f' h'
def GY(e:E)(n:Nat)(r:Option Nat)(c:Code)(Q:XE->Fr->H->Prop)(QP:V->Fr->H->Prop)(f:Fr)(h:H):Prop :=
 ∀ok pl0 w0 pl w a,SSim e n ok pl0 w0 f h pl w a->c.wpP (RF r) 0 e.P (iR e n ok pl0 w0 Q) (Vw e n ok pl0 w0 QP) a w
section
variable{e:E}{n:Nat}{r:Option Nat}{f:Fr}{h:H}{Q:XE->Fr->H->Prop}{QP:V->Fr->H->Prop}
variable{c:Code}
theorem jh(hv:awp e n r c Q f h):GY e n r c Q QP f h:=λok pl0 w0 pl w a s=>H7 (hv ok pl0 w0 pl w a s)
variable{x y:Code}
theorem oI(hv:GY e n r x (XE.seq (GY e n r y Q QP) Q) QP f h):GY e n r (.seq x y) Q QP f h:=λok pl0 w0 pl w a s =>
 Vu (tX (hv ok pl0 w0 pl w a s) (iR.seq λpl f h a w s hk=>hk ok pl0 w0 pl w a s) λ_ _ _ h=>h)
theorem OJ{Q':XE->Fr->H->Prop}{QP':V->Fr->H->Prop}(h1:∀xe f h,Q xe f h->Q' xe f h)(h2:∀v f h,QP v f h->QP' v f h)(hv:GY e n r c Q QP f h):GY e n r c Q' QP' f h:=λok pl0 w0 pl w a s =>
 tX (hv ok pl0 w0 pl w a s) (λex a w ⟨pl',f',h',xe,s,hx,hk⟩=>⟨pl',f',h',xe,s,hx,h1 _ _ _ hk⟩) λch a w ⟨pl',f',h',v,x,s,hc,hr,hk⟩=>⟨pl',f',h',v,x,s,hc,hr,h2 _ _ _ hk⟩
variable{id:Nat}
theorem vF(hv:GY e n r c (λxe f h=>(xe= .normal\/xe= .exit id)/\Q .normal f h) QP f h):GY e n r (.block id c) Q QP f h:=λok pl0 w0 pl w a s=>by
 refine OH (tX (hv ok pl0 w0 pl w a s) ?_ λ_ _ _ h=>h);rintro ex a w ⟨pl',f',h',xe,s,hx,hq,hk⟩;rcases hq with rfl|rfl<;>cases ex<;>(try exact hx.elim)
 ·exact⟨.inl rfl,pl',f',h',.normal,s,trivial,hk⟩
 ·cases hx;exact⟨.inr rfl,pl',f',h',.normal,s,trivial,hk⟩
theorem OL(id:Nat)(I:Nat->Fr->H->Prop)(m₀:Nat)(h₀:I m₀ f h)
 (round:∀m f h,I m f h->GY e n r c (λxe f' h'=>(xe= .normal/\∃m',m'<m/\I m' f' h')\/(xe= .exit id/\Q (.exit id) f' h')) QP f h):GY e n r (.loop c) Q QP f h:=λok pl0 w0 pl w a s=>by
 refine SG (id:=id) (λm a w=>∃pl f h,SSim e n ok pl0 w0 f h pl w a/\I m f h) m₀ ⟨pl,f,h,s,h₀⟩ ?_;rintro m a w ⟨pl,f,h,s,hI⟩;refine tX (round m f h hI ok pl0 w0 pl w a s) ?_ λ_ _ _ h=>h;rintro ex a w ⟨pl',f',h',xe,s,hx,hq⟩;rcases hq with⟨rfl,m',hlt,hk⟩|⟨rfl,hk⟩<;>cases ex<;>(try exact hx.elim)
 ·exact .inl ⟨rfl,m',hlt,pl',f',h',s,hk⟩
 ·cases hx;exact .inr ⟨rfl,pl',f',h',.exit id,s,rfl,hk⟩
theorem EL{c:Operand}{b:Bool}(hsc:(f.ev e c).sc)(hb:(f.ev e c).sv= .bool b)(hx:b=ab->GY e n r x Q QP f h)(hy:b=am->GY e n r y Q QP f h):GY e n r (.cond c x y) Q QP f h:=by
 intro ok pl0 w0 pl w a s;have h1:=(s.ev c).sv hsc;rw[hb]at h1;simp only[VRel]at h1;refine SE (t:=b) h1 ?_;cases b
 ·exact hy rfl ok pl0 w0 pl w a s
 ·exact hx rfl ok pl0 w0 pl w a s
def Bh(dst:Option Tmp)(Kn:Fr->H->Prop)(QP:V->Fr->H->Prop)(f:Fr)(ae:AEnd)(h':H)(p:Nat->Bool):Prop :=
 (∀i∈f.d,p i=am)/\match ae with
  | .ret v=>Kn ((f.drop p).put dst v) h'
  | .pan v=>QP v (f.drop p) h'
def CX(e:E)(o:Oper)(f:Fr)(h:H)(Kn:Fr->H->Prop)(QP:V->Fr->H->Prop):Prop :=
 match o.op with
 | .call {callee:= .value fx,args:=args,argTypes:=ts}=>match mf e (f.ev e) fx args with
  |some (g,vs)=>fK (f.ev e) fx args/\au e.P g=ab/\ag e g vs h (Bh o.dst Kn QP f)
  |none=>False
 |_=>False
def Bi(e:E)(n:Nat)(Q:XE->Fr->H->Prop)(QP:V->Fr->H->Prop):List Oper->Fr->H->Prop
 |[],f,h=>Q .normal f h
 |o::rest,f,h=>o.guard=aL/\ku n o.dst=ab/\match kG o.op with
  |false=>PV.go ab (wG e.P o (f.ev e) h) o.dst (Bi e n Q QP rest) f h
  |true=>CX e o f h (Bi e n Q QP rest) QP
theorem yO{ops:Array Oper}{ok:Nat->Prop}{pl0:Nat->Option Nat}{w0:World} :
 ∀(l:List Oper)(f:Fr)(h:H),Bi e n Q QP l f h->∀(pl:Nat->Option Nat)(w:World)(a:Act),SSim e n ok pl0 w0 f h pl w a->yN (RF r) 0 e.P ops (iR e n ok pl0 w0 Q) (Vw e n ok pl0 w0 QP) l a w
 |[],f,h,hv,pl,w,a,s=>⟨pl,f,h,.normal,s,trivial,hv⟩
 |o::rest,f,h,hv,pl,w,a,s=>by
  obtain⟨hg,hd,hv⟩:=hv;have hw:Region.wanted o (yielded ops a.tmps)=ab:=by refine uZ (ops:=ops) s.val (g:=ab) ?_;unfold gd;rw[hg]
  refine⟨hw,?_⟩;cases he:kG o.op with
  |false =>
   rw[he]at hv;dsimp only at hv;obtain⟨hc,hk⟩:=hv;have hq:=oC (e:=e) (hc rfl) ok pl w a.eval s.hs s.evs;have hnd:o.semAt (RF r).round a.eval=execOp a.eval o:=by
    rw[fO];refine Oper.semAt_eq r a.eval o λc hc=> ?_;have this:=hq;unfold execOp at this;rw[hc]at this;simp only[Sem.run_bind]at this
    revert this
    cases(resolve a.eval c o.type).run e.P w<;>simp[kN,a8]
   have fin:∀x w',WExt w w'/\VRel (cx ok pl w') (wG e.P o (f.ev e) h).2 x->yN (RF r) 0 e.P ops (iR e n ok pl0 w0 Q) (Vw e n ok pl0 w0 QP) rest (a.put o.dst x) w':=λx w' ⟨hx,hv⟩ =>
    yO rest _ h hk pl w' _ ((s.next0 (s.hs.wext hx) (hx.keeps s.hs)).put hd hv)
   revert hq
   cases hrun:(execOp a.eval o).run e.P w with
   |halt x w'=>intro hq;exact hq.elim
   |ok nx w' =>
    intro hq;refine⟨nx,w',by rw[hnd];exact hrun,λg _=>jg r g,jV r,?_⟩;cases nx<;>try exact hq.elim
    case value x=>exact fin x w' hq
    case skip=>exact fin undef w' hq
    case enter g args =>
     refine(dQ (Calls.mono hq ?_));rintro en w'' ⟨x,rfl,hx⟩;exact fin x w'' hx
  |true =>
   rw[he]at hv;dsimp only at hv;unfold CX at hv;split at hv
   ·rename_i fx args ts hop;split at hv
    ·rename_i g vs hon;obtain⟨hsc,hen,hc⟩:=hv;obtain⟨xs,hrun,hl⟩:=tq (e:=e) hop (s.evs (o:=o)) hon hsc hen;refine⟨_,_,by rw[fO,Oper.semAt_eq r a.eval o (λc=>by rw[hop];exact λh=>by cases h)];exact hrun,λg _=>jg r g,jV r,dQ ((hc ok pl w xs s.hs hl).mono ?_)⟩;rintro en w' ⟨p,pl',h',ae,hs',k,hend,hp,hk⟩;cases ae with
     |ret v =>
      cases en with
      |returned x=>exact yO rest _ h' hk pl' w' _ ((s.next hs' k hp).put hd hend)
      |panicked ch=>exact hend.elim
      |outgrown=>exact hend.elim
     |pan v =>
      cases en with
      |returned x=>exact hend.elim
      |panicked ch=>obtain⟨x,hx,hr⟩:=hend;exact⟨pl',_,h',v,x,s.next hs' k hp,hx,hr,hk⟩
      |outgrown=>exact hend.elim
    ·exact hv.elim
   ·exact hv.elim
variable{l:List Oper}
theorem yP(hv:Bi e n Q QP l f h):GY e n r (.region id l.toArray am) Q QP f h:=λok pl0 w0 pl w a s=>SH (yO l f h hv pl w a s)
theorem LG(htl:e.tl=[]){o:Oper}{Kn:Fr->H->Prop}{fx:Operand}{args:Array Operand}{ts:Array TypeId}(hop:o.op= .call {callee:= .value fx,args:=args,argTypes:=ts}){id:Nat}(hfx:(f.ev e fx).sv= .yd id)
 (hsc:fK (f.ev e) fx args) {t:Nat->V} {n':Nat} {ps:Array Tmp} {asg body:Code} (hc:h[id]? =ar (.loop t n' ps asg body .ready aL))
 (hl:args.size=ps.size) (hps:(ps.toList.all λp=>aM (p<n'))=ab)
 (hv:∀l,awp e n' (ar l) asg (λxe f1 h1=>xe= .normal/\f1.k id=am/\∃t,h1[id]? =ar (.loop t n' ps asg body .ready aL) /\
  GY e n' (ar l) body (λxe f2 h2 => xe = .normal /\ (f2.k id = am /\ ∀ i ∈ f.d,f2.k i = am) /\ ∃ t st,h2[id]? = ar (.loop t n' ps asg body st aL) /\ Kn ((f.drop f2.k).put o.dst (.bool ab)) (h2.set id (.loop t n' ps asg body .ready aL)))
   (λv f2 h2=>f2.d=[]/\(∀i∈f.d,f2.k i=am)/\Q (.pan v) (f.drop f2.k) h2) f1 (h1.set id (.loop t n' ps asg body .busy aL)))
  (jo {t:=t} ps.toList (args.toList.map λx=>(f.ev e x).sv)) h):Eff e n r o f h Kn Q:=by
 intro ok pl0 w0 pl w a s hd;have h1:=(s.ev fx).sv hsc.1;rw[hfx]at h1;simp only[VRel]at h1;obtain⟨b,hb,hx⟩:=h1;have hb:pl id=ar b:=hb;have h5:=(dP (c:=cx ok pl w) (ρ:=f.ev e) (ev:=a.eval) args.toList λx hx=>s.ev x).sv hsc.2;rw[List.map_map]at h5;obtain⟨rec,g1,g2,g3,g4,g5,g6,g7,_⟩:=s.hs.loopSet hb hc .ready aL;have hrun:(execOp a.eval o).run e.P w= .ok (.round b rec.fn ((rec.params.zip (args.map a.eval)).foldl (λtmps (t,a)=>tmps.setIfInBounds t a) rec.tmps) rec.assign rec.body) w:=by
  have:execOp a.eval o=(do let d <-resolve a.eval {callee:= .value fx,args:=args,argTypes:=ts} o.type;invoke d.target d.args):=by simp[execOp,hop]
  rw[this];have h6:(resolve a.eval {callee:= .value fx,args:=args,argTypes:=ts} o.type).run e.P w= .ok {target:= .fn (.yield b) #[],args:=args.map a.eval} w:=by
   simp[resolve,hx,Deferred.ofValue]
  simp only[Sem.run_bind,h6,a8,invoke];exact run_yield g1 (by simp[g4,hl])
 refine⟨λg _=>jg r g,?_⟩;rw[fO,Oper.semAt_eq r a.eval o (λc=>by rw[hop];exact λh=>by cases h),hrun];refine⟨λhd'=>(by rw[jV]at hd';cases hd'),?_⟩;rw[g5,g6];have tr:=TRel.all (ps:=ps.toList) g7 hps h5;have htm:(rec.params.zip (args.map a.eval)).foldl (λtmps (t,a)=>tmps.setIfInBounds t a) rec.tmps=((ps.toList.zip (args.toList.map a.eval)).foldl (λtmps (t,a)=>tmps.setIfInBounds t a) rec.tmps):=by
  rw[g4,<-Array.foldl_toList,Array.toList_zip,Array.toList_map]
 rw[htm];have hk:∀(ps:List Tmp)(vs:List V)(f:Fr),(jo f ps vs).k=f.k/\(jo f ps vs).d=f.d:=by
  intro ps
  induction ps with
  |nil=>intro vs f;cases vs<;>exact⟨rfl,rfl⟩
  |cons p ps ih=>intro vs f;cases vs with
   |nil=>exact⟨rfl,rfl⟩
   |cons v vs=>exact ih vs (f.put (ar p) v)
 have s0:SSim e n' ok pl w (jo {t:=t} ps.toList (args.toList.map λx=>(f.ev e x).sv)) h pl w {tmps:=((ps.toList.zip (args.toList.map a.eval)).foldl (λtmps (t,a)=>tmps.setIfInBounds t a) rec.tmps),defers:=[]}:=by
  refine⟨s.hs,?_,tr.size,tr.val,?_⟩
  ·rw[(hk _ _ _).1];exact Keeps.refl pl w
  ·rw[(hk _ _ _).2];exact htl.symm
 refine Au (jg r _) ?_;rw[Bf];refine wpIn_mono (hv b ok pl w pl w _ s0) ?_;rintro ex a1 w1 ⟨pl1,f1,h1,xe,s1,hx1,rfl,hk1,t1,hc1,hbody⟩;cases ex<;>(try exact hx1.elim);have hb1:pl1 id=ar b:=s1.kp.keep id b hk1 hb;obtain⟨rec1,q1,q2,q3,q4,q5,q6,q7,hs2,k2⟩:=s1.hs.loopSet hb1 hc1 .busy aL;refine⟨_,run_beginRound q1 q2,?_⟩;have hrec:({rec1 with state:= .busy}:Loop)={rec1 with state:= .busy,pending:=aL}:=by rw[<-q3]
 rw[hrec];refine tX (hbody ok pl w pl1 _ a1 (s1.next0 hs2 k2)) ?_ ?_
 ·rintro ex a2 w2 ⟨pl2,f2,h2,xe2,s2,hx2,rfl,⟨hk2,hd2⟩,t2,st2,hc2,hK⟩;cases ex<;>(try exact hx2.elim);have hb2:pl2 id=ar b:=s2.kp.keep id b hk2 hb;obtain⟨rec2,p1,p2,p3,p4,p5,p6,p7,hs3,k3⟩:=s2.hs.loopSet hb2 hc2 .ready aL;refine⟨rfl,_,_,run_endRound aL p1,pl2,_,_,?_,hK⟩;have s3:=s2.next0 hs3 k3;exact(s.next s3.hs s3.kp hd2).put hd (by simp only[VRel];rfl)
 ·rintro ch a2 w2 ⟨pl2,f2,h2,v,x,s2,hch,hr,hd0,hd2,hq⟩;refine⟨?_,pl2,_,h2,.pan v,s.next s2.hs s2.kp hd2,⟨x,hch,hr⟩,hq⟩;have:=s2.dfr;rw[hd0]at this;exact Eq.trans this htl
end
section
variable{e:E}{n:Nat}{r:Option Nat}{f:Fr}{h:H}{Q:XE->Fr->H->Prop}{ops:Array Oper}
def UE(e:E)(n:Nat)(r:Option Nat)(ops:Array Oper)(Q:XE->Fr->H->Prop)(l:List Oper)(f:Fr)(h:H):Prop :=
 ∀ok pl0 w0 pl w a,SSim e n ok pl0 w0 f h pl w a->wpListIn (RF r) 0 e.P ops (iR e n ok pl0 w0 Q) l a w
variable{id:Nat}{l:List Oper}
theorem jF(hv:UE e n r l.toArray Q l f h):awp e n r (.region id l.toArray am) Q f h :=
 λok pl0 w0 pl w a s=>wpIn_region_lit (hv ok pl0 w0 pl w a s)
theorem iZ(hv:Q .normal f h):UE e n r ops Q [] f h:=λok pl0 w0 pl w a s=>⟨pl,f,h,.normal,s,trivial,hv⟩
variable{o:Oper}{rest:List Oper}
theorem gX(hg:o.guard=aL)(hd:ku n o.dst=ab)(he:Eff e n r o f h (UE e n r ops Q rest) Q):UE e n r ops Q (o::rest) f h:=λok pl0 w0 pl w a s=>by
 have hgd:gd ops f o=ar ab:=by unfold gd;rw[hg]
 have hw:=uZ s.val hgd;unfold wpListIn;rw[if_pos hw];exact Oper.wpIn_mono (λa' w' ⟨pl',f',h',s',hk⟩=>hk ok pl0 w0 pl' w' a' s') (he ok pl0 w0 pl w a s hd)
theorem aK(hg:o.guard=aL)(hd:ku n o.dst=ab) (he:match kG o.op with
 |true=>En e n o f h (UE e n r ops Q rest) Q
 |false=>PV.go ab (wG e.P o (f.ev e) h) o.dst (UE e n r ops Q rest) f h):UE e n r ops Q (o::rest) f h:=by
 refine gX hg hd ?_;cases hi:kG o.op with
 |true=>rw[hi]at he;exact CE he
 |false=>rw[hi]at he;exact lh (oC (he.1 rfl)) he.2
end
variable{e:E}{ok:Nat->Prop}{h:H}
theorem HSim.tl{pl:Nat->Option Nat}{w:World}(hs:HSim e ok pl h w)(tl:List Deferred):HSim {e with tl:=tl} ok pl h w :=
 ⟨hs.fresh,hs.lt,hs.okl,hs.inj,hs.obj,hs.bare,hs.glob,hs.exa⟩
theorem HSim.untl{ok:Nat->Prop}{pl:Nat->Option Nat}{h:H}{w:World}{tl:List Deferred}(hs:HSim {e with tl:=tl} ok pl h w):HSim e ok pl h w :=
 ⟨hs.fresh,hs.lt,hs.okl,hs.inj,hs.obj,hs.bare,hs.glob,hs.exa⟩
variable{g:FuncId}{args:List V}{R:AEnd->H->(Nat->Bool)->Prop}
theorem ag.tl(hc:ag e g args h R)(tl:List Deferred):ag {e with tl:=tl} g args h R :=
 λok pl w vs hs hl=>(hc ok pl w vs hs.untl hl).mono λen w' ⟨p,pl',h',ae,h1,h2⟩=>⟨p,pl',h',ae,h1.tl tl,h2⟩
def CY:Op->Bool
 | .assign _ | .move _ | .alloc _ | .store _ _ _ | .extract _ _ | .typeAssert _ _ _ _=>ab
 |_=>am
variable{o:Oper}
theorem LJ{P:Program}(h:CY o.op=ab)(ev:Operand->Value)(w:World):(∃x w',(execOp ev o).run P w= .ok (.value x) w')\/(∃w',(execOp ev o).run P w= .ok .skip w')\/∃x w',(execOp ev o).run P w= .halt x w':=by
 cases hop:o.op<;>rw[hop]at h<;>try(cases h;done)
 all_goals
  simp only[execOp,hop,Sem.run_bind,Sem.run_pure]
 case assign x=>exact .inl ⟨_,_,rfl⟩
 case move x=>exact .inl ⟨_,_,rfl⟩
 case store t x y=>cases hr:(Instr.storeAt t (ev x) (ev y)).run P w with
  |ok v w'=>exact .inr (.inl ⟨w',rfl⟩)
  |halt x w'=>exact .inr (.inr ⟨x,w',rfl⟩)
 all_goals
  generalize hs:Sem.run P _ w=r;cases r with
  |ok v w'=>exact .inl ⟨v,w',rfl⟩
  |halt x w'=>exact .inr (.inr ⟨x,w',rfl⟩)
section
variable{e:E}{n:Nat}
theorem wM{ops:Array Oper}{P:Program}{Q:Exit->Act->World->Prop}{cs:List Frame}:∀(l:List Oper)(k:Nat)(a:Act)(w:World),(∀j,j<aa l->l[j]? =ops[k+j]?)->(∀o∈l,CY o.op=ab)->wpListIn (RF aL) 0 P ops Q l a w ->
 wpOpsSIn (RF aL) 0 P ops (λex a cs' w=>cs'=cs/\Q ex a w) (List.range' k (aa l)) a cs w
 |[],k,a,w,_,_,h=>by show wpOpsSIn _ _ _ _ _ [] a cs w;exact(zsa rfl h:cs=cs/\Q .normal a w)
 |o::rest,k,a,w,hl,hs,h=>by
  have ho:ops[k]? =ar o:=by have:=hl 0 (by simp);simpa using this.symm
  have ih:∀a w,wpListIn (RF aL) 0 P ops Q rest a w->wpOpsSIn (RF aL) 0 P ops (λex a cs' w=>cs'=cs/\Q ex a w) (List.range' (k+1) (aa rest)) a cs w:=λa w h=>wM rest (k+1) a w (λj hj=>by
   have:=hl (j+1) (by simpa using hj);rw[List.getElem?_cons_succ]at this;rw[this];congr 1;omega) (λo ho=>hs o (List.mem_cons_of_mem _ ho)) h
  show wpOpsSIn (RF aL) 0 P ops _ (k::List.range' (k+1) (aa rest)) a cs w;unfold wpListIn at h;simp only[wpOpsSIn,ho];refine⟨λg _=>jg aL g,?_⟩;split at h
  ·rename_i hw;rw[if_pos hw];obtain⟨_,hu⟩:=h;rw[fO,Oper.semAt_eq aL a.eval o (λc hc=>by have:=hs o (by simp);rw[hc]at this;cases this)]at hu;rcases LJ (P:=P) (hs o (by simp)) a.eval w with⟨x,w',hr⟩|⟨w',hr⟩|⟨x,w',hr⟩
   ·rw[hr]at hu ⊢;exact ih _ _ hu
   ·rw[hr]at hu ⊢;exact ih _ _ hu
   ·rw[hr]at hu ⊢;cases x<;>try exact hu.elim
    exact⟨trivial,hu⟩
  ·rename_i hw;rw[if_neg hw];exact ih _ _ h.2
theorem nG{F:Fence}{m:Nat}{P:Program}{ops:Array Oper}{Q Q':Exit->Act->List Frame->World->Prop}(hq:∀ex a cs w,Q ex a cs w->Q' ex a cs w):∀(l:List Nat)(a:Act)(cs:List Frame)(w:World),wpOpsSIn F m P ops Q l a cs w->wpOpsSIn F m P ops Q' l a cs w
 |[],a,cs,w,h=>hq _ _ _ _ h
 |i::rest,a,cs,w,h=>by
  simp only[wpOpsSIn]at h ⊢;split at h
  ·exact nG hq rest _ _ _ h
  ·refine⟨h.1,?_⟩;have h2:=h.2;split at h2
   ·rename_i hw;rw[if_pos hw];split at h2
    ·split at h2<;>exact nG hq rest _ _ _ h2
    ·exact nG hq rest _ _ _ h2
    ·exact nG hq rest _ _ _ h2
    ·exact hq _ _ _ _ h2
    ·exact h2.elim
   ·rename_i hw;rw[if_neg hw];exact nG hq rest _ _ _ h2
def rX(e:E)(q:FuncId)(args:List V)(v:V)(h:H)(K:H->(Nat->Bool)->Prop):Prop :=
 ∀ok pl w vs x,HSim e ok pl h w->VList (cx ok pl w) args vs->VRel (cx ok pl w) v x ->
  CallsDIn (RF aL) (0-1) e.P q vs.toArray (.panicking [{v:=x,recovered:=am}]) w λen u' w'=>(∃y,en= .returned y)/\u'= .panicking [{v:=x,recovered:=ab}] /\
   ∃p pl' h',HSim e ok pl' h' w'/\Keeps p pl w pl' w'/\K h' p
theorem Aw(htl:e.tl=[]){q:FuncId}{fn:Func}{args:List V}{v:V}{h:H}{K:H->(Nat->Bool)->Prop}{id:Nat}{o0:Oper}{l:List Oper}{rest:Code}(hf:e.P.funcs[q]? =ar fn)
 (hb:fn.body=ar (.seq (.region id (o0::l).toArray am) rest)) (hr0:fn.results.toList=[]) (hn:aa args<=fn.ntmps) (hg:o0.guard=aL) (ho:∀ev w,(execOp ev o0).run e.P w= .ok .recover w) (hd:ku fn.ntmps o0.dst=ab)
 (hl:(l.all λo=>CY o.op)=ab)
 (hv:UE e fn.ntmps aL (o0::l).toArray (XE.seq (awp e fn.ntmps aL rest (λxe f h=>(xe= .normal\/xe= .ret)/\f.d=[]/\K h f.k)) (λ_ _ _=>False)) l ((Fr.init args).put o0.dst v) h):rX e q args v h K:=by
 intro ok pl w vs x hs hl2 hx;refine callsDIn_of_wpSIn hf hb (jg aL q) λc0 cs hm=> ?_;have s0:=SSim.init htl (n:=fn.ntmps) hs hl2 hn;have s1:=s0.put hd hx;obtain⟨c1,ec1⟩:∃c1:Frame,c1={c0 with mode:= .panicking [{v:=x,recovered:=ab}]}:=⟨_,rfl⟩;have hrec:recoverD (c0::cs)=ar (x,c1::cs):=by
  rw[ec1];simp[recoverD,hm]
 refine wpSIn_seq (wpSIn_region ?_);have hsz:(o0::l).toArray.size=aa (o0::l):=by simp
 rw[hsz,List.range_eq_range'];show wpOpsSIn (RF aL) (0-1) e.P _ _ (0::List.range' 1 (aa l)) _ _ _;have h00:(o0::l).toArray[0]? =ar o0:=by simp
 simp only[wpOpsSIn,h00];refine⟨λg _=>jg aL g,?_⟩;have hgd:gd (o0::l).toArray (Fr.init args) o0=ar ab:=by unfold gd;rw[hg]
 rw[if_pos (uZ s0.val hgd),ho];dsimp only;rw[hrec];dsimp only;have hlist:=hv ok pl w pl w _ s1;have hS:=wM (P:=e.P) (cs:=c1::cs) (ops:=(o0::l).toArray) l 1 _ w (λj hj=>by simp[Nat.add_comm]) (λo ho=>zrs.1 hl o ho) hlist;refine nG ?_ _ _ _ _ hS;rintro ex a2 cs2 w2 ⟨rfl,pl2,f2,h2,xe,s2,hx2,hq2⟩;cases xe<;>cases ex<;>(try exact hx2.elim)<;>(try exact hq2.elim);have hq2:awp e fn.ntmps aL rest (λxe f h=>(xe= .normal\/xe= .ret)/\f.d=[]/\K h f.k) f2 h2:=hq2;refine wpSIn_of_wpIn (fO aL) (wpIn_mono (hq2 ok pl w pl2 w2 a2 s2) ?_);rintro ex a3 w3 ⟨pl3,f3,h3,xe,s3,hx3,hxe,hd3,hk3⟩;have hdf:a3.defers=[]:=by
  have:=s3.dfr;rw[hd3]at this;exact Eq.trans this htl
 have hres:∃y,(results fn a3.tmps).run e.P w3= .ok y w3:=by
  have hp:(CP e.P f3 h3 fn.results.toList).1:=by rw[hr0];trivial
  obtain⟨y,h1,_⟩:=Jb (f:=f3) s3.hs s3.val hp;exact⟨y,h1⟩
 obtain⟨y,hy⟩:=hres;have fin:a3.defers=[]/\∃u',c1::cs={c0 with mode:=u'}::cs/\∃v,(results fn a3.tmps).run e.P w3= .ok v w3/\((∃y,Ending.returned v= .returned y)/\u'= .panicking [{v:=x,recovered:=ab}] /\
  ∃p pl' h',HSim e ok pl' h' w3/\Keeps p pl w pl' w3/\K h' p) :=
  ⟨hdf,_,by rw[ec1],y,hy,⟨y,rfl⟩,rfl,f3.k,pl3,h3,s3.hs,s3.kp,hk3⟩
 rcases hxe with rfl|rfl<;>cases ex<;>(try exact hx3.elim)
 ·exact fin
 ·exact fin
end
section
variable{e:E}{n:Nat}
def WN(e:E)(ok:Nat->Prop)(pl0:Nat->Option Nat)(w0:World)(R:AEnd->H->(Nat->Bool)->Prop)(en:Ending)(w':World):Prop :=
 ∃p pl' h' ae,HSim e ok pl' h' w'/\Keeps p pl0 w0 pl' w'/\I5 (cx ok pl' w') ae en/\R ae h' p
def Xw(e:E)(n:Nat)(M:Exit->Act->World->Prop)(ok:Nat->Prop)(pl0:Nat->Option Nat)(w0:World)(c:Code)(f:Fr)(h:H):Prop :=
 ∀pl w a,SSim e n ok pl0 w0 f h pl w a->c.wpIn (RF aL) 0 e.P M a w
theorem OM(htl:e.tl=[]){fn:Func}{R:AEnd->H->(Nat->Bool)->Prop}{ok:Nat->Prop}{pl:Nat->Option Nat}{w:World}:∀ex a w',iR e fn.ntmps ok pl w (wJ e.P fn.results.toList R) ex a w'->bodyPostM (RF aL) 0 e.P fn (WN e ok pl w R) ex a w':=by
 rintro ex a w' ⟨pl',f',h',xe,s,hx,hq⟩;have done:xh e.P fn.results.toList (λv=>R (.ret v)) f' h'->LeavesInM (RF aL) 0 e.P fn a.tmps (WN e ok pl w R) a.defers .returning w':=by
  intro hq;unfold xh at hq;split at hq
  ·rename_i h2 hsh;refine Ey htl (f:=f') (a:=a) (v:= .any) (x:=undef) (by simp) f'.d a.defers h' h2 pl' w' s (by simp only[VRel]) hsh λw2 s2 _=> ?_;obtain⟨x,h1,h3⟩:=Jb (f:=f') s2.hs s2.val hq.1;exact⟨x,h1,f'.k,pl',h2,.ret _,s2.hs,s2.kp,h3,hq.2⟩
  ·exact hq.elim
 cases xe<;>cases ex<;>(try(exact hx.elim))<;>(try(exact hq.elim))
 case normal=>exact done hq
 case ret=>exact done hq
 case pan v ch =>
  simp only[wJ]at hq;split at hq
  ·rename_i h2 hsh;obtain⟨x,hch,hxr⟩:=hx;exact Ey htl (f:=f') (a:=a) (v:=v) (x:=x) (by simp) f'.d a.defers h' h2 pl' w' s hxr hsh λw2 s2 hr=>⟨f'.k,pl',h2,.pan v,s2.hs,s2.kp,⟨x,hch,hr⟩,hq⟩
  ·exact hq.elim
theorem Az(htl:e.tl=[]){g:FuncId}{fn:Func}{c:Code}{args:List V}{h:H}{R:AEnd->H->(Nat->Bool)->Prop}(hf:e.P.funcs[g]? =ar fn)(hb:fn.body=ar c)(hn:aa args<=fn.ntmps)
 (hv:∀ok pl0 w0,Xw e fn.ntmps (bodyPostM (RF aL) 0 e.P fn (WN e ok pl0 w0 R)) ok pl0 w0 c (Fr.init args) h):ag e g args h R:=by
 intro ok pl w vs hs hl;exact pJ (r:=aL) (n:=0) (callsIn_of_wp_marks hf hb (jg aL g) (hv ok pl w pl w _ (SSim.init htl (n:=fn.ntmps) hs hl hn)) rfl)
variable{x y:Code}
theorem CZ{M:Exit->Act->World->Prop}{pl0:Nat->Option Nat}{w0:World}{f:Fr}{Q:XE->Fr->H->Prop}(hx:awp e n aL x (XE.seq (λf h=>Xw e n M ok pl0 w0 y f h) Q) f h)
 (hQ:∀ex a w,iR e n ok pl0 w0 Q ex a w->M ex a w):Xw e n M ok pl0 w0 (.seq x y) f h:=λpl w a s=>by
 refine wpIn_seq (wpIn_mono (hx ok pl0 w0 pl w a s) λex a w hp=> ?_);have:=iR.seq (K':=λa w=>y.wpIn (RF aL) 0 e.P M a w) (λpl f h a w s hk=>hk pl w a s) ex a w hp;cases ex<;>first|exact this|exact hQ _ _ _ this
theorem LK(htl:e.tl=[]){fn:Func}{R:AEnd->H->(Nat->Bool)->Prop}{ok:Nat->Prop}{pl0:Nat->Option Nat}{w0:World}{f F1:Fr}{h:H}{id:Nat}{mk df:Oper}{rest:Code}{q:FuncId}{caps:List V}{fx:Operand}
 (hmg:mk.guard=aL) (hmd:ku fn.ntmps mk.dst=ab) (hmp:(wG e.P mk (f.ev e) h).1) (hmf:f.put mk.dst (wG e.P mk (f.ev e) h).2=F1)
 (hdg:df.guard=aL) (hdd:df.dst=aL) (hdop:df.op= .defer {callee:= .value fx,args:=#[],argTypes:=#[]}) (hfx:(F1.ev e fx).sv= .fn (.func q) [] caps) (hsc:(F1.ev e fx).sc) (hen:au e.P q=ab) (hfd:f.d=[])
 (hrest:∀d,awp {e with tl:=[d]} fn.ntmps aL rest (λxe f' h'=>∃v,xe= .pan v/\f'.d=[]/\aE f'.k caps=caps /\
  rX e q caps v h' (λh'' p=>xh e.P fn.results.toList (λv h k=>R (.ret v) h (λi=>f.k i||k i)) (f'.drop p) h'')) {F1 with k:=λ_=>am} h) :
 Xw e fn.ntmps (bodyPostM (RF aL) 0 e.P fn (WN e ok pl0 w0 R)) ok pl0 w0 (.seq (.region id [mk,df].toArray am) rest) f h:=by
 intro pl w a s;refine wpIn_seq (wpIn_region_lit ?_);have hgd:gd [mk,df].toArray f mk=ar ab:=by unfold gd;rw[hmg]
 unfold wpListIn;rw[if_pos (uZ s.val hgd)];refine⟨λg _=>jg aL g,?_⟩;have hq:=oC (e:=e) hmp ok pl w a.eval s.hs s.evs;have hnd:mk.semAt (RF aL).round a.eval=execOp a.eval mk:=by rw[fO,Oper.semAt_none]
 rw[hnd];have hF1d:F1.d=[]:=by
  rw[<-hmf];cases mk.dst with
  |none=>exact hfd
  |some i=>exact hfd
 have fin:∀x w1,WExt w w1/\VRel (cx ok pl w1) (wG e.P mk (f.ev e) h).2 x->wpListIn (RF aL) 0 e.P [mk,df].toArray (Exit.then (rest.wpIn (RF aL) 0 e.P (bodyPostM (RF aL) 0 e.P fn (WN e ok pl0 w0 R))) (bodyPostM (RF aL) 0 e.P fn (WN e ok pl0 w0 R))) [df] (a.put mk.dst x) w1:=by
  rintro x w1 ⟨hx,hv⟩;have kx:=hx.keeps s.hs;have s1:=(s.next0 (s.hs.wext hx) kx).put hmd hv;rw[hmf]at s1;generalize ha1:a.put mk.dst x=a1 at s1 ⊢;have hgd1:gd [mk,df].toArray F1 df=ar ab:=by unfold gd;rw[hdg]
  unfold wpListIn;rw[if_pos (uZ s1.val hgd1)];refine⟨λg _=>jg aL g,?_⟩;have h1:=(s1.ev fx).sv hsc;rw[hfx]at h1;simp only[VRel]at h1;obtain⟨fs,cs,h2,h3,h4⟩:=h1;have hfs:fs=#[]:=by
   simp only[VList]at h3;exact Array.toList_eq_nil_iff.1 h3
  subst hfs;obtain⟨d,ed⟩:∃d:Deferred,d={target:= .fn (.func q) cs,args:=#[]}:=⟨_,rfl⟩;have hrun:(execOp a1.eval df).run e.P w1= .ok (.defer d) w1:=by
   rw[ed];simp[execOp,hdop,resolve,h2,Deferred.ofValue,a8]
  rw[fO,Oper.semAt_none,hrun,Oper.uponIn_defer,hdd];have hdf1:a1.defers=[]:=by
   have:=s1.dfr;rw[hF1d]at this;exact Eq.trans this htl
  have s2:SSim {e with tl:=[d]} fn.ntmps ok pl w1 {F1 with k:=λ_=>am} h pl w1 {a1 with defers:=d::a1.defers} :=
   ⟨s1.hs.tl _,Keeps.refl pl w1,s1.size,s1.val,by
    show G8 _ [d] F1.d (d::a1.defers);rw[hF1d,hdf1];rfl⟩
  show rest.wpIn (RF aL) 0 e.P _ {a1 with defers:=d::a1.defers} w1;refine wpIn_mono (hrest d ok pl w1 pl w1 _ s2) ?_;rintro ex a3 w3 ⟨pl3,f3,h3',xe,s3,hx3,v,rfl,hd3,hcap,hcD⟩;cases ex<;>(try exact hx3.elim);obtain⟨y,rfl,hy⟩:=hx3;have hdf3:a3.defers=[d]:=by have:=s3.dfr;rw[hd3]at this;exact this
  show LeavesInM (RF aL) 0 e.P fn a3.tmps _ a3.defers (.panicking _) w3;rw[hdf3];have hcs3:VList (cx ok pl3 w3) caps cs.toList:=by
   have:=VList.mdrop s3.kp.cext _ _ h4
   rwa [hcap]at this
  have hinv:(invoke d.target d.args).run e.P w3= .ok (.enter q cs) w3:=by
   rw[ed];simp only[invoke];rw[qH hen]
   congr 2
   simp
  refine⟨by simp,.inr ⟨(λhh=>by rw[jV]at hh;cases hh),Fn.func q,cs,q,cs,(by rw[ed]),hinv,(λg _=>jg aL g),?_⟩⟩;refine CallsDIn.mono (hcD ok pl3 w3 cs.toList y s3.hs.untl hcs3 hy) ?_;rintro en u' w4 ⟨⟨z,rfl⟩,rfl,p,pl4,h4',hs4,k4,hK⟩;have s4:=s3.next (hs4.tl _) k4 (p:=p) (by rw[hd3];intro i hi;cases hi)
  unfold xh at hK;rw[show(f3.drop p).d=[]from hd3]at hK;simp only[jK]at hK;obtain⟨u,hu1,hu2⟩:=Jb (f:=f3.drop p) (e:=e) hs4 s4.val hK.1;have kk:=((s.kp.trans kx).trans s3.kp).trans k4;exact⟨u,hu1,_,pl4,h4',.ret _,hs4,kk.weaken (q:=λi=>f.k i||(f3.drop p).k i) (λi hi=>by
   simp only[Fr.drop,Bool.or_eq_true,Bool.or_false,zrm,or_false]at hi ⊢;rcases hi with(hi|hi)|hi
   ·exact .inl hi
   ·exact .inr (.inl hi)
   ·exact .inr (.inr hi)),hu2,hK.2⟩
 revert hq
 cases hrun:(execOp a.eval mk).run e.P w with
 |halt x w'=>intro hq;exact hq.elim
 |ok nx w' =>
  intro hq;cases nx<;>try exact hq.elim
  case value x=>exact fin x w' hq
  case skip=>exact fin undef w' hq
  case enter g args =>
   refine⟨λhh=>(by rw[jV]at hh;cases hh),dQ (Calls.mono hq ?_)⟩;rintro en w'' ⟨x,rfl,hx⟩;exact fin x w'' hx
end
section
variable{e:E}{n:Nat}{r:Option Nat}{o:Oper}{f:Fr}{h:H}{Kn:Fr->H->Prop}{Q:XE->Fr->H->Prop}
theorem Bj{α:Type}(ys:List α)(K:Nat)(hK:aa ys=K)(h0:0<K):∀(m j:Nat),((List.range m).flatMap λ_=>ys)[j]? =if j<m*K then ys[j%K]? else aL
 |0,j=>by simp
 |m+1,j=>by
  have hlen:∀m,aa ((List.range m).flatMap λ_=>ys)=m*K:=by
   intro m
   induction m with
   |zero=>simp
   |succ m ih=>rw[List.range_succ,List.flatMap_append,zqa,ih];simp[hK,Nat.succ_mul]
  rw[List.range_succ,List.flatMap_append];have hs:(m+1)*K=m*K+K:=Nat.succ_mul m K;by_cases hj:j<m*K
  ·rw[zqj (by rw[hlen];exact hj),Bj ys K hK h0 m j,if_pos hj,if_pos (by omega)]
  ·rw[zsb (by rw[hlen];omega),hlen];simp only[List.flatMap_cons,List.flatMap_nil,zqp];by_cases hj2:j<(m+1)*K
   ·rw[if_pos hj2];have:j%K=j-m*K:=by
     have e:j=(j-m*K)+K*m:=by rw[Nat.mul_comm K m];omega
     rw[e,Nat.add_mul_mod_self_left,Nat.mod_eq_of_lt (by omega)];rw[Nat.mul_comm K m];omega
    rw[this]
   ·rw[if_neg hj2,zsj (by omega)]
theorem AA{t:TypeId}{l c:Operand}(hop:o.op= .makeSlice t l c){q re:TI}(hq:ti e.P t=ar q){el:TypeId}(hk0:q.kind= .slice el)(hre:ti e.P el=ar re)
 (hf:re.zero.fit=ab) (hf1:aa re.zero.vc=re.size) (hz0:0<re.size) (hlc:(f.ev e l).sc) (hcc:(f.ev e c).sc) {k k':IntKind} {m:Int} (hl:(f.ev e l).sv= .int k m) (hc:(f.ev e c).sv= .int k' m)
 (hm0:0<=m) (hm1:m<=1000000) (hby:re.bytes<=1000) (hzs:m.toNat*re.size<=16000000)
 (hk:Kn (f.put o.dst (.ls (aa h) re.size 0 m.toNat m.toNat)) (h++[.cells ((List.range m.toNat).flatMap λ_=>re.zero.vc)])):Eff e n r o f h Kn Q:=by
 refine bI ?_ (λc=>by rw[hop];exact λh=>by cases h);intro ok pl w ev hs hr;obtain⟨i,d,z,hT⟩:=aW hq;have hd:=hT.slice hk0;subst hd;obtain⟨ie,de,ze,hE⟩:=aW hre;have h1:=(hr l (by simp[hop,Op.operands])).sv hlc;have h2:=(hr c (by simp[hop,Op.operands])).sv hcc;rw[hl]at h1;rw[hc]at h2;simp only[VRel]at h1 h2;have hzr:=(gJ (cx ok pl w) ze).vc (by rw[<-hE.zv];exact hf);rw[<-hE.zv]at hzr;have hsz:ie.size=re.size:=hE.size.symm;have hbb:ie.bytes<=1000:=by rw[<-hE.bytes];exact hby
 have hzl:aa ze.cells.toList=re.size:=hzr.length.trans hf1;have hrun:=run_makeSlice (P:=e.P) w t el ie ze hT.und hE.info hE.zero k k' m m hm0 (Int.le_refl _) (by rw[hsz];omega) (by
  have h1:(ie.bytes:Int)*m<=1000*m:=Int.mul_le_mul_of_nonneg_right (by omega) hm0;omega) (by omega)
 rw[hsz]at hrun;have hzsz:ze.cells.size=re.size:=by rw[<-Array.length_toList];exact hzl
 have harr:(madeCells ze.cells (m.toNat*re.size)).toList=(List.range m.toNat).flatMap λ_=>ze.cells.toList:=by
  apply List.ext_getElem?;intro j;rw[Bj _ re.size hzl hz0];simp only[madeCells,Array.toList_map,Array.toList_range,zqo];by_cases hj:j<m.toNat*re.size
  ·have hjm:j%re.size<ze.cells.size:=by rw[hzsz];exact Nat.mod_lt _ hz0
   rw[List.getElem?_range hj,if_pos hj,hzsz,zrw,getElem!_pos ze.cells (j%re.size) hjm,zqk (by rw[hzl];exact Nat.mod_lt _ hz0),Array.getElem_toList]
  ·rw[zsj (by simp;omega),if_neg hj];rfl
 have hrep:∀k:Nat,VList (cx ok pl w) ((List.range k).flatMap λ_=>re.zero.vc) ((List.range k).flatMap λ_=>ze.cells.toList):=by
  intro k
  induction k with
  |zero=>simp[VList]
  |succ k ih=>rw[List.range_succ,List.flatMap_append,List.flatMap_append];refine VList.append ih ?_;simpa using hzr
 have hfl:∀k:Nat,aa ((List.range k).flatMap λ_=>re.zero.vc)=k*re.size:=by
  intro k
  induction k with
  |zero=>simp
  |succ k ih=>rw[List.range_succ,List.flatMap_append,zqa,ih];simp[hf1,Nat.succ_mul]
 obtain⟨h1',h2'⟩:=ny hs (cs:=(List.range m.toNat).flatMap λ_=>re.zero.vc) (arr:=madeCells ze.cells (m.toNat*re.size)) (by rw[hfl,size_madeCells];exact zrb _) (by rw[harr,zqh (Nat.le_of_eq (hrep m.toNat).length)];exact hrep _) el (WExt.refl w);refine⟨λ_=>am,.ls (aa h) re.size 0 m.toNat m.toNat,_,_,_,.slice (ar ⟨w.heap.size,0,aL⟩) m.toNat m.toNat,.inl ?_,h1',h2',?_,λ_ _=>rfl,by simpa using hk⟩
 ·have h3:execOp ev o=(do pure (Next.value (<-Instr.makeSlice t (ev l) (ev c)))):=by simp[execOp,hop]
  rw[h3,h1,h2];exact iT hrun
 ·have hM:=mLx;simp only[VRel];refine⟨_,m.toNat,rfl,zrb _,zrb _,by omega,.inr ⟨w.heap.size,madeCells ze.cells (m.toNat*re.size),el,(0,0),by simp[cx,dI],rfl,World.alloc_heap_new w _,by rw[size_madeCells];omega⟩⟩
end
section
variable{e:E}{n:Nat}{r:Option Nat}{o:Oper}{f:Fr}{h:H}{Kn:Fr->H->Prop}{Q:XE->Fr->H->Prop}
variable{ok:Nat->Prop}{pl:Nat->Option Nat}{w:World}
variable{cs:List V}
theorem OLe.typed{T:TypeId}:OLe (.typed T cs) (.cells cs) :=
 ⟨λc b ⟨arr,fz,h1,h2,h3,h4⟩=>⟨arr,T,fz,h1,h2,h3,h4⟩,λh=>by rcases h with h|h<;>cases h⟩
end
section
variable{P:Program}{w:World}
variable{re:TI}
theorem yQ{ts:Array TypeId}{t xt ty el:TypeId}{r rx:TI}{i ie ix:TypeInfo}{de:TypeDesc}{z ze zx:Value}{kx:IntKind}(h0:ts[0]? =ar t)(h1:ts[1]? =ar xt)
 (hT:TIs P t r i (.slice el) z) (hE:TIs P el re ie de ze) (hX:TIs P xt rx ix (.int kx) zx)
 (m:Nat) (hm:0<m) (hm1:m<=1000000000000) (hb:m*re.bytes<=140737488355328) (hsz:re.size=1) :
 (Builtin.append_ ts ty #[.slice aL 0 0,.int .i64 m]).run P w =
  .ok (.slice (ar ⟨w.heap.size,0,aL⟩) m (grownCap w m 0 el))
   (w.drew.alloc (.cells (Builtin.zeroCells ze.cells m++Builtin.zeroCells ze.cells (grownCap w m 0 el-m)) el)):=by
 have h48':¬(281474976710656<Builtin.nextslicecap m 0*re.bytes):=by have:=growslice_fits (need:=m) (old:=0) hm hb;omega
 have hw:a5 .i64 (m:Int)=m:=aV (by omega) (by omega);have hbytes:(typeInfo el).run P w= .ok ie w:=by simp[typeInfo,hE.info]
 have hneg:¬((m:Int)<0):=by omega
 have hbig:¬((281474976710656:Int)<(m:Int)*ie.bytes):=by
  have h2:((m*re.bytes:Nat):Int)<=140737488355328:=by omega
  rw[<-hE.bytes];rw[Int.natCast_mul]at h2;omega
 have hns:m*1≠0:=by omega
 have h63:¬(9223372036854775807<(m:Int)):=by omega
 unfold Builtin.append_;simp only[h0,h1,List.getElem?_toArray,List.getElem?_cons_zero,List.getElem?_cons_succ,Sem.run_bind,hT.run_und,a8,hE.run_size,hX.run_und,Sem.run_pure];simp[asInt,asIntOf,hw,hneg,hbig,hbytes,a8,h63,hE.bytes▸h48',Question.forced,hE.run_zero,newRow,grownCap,typeInfo,hE.info,Builtin.firstCells,hsz,show m≠0 by omega]
end
section
variable{e:E}{n:Nat}{r:Option Nat}{o:Oper}{f:Fr}{h:H}{Kn:Fr->H->Prop}{Q:XE->Fr->H->Prop}
variable{re:TI}
theorem lG{x y:Operand}{t xt el:TypeId}{q:TI}(ha:IsAppend e o x y t xt el q re)(hxc:(f.ev e x).sc)(hyc:(f.ev e y).sc)
 (hx:(f.ev e x).sv= .nils) {m:Nat} (hy:(f.ev e y).sv= .int .i64 m) {rx:TI} {kx:IntKind} (hxt:Abs.ti e.P xt=ar rx) (hkx:rx.kind= .int kx)
 (hm:0<m) (hm1:m<=1000000000000) (hb:m*re.bytes<=140737488355328) (hsz:re.size=1) {zv:V} (hzv:re.zero.vc=[zv])
 (hk:Kn (f.put o.dst (.ls (aa h) 1 0 m m)) (h++[.cells (aD m zv)])):Eff e n r o f h Kn Q:=by
 obtain⟨⟨ts,hop,ht0,ht1⟩,hti,hkind,htie,hzf,hzl,hpos⟩:=ha;refine bI ?_ (λc=>by rw[hop];exact λh=>by cases h);intro ok pl w ev hs hr;obtain⟨i,d,z,hT⟩:=aW hti;have hd:=hT.slice hkind;subst hd;obtain⟨ie,de,ze,hE⟩:=aW htie;obtain⟨ix,dx,zx,hX⟩:=aW hxt;have hdx:=hX.int hkx;subst hdx;have hxv:=(hr x (by simp[hop,Op.operands,Call.operands])).sv hxc;have hyv:=(hr y (by simp[hop,Op.operands,Call.operands])).sv hyc;rw[hx]at hxv;rw[hy]at hyv;simp only[VRel]at hxv hyv;have hrun:=yQ (P:=e.P) (w:=w) (ty:=o.type) ht0 ht1 hT hE hX m hm hm1 hb hsz;obtain⟨cap,hcap⟩:∃cap,grownCap w m 0 el=cap:=⟨_,rfl⟩;have hge:=grownCap_ge w m 0 el;have hle:=grownCap_le_maxLen w m 0 el (by simp only[maxLen];omega);rw[hcap]at hrun hge hle;have hzr:=(gJ (cx ok pl w) ze).vc (by rw[<-hE.zv];exact hzf);rw[<-hE.zv,hzv]at hzr;have hzl1:=hzr.length;simp only[zrk,Array.length_toList]at hzl1;have hz1:ze.cells.size=1:=by omega
 obtain⟨arr,harr⟩:∃arr,Builtin.zeroCells ze.cells m++Builtin.zeroCells ze.cells (cap-m)=arr:=⟨_,rfl⟩;rw[harr]at hrun;obtain⟨zc,hzc,hzrel⟩:∃zc,ze.cells.toList=[zc]/\VRel (cx ok pl w) zv zc:=by simp only[VList]at hzr;obtain⟨y,ys,h1,h2,rfl⟩:=hzr;exact⟨y,h1,h2⟩
 have hasz:arr.size=cap:=by rw[<-harr];simp only[Array.size_append,size_zeroCells,hz1];omega
 have hlist:arr.toList.take (aa (aD m zv))=aD m zc:=by
  rw[<-harr,zsc,Array.toList_append,List.take_append_of_le_length (by simp[size_zeroCells,hz1]),zqh (by simp[size_zeroCells,hz1])];have:ze.cells=#[zc]:=Array.toList_inj.1 hzc;apply List.ext_getElem?;intro j;simp[Builtin.zeroCells,this,List.getElem?_replicate];by_cases hj:j<m
  ·rw[List.getElem?_range hj,if_pos hj];simp[Nat.mod_one]
  ·rw[zsj (by simp;omega),if_neg hj];rfl
 have hv:∀k,VList (cx ok pl w) (aD k zv) (aD k zc):=by
  intro k
  induction k with
  |zero=>simp[VList]
  |succ k ih=>simp only[List.replicate_succ,VList];exact⟨_,_,rfl,hzrel,ih⟩
 obtain⟨hs',kk⟩:=ny hs (cs:=aD m zv) (arr:=arr) (by rw[hasz];simpa using hge) (by rw[hlist];exact hv m) el (WExt.drew w);refine⟨λ_=>am,_,_,_,_,.slice (ar ⟨w.heap.size,0,aL⟩) m cap,.inl ?_,hs',kk,?_,λ_ _=>rfl,by rw[Fr.drop_none];exact hk⟩
 ·rw[fJ hop,hxv,hyv];exact iT hrun
 ·simp only[VRel];refine⟨_,cap,rfl,hge,hge,hle,.inr ⟨w.heap.size,arr,el,(0,0),by simp[cx,dI],rfl,?_,by rw[hasz];omega⟩⟩;exact World.alloc_heap_new w.drew (.cells arr el)
end
open Go.ChangeShapes
mutual
/-- A value of a shape, with the bound on how much is handed. -/
def Sh.Sz(R:Nat):Sh->V->Prop
 | .str,v=>∃s,v= .str s/\aa s<=R
 | .bool,v=>∃b,v= .bool b
 | .int k,v=>∃n,v= .int k n/\(Lit.int k n).wf=ab
 | .slice e,v=>∃es,v= .is am e.size es/\aa es<=R/\∀x∈es,Sh.Sz R e x
 | .struct fs,v=>∃vs,v= .agg (vs.flatMap V.vc)/\Sh.Szs R fs vs
def Sh.Szs(R:Nat):List Sh->List V->Prop
 |[],vs=>vs=[]
 |s::ss,vs=>∃u us,vs=u::us/\Sh.Sz R s u/\Sh.Szs R ss us
end
mutual
/-- Do the elements of all slices take bytes? -/
def Sh.fat(P:Program):Sh->TypeId->Bool
 | .slice e,t=>match P.underlying t with|some (.slice u)=>aM (0<P.bytesOf u)&&e.fat P u|_=>am
 | .struct fs,t=>match nD P t with|some gs=>Sh.fats P fs gs|none=>am
 | .str,_ | .bool,_ | .int _,_=>ab
def Sh.fats(P:Program):List Sh->List Field->Bool
 |[],[]=>ab
 |s::ss,g::gs=>s.fat P g.type&&Sh.fats P ss gs
 |_,_=>am
end
section
variable{H:Type}{enc:TypeId×Value->H}{P:Program}{w:World}
structure Meas(H:Type)(P:Program)(R:Nat) where
 L:TypeId->DataW H->Prop
 str:∀t b,L t (.lit (.string b))->aa b<=R
 sl:∀t u es rs,P.underlying t=ar (.slice u)->0<P.bytesOf u->L t (.slice es rs)->aa es<=R/\∀d∈es,L u d
 st:∀t fs ds,nD P t=ar fs->L t (.agg ds)->∀(i:Nat) d (f:Field),ds[i]? =ar d->fs[i]? =ar f->L f.type d
variable{R:Nat}(M:Meas H P R)
end
section
variable{e:E}{n:Nat}{r:Option Nat}{o:Oper}{f:Fr}{h:H}{Kn:Fr->H->Prop}{Q:XE->Fr->H->Prop}
theorem jq{x:Operand}{ts:Array TypeId}{t el:TypeId}{q:TI}(hop:o.op= .call {callee:= .builtin .cap,args:=#[x],argTypes:=ts})(h0:ts[0]? =ar t)
 (hti:Abs.ti e.P t=ar q) (hkind:q.kind= .slice el) (hc:(f.ev e x).sc) (hx:(f.ev e x).sv= .nils) (hk:Kn (f.put o.dst (.int .i64 0)) h):Eff e n r o f h Kn Q:=by
 refine lh (v:= .int .i64 0) (je λok pl w ev hs hr=> ?_) hk;obtain⟨i,d,z,hT⟩:=aW hti;have hu:e.P.underlying t=ar (.slice el):=by rw[hT.und,hT.slice hkind]
 have h1:=(hr x (by simp[hop,Op.operands,Call.operands])).sv hc;rw[hx]at h1;simp only[VRel]at h1;refine⟨.int .i64 0,?_,by simp only[VRel]⟩;have hb:execOp ev o=(do pure (Next.value (<-Builtin.cap_ ts o.type #[ev x]))):=by
  have : execOp ev o = (do
   let d <-resolve ev {callee:= .builtin .cap,args:=#[x],argTypes:=ts} o.type
   invoke d.target d.args):=by simp[execOp,hop]
  rw[this];simp[resolve,invoke,builtin]
 rw[hb,h1];refine iT ?_;simp[Builtin.cap_,h0,run_underlying hu,a8,goInt]
variable{re:TI}
theorem mW{x y:Operand}{t el:TypeId}{q:TI}(hop:o.op= .slice t x aL (ar y) aL)(hti:Abs.ti e.P t=ar q)(hkind:q.kind= .slice el)(hre:Abs.ti e.P el=ar re)
 (hc:(f.ev e x).sc) (hx:(f.ev e x).sv= .nils) (hyc:(f.ev e y).sc) {k:IntKind} (hy:(f.ev e y).sv= .int k 0) (hk:Kn (f.put o.dst .nils) h):Eff e n r o f h Kn Q:=by
 refine lh (v:= .nils) (je λok pl w ev hs hr=> ?_) hk;obtain⟨i,d,z,hT⟩:=aW hti;obtain⟨i',d',z',hT'⟩:=aW hre;have hd:=hT.slice hkind;have h1:=(hr x (by simp[hop,Op.operands])).sv hc;have h2:=(hr y (by simp[hop,Op.operands])).sv hyc;rw[hx]at h1;rw[hy]at h2;simp only[VRel]at h1 h2;refine⟨.slice aL 0 0,?_,by simp only[VRel]⟩;have hb:execOp ev o=(do pure (Next.value (<-Instr.sliceAt t (ev x) aL (ar (ev y)) aL))):=by simp[execOp,hop]
 rw[hb,h1,h2];refine iT ?_;have hbd:=jk (P:=e.P) (w:=w) ab 0 0 .i64 aL (ar (.int k 0)) aL aL (ar (.int k 0)) aL 0 0 0 (.inl ⟨rfl,rfl⟩) (.inr ⟨k,rfl⟩) (.inl ⟨rfl,rfl⟩) (Int.le_refl _) (Int.le_refl _) (Int.le_refl _) (Int.le_refl _);have hbd':(Instr.sliceBounds ab 0 0 aL (ar (.int k 0)) aL).run e.P w= .ok (0,0,0) w:=hbd;subst hd;simp[Instr.sliceAt,hT.run_und,a8,Instr.slice,hbd',hT'.run_size]
end
section
variable{e:E}{n:Nat}
end
section
variable{e:E}{g:FuncId}{args:List V}{h:H}{R:AEnd->H->(Nat->Bool)->Prop}
def EvF(e:E)(g:FuncId)(args:List V)(k n:Nat)(cs:List V):Prop :=
 ag e g args [] λae h' _=>match ae with
  | .ret v=>(v= .nils/\n=0/\cs=[])\/∃id cap,v= .ls id k 0 n cap/\n<=cap/\h'[id]? =ar (.cells cs)
  | .pan _=>False
variable{k n:Nat}{cs:List V}
theorem jM(hv:EvF e g args k n cs)(hd:a7 args=ab)(hcs:a7 cs=ab)(hr:R (.ret (.ls (aa h) k 0 n n)) (h++[.cells cs]) (λ_=>am)):ag e g args h R:=by
 intro ok pl w vs hs hl;refine(hv _ _ w vs hs.toData (VList.mono (pR ok pl w) _ _ (VList.todata _ _ hd hl))).mono ?_;rintro en w' ⟨p,pl',h',ae,hs',k',he,hq⟩;have x:WExt w w':=⟨k'.os,k'.tape,k'.output,k'.size,λb hb=>k'.same b hb (λi hi=>by cases hi)⟩;have bare:∀v:V,(∀y,(∀c:C,VRel c v y->VRel c (.ls (aa h) k 0 n n) y))->cs=[]->∀y,VRel (cx ok pl w') v y->en= .returned y->∃p pl2 h2 ae2,HSim e ok pl2 h2 w'/\Keeps p pl w pl2 w'/\I5 (cx ok pl2 w') ae2 en/\R ae2 h2 p:=by
  intro v hle hc0 y hy hen;subst hc0;refine⟨λ_=>am,pl,h++[.cells []],.ret (.ls (aa h) k 0 n n),qG (hs.wext x),x.keeps hs,?_,hr⟩;rw[hen];exact hle y _ hy
 cases ae with
 |pan v=>exact hq.elim
 |ret v =>
  cases en with
  |panicked ch=>exact he.elim
  |outgrown=>exact he.elim
  |returned y =>
   have he:VRel _ v y:=he;rcases hq with⟨rfl,rfl,rfl⟩|⟨id,cap,rfl,hcap,hid⟩
   ·refine bare .nils (λy c hy=> ?_) rfl y (by simpa only[VRel]using he) rfl;simp only[VRel]at hy ⊢;exact⟨aL,0,hy,zrb _,zrb _,Nat.zero_le _,.inl rfl⟩
   ·simp only[VRel]at he;obtain⟨a,cp,h1,h2,h3,h4,h5⟩:=he;cases hp:pl' id with
    |none =>
     have hc0:cs=[]:=by
      rcases hs'.bare id _ hid hp with h|h
      ·cases h
      ·cases h;rfl
     rcases h5 with h5|⟨b,arr,el,fz,h6,_⟩
     ·subst h5;have hn:n=0:=by omega
      subst hn;refine⟨λ_=>am,pl,h++[.cells cs],.ret (.ls (aa h) k 0 0 0),by rw[hc0];exact qG (hs.wext x),x.keeps hs,?_,hr⟩;show VRel _ _ _;simp only[VRel];exact⟨a,0,h1,zrb _,h3,h4,.inl rfl⟩
     ·simp only[cx]at h6;rw[hp]at h6;cases h6
    |some b0 =>
     have hb1:w.heap.size<=b0:=by
      rcases k'.loc id b0 hp with⟨j,hj⟩|hlt
      ·cases hj
      ·exact hlt
     have hb2:=hs'.lt id b0 hp;obtain⟨o,ho,hat⟩:=hs'.obj id b0 hp;rw[hid]at ho;cases ho;obtain⟨arr,el,fz,g1,g2,g3,g4⟩:=hat;have cxt:CExt (λ_=>am) (cx (λb=>ok b/\∀i,pl i≠ar b) pl' w').data (cx ok (dI pl (aa h) b0) w').data:=by
      refine⟨λb hb hok=>⟨⟨hok.1.1,λi hi=> ?_⟩,rfl⟩,λi b _ hi=>by simp[C.data]at hi,λb arr' el' fz' hb'=>⟨arr',fz',hb',rfl⟩⟩;simp only[dI]at hi;split at hi
      ·cases hi;exact hok.2 id hp
      ·exact hok.1.2 i hi
     have hat2:OAt (cx ok (dI pl (aa h) b0) w') b0 (.cells cs) :=
      ⟨arr,el,fz,g1,g2,g3,VList.ofdata _ _ (VList.mono cxt _ _ (VList.todata _ _ hcs g4))⟩
     obtain⟨s2,k2⟩:=hs.new x (.cells arr el) (.cells cs) hb1 hb2 hat2;refine⟨λ_=>am,dI pl (aa h) b0,h++[.cells cs],.ret (.ls (aa h) k 0 n n),s2,k2,?_,hr⟩;show VRel _ _ _;simp only[VRel];refine⟨a,cp,h1,h3,h3,h4,?_⟩;rcases h5 with h5|⟨b,arr2,el2,fz2,h6,h7,h8,h9⟩
     ·exact .inl h5
     ·simp only[cx]at h6 h8;rw[hp]at h6;cases h6;exact .inr ⟨b0,arr2,el2,fz2,by simp[cx,dI],h7,h8,h9⟩
theorem EvF.ev{r:V}(hv:EvF e g args k n cs)(hn:n=0->cs=[]->VLe .nils r)(hr:∀h':H,∀id cap:Nat,n<=cap->h'[id]? =ar (.cells cs)->aH e h' (.ls id k 0 n cap) r)(hnr:n=0->cs=[]->∀h':H,aH e h' .nils r):Ev e g args r :=
 Ev.of_calls (ag.mono hv λae h' p hq=>by
  cases ae with
  |pan v=>exact hq
  |ret v =>
   rcases hq with⟨rfl,h1,h2⟩|⟨id,cap,rfl,hc,hid⟩
   ·exact hnr h1 h2 h'
   ·exact hr h' id cap hc hid)
theorem lH{x:Bool}:VLe .nils (.is x k []):=λc y h=>by simp only[VRel]at h ⊢;exact⟨aL,0,h,zrb _,Nat.zero_le _,λ_=>rfl,by simp⟩
variable{es:List V}
theorem dJ{x:Bool}:VLe (.is x k es) (.is am k es):=λc y h=>by simp only[VRel]at h ⊢;obtain⟨a,cp,h1,h2,h3,h4,h5⟩:=h;exact⟨a,cp,h1,h2,h3,(λh=>by cases h),h5⟩
theorem VElems.les{c:C}{k:Nat}:∀ {es es':List V} {b off:Nat},aa es'=aa es->(∀(i:Nat) v v',es[i]? =ar v->es'[i]? =ar v'->VLe v v')->VElems c k es b off->VElems c k es' b off
 |[],[],_,_,_,_,h=>h
 |[],_::_,_,_,hl,_,_=>by simp at hl
 |_::_,[],_,_,hl,_,_=>by simp at hl
 |v::vs,v'::vs',b,off,hl,hv,h=>by simp only[VElems]at h ⊢;obtain⟨⟨ev,h1,h2,h3⟩,h4⟩:=h;exact⟨⟨ev,h1,h2,hv 0 v v' rfl rfl c ev h3⟩,VElems.les (by simpa using hl) (λi a b ha hb=>hv (i+1) a b (by simpa using ha) (by simpa using hb)) h4⟩
theorem VLe.is{x:Bool}{es':List V}(hl:aa es'=aa es)(hv:∀(i:Nat) v v',es[i]? =ar v->es'[i]? =ar v'->VLe v v'):VLe (.is x k es) (.is x k es'):=λc y h=>by
 simp only[VRel]at h ⊢;obtain⟨a,cp,h1,h2,h3,h4,h5⟩:=h;refine⟨a,cp,by rw[hl];exact h1,by omega,h3,λh=>by rw[hl];exact h4 h,?_⟩;rcases h5 with h5|⟨b,off,h5,h6⟩
 ·exact .inl (by subst h5;exact zse hl)
 ·exact .inr ⟨b,off,h5,h6.les hl hv⟩
variable{args':List V}
theorem Ev.les{r:V}(hv:Ev e g args' r)(ha:fD args args'):Ev e g args r :=
 λok w vs hs hl=>hv ok w vs hs (ha _ _ hl)
theorem EvR.les{S:V->Prop}(hv:EvR e g args' S)(ha:fD args args'):EvR e g args S :=
 λok w vs hs hl=>hv ok w vs hs (ha _ _ hl)
theorem EvF.les(hv:EvF e g args' k n cs)(ha:fD args args'):EvF e g args k n cs :=
 EK ha (HLe.refl _) hv
end
section
variable{e:E}{n:Nat}{r:Option Nat}{c:Code}{Q:XE->Fr->H->Prop}{f:Fr}{h:H}
theorem iF(i k:Nat)(hi:f.t i= .nils)(hw:awp e n r c Q {f with t:=λj=>if j=i then .ls (aa h) k 0 0 0 else f.t j} (h++[.cells []])):awp e n r c Q f h :=
 gz (wL (FLe.one i (by rw[hi];exact dH)) (HLe.refl _) hw)
def aQ(k:Nat):Nat->Bool:=λj=>aM (k<=j)
theorem vG{p:Nat->Bool}:∀(h:H)(k m:Nat),(∀i,i<m->p (k+i)=am)->(rq p k h).take m=(h.map (O.drop p)).take m
 |[],k,m,_=>by simp[rq]
 |o::h,k,0,_=>by simp
 |o::h,k,m+1,hp=>by have h0:=hp 0 (by omega);have ih:=vG h (k+1) m (λi hi=>by have:=hp (i+1) (by omega);rwa [show k+(i+1)=k+1+i by omega]at this);rw[Nat.add_zero]at h0;simp only[rq,h0,List.take_succ_cons,zrd,ih,zrm,if_false]
variable{h0:H}
theorem OO{o:O}(i:Nat)(v:V)(hd:∀j∈f.d,j<aa h0)(hs:(f.t i).drop (λj=> !aQ (aa h0) j)=f.t i)(hr:aH e (vw (aQ (aa h0)) 0 (h0++[o])) (f.t i) v)
 (hw:awp e n r c Q {t:=λj=>if j=i then v.drop (aQ (aa h0))else((f.t j).drop (aQ (aa h0))).drop (aQ (aa h0)),d:=f.d,k:=λj=>f.k j||aQ (aa h0) j||aQ (aa h0) j} ((h0.map (O.drop (aQ (aa h0)))).map (O.drop (aQ (aa h0))))):awp e n r c Q f (h0++[o]):=by
 refine CV (aQ (aa h0)) (λj=>if j=i then v else(f.t j).drop (aQ (aa h0))) (λj=> ?_) (λj hj=>by simp[aQ,hd j hj]) (Hq (.inr ⟨aa h0,hd,?_⟩))
 ·by_cases hj:j=i
  ·subst hj;rw[if_pos rfl];exact .inr ⟨hs,hr⟩
  ·rw[if_neg hj];exact .inl rfl
 ·have e1:((rq (aQ (aa h0)) 0 (h0++[o])).map (O.drop λi=>aM (aa h0<=i))).take (aa h0)=(h0.map (O.drop (aQ (aa h0)))).map (O.drop (aQ (aa h0))):=by rw[<-List.map_take,vG _ 0 (aa h0) (λi hi=>by simp[aQ];omega)];simp only[zql,zrd,List.map_nil];rw[List.take_append_of_le_length (by simp),zqh (by simp)];rfl
  rw[e1];refine wL (f':={t:=λj=>if j=i then v.drop (aQ (aa h0))else((f.t j).drop (aQ (aa h0))).drop (aQ (aa h0)),d:=f.d,k:=λj=>f.k j||aQ (aa h0) j||aQ (aa h0) j}) ⟨λj=> ?_,rfl,rfl⟩ (HLe.refl _) hw;by_cases hj:j=i
  ·subst hj;simp only[Fr.drop,if_true];exact VLe.refl _
  ·simp only[Fr.drop,if_neg hj];exact VLe.refl _
theorem EM{Y:H}(i:Nat)(v:V)(hd:∀j∈f.d,j<aa h0)(hs:(f.t i).drop (λj=> !aQ (aa h0) j)=f.t i)(hr:aH e (vw (aQ (aa h0)) 0 (h0++Y)) (f.t i) v)
 (hw:awp e n r c Q {t:=λj=>if j=i then v.drop (aQ (aa h0))else((f.t j).drop (aQ (aa h0))).drop (aQ (aa h0)),d:=f.d,k:=λj=>f.k j||aQ (aa h0) j||aQ (aa h0) j} ((h0.map (O.drop (aQ (aa h0)))).map (O.drop (aQ (aa h0))))):awp e n r c Q f (h0++Y):=by
 refine CV (aQ (aa h0)) (λj=>if j=i then v else(f.t j).drop (aQ (aa h0))) (λj=> ?_) (λj hj=>by simp[aQ,hd j hj]) (Hq (.inr ⟨aa h0,hd,?_⟩))
 ·by_cases hj:j=i
  ·subst hj;rw[if_pos rfl];exact .inr ⟨hs,hr⟩
  ·rw[if_neg hj];exact .inl rfl
 ·have e1:((rq (aQ (aa h0)) 0 (h0++Y)).map (O.drop λi=>aM (aa h0<=i))).take (aa h0)=(h0.map (O.drop (aQ (aa h0)))).map (O.drop (aQ (aa h0))):=by rw[<-List.map_take,vG _ 0 (aa h0) (λi hi=>by simp[aQ];omega)];simp only[zql];rw[List.take_append_of_le_length (by simp),zqh (by simp)];rfl
  rw[e1];refine wL (f':={t:=λj=>if j=i then v.drop (aQ (aa h0))else((f.t j).drop (aQ (aa h0))).drop (aQ (aa h0)),d:=f.d,k:=λj=>f.k j||aQ (aa h0) j||aQ (aa h0) j}) ⟨λj=> ?_,rfl,rfl⟩ (HLe.refl _) hw;by_cases hj:j=i
  ·subst hj;simp only[Fr.drop,if_true];exact VLe.refl _
  ·simp only[Fr.drop,if_neg hj];exact VLe.refl _
theorem fU{Y:H}(hd:∀j∈f.d,j<aa h0)
 (hw:awp e n r c Q (f.drop (aQ (aa h0))) (h0.map (O.drop (aQ (aa h0))))):awp e n r c Q f (h0++Y):=by
 refine Hq (.inr ⟨aa h0,hd,?_⟩);have e1:((h0++Y).map (O.drop λi=>aM (aa h0<=i))).take (aa h0)=h0.map (O.drop (aQ (aa h0))):=by
  simp only[zql];rw[List.take_append_of_le_length (by simp),zqh (by simp)];rfl
 rw[e1];exact hw
def kJ(h:H):Prop:=∀p:Nat->Bool,(∀i,i<aa h->p i=am)->h.map (O.drop p)=h
theorem kJ.from_{h:H}(hc:kJ h):h.map (O.drop (aQ (aa h)))=h:=hc _ (λi hi=>by simp[Abs.aQ,hi])
theorem kJ.one{h:H}(hc:kJ h){j:Nat}(hj:aa h<=j):h.map (O.drop (·==j))=h:=hc _ (λi hi=>by simp;omega)
theorem kJ.set{h:H}(hc:kJ h){k:Nat}{o:O}(ho:∀p:Nat->Bool,(∀i,i<aa h->p i=am)->o.drop p=o):kJ (h.set k o):=λp hp=>by rw[zrn]at hp;rw[List.map_set,hc p hp,ho p hp]
variable{g:FuncId}{args:List V}{R:AEnd->H->(Nat->Bool)->Prop}
theorem ag.kp(p0:Nat->Bool)(hc:ag e g args h λae h' p=>(∀i,p i=ab->p0 i=ab)/\R ae h' p0):ag e g args h R :=
 λok pl w vs hs hl=>(hc ok pl w vs hs hl).mono λen w' ⟨p,pl',h',ae,h1,h2,h3,h4,h5⟩=>⟨p0,pl',h',ae,h1,h2.weaken h4,h3,h5⟩
end
section
variable{H:Type}{enc:TypeId×Value->H}{P:Program}{R:Nat}(M:Meas H P R)
end
end Go.Abs
