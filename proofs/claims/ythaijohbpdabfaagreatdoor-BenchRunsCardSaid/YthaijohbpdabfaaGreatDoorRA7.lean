/- Lemmas for this claim, part A7: each holds under what it names. -/
import Derived.Test.YthaijohbpdabfaaGreatDoorRA6
import Derived.ProofKit
import Derived.SizedLaws
import Derived.JoinedCond
import Derived.RecoverIn
import Derived.RangeFuncLeaves
set_option linter.all false
namespace Go.Abs
open Go.RowKit Go.ChangeShapes
open List renaming length → aa, replicate → ao
open Bool renaming true → ab, false → ac
open Option renaming some → al, none → aq
open Decidable renaming decide → ar
open Go.IntKind renaming wrap → aD
open Go.Result renaming andThen → aM
open Go.Abs.V renaming drops → ap, dat → aE, dats → aL
theorem WExt.below{w w':World}(x:WExt w w'):Below w.heap.size w w':=⟨x.os,x.tape,x.output,x.size,x.same⟩
section
variable{H:Type}{enc:TypeId×Value->H}{P:Program}
def Z4:Sh->Value->Prop
 | .struct fs,v=>∃cs,v= .agg cs/\cs.size=Sh.sizes fs
 |_,v=>v.cells=#[v]
theorem AO{w:World}{r:Reach}{base:Nat}{sh:Sh}{t:TypeId}{v:Value}(hok:sh.ok P t=ab)(h:Value.okWide P w r base t v):Z4 sh v:=by
 unfold Value.okWide at h;cases sh with
 |struct fs =>
  simp only[Sh.ok]at hok;split at hok
  ·rename_i gs hu;unfold kP at hu;simp only[zqf,beq_iff_eq]at hok;split at hu
   ·rename_i hu';rw[hu']at h;obtain⟨cs,h1,h2,_⟩:=h;exact⟨cs,h1,h2.trans hok.1⟩
   ·rename_i hu';rw[hu']at h;obtain⟨cs,h1,h2,_⟩:=h;exact⟨cs,h1,h2.trans hok.1⟩
   ·cases hu
  ·cases hok
 |str =>
  simp only[Sh.ok]at hok;split at hok
  ·rename_i hu;rw[hu]at h;cases v<;>simp only[Cell.okWide,Cell.ok,hu]at h<;>first|exact h.elim|rfl
  ·cases hok
 |bool =>
  simp only[Sh.ok]at hok;split at hok
  ·rename_i hu;rw[hu]at h;cases v<;>simp only[Cell.okWide,Cell.ok,hu]at h<;>first|exact h.elim|rfl
  ·cases hok
 |int k =>
  simp only[Sh.ok]at hok;split at hok
  ·rename_i k' hu;rw[hu]at h;cases v<;>simp only[Cell.okWide,Cell.ok,hu]at h<;>first|exact h.elim|rfl
  ·cases hok
 |slice e =>
  simp only[Sh.ok]at hok;split at hok
  ·rename_i u hu;rw[hu]at h;cases v<;>simp only[Cell.okWide,Cell.ok,hu]at h<;>first|exact h.elim|rfl
  ·cases hok
theorem TV{c:C}{sh:Sh}{u:V}{v:Value}(hf:Z4 sh v)(ht:Took c sh u v.cells.toList):VRel c u v:=by
 have one:v.cells=#[v]->u.vc=[u]->VRel c u v:=by intro h1 h2;have:=ht.rel;rw[h1,h2]at this;simp only[VList]at this;obtain⟨y,ys,h3,h4,_⟩:=this;simp only[List.cons.injEq]at h3;rw[h3.1];exact h4
 cases sh with
 |struct fs=>obtain⟨cs,rfl,_⟩:=hf;have hi:=ht.is;simp only[Sh.Is]at hi;obtain⟨vs,rfl,_⟩:=hi;simp only[VRel];exact⟨cs,rfl,ht.rel⟩
 |str=>obtain⟨s,rfl⟩:=ht.is;exact one hf rfl
 |bool=>obtain⟨s,rfl⟩:=ht.is;exact one hf rfl
 |int k=>obtain⟨s,rfl,_⟩:=ht.is;exact one hf rfl
 |slice e=>have hi:=ht.is;simp only[Sh.Is]at hi;obtain⟨s,rfl,_⟩:=hi;exact one hf rfl
theorem O6{sh:Sh}{v:Value}(hf:Z4 sh v):v.cells.size=sh.size:=by
 cases sh with
 |struct fs=>obtain⟨cs,rfl,h⟩:=hf;exact h
 |str=>rw[show v.cells=#[v]from hf];rfl
 |bool=>rw[show v.cells=#[v]from hf];rfl
 |int k=>rw[show v.cells=#[v]from hf];rfl
 |slice e=>rw[show v.cells=#[v]from hf];rfl
theorem uo{W W':World}(hl:laidOutB P=ab)(hb:Below W.heap.size W W'):∀(ts:List TypeId)(vs:List Value)(ds:List (DataW H))(ps:List MemPlace),
 (ts.all λt=>P.readableRec t&&ar (t<P.types.size))=ab->(∀x∈ps,x.block<W.heap.size)->DataW.TrodAll enc P W 0 (λ_=>ab) ab ts vs ds ps ->
 DataW.TrodAll enc P W' 0 (λb=>ar (b<W.heap.size)) ab ts vs ds ps
 |[],vs,ds,ps,_,_,h=>by obtain⟨rfl,rfl,rfl⟩:=trodAll_nil h;exact trodAll_mk0
 |t::ts,vs,ds,ps,ht,hlt,h=>by obtain⟨v,vs',d,ds',p,q,rfl,rfl,rfl,h1,h2⟩:=trodAll_cons h;simp only[List.all_cons,zqf,zqb]at ht;exact⟨p,q,Below.trod hl ht.1.1 ht.1.2 h1 hb (λx hx=>hlt x (by simp[hx])),uo hl hb ts vs' ds' q (by simpa using ht.2) (λx hx=>hlt x (by simp[hx])) h2,rfl⟩
theorem JM{w:World}{base:Nat}{sp:Nat->Bool}{held:Bool}:∀ {ts:List TypeId} {vs:List Value} {ds:List (DataW H)} {ps:List MemPlace},DataW.TrodAll enc P w base sp held ts vs ds ps->aa ds=aa ts
 |[],_,_,_,h=>by obtain⟨_,rfl,_⟩:=trodAll_nil h;rfl
 |t::ts,vs,ds,ps,h=>by obtain⟨v,vs',d,ds',p,q,rfl,rfl,rfl,_,h2⟩:=trodAll_cons h;simp[JM h2]
end
open Go
theorem TW(b:Bool):aE (.bool b)=ab:=by simp only[aE]
theorem WV(k:IntKind)(n:Int):aE (.int k n)=ab:=by simp only[aE]
theorem WW(s:List UInt8):aE (.str s)=ab:=by simp only[aE]
theorem TY:aE (.nilp)=ab:=by simp only[aE]
theorem YU(e:V):aE (.ip e)=ab:=by simp only[aE]
theorem TZ:aE (.nils)=ab:=by simp only[aE]
theorem YV(x:Bool)(k:Nat)(es:List V):aE (.is x k es)=ab:=by simp only[aE]
theorem Ua:aE (.nilm)=ab:=by simp only[aE]
theorem YW(ks vs:List V):aE (.im ks vs)=ab:=by simp only[aE]
theorem Ub:aE (.nilf)=ab:=by simp only[aE]
theorem Uc:aE (.nili)=ab:=by simp only[aE]
theorem YX(i o:Nat):aE (.lp i o)=ac:=by simp only[aE]
theorem YY(i k o l c:Nat):aE (.ls i k o l c)=ac:=by simp only[aE]
theorem YZ(i:Nat):aE (.lm i)=ac:=by simp only[aE]
theorem WX(k:Nat)(es:List V):aE (.row k es)=ac:=by simp only[aE]
theorem WY(vs:List V):aE (.agg vs)=aL vs:=by simp only[aE]
theorem O7(t:TypeId)(e:V):aE (.iface t e)=e.dat:=by simp only[aE]
theorem Ud:aL []=ab:=by simp only[aL]
theorem O8(v:V)(vs:List V):aL (v::vs)=(v.dat&&aL vs):=by simp only[aL]
def sa0 :=
 PLift.up <|
 zsa (@Go.Abs.YM) <|
 zsa (@Go.Abs.MJ) <|
 zsa (@Go.Abs.tkZ.eq_1) <|
 zsa (@Go.Abs.tkZ.eq_2) <|
 zsa (@Go.Abs.onZ.eq_1) <|
 zsa (@Go.Abs.onZ.eq_2) <|
 zsa (@Go.Abs.IK) <|
 zsa (@Go.Abs.MK) <|
 zsa (@Go.Abs.ML) <|
 zsa (@Go.Abs.IJ) <|
 zsa (@Go.Abs.OX) <|
 zsa (@Go.Abs.TN) <|
 zsa (@List.all_cons.{0}) <|
 zsa (@List.all_nil.{0}) <|
 zsa (@Go.Abs.YL) <|
 zsa (@Go.Abs.WN) <|
 zsa (@Go.Abs.TM) <|
 zsa (@Go.Abs.WO) <|
 zsa (@Go.Abs.WQ) <|
 zsa (@Go.Abs.Fe) <|
 zsa (@Go.Abs.WP) <|
 zsa (@Go.Abs.MF) <|
 zsa (@Go.Abs.O0) <|
 zsa (@Go.Abs.OZ) <|
 zsa (@Go.Abs.E5) <|
 zsa (@Go.Abs.IA) <|
 zsa (@Go.Abs.IB) <|
 zsa (@Go.Abs.TQ) <|
 zsa (@Go.Abs.O3) <|
 zsa (@Go.Abs.WT) <|
 zsa (@Go.Abs.O4) <|
 zsa (@Go.Abs.MG) <|
 zsa (@Go.Abs.YN) <|
 @Go.Abs.zae
def sa1 :=
 PLift.up <|
 zsa (@Go.Abs.ui) <|
 zsa (@Go.Abs.TT) <|
 zsa (@Go.Abs.WU) <|
 zsa (@Go.Abs.YO) <|
 zsa (@Go.Abs.uj) <|
 zsa (@Go.Abs.MB) <|
 zsa (@Go.Abs.WR) <|
 zsa (@Go.Abs.TP) <|
 zsa (@Go.Abs.EZ) <|
 zsa (@Go.Abs.MC) <|
 zsa (@Go.Abs.OY) <|
 zsa (@Go.Abs.TR) <|
 zsa (@Go.Abs.OW) <|
 zsa (@Go.Abs.Mc) <|
 zsa (@Go.Abs.Ir) <|
 zsa (@Go.Abs.Oy) <|
 zsa (@Go.Abs.TG) <|
 zsa (@Go.Abs.OB) <|
 zsa (@decide_true) <|
 zsa (@decide_false) <|
 zsa (@true_and) <|
 zsa (@and_true) <|
 zsa (@and_self) <|
 zsa (@imp_self) <|
 zsa (@implies_true.{0}) <|
 zsa (@forall_const.{0}) <|
 zsa (@forall_const.{1}) <|
 zsa (@List.getD_cons_zero.{0}) <|
 zsa (@List.getD_cons_succ.{0}) <|
 @List.length_nil.{0}
def sa2 :=
 PLift.up <|
 zsa (@Bool.or_true) <|
 zsa (@Bool.false_or) <|
 zsa (@Bool.true_or) <|
 zsa (@Bool.or_false) <|
 zsa (@Bool.and_true) <|
 zsa (@Bool.true_and) <|
 zsa (@Bool.and_false) <|
 zsa (@Bool.false_and) <|
 zsa (@Bool.not_true) <|
 zsa (@Bool.not_false) <|
 zsa (@List.length_map.{0,0}) <|
 zsa (@List.nil_append.{0}) <|
 zsa (@List.cons_append.{0}) <|
 zsa (@List.length_cons.{0}) <|
 zsa (@List.getElem?_cons_zero.{0}) <|
 zsa (@List.getElem?_cons_succ.{0}) <|
 zsa (@cond_true.{1}) <|
 zsa (@cond_false.{1}) <|
 zsa (@Bool.cond_false_right) <|
 zsa (@Bool.cond_true_right) <|
 zsa (@Bool.cond_true_left) <|
 zsa (@Bool.cond_false_left) <|
 zsa (@List.map_cons.{0,0}) <|
 zsa (@List.map_nil.{0,0}) <|
 zsa (@List.append_nil.{0}) <|
 zsa (@List.zip_cons_cons.{0,0}) <|
 zsa (@beq_self_eq_true.{0}) <|
 zsa (@Option.bind_some.{0,0}) <|
 zsa (@List.append_eq.{0}) <|
 @List.forall_mem_cons.{0}
def sa3 :=
 PLift.up <|
 zsa (@List.not_mem_nil.{0}) <|
 zsa (@Go.Abs.YR) <|
 zsa (@Go.Abs.zaf) <|
 zsa (@Go.Abs.YS) <|
 zsa (@beq_true) <|
 zsa (@beq_false) <|
 zsa (@Bool.false_eq_true) <|
 zsa (@true_or) <|
 zsa (@or_true) <|
 zsa (@Go.Abs.YP) <|
 zsa (@Go.Abs.YQ) <|
 zsa (@Go.Abs.E9) <|
 zsa (@Go.Abs.MI) <|
 zsa (@Go.Abs.IG) <|
 zsa (@Go.Abs.Fa) <|
 zsa (@Go.Abs.II) <|
 zsa (@Go.Abs.aN) <|
 zsa (@Go.Abs.gp) <|
 zsa (@false_imp_iff) <|
 zsa (@List.take_zero.{0}) <|
 zsa (@List.take_succ_cons.{0}) <|
 zsa (@List.take_nil.{0}) <|
 zsa (@List.drop_succ_cons.{0}) <|
 zsa (@List.drop_nil.{0}) <|
 zsa (@List.set_cons_zero.{0}) <|
 zsa (@List.set_cons_succ.{0}) <|
 zsa (@List.length_append.{0}) <|
 zsa (@List.map_append.{0,0}) <|
 zsa (@Bool.not_eq_true') <|
 zsa (@Bool.not_eq_false') <|
 @Nat.le_refl
def sa4 :=
 PLift.up <|
 zsa (@Nat.zero_add) <|
 zsa (@Nat.add_zero) <|
 zsa (@Option.toList_some.{0}) <|
 zsa (@Option.toList_none.{0}) <|
 zsa (@Option.map_some.{0,0}) <|
 zsa (@Option.map_none.{0,0}) <|
 zsa (@Int.toNat_natCast) <|
 zsa (@Int.toNat_zero) <|
 zsa (@Nat.sub_zero) <|
 zsa (@List.drop_zero.{0}) <|
 zsa (@Go.Abs.O1) <|
 zsa (@Go.Abs.EO) <|
 zsa (@Go.Abs.L8) <|
 zsa (@Go.Abs.L9) <|
 zsa (@Go.Abs.EP) <|
 zsa (@Go.Abs.Dq) <|
 zsa (@Go.Abs.Dt) <|
 zsa (@Go.Abs.Dp) <|
 @List.getElem?_toArray.{0}
def sb0 :=
 PLift.up <|
 zsa (@Go.Abs.ry.eq_def) <|
 zsa (@Go.Abs.Dn.eq_def) <|
 zsa (@Go.Abs.TL.eq_def) <|
 zsa (@Go.Abs.kL.eq_def) <|
 zsa (@Go.Abs.ER.eq_def) <|
 zsa (@Go.Abs.xX.eq_def) <|
 zsa (@Go.Abs.jF.eq_def) <|
 zsa (@Go.Abs.JI.eq_def) <|
 zsa (@Go.Abs.OC.eq_def) <|
 zsa (@Go.Abs.xY.eq_def) <|
 zsa (@Go.Abs.ni.eq_def) <|
 zsa (@Go.Abs.dX.eq_def) <|
 zsa (@Go.Abs.jo.eq_1) <|
 zsa (@Go.Abs.jo.eq_2) <|
 zsa (@Go.Abs.V.sv.eq_1) <|
 zsa (@Go.Abs.V.sv.eq_2) <|
 zsa (@Go.Abs.V.sc.eq_1) <|
 zsa (@Go.Abs.V.sc.eq_2) <|
 zsa (@Go.Abs.V.fit.eq_def) <|
 zsa (@Go.Abs.V.vc.eq_def) <|
 zsa (@Go.Abs.V.one.eq_def) <|
 zsa (@Go.Abs.V.sub.eq_def) <|
 zsa (@Go.Abs.EH.eq_def) <|
 zsa (@Go.Abs.nR.eq_def) <|
 zsa (@Go.Abs.CJ.eq_def) <|
 zsa (@Go.Abs.yB.eq_def) <|
 zsa (@Go.Abs.YB.eq_def) <|
 zsa (@Go.Abs.fA.eq_def) <|
 zsa (@Go.Abs.ZY.eq_def) <|
 zsa (@Go.Abs.Bg.eq_def) <|
 zsa (@Go.Abs.WJ.eq_def) <|
 zsa (@Go.Abs.yG.eq_1) <|
 zsa (@Go.Abs.yG.eq_2) <|
 @Go.Abs.CG.eq_def
def sb1 :=
 PLift.up <|
 zsa (@Go.Abs.Tm.eq_def) <|
 zsa (@Go.Abs.Tq.eq_def) <|
 zsa (@Go.Abs.JD.eq_def) <|
 zsa (@Go.Abs.EI.eq_def) <|
 zsa (@Go.Abs.CV.eq_def) <|
 zsa (@Go.Abs.Tv.eq_def) <|
 zsa (@Go.Abs.nS.eq_def) <|
 zsa (@Go.Abs.CO.eq_def) <|
 zsa (@Go.Abs.CP.eq_def) <|
 zsa (@Go.Abs.K.isSlice.eq_def) <|
 zsa (@Go.Abs.K.isMap.eq_def) <|
 zsa (@Go.Abs.TI.agg.eq_def) <|
 zsa (@Go.Abs.kJ.eq_1) <|
 zsa (@Go.Abs.kJ.eq_2) <|
 zsa (@Go.Abs.xW.eq_def) <|
 zsa (@Go.Abs.K.keyOk.eq_def) <|
 zsa (@Go.Abs.V.dats.eq_1) <|
 zsa (@Go.Abs.V.dats.eq_2) <|
 zsa (@Go.Abs.V.dat.eq_1) <|
 zsa (@Go.Abs.V.dat.eq_2) <|
 zsa (@Go.Abs.V.dat.eq_3) <|
 zsa (@Go.Abs.V.dat.eq_4) <|
 zsa (@Go.Abs.V.dat.eq_5) <|
 zsa (@Go.Abs.V.dat.eq_6) <|
 zsa (@Go.Abs.V.dat.eq_7) <|
 zsa (@Go.Abs.V.dat.eq_8) <|
 zsa (@Go.Abs.V.dat.eq_9) <|
 zsa (@Go.Abs.V.dat.eq_10) <|
 zsa (@Go.Abs.V.drop.eq_1) <|
 @Go.Abs.V.drop.eq_2
def sb2 :=
 PLift.up <|
 zsa (@Go.Abs.V.drop.eq_3) <|
 zsa (@Go.Abs.V.drop.eq_4) <|
 zsa (@Go.Abs.V.drop.eq_5) <|
 zsa (@Go.Abs.V.drop.eq_6) <|
 zsa (@Go.Abs.V.drop.eq_7) <|
 zsa (@Go.Abs.V.drop.eq_8) <|
 zsa (@Go.Abs.V.drop.eq_9) <|
 zsa (@Go.Abs.V.drop.eq_10) <|
 zsa (@Go.Abs.V.drop.eq_11) <|
 zsa (@Go.Abs.V.drops.eq_1) <|
 zsa (@Go.Abs.V.drops.eq_2) <|
 zsa (@Go.Abs.nU.eq_1) <|
 zsa (@Go.Abs.nU.eq_2) <|
 zsa (@Go.Abs.CU.eq_1) <|
 zsa (@Go.Abs.CU.eq_2) <|
 zsa (@Go.Abs.di.eq_def) <|
 zsa (@Go.Abs.dB.eq_1) <|
 zsa (@Go.Abs.dB.eq_2) <|
 zsa (@Go.Abs.Dc.eq_def) <|
 zsa (@Go.Abs.oP.eq_def) <|
 zsa (@Go.Abs.jS.eq_def) <|
 zsa (@Go.Abs.yJ.eq_def) <|
 zsa (@Nat.lt_irrefl) <|
 zsa (@Go.Abs.TW) <|
 zsa (@Go.Abs.WV) <|
 zsa (@Go.Abs.WW) <|
 zsa (@Go.Abs.TY) <|
 zsa (@Go.Abs.YU) <|
 zsa (@Go.Abs.TZ) <|
 zsa (@Go.Abs.YV) <|
 zsa (@Go.Abs.Ua) <|
 zsa (@Go.Abs.YW) <|
 zsa (@Go.Abs.Ub) <|
 zsa (@Go.Abs.Uc) <|
 zsa (@Go.Abs.YX) <|
 zsa (@Go.Abs.YY) <|
 zsa (@Go.Abs.YZ) <|
 zsa (@Go.Abs.WX) <|
 zsa (@Go.Abs.WY) <|
 zsa (@Go.Abs.O7) <|
 zsa (@Go.Abs.Ud) <|
 zsa (@Go.Abs.O8) <|
 zsa (@Go.Abs.nV.eq_def) <|
 zsa (@Go.Abs.ZZ.eq_def) <|
 zsa (@Go.Abs.bV.eq_1) <|
 zsa (@Go.Abs.bV.eq_2) <|
 zsa (@Go.Abs.OI.eq_def) <|
 zsa (@Go.Abs.gd.eq_def) <|
 zsa (@Go.Abs.Df.eq_1) <|
 zsa (@Go.Abs.Df.eq_2) <|
 zsa (@Go.Abs.Df.eq_3) <|
 @Go.Abs.Df.eq_4
def sb3 :=
 PLift.up <|
 zsa (@Go.Abs.Df.eq_5) <|
 zsa (@Go.Abs.Df.eq_6) <|
 zsa (@Go.Abs.Bj.eq_def) <|
 zsa (@Go.Abs.VV.eq_def) <|
 zsa (@Go.Abs.su.eq_def) <|
 zsa (@Go.Abs.YK.eq_def) <|
 zsa (@Go.Abs.mD.eq_1) <|
 zsa (@Go.Abs.mD.eq_2) <|
 zsa (@Go.Abs.AL.eq_def) <|
 zsa (@Go.Abs.yP.eq_def) <|
 zsa (@Go.Abs.kM.eq_1) <|
 @Go.Abs.kM.eq_2
def sz :=
 PLift.up <|
 zsa sa0.down <|
 zsa sa1.down <|
 zsa sa2.down <|
 zsa sa3.down <|
 zsa sa4.down <|
 zsa sb0.down <|
 zsa sb1.down <|
 zsa sb2.down <|
 sb3.down
section
variable{e:E}{n:Nat}{f:Fr}{h:H}{Q:XE->Fr->H->Prop}
def oQ(id:Nat)(L:(Nat->V)->LoopState->Option Code->O)(S:Option Code->H->(Nat->Bool)->Prop)(xe:XE)(f2:Fr)(h2:H):Prop :=
 match xe.jump with
 |some j=>f2.k id=ac/\∃t st,h2[id]? =al (L t st aq)/\S j (h2.set id (L t (if j.isNone then .ready else .done) j)) f2.k
 |none=>False
def uq(e:E)(n l id:Nat)(body:Code)(L:(Nat->V)->LoopState->Option Code->O)(S:Option Code->H->(Nat->Bool)->Prop)(f1:Fr)(h1:H):Prop :=
 f1.k id=ac/\∃t,h1[id]? =al (L t .ready aq)/\awp e n (al l) body (oQ id L S) f1 (h1.set id (L t .busy aq))
def Y0(id:Nat)(L:(Nat->V)->LoopState->Option Code->O)(Q:XE->Fr->H->Prop)(f1:Fr)(ae:AEnd)(h2:H)(p:Nat->Bool):Prop :=
 (∀i∈f1.d,p i=ac)/\match ae with
  | .ret _=>p id=ac/\∃t st c,st≠ .busy/\h2[id]? =al (L t st c)/\AC Q c (f1.drop p) (h2.set id (L t .exhausted c))
  | .pan v=>Q (.pan v) (f1.drop p) h2
theorem jr{g:Operand}{ps:Array Tmp}{asg body:Code}{q:FuncId}{first captured:List V}(hsc:(f.ev e g).sc)(hg:(f.ev e g).sv= .fn (.func q) first captured)(hen:ah e.P q=ab)
 (hps:(ps.toList.all λp=>ar (p<n))=ab)
 (main:∀L:(Nat->V)->LoopState->Option Code->O,(∀p t st c,(L t st c).drop p=L (λi=>(t i).drop p) st c) ->
  (∀h' vs S t,h'[aa h+1]? =al (L t .ready aq)->aa vs=ps.size ->
   (∀lb,awp e n (al lb) asg (XE.seq (uq e n lb (aa h+1) body L S) (λ_ _ _=>False)) (kJ {t:=t} ps.toList vs) h')->YC e (aa h+1) vs h' S) ->
  ag e q (first++[.yd (aa h+1)]++captured) (h++[.misc .dfd]++[L f.t .ready aq]) (Y0 (aa h+1) L Q {f with d:=h.length::f.d})) :
 awp e n aq (.rangeFunc g ps asg body) Q f h:=by
 refine Dl hsc hg hen ?_;refine ag.mono (main (λt st c=> .loop t n ps asg body st c) (λ_ _ _ _=>rfl) ?_) ?_
 ·intro h' vs S t hc hsz hw;refine⟨t,n,ps,asg,body,aq,hc,hsz,hps,λlb=>bf ?_ (hw lb)⟩;intro xe f1 h1 hq;cases xe<;>try exact hq
  obtain⟨h1k,t1,hc1,hb⟩:=hq;unfold XE.seq JL;dsimp only;rw[hc1];refine⟨h1k,bf ?_ hb⟩;intro xe f2 h2 hq2;unfold oQ at hq2;unfold O5;split at hq2
  ·rename_i j hj;obtain⟨h2k,t2,st2,hc2,hS⟩:=hq2;simp only[hj,hc2];exact⟨h2k,hS⟩
  ·exact hq2.elim
 ·rintro ae h' p ⟨hd,hr⟩;refine⟨hd,?_⟩;cases ae with
  |pan v=>exact hr
  |ret v=>obtain⟨hp,t,st,c,hst,hc,hQ⟩:=hr;dsimp only;rw[hc];exact⟨⟨hp,hst⟩,hQ⟩
end
section
variable{e:E}{g:FuncId}{args:List V}{h:H}{R:AEnd->H->(Nat->Bool)->Prop}
def EvR(e:E)(g:FuncId)(args:List V)(S:V->Prop):Prop :=
 ∀ok w vs,HSim e ok (λ_=>aq) [] w->VList (cx ok (λ_=>aq) w) args vs ->
  Calls e.P g vs.toArray w λen w'=>∃x r,S r/\en= .returned x/\WExt w w'/\VRel (cx ok (λ_=>aq) w') r x
theorem Ev.evR{r:V}{S:V->Prop}(hv:Ev e g args r)(h:S r):EvR e g args S :=
 λok w vs hs hl=>(hv ok w vs hs hl).mono λen w' ⟨x,h1,h2,h3⟩=>⟨x,r,h,h1,h2,h3⟩
theorem EvR.run{S:V->Prop}(hv:EvR e g args S)(hd:aL args=ab){ok:Nat->Prop}{pl:Nat->Option Nat}{h:H}{w:World}{vs:List Value}
 (hs:HSim e ok pl h w) (hl:VList (cx ok pl w) args vs):Calls e.P g vs.toArray w λen w'=>∃x r,S r/\en= .returned x/\WExt w w'/\VRel (cx ok pl w') r x :=
 (hv _ w vs hs.toData (VList.mono (ng ok pl w) _ _ (VList.todata _ _ hd hl))).mono λen w' ⟨x,r,h0,h1,h2,h3⟩ =>
  ⟨x,r,h0,h1,h2,VRel.mono (Bh ok pl w') _ _ h3⟩
theorem ag.evR{S:V->Prop}(hv:EvR e g args S)(hd:aL args=ab)(hr:∀r,S r->R (.ret r) h (λ_=>ac)):ag e g args h R :=
 λok pl w vs hs hl=>(hv.run hd hs hl).mono λen w' ⟨x,r,h0,h1,h2,h3⟩=>⟨λ_=>ac,pl,h,.ret r,hs.wext h2,h2.keeps hs,by rw[h1];exact h3,hr r h0⟩
def sH(p:Nat->Bool):Nat->H->H
 |_,[]=>[]
 |i,o::h=>(if p i=ab then o.drop (λj=> !p j)else .dead)::sH p (i+1) h
def jv(p:Nat->Bool):Nat->H->H
 |_,[]=>[]
 |i,o::h=>(if p i=ab then .dead else o.drop p)::jv p (i+1) h
theorem fV{p:Nat->Bool}:∀ {h:H} {k i:Nat},(sH p k h)[i]? =(h[i]?).map λo=>if p (k+i)=ab then o.drop (λj=> !p j)else .dead
 |[],k,i=>by simp[sH]
 |o::h,k,0=>by simp[sH]
 |o::h,k,i+1=>by rw[sH,List.getElem?_cons_succ,fV,List.getElem?_cons_succ,show k+1+i=k+(i+1) by omega]
theorem gZ{p:Nat->Bool}:∀ {h:H} {k i:Nat},(jv p k h)[i]? =(h[i]?).map λo=>if p (k+i)=ab then .dead else o.drop p
 |[],k,i=>by simp[jv]
 |o::h,k,0=>by simp[jv]
 |o::h,k,i+1=>by rw[jv,List.getElem?_cons_succ,gZ,List.getElem?_cons_succ,show k+1+i=k+(i+1) by omega]
theorem yT{o:O}{p:Nat->Bool}(h:o= .dead\/o= .cells []):o.drop p= .dead\/o.drop p= .cells []:=by
 rcases h with rfl|rfl
 ·exact .inl rfl
 ·exact .inr (by simp[O.drop,ap])
theorem oh(p:Nat->Bool)(ok:Nat->Prop)(pl:Nat->Option Nat)(w:World) :
 CExt (λj=> !p j) (cx ok pl w) (cx (λb=>ok b/\∀i,p i=ac->pl i≠al b) (λi=>if p i=ab then pl i else aq) w) :=
 ⟨λb hb hok=>⟨⟨⟨hok.1,λi _=>hok.2 i⟩,λi hi=>by
  try dsimp only at hi
  split at hi
  ·exact hok.2 i hi
  ·cases hi⟩,rfl⟩,
  λi b hp hi=>by
   have hp:p i=ab:=by simpa using hp
   simp only[cx,hp,if_true];exact hi,
  λb arr el fz hb=>⟨arr,fz,hb,rfl⟩⟩
theorem HSim.sub{ok:Nat->Prop}{pl:Nat->Option Nat}{w:World}(hs:HSim e ok pl h w)(p:Nat->Bool) :
 HSim e (λb=>ok b/\∀i,p i=ac->pl i≠al b) (λi=>if p i=ab then pl i else aq) (sH p 0 h) w where
 fresh b hb:=⟨hs.fresh b hb,λi _ hi=>by have:=hs.lt i b hi;omega⟩
 lt i b hi:=by
  try dsimp only at hi
  split at hi
  ·exact hs.lt i b hi
  ·cases hi
 okl i b hi:=by
  try dsimp only at hi
  split at hi
  ·rename_i hp;refine⟨hs.okl i b hi,λj hj hj2=> ?_⟩;have:=hs.inj i j b hi hj2;subst this;rw[hp]at hj;cases hj
  ·cases hi
 inj i j b hi hj:=by
  try dsimp only at hi
  split at hi
  ·try dsimp only at hj
   split at hj
   ·exact hs.inj i j b hi hj
   ·cases hj
  ·cases hi
 obj i b hi:=by
  try dsimp only at hi
  split at hi
  ·rename_i hp;obtain⟨o,ho,hat⟩:=hs.obj i b hi;exact⟨o.drop (λj=> !p j),by rw[fV,ho];simp[hp],tZ (oh p ok pl w) rfl hat⟩
  ·cases hi
 bare i o ho hi:=by
  rw[fV]at ho;cases hh:h[i]? with
  |none=>rw[hh]at ho;cases ho
  |some o1 =>
   rw[hh]at ho;simp only[zrw,Nat.zero_add,Option.some.injEq]at ho;subst ho;split
   ·rename_i hp;rw[if_pos hp]at hi;exact yT (hs.bare i o1 hh hi)
   ·exact .inl rfl
 glob g v hg:=(hs.glob g v hg).glob_next (oh p ok pl w)
 exa g cs hg:=(hs.exa g cs hg).next (oh p ok pl w)
theorem ut{p:Nat->Bool}{ok:Nat->Prop}{pl:Nat->Option Nat}{w w':World}(hs:HSim e ok pl h w)(x:WExt w w') :
 HSim e ok (λi=>if p i=ab then aq else pl i) (jv p 0 h) w'/\Keeps p pl w (λi=>if p i=ab then aq else pl i) w':=by
 have k:Keeps p pl w (λi=>if p i=ab then aq else pl i) w' :=
  ⟨x.os,x.tape,x.output,x.size,λb hb _=>x.same b hb,λi b hi=>by
   try dsimp only at hi
   split at hi
   ·cases hi
   ·exact .inl ⟨i,hi⟩,
   λi b hp hi=>by rw[if_neg (by simp[hp])];exact hi,
   λb arr el fz hb=>⟨arr,fz,(x.same b (aW hb)).trans hb,rfl⟩⟩
 refine⟨hs.next k (λi b hi=> ?_) (λi j b hi hj=> ?_) (λi b hi=> ?_) (λi o ho hi=> ?_),k⟩
 ·try dsimp only at hi
  try dsimp only at hi
  split at hi
  ·cases hi
  ·exact Nat.lt_of_lt_of_le (hs.lt i b hi) x.size
 ·try dsimp only at hi hj
  try dsimp only at hi
  split at hi
  ·cases hi
  ·try dsimp only at hj
   split at hj
   ·cases hj
   ·exact hs.inj i j b hi hj
 ·try dsimp only at hi
  try dsimp only at hi
  split at hi
  ·cases hi
  ·rename_i hp;refine .inl ⟨hi,x.same b (hs.lt i b hi),?_⟩;rw[gZ];simp[hp]
 ·rw[gZ]at ho;cases hh:h[i]? with
  |none=>rw[hh]at ho;cases ho
  |some o1 =>
   rw[hh]at ho;simp only[zrw,Nat.zero_add,Option.some.injEq]at ho;subst ho;split
   ·exact .inl rfl
   ·rename_i hp;rw[if_neg hp]at hi;exact yT (hs.bare i o1 hh hi)
theorem Fg{args':List V}{S:V->Prop}(p:Nat->Bool)(hv:EvR e g args' S)(hd:ap (λj=> !p j) args=args)(hr:au e (sH p 0 h) args args')
 (hk:∀r,S r->R (.ret r) (jv p 0 h) p):ag e g args h R:=by
 intro ok pl w vs hs hl;have hl2:=VList.mdrop (oh p ok pl w) _ _ hl;rw[hd]at hl2;have hs2:=hs.sub p;refine(hv _ w vs hs2.lend (hr _ _ w vs hs2 hl2)).mono ?_;rintro en w' ⟨x,r,h0,h1,h2,h3⟩;obtain⟨k1,k2⟩:=ut (p:=p) hs h2;refine⟨p,_,_,.ret r,k1,k2,?_,hk r h0⟩;rw[h1];refine VRel.mono (c:=cx (λb=>ok b/\∀i,p i=ac->pl i≠al b) (λ_=>aq) w') ?_ _ _ h3;refine⟨λb hb hok=>⟨⟨hok.1.1,λi hi=> ?_⟩,rfl⟩,λi b _ hi=>(by cases hi),λb arr el fz hb=>⟨arr,fz,hb,rfl⟩⟩
 try dsimp only at hi
 split at hi
 ·cases hi
 ·rename_i hp;exact hok.1.2 i (by simpa using hp) hi
theorem sJ{args':List V}{r:V}(p:Nat->Bool)(hv:Ev e g args' r)(hd:ap (λj=> !p j) args=args)(hr:au e (sH p 0 h) args args')
 (hk:R (.ret r) (jv p 0 h) p):ag e g args h R :=
 Fg (S:=λv=>v=r) p (hv.evR rfl) hd hr λv hv=>by subst hv;exact hk
theorem x8{n:Nat}{r:Option Nat}{c:Code}{Q:XE->Fr->H->Prop}{f:Fr}(p:Nat->Bool)(t:Nat->V)(ht:∀i,t i=(f.t i).drop p\/((f.t i).drop (λj=> !p j)=f.t i/\aC e (sH p 0 h) (f.t i) (t i)))
 (hd:∀i∈f.d,p i=ac) (hw:awp e n r c Q {f with t:=t,k:=λi=>f.k i||p i} (jv p 0 h)):awp e n r c Q f h:=by
 intro ok pl0 w0 pl w a s;obtain⟨k1,k2⟩:=ut (p:=p) s.hs (WExt.refl w);refine hw ok pl0 w0 (λi=>if p i=ab then aq else pl i) w a ⟨k1,s.kp.trans k2,s.size,λi=> ?_,?_⟩
 ·rcases ht i with h1|⟨h1,h2⟩
  ·show VRel _ (t i) _;rw[h1];exact VRel.mdrop k2.cext _ _ (s.val i)
  ·have h3:=VRel.mdrop (oh p ok pl w) _ _ (s.val i);rw[h1]at h3;have h4:=h2 _ _ w _ (s.hs.sub p) h3;refine VRel.mono (c:=cx (λb=>ok b/\∀i,p i=ac->pl i≠al b) (λ_=>aq) w) ?_ _ _ h4;refine⟨λb hb hok=>⟨⟨hok.1.1,λi hi=> ?_⟩,rfl⟩,λi b _ hi=>(by cases hi),λb arr el fz hb=>⟨arr,fz,hb,rfl⟩⟩
   try dsimp only at hi
   split at hi
   ·cases hi
   ·rename_i hp;exact hok.1.2 i (by simpa using hp) hi
 ·have:∀(is:List Nat)(l:List Deferred),(∀i∈is,p i=ac)->Il (cx ok pl w) e.tl is l->Il (cx ok (λi=>if p i=ab then aq else pl i) w) e.tl is l:=by
   intro is
   induction is with
   |nil=>intro l _ hl;exact hl
   |cons i is ih=>rintro l hi ⟨b,rest,h1,h2,h3⟩;exact⟨b,rest,h1,k2.keep _ _ (hi i (by simp)) h2,ih rest (λj hj=>hi j (by simp[hj])) h3⟩
  exact this f.d _ hd s.dfr
end
section
variable{e:E}{h:H}
end
section
variable{e:E}{h:H}
def GV(e:E)(p:Nat->Bool)(h:H)(v v':V):Prop:=v'=v.drop p\/(v.drop (λj=> !p j)=v/\aC e (sH p 0 h) v v')
def GVs(e:E)(p:Nat->Bool)(h:H):List V->List V->Prop
 |[],[]=>True
 |v::vs,v'::vs'=>GV e p h v v'/\GVs e p h vs vs'
 |_,_=>False
theorem GV.rel{p:Nat->Bool}{ok:Nat->Prop}{pl:Nat->Option Nat}{w:World}(hs:HSim e ok pl h w){v v':V}{x:Value}(hg:GV e p h v v')(hx:VRel (cx ok pl w) v x) :
 VRel (cx ok (λi=>if p i=ab then aq else pl i) w) v' x:=by
 obtain⟨k1,k2⟩:=ut (p:=p) hs (WExt.refl w);rcases hg with h1|⟨h1,h2⟩
 ·rw[h1];exact VRel.mdrop k2.cext _ _ hx
 ·have h3:=VRel.mdrop (oh p ok pl w) _ _ hx;rw[h1]at h3;have h4:=h2 _ _ w _ (hs.sub p) h3;refine VRel.mono (c:=cx (λb=>ok b/\∀i,p i=ac->pl i≠al b) (λ_=>aq) w) ?_ _ _ h4;refine⟨λb hb hok=>⟨⟨hok.1.1,λi hi=> ?_⟩,rfl⟩,λi b _ hi=>(by cases hi),λb arr el fz hb=>⟨arr,fz,hb,rfl⟩⟩
  try dsimp only at hi
  split at hi
  ·cases hi
  ·rename_i hp;exact hok.1.2 i (by simpa using hp) hi
theorem GVs.rel{p:Nat->Bool}{ok:Nat->Prop}{pl:Nat->Option Nat}{w:World}(hs:HSim e ok pl h w):∀ {vs vs':List V} {xs:List Value},GVs e p h vs vs'->VList (cx ok pl w) vs xs ->
 VList (cx ok (λi=>if p i=ab then aq else pl i) w) vs' xs
 |[],[],xs,_,hx=>by simp only[VList]at hx ⊢;exact hx
 |v::vs,v'::vs',xs,hg,hx=>by simp only[VList]at hx ⊢;obtain⟨y,ys,h1,h2,h3⟩:=hx;exact⟨y,ys,h1,hg.1.rel hs h2,GVs.rel hs hg.2 h3⟩
 |[],v'::vs',_,hg,_=>hg.elim
 |v::vs,[],_,hg,_=>hg.elim
theorem GVs.length{p:Nat->Bool}:∀ {vs vs':List V},GVs e p h vs vs'->aa vs'=aa vs
 |[],[],_=>rfl
 |v::vs,v'::vs',hg=>by simp[GVs.length hg.2]
 |[],v'::vs',hg=>hg.elim
 |v::vs,[],hg=>hg.elim
theorem yU{n:Nat}{r:Option Nat}{c:Code}{Q:XE->Fr->H->Prop}{f:Fr}(p:Nat->Bool)(h':H)
 (hh:∀i,p i=ac->h'[i]? =(h[i]?).map (O.drop p)\/∃cs cs',h[i]? =al (.cells cs)/\h'[i]? =al (.cells cs')/\GVs e p h cs cs')
 (hb:∀i o,p i=ab->h'[i]? =al o->o= .dead)
 (hd:∀i∈f.d,p i=ac) (hw:awp e n r c Q {f with t:=λi=>(f.t i).drop p,k:=λi=>f.k i||p i} h'):awp e n r c Q f h:=by
 intro ok pl0 w0 pl w a s;obtain⟨k1,k2⟩:=ut (p:=p) s.hs (WExt.refl w);have hs':HSim e ok (λi=>if p i=ab then aq else pl i) h' w:=by
  refine s.hs.next k2 k1.lt k1.inj (λi b hi=> ?_) (λi o ho hi=> ?_)
  ·try dsimp only at hi
   split at hi
   ·cases hi
   ·rename_i hp;have hp:p i=ac:=by simpa using hp
    rcases hh i hp with h1|⟨cs,cs',h1,h2,h3⟩
    ·exact .inl ⟨hi,rfl,h1⟩
    ·obtain⟨o,h4,h5⟩:=s.hs.obj i b hi;rw[h1]at h4;cases h4;obtain⟨arr,el,fz,g1,g2,g3,g4⟩:=h5;refine .inr ⟨_,h2,arr,el,fz,g1,g2,by rw[h3.length];exact g3,?_⟩;rw[h3.length];exact h3.rel s.hs g4
  ·by_cases hp:p i=ab
   ·exact .inl (hb i o hp ho)
   ·have hp:p i=ac:=by simpa using hp
    have hi2:pl i=aq:=by
     try dsimp only at hi
     rw[if_neg (by simp[hp])]at hi;exact hi
    rcases hh i hp with h1|⟨cs,cs',h1,h2,h3⟩
    ·rw[h1]at ho;cases h4:h[i]? with
     |none=>rw[h4]at ho;cases ho
     |some o1=>rw[h4]at ho;simp only[zrw,Option.some.injEq]at ho;subst ho;exact yT (s.hs.bare i o1 h4 hi2)
    ·rw[h2]at ho;cases ho;rcases s.hs.bare i _ h1 hi2 with h4|h4
     ·cases h4
     ·simp only[O.cells.injEq]at h4;subst h4;cases cs' with
      |nil=>exact .inr rfl
      |cons v vs=>exact h3.elim
 refine hw ok pl0 w0 (λi=>if p i=ab then aq else pl i) w a ⟨hs',s.kp.trans k2,s.size,λi=>VRel.mdrop k2.cext _ _ (s.val i),?_⟩;have:∀(is:List Nat)(l:List Deferred),(∀i∈is,p i=ac)->Il (cx ok pl w) e.tl is l->Il (cx ok (λi=>if p i=ab then aq else pl i) w) e.tl is l:=by
  intro is
  induction is with
  |nil=>intro l _ hl;exact hl
  |cons i is ih=>rintro l hi ⟨b,rest,h1,h2,h3⟩;exact⟨b,rest,h1,k2.keep _ _ (hi i (by simp)) h2,ih rest (λj hj=>hi j (by simp[hj])) h3⟩
 exact this f.d _ hd s.dfr
end
section
variable{e:E}{h:H}
end
section
variable{H:Type}{enc:TypeId×Value->H}{P:Program}
end
section
variable{e:E}{n:Nat}{o:Oper}{f:Fr}{h:H}{Kn:Fr->H->Prop}{Q:XE->Fr->H->Prop}
def Y1(e:E)(h:H)(t:TypeId)(v:V)(name:String)(g:FuncId)(v':V):Prop :=
 ∀ok pl w x,HSim e ok pl h w->VRel (cx ok pl w) v x->∃y,(Go.method (e.P.types.size+Made.depth) t x name).run e.P w= .ok (g,y) w/\VRel (cx ok pl w) v' y
theorem bP{x:Operand}{name:String}{args:Array Operand}{ts:Array TypeId}(hop:o.op= .call {callee:= .invoke x name,args:=args,argTypes:=ts})
 {t:TypeId} {v v':V} {g:FuncId} (hx:(f.ev e x).sv= .iface t v) (hsc:dX (f.ev e) x args) (hm:Y1 e h t v name g v') (hen:ah e.P g=ab)
 (hc:ag e g (v'::args.toList.map λy=>(f.ev e y).sv) h (fO o.dst Kn Q f)):∀r,Eff e n r o f h Kn Q:=by
 intro r ok pl0 w0 pl w a s hd;have hr:=s.evs (o:=o);have h1:=(hr x (by simp[hop,Op.operands,Call.operands])).sv hsc.1;rw[hx]at h1;simp only[VRel]at h1;obtain⟨ev,h2,h3⟩:=h1;obtain⟨y,hrun,hy⟩:=hm ok pl w ev s.hs h3;have h5:=(dP (c:=cx ok pl w) (ρ:=f.ev e) (ev:=a.eval) args.toList λz hz=>hr z (by simp[hop,Op.operands,Call.operands];exact .inr (Array.mem_toList_iff.1 hz))).sv hsc.2;rw[List.map_map]at h5;have hexec:(execOp a.eval o).run e.P w= .ok (.enter g (y::args.toList.map a.eval).toArray) w:=by
  have e1:execOp a.eval o=(do let d <-resolve a.eval {callee:= .invoke x name,args:=args,argTypes:=ts} o.type;invoke d.target d.args):=by simp[execOp,hop]
  rw[e1];have h6:(resolve a.eval {callee:= .invoke x name,args:=args,argTypes:=ts} o.type).run e.P w= .ok {target:= .fn (.method name) #[],args:=#[.iface t ev]++args.map a.eval} w:=by
   simp[resolve,h2]
  simp only[Sem.run_bind,h6,aM,invoke];have h7:(#[Value.iface t ev]++args.map a.eval)[0]? =al (Value.iface t ev):=by rw[Array.getElem?_append_left (by simp)];rfl
  simp only[h7];unfold callMethod;simp only[Sem.run_bind,run_program,aM,hrun];rw[qK hen]
  congr 2
  apply Array.ext';simp only[List.size_toArray,Array.size_append,Array.size_map,Array.toList_append,Array.toList_extract,Array.toList_map,zrt,List.length_nil];simp[List.extract];rw[zqh (by simp)]
 refine⟨λg _=>iD r g,?_⟩;rw[eP,Oper.semAt_eq r a.eval o (λc=>by rw[hop];exact λh=>by cases h),hexec];refine⟨λhd'=>(by rw[lS]at hd';cases hd'),fH ((hc ok pl w (y::args.toList.map a.eval) s.hs (by simp only[VList];exact⟨_,_,rfl,hy,h5⟩)).mono ?_)⟩;rintro en w' ⟨p,pl',h',ae,hs',k,hend,hk⟩;cases ae with
 |ret v =>
  cases en with
  |returned x=>exact⟨pl',_,h',(s.next hs' k hk.1).put hd hend,hk.2⟩
  |panicked ch=>exact hend.elim
  |outgrown=>exact hend.elim
 |pan v =>
  cases en with
  |returned x=>exact hend.elim
  |panicked ch=>exact⟨pl',_,h',.pan v,s.next hs' k hk.1,hend,hk.2⟩
  |outgrown=>exact hend.elim
end
def OLe(o o':O):Prop:=(∀c b,OAt c b o->OAt c b o')/\((o= .dead\/o= .cells [])->(o'= .dead\/o'= .cells []))
theorem OLe.refl(o:O):OLe o o:=⟨λ_ _ h=>h,λh=>h⟩
theorem OLe.cells{cs cs':List V}(hl:aa cs'<=aa cs)(hv:dm (cs.take (aa cs')) cs'):OLe (.cells cs) (.cells cs'):=by
 refine⟨λc b ho=> ?_,λh=> ?_⟩
 ·obtain⟨arr,el,fz,h1,h2,h3,h4⟩:=ho;refine⟨arr,el,fz,h1,h2,by omega,?_⟩;have:=hv c _ (h4.take (aa cs'))
  rwa [List.take_take,Nat.min_eq_left hl]at this
 ·rcases h with h|h
  ·cases h
  ·cases h;exact .inr (by rw[zse (Nat.le_zero.1 hl)])
theorem OLe.take(cs:List V)(m:Nat):OLe (.cells cs) (.cells (cs.take m)):=OLe.cells (by simp;omega) (by
 rw[zrl,show List.take (min m (aa cs)) cs=List.take m cs by
  rcases Nat.le_total m (aa cs)with h|h
  ·rw[Nat.min_eq_left h]
  ·rw[Nat.min_eq_right h,zqh (zrb _),zqh h]]
 exact dm.refl _)
theorem VLe.cap{id k off len cap cap':Nat}(hc:cap'<=cap):VLe (.ls id k off len cap) (.ls id k off len cap'):=λc x h=>by simp only[VRel]at h ⊢;obtain⟨a,cp,h1,h2,h3⟩:=h;exact⟨a,cp,h1,by omega,h3⟩
theorem dV{id k off:Nat}:VLe .nils (.ls id k off 0 0):=λc x h=>by simp only[VRel]at h ⊢;exact⟨aq,0,h,zrb _,zrb _,Nat.zero_le _,.inl rfl⟩
theorem VLe.any(v:V):VLe v .any:=λc x h=>by simp only[VRel]
theorem dm.set{vs:List V}{i:Nat}{v v':V}(hi:vs[i]? =al v)(h:VLe v v'):dm vs (vs.set i v'):=by
 induction vs generalizing i with
 |nil=>simp at hi
 |cons u vs ih =>
  cases i with
  |zero=>simp only[List.getElem?_cons_zero,Option.some.injEq]at hi;subst hi;exact dm.cons h (dm.refl _)
  |succ i=>exact dm.cons (VLe.refl _) (ih (by simpa using hi))
def HLe(h h':H):Prop:=h'.length=aa h/\∀(i:Nat)(o':O),h'[i]? =al o'->∃o:O,h[i]? =al o/\OLe o o'
theorem HLe.refl(h:H):HLe h h:=⟨rfl,λi o ho=>⟨o,ho,OLe.refl o⟩⟩
theorem HLe.trans{a b c:H}(h:HLe a b)(k:HLe b c):HLe a c:=⟨k.1.trans h.1,λi o ho=>by
 obtain⟨o1,h1,h2⟩:=k.2 i o ho;obtain⟨o2,h3,h4⟩:=h.2 i o1 h1;exact⟨o2,h3,λc b x=>h2.1 c b (h4.1 c b x),λx=>h2.2 (h4.2 x)⟩⟩
theorem HLe.set{h:H}{i:Nat}{o o':O}(hi:h[i]? =al o)(hl:OLe o o'):HLe h (h.set i o'):=by
 have hlt:=(zqe hi).1;refine⟨zrn,λj q hq=> ?_⟩;by_cases hj:i=j
 ·subst hj;rw[zqt hlt]at hq;cases hq;exact⟨o,hi,hl⟩
 ·rw[zqn hj]at hq;exact⟨q,hq,OLe.refl q⟩
theorem HSim.le{e:E}{ok:Nat->Prop}{pl:Nat->Option Nat}{h h':H}{w:World}(hs:HSim e ok pl h w)(k:HLe h h'):HSim e ok pl h' w where
 fresh:=hs.fresh
 lt:=hs.lt
 okl:=hs.okl
 inj:=hs.inj
 obj i b hi:=by
  obtain⟨o,h1,h2⟩:=hs.obj i b hi;have hlt:i<aa h':=by have:=(zqe h1).1;rw[k.1];exact this
  obtain⟨o1,h3,h4⟩:=k.2 i _ (zqk hlt);rw[h1]at h3;cases h3;exact⟨_,zqk hlt,h4.1 _ _ h2⟩
 bare i o ho hp:=by
  obtain⟨o1,h3,h4⟩:=k.2 i o ho;exact h4.2 (hs.bare i o1 h3 hp)
 glob:=hs.glob
 exa:=hs.exa
structure FLe(f f':Fr):Prop where
 t:∀i,VLe (f.t i) (f'.t i)
 d:f'.d=f.d
 k:f'.k=f.k
theorem JO{e:E}{n:Nat}{r:Option Nat}{c:Code}{Q:XE->Fr->H->Prop}{f f':Fr}{h h':H}(hf:FLe f f')(hh:HLe h h')(hw:awp e n r c Q f' h'):awp e n r c Q f h:=by intro ok pl0 w0 pl w a s;refine hw ok pl0 w0 pl w a ⟨s.hs.le hh,by rw[hf.k];exact s.kp,s.size,λi=>hf.t i _ _ (s.val i),by rw[hf.d];exact s.dfr⟩
theorem mF{e:E}{n:Nat}{r:Option Nat}{c:Code}{Q:XE->Fr->H->Prop}{f:Fr}{h h':H}(hh:HLe h h')(hw:awp e n r c Q f h'):awp e n r c Q f h :=
 JO ⟨λ_=>VLe.refl _,rfl,rfl⟩ hh hw
theorem MM{e:E}{g:FuncId}{args:List V}{h:H}{R:AEnd->H->(Nat->Bool)->Prop}(hc:ag e g args h λae h1 p=>∃h2,HLe h1 h2/\R ae h2 p):ag e g args h R :=
 λok pl w vs hs hv=>(hc ok pl w vs hs hv).mono λen w' ⟨p,pl',h',ae,h1,h2,h3,h2',h4,h5⟩=>⟨p,pl',h2',ae,h1.le h4,h2,h3,h5⟩
theorem ig{e:E}{g:FuncId}{args args':List V}{h h':H}{R:AEnd->H->(Nat->Bool)->Prop}(ha:dm args args')(hh:HLe h h')(hc:ag e g args' h' R):ag e g args h R :=
 λok pl w vs hs hv=>hc ok pl w vs (hs.le hh) (ha _ _ hv)
theorem gI{e:E}{n:Nat}{r:Option Nat}{c:Code}{Q:XE->Fr->H->Prop}{f:Fr}{h:H}(hw:awp e n r c Q f (h++[.cells []])):awp e n r c Q f h:=by intro ok pl0 w0 pl w a s;exact hw ok pl0 w0 pl w a ⟨qJ s.hs,s.kp,s.size,s.val,s.dfr⟩
theorem FLe.one{f:Fr}(i:Nat){v:V}(h:VLe (f.t i) v):FLe f {f with t:=λj=>if j=i then v else f.t j}:=by
 refine⟨λj=> ?_,rfl,rfl⟩;show VLe (f.t j) (if j=i then v else f.t j);by_cases he:j=i
 ·rw[if_pos he,he];exact h
 ·rw[if_neg he];exact VLe.refl _
section
variable{e:E}{n:Nat}{o:Oper}{Kn:Fr->H->Prop}{Q:XE->Fr->H->Prop}{f:Fr}{h:H}
end
end Go.Abs
namespace Go
open List renaming length → aa, replicate → ao
open Bool renaming true → ab, false → ac
open Option renaming some → al, none → aq
open Decidable renaming decide → ar
open Go.IntKind renaming wrap → aD
open Go.Result renaming andThen → aM
open Go.Abs.V renaming drops → ap, dat → aE, dats → aL
section
variable{F:Fence}{n:Nat}{P:Program}{Q:Exit->Act->World->Prop}{QP:List PanicEntry->Act->World->Prop}{a:Act}{w:World}
end
end Go
namespace Go.Abs
open Go Go.RowKit
open List renaming length → aa, replicate → ao
open Bool renaming true → ab, false → ac
open Option renaming some → al, none → aq
open Decidable renaming decide → ar
open Go.IntKind renaming wrap → aD
open Go.Result renaming andThen → aM
open Go.Abs.V renaming drops → ap, dat → aE, dats → aL
section
variable{e:E}{n:Nat}{r:Option Nat}{f:Fr}{h:H}{Q:XE->Fr->H->Prop}{QP:V->Fr->H->Prop}
end
section
variable{e:E}{n:Nat}{r:Option Nat}{f:Fr}{h:H}{Q:XE->Fr->H->Prop}{ops:Array Oper}
def O9(e:E)(n:Nat)(r:Option Nat)(ops:Array Oper)(Q:XE->Fr->H->Prop)(l:List Oper)(f:Fr)(h:H):Prop :=
 ∀ok pl0 w0 pl w a,SSim e n ok pl0 w0 f h pl w a->wpListIn (RF r) 0 e.P ops (iM e n ok pl0 w0 Q) l a w
theorem iE{id:Nat}{l:List Oper}(hv:O9 e n r l.toArray Q l f h):awp e n r (.region id l.toArray ac) Q f h :=
 λok pl0 w0 pl w a s=>wpIn_region_lit (hv ok pl0 w0 pl w a s)
theorem dL(hv:Q .normal f h):O9 e n r ops Q [] f h:=λok pl0 w0 pl w a s=>⟨pl,f,h,.normal,s,trivial,hv⟩
theorem dM{o:Oper}{rest:List Oper}(hg:o.guard=aq)(hd:jF n o.dst=ab)(he:Eff e n r o f h (O9 e n r ops Q rest) Q):O9 e n r ops Q (o::rest) f h:=λok pl0 w0 pl w a s=>by
 have hgd:gd ops f o=al ab:=by unfold gd;rw[hg]
 have hw:=rZ s.val hgd;unfold wpListIn;rw[if_pos hw];exact Oper.wpIn_mono (λa' w' ⟨pl',f',h',s',hk⟩=>hk ok pl0 w0 pl' w' a' s') (he ok pl0 w0 pl w a s hd)
theorem az{o:Oper}{rest:List Oper}(hg:o.guard=aq)(hd:jF n o.dst=ab) (he:match kL o.op with
 |true=>ER e n o f h (O9 e n r ops Q rest) Q
 |false=>yN ab (xX e.P o (f.ev e) h) o.dst (O9 e n r ops Q rest) f h):O9 e n r ops Q (o::rest) f h:=by
 refine dM hg hd ?_;cases hi:kL o.op with
 |true=>rw[hi]at he;exact Dj he
 |false=>rw[hi]at he;exact kG (pz (he.1 rfl)) he.2
end
theorem HSim.tl{e:E}{ok:Nat->Prop}{pl:Nat->Option Nat}{h:H}{w:World}(hs:HSim e ok pl h w)(tl:List Deferred):HSim {e with tl:=tl} ok pl h w :=
 ⟨hs.fresh,hs.lt,hs.okl,hs.inj,hs.obj,hs.bare,hs.glob,hs.exa⟩
theorem HSim.untl{e:E}{ok:Nat->Prop}{pl:Nat->Option Nat}{h:H}{w:World}{tl:List Deferred}(hs:HSim {e with tl:=tl} ok pl h w):HSim e ok pl h w :=
 ⟨hs.fresh,hs.lt,hs.okl,hs.inj,hs.obj,hs.bare,hs.glob,hs.exa⟩
theorem ag.tl{e:E}{g:FuncId}{args:List V}{h:H}{R:AEnd->H->(Nat->Bool)->Prop}(hc:ag e g args h R)(tl:List Deferred):ag {e with tl:=tl} g args h R :=
 λok pl w vs hs hl=>(hc ok pl w vs hs.untl hl).mono λen w' ⟨p,pl',h',ae,h1,h2⟩=>⟨p,pl',h',ae,h1.tl tl,h2⟩
def x9:Op->Bool
 | .assign _ | .move _ | .alloc _ | .store _ _ _ | .extract _ _ | .typeAssert _ _ _ _=>ab
 |_=>ac
theorem MN{P:Program}{o:Oper}(h:x9 o.op=ab)(ev:Operand->Value)(w:World):(∃x w',(execOp ev o).run P w= .ok (.value x) w')\/(∃w',(execOp ev o).run P w= .ok .skip w')\/∃x w',(execOp ev o).run P w= .halt x w':=by
 cases hop:o.op<;>rw[hop]at h<;>try(cases h;done)
 all_goals
  simp only[execOp,hop,Sem.run_bind,Sem.run_pure]
 case assign x=>exact .inl ⟨_,_,rfl⟩
 case move x=>exact .inl ⟨_,_,rfl⟩
 case store t x y=>cases hr:(Instr.storeAt t (ev x) (ev y)).run P w with
  |ok v w'=>exact .inr (.inl ⟨w',rfl⟩)
  |halt x w'=>exact .inr (.inr ⟨x,w',rfl⟩)
 all_goals
  generalize hs:Sem.run P _ w=r;cases r with
  |ok v w'=>exact .inl ⟨v,w',rfl⟩
  |halt x w'=>exact .inr (.inr ⟨x,w',rfl⟩)
section
variable{e:E}{n:Nat}
theorem pM{ops:Array Oper}{P:Program}{Q:Exit->Act->World->Prop}{cs:List Frame}:∀(l:List Oper)(k:Nat)(a:Act)(w:World),(∀j,j<aa l->l[j]? =ops[k+j]?)->(∀o∈l,x9 o.op=ab)->wpListIn (RF aq) 0 P ops Q l a w ->
 wpOpsSIn (RF aq) 0 P ops (λex a cs' w=>cs'=cs/\Q ex a w) (List.range' k (aa l)) a cs w
 |[],k,a,w,_,_,h=>by show wpOpsSIn _ _ _ _ _ [] a cs w;exact(zsa rfl h:cs=cs/\Q .normal a w)
 |o::rest,k,a,w,hl,hs,h=>by
  have ho:ops[k]? =al o:=by have:=hl 0 (by simp);simpa using this.symm
  have ih:∀a w,wpListIn (RF aq) 0 P ops Q rest a w->wpOpsSIn (RF aq) 0 P ops (λex a cs' w=>cs'=cs/\Q ex a w) (List.range' (k+1) (aa rest)) a cs w:=λa w h=>pM rest (k+1) a w (λj hj=>by
   have:=hl (j+1) (by simpa using hj);rw[List.getElem?_cons_succ]at this;rw[this];congr 1;omega) (λo ho=>hs o (List.mem_cons_of_mem _ ho)) h
  show wpOpsSIn (RF aq) 0 P ops _ (k::List.range' (k+1) (aa rest)) a cs w;unfold wpListIn at h;simp only[wpOpsSIn,ho];refine⟨λg _=>iD aq g,?_⟩;split at h
  ·rename_i hw;rw[if_pos hw];obtain⟨_,hu⟩:=h;rw[eP,Oper.semAt_eq aq a.eval o (λc hc=>by have:=hs o (by simp);rw[hc]at this;cases this)]at hu;rcases MN (P:=P) (hs o (by simp)) a.eval w with⟨x,w',hr⟩|⟨w',hr⟩|⟨x,w',hr⟩
   ·rw[hr]at hu ⊢;exact ih _ _ hu
   ·rw[hr]at hu ⊢;exact ih _ _ hu
   ·rw[hr]at hu ⊢;cases x<;>try exact hu.elim
    exact⟨trivial,hu⟩
  ·rename_i hw;rw[if_neg hw];exact ih _ _ h.2
theorem kQ{F:Fence}{m:Nat}{P:Program}{ops:Array Oper}{Q Q':Exit->Act->List Frame->World->Prop}(hq:∀ex a cs w,Q ex a cs w->Q' ex a cs w):∀(l:List Nat)(a:Act)(cs:List Frame)(w:World),wpOpsSIn F m P ops Q l a cs w->wpOpsSIn F m P ops Q' l a cs w
 |[],a,cs,w,h=>hq _ _ _ _ h
 |i::rest,a,cs,w,h=>by
  simp only[wpOpsSIn]at h ⊢;split at h
  ·exact kQ hq rest _ _ _ h
  ·refine⟨h.1,?_⟩;have h2:=h.2;split at h2
   ·rename_i hw;rw[if_pos hw];split at h2
    ·split at h2<;>exact kQ hq rest _ _ _ h2
    ·exact kQ hq rest _ _ _ h2
    ·exact kQ hq rest _ _ _ h2
    ·exact hq _ _ _ _ h2
    ·exact h2.elim
   ·rename_i hw;rw[if_neg hw];exact kQ hq rest _ _ _ h2
def jL(e:E)(q:FuncId)(args:List V)(v:V)(h:H)(K:H->(Nat->Bool)->Prop):Prop :=
 ∀ok pl w vs x,HSim e ok pl h w->VList (cx ok pl w) args vs->VRel (cx ok pl w) v x ->
  CallsDIn (RF aq) (0-1) e.P q vs.toArray (.panicking [{v:=x,recovered:=ac}]) w λen u' w'=>(∃y,en= .returned y)/\u'= .panicking [{v:=x,recovered:=ab}] /\
   ∃p pl' h',HSim e ok pl' h' w'/\Keeps p pl w pl' w'/\K h' p
theorem mG(htl:e.tl=[]){q:FuncId}{fn:Func}{args:List V}{v:V}{h:H}{K:H->(Nat->Bool)->Prop}{id:Nat}{o0:Oper}{l:List Oper}{rest:Code}(hf:e.P.funcs[q]? =al fn)
 (hb:fn.body=al (.seq (.region id (o0::l).toArray ac) rest)) (hr0:fn.results.toList=[]) (hn:aa args<=fn.ntmps) (hg:o0.guard=aq) (ho:∀ev w,(execOp ev o0).run e.P w= .ok .recover w) (hd:jF fn.ntmps o0.dst=ab)
 (hl:(l.all λo=>x9 o.op)=ab)
 (hv:O9 e fn.ntmps aq (o0::l).toArray (XE.seq (awp e fn.ntmps aq rest (λxe f h=>(xe= .normal\/xe= .ret)/\f.d=[]/\K h f.k)) (λ_ _ _=>False)) l ((Fr.init args).put o0.dst v) h):jL e q args v h K:=by
 intro ok pl w vs x hs hl2 hx;refine callsDIn_of_wpSIn hf hb (iD aq q) λc0 cs hm=> ?_;have s0:=SSim.init htl (n:=fn.ntmps) hs hl2 hn;have s1:=s0.put hd hx;obtain⟨c1,ec1⟩:∃c1:Frame,c1={c0 with mode:= .panicking [{v:=x,recovered:=ab}]}:=⟨_,rfl⟩;have hrec:recoverD (c0::cs)=al (x,c1::cs):=by
  rw[ec1];simp[recoverD,hm]
 refine wpSIn_seq (wpSIn_region ?_);have hsz:(o0::l).toArray.size=aa (o0::l):=by simp
 rw[hsz,List.range_eq_range'];show wpOpsSIn (RF aq) (0-1) e.P _ _ (0::List.range' 1 (aa l)) _ _ _;have h00:(o0::l).toArray[0]? =al o0:=by simp
 simp only[wpOpsSIn,h00];refine⟨λg _=>iD aq g,?_⟩;have hgd:gd (o0::l).toArray (Fr.init args) o0=al ab:=by unfold gd;rw[hg]
 rw[if_pos (rZ s0.val hgd),ho];dsimp only;rw[hrec];dsimp only;have hlist:=hv ok pl w pl w _ s1;have hS:=pM (P:=e.P) (cs:=c1::cs) (ops:=(o0::l).toArray) l 1 _ w (λj hj=>by simp[Nat.add_comm]) (λo ho=>zrs.1 hl o ho) hlist;refine kQ ?_ _ _ _ _ hS;rintro ex a2 cs2 w2 ⟨rfl,pl2,f2,h2,xe,s2,hx2,hq2⟩;cases xe<;>cases ex<;>(try exact hx2.elim)<;>(try exact hq2.elim);have hq2:awp e fn.ntmps aq rest (λxe f h=>(xe= .normal\/xe= .ret)/\f.d=[]/\K h f.k) f2 h2:=hq2;refine wpSIn_of_wpIn (eP aq) (wpIn_mono (hq2 ok pl w pl2 w2 a2 s2) ?_);rintro ex a3 w3 ⟨pl3,f3,h3,xe,s3,hx3,hxe,hd3,hk3⟩;have hdf:a3.defers=[]:=by
  have:=s3.dfr;rw[hd3]at this;exact Eq.trans this htl
 have hres:∃y,(results fn a3.tmps).run e.P w3= .ok y w3:=by
  have hp:(AL e.P f3 h3 fn.results.toList).1:=by rw[hr0];trivial
  obtain⟨y,h1,_⟩:=JK (f:=f3) s3.hs s3.val hp;exact⟨y,h1⟩
 obtain⟨y,hy⟩:=hres;have fin:a3.defers=[]/\∃u',c1::cs={c0 with mode:=u'}::cs/\∃v,(results fn a3.tmps).run e.P w3= .ok v w3/\((∃y,Ending.returned v= .returned y)/\u'= .panicking [{v:=x,recovered:=ab}] /\
  ∃p pl' h',HSim e ok pl' h' w3/\Keeps p pl w pl' w3/\K h' p) :=
  ⟨hdf,_,by rw[ec1],y,hy,⟨y,rfl⟩,rfl,f3.k,pl3,h3,s3.hs,s3.kp,hk3⟩
 rcases hxe with rfl|rfl<;>cases ex<;>(try exact hx3.elim)
 ·exact fin
 ·exact fin
end
section
variable{e:E}{n:Nat}
def Y2(e:E)(ok:Nat->Prop)(pl0:Nat->Option Nat)(w0:World)(R:AEnd->H->(Nat->Bool)->Prop)(en:Ending)(w':World):Prop :=
 ∃p pl' h' ae,HSim e ok pl' h' w'/\Keeps p pl0 w0 pl' w'/\JG (cx ok pl' w') ae en/\R ae h' p
def Z5(e:E)(n:Nat)(M:Exit->Act->World->Prop)(ok:Nat->Prop)(pl0:Nat->Option Nat)(w0:World)(c:Code)(f:Fr)(h:H):Prop :=
 ∀pl w a,SSim e n ok pl0 w0 f h pl w a->c.wpIn (RF aq) 0 e.P M a w
theorem mJ(htl:e.tl=[]){g:FuncId}{fn:Func}{c:Code}{args:List V}{h:H}{R:AEnd->H->(Nat->Bool)->Prop}(hf:e.P.funcs[g]? =al fn)(hb:fn.body=al c)(hn:aa args<=fn.ntmps)
 (hv:∀ok pl0 w0,Z5 e fn.ntmps (bodyPostM (RF aq) 0 e.P fn (Y2 e ok pl0 w0 R)) ok pl0 w0 c (Fr.init args) h):ag e g args h R:=by
 intro ok pl w vs hs hl;exact pF (r:=aq) (n:=0) (callsIn_of_wp_marks hf hb (iD aq g) (hv ok pl w pl w _ (SSim.init htl (n:=fn.ntmps) hs hl hn)) rfl)
theorem Du{M:Exit->Act->World->Prop}{ok:Nat->Prop}{pl0:Nat->Option Nat}{w0:World}{f:Fr}{h:H}{x y:Code}{Q:XE->Fr->H->Prop}(hx:awp e n aq x (XE.seq (λf h=>Z5 e n M ok pl0 w0 y f h) Q) f h)
 (hQ:∀ex a w,iM e n ok pl0 w0 Q ex a w->M ex a w):Z5 e n M ok pl0 w0 (.seq x y) f h:=λpl w a s=>by
 refine wpIn_seq (wpIn_mono (hx ok pl0 w0 pl w a s) λex a w hp=> ?_);have:=iM.seq (K':=λa w=>y.wpIn (RF aq) 0 e.P M a w) (λpl f h a w s hk=>hk pl w a s) ex a w hp;cases ex<;>first|exact this|exact hQ _ _ _ this
end
section
variable{e:E}{n:Nat}{r:Option Nat}{o:Oper}{f:Fr}{h:H}{Kn:Fr->H->Prop}{Q:XE->Fr->H->Prop}
end
section
variable{e:E}{n:Nat}{r:Option Nat}{o:Oper}{f:Fr}{h:H}{Kn:Fr->H->Prop}{Q:XE->Fr->H->Prop}
variable{ok:Nat->Prop}{pl:Nat->Option Nat}{w:World}
theorem OLe.typed{T:TypeId}{cs:List V}:OLe (.typed T cs) (.cells cs) :=
 ⟨λc b ⟨arr,fz,h1,h2,h3,h4⟩=>⟨arr,T,fz,h1,h2,h3,h4⟩,λh=>by rcases h with h|h<;>cases h⟩
theorem Bl(hs:HSim e ok pl h w){cs:List V}{arr:Array Value}(hl:aa cs<=arr.size)(hc:VList (cx ok pl w) cs (arr.toList.take (aa cs)))(el:TypeId){w1:World}(x:WExt w w1) :
 HSim e ok (bz pl (aa h) w1.heap.size) (h++[.typed el cs]) (w1.alloc (.cells arr el))/\Keeps (λ_=>ac) pl w (bz pl (aa h) w1.heap.size) (w1.alloc (.cells arr el)):=by
 have x2:=x.trans (WExt.alloc w1 (.cells arr el));have hb:(w1.alloc (.cells arr el)).heap[w1.heap.size]? =al (.cells arr el):=by rw[World.alloc];simp
 have key:∀(c':C),CExt (λ_=>ac) (cx ok pl w) c'->c'.w=w1.alloc (.cells arr el)->OAt c' w1.heap.size (.typed el cs):=by intro c' hx hw;exact⟨arr,(0,0),by rw[hw];exact hb,λj _=>by simp,hl,VList.mono hx cs _ hc⟩
 have k:CExt (λ_=>ac) (cx ok pl w) (cx ok (bz pl (aa h) w1.heap.size) (w1.alloc (.cells arr el))):=by
  refine⟨λb hb' hok=>⟨⟨hok.1,λi hi=> ?_⟩,x2.same b hb'⟩,λi b _ hi=> ?_,λb arr' el' fz hb'=>⟨arr',fz,(x2.same b (aW hb')).trans hb',rfl⟩⟩
  ·simp only[bz]at hi;split at hi
   ·cases hi;have:=x.size;simp only[cx]at hb';omega
   ·exact hok.2 i hi
  ·have:=hs.pl_lt hi;simp only[cx,bz];rw[if_neg (by omega)];exact hi
 exact hs.new x2 (.cells arr el) (.typed el cs) x.size (by simp) (key _ k rfl)
theorem MQ{t:TypeId}(hop:o.op= .alloc t){q:TI}(hq:ti e.P t=al q)(hf:q.zero.fit=ab)
 (hk:Kn (f.put o.dst (.lp (aa h) 0)) (h++[.typed t q.zero.vc])):Eff e n r o f h Kn Q:=by
 refine aV ?_ (λc=>by rw[hop];exact λh=>by cases h);intro ok pl w ev hs _;obtain⟨i,d,z,hT⟩:=aG hq;have hz:VList (cx ok pl w) q.zero.vc z.cells.toList:=by
  rw[hT.zv]at hf ⊢;exact(dA _ z).vc hf
 have hzl:=hz.length;simp only[Array.length_toList]at hzl;obtain⟨h1,h2⟩:=Bl hs (cs:=q.zero.vc) (arr:=z.cells) (by omega) (by rw[zqh (by simp;omega)];exact hz) t (WExt.refl w);refine⟨λ_=>ac,.lp (aa h) 0,_,_,_,.pointer (al ⟨w.heap.size,0,aq⟩),.inl ?_,h1,h2,?_,λ_ _=>rfl,by simpa using hk⟩
 ·have:(Instr.alloc t ab (.tuple #[])).run e.P w= .ok (.pointer (al ⟨w.heap.size,0,aq⟩)) (w.alloc (.cells z.cells t)):=by unfold Instr.alloc;simp only[Sem.run_bind,hT.run_zero,aM];rfl
  have h3:execOp ev o=(do pure (Next.value (<-Instr.alloc t ab (.tuple #[])))):=by simp[execOp,hop]
  rw[h3];exact gJ this
 ·simp only[VRel];exact⟨w.heap.size,by simp[cx,bz],rfl⟩
theorem wY(hs:HSim e ok pl h w){id b:Nat}(hb:pl id=al b){off:Nat}{vs:List V}{xs:List Value}(hv:VList (cx ok pl w) vs xs)(ho:dB vs=ab)
 {cs:List V} {T:TypeId} (hc:h[id]? =al (.typed T cs)) (hl:off+aa vs<=aa cs) :
 ∃w',(storeCells ⟨b,off,aq⟩ xs).run e.P w= .ok () w'/\HSim e ok pl (h.set id (.typed T (di cs off vs))) w'/\Keeps (λ_=>ac) pl w pl w':=by
 obtain⟨ob,h1,hat⟩:=hs.obj id b hb;rw[hc]at h1;cases h1;obtain⟨arr,fz,h2,h3,h4,h5⟩:=hat;have hxl:=hv.length;simp only[cx]at h2;have hrun:=gW (P:=e.P) (o:=off) h2 h3 (by omega) (hv.oneCells ho);have hw:=iO (b:=b) xs off arr w h2 (by omega);refine⟨_,hrun,hs.upd hb _ hw.os hw.tape hw.output hw.size hw.same (λarr' el' fz' ha=> ?_) λk=> ?_⟩
 ·rw[h2]at ha;cases ha;refine⟨_,_,hw.here,?_⟩;simp;omega
 ·have hsz:(arr.toList.take off++xs++arr.toList.drop (off+aa xs)).toArray.size=arr.size:=by simp;omega
  refine⟨_,fz,hw.here,λj hj=>h3 j (by omega),?_,?_⟩
  ·have:aa (di cs off vs)=aa cs:=by unfold di;simp;omega
   rw[this,hsz];exact h4
  ·have hlen:aa (di cs off vs)=aa cs:=by unfold di;simp;omega
   rw[hlen];have e1:(arr.toList.take off++xs++arr.toList.drop (off+aa xs)).toArray.toList.take (aa cs)=(arr.toList.take (aa cs)).take off++xs++(arr.toList.take (aa cs)).drop (off+aa xs):=by
    apply List.ext_getElem?;intro i;have hsz:aa arr.toList=arr.size:=by simp
    simp only[List.getElem?_append,List.getElem?_take,List.getElem?_drop,zqa,zrl,List.length_drop]
    repeat' split
    all_goals first
     |rfl
     |omega
     |(congr 1;omega)
     |(exfalso;omega)
     |(simp_all;(try omega);done)
     |(rw[zsj];simp;omega)
     |(symm;rw[zsj];simp;omega)
   rw[e1];unfold di;rw[<-hxl];have h5':=VList.mono k cs _ h5;exact((h5'.take off).append (VList.mono k vs _ hv)).append (h5'.dropN _)
theorem Bo{t:TypeId}{x y:Operand}(hop:o.op= .store t x y){id off:Nat}(hx:(f.ev e x).sv= .lp id off)(hxc:(f.ev e x).sc)(hyc:(f.ev e y).sc)
 {q:TI} (hq:ti e.P t=al q) (hf:(f.ev e y).sv.fit=ab) (h1:dB (f.ev e y).sv.vc=ab) (hsz:(f.ev e y).sv.vc.length=q.size)
 {cs:List V} {T:TypeId} (hc:h[id]? =al (.typed T cs)) (hl:off+(f.ev e y).sv.vc.length<=aa cs)
 (hk:Kn (f.put o.dst jR) (h.set id (.typed T (di cs off (f.ev e y).sv.vc)))):Eff e n r o f h Kn Q:=by
 refine aV ?_ (λc=>by rw[hop];exact λh=>by cases h);intro ok pl w ev hs hr;obtain⟨i,d,z,hT⟩:=aG hq;have hxv:=(hr x (by simp[hop,Op.operands])).sv hxc;rw[hx]at hxv;simp only[VRel]at hxv;obtain⟨b,hb,hxb⟩:=hxv;have hyv:=(hr y (by simp[hop,Op.operands])).sv hyc;have hvc:=hyv.vc hf;obtain⟨w',hrun,hs',k⟩:=wY hs hb hvc h1 hc hl;refine⟨λ_=>ac,jR,_,pl,w',undef,.inr ⟨?_,rfl⟩,hs',k,pG _,λ_ _=>rfl,by simpa using hk⟩;have hlen:=hvc.length;have h3:execOp ev o=(do Instr.storeAt t (ev x) (ev y);pure .skip):=by simp[execOp,hop]
 rw[h3];have:¬(ev y).cells.size≠q.size:=by
  simp only[Array.length_toList]at hlen;omega
 simp only[Sem.run_bind,Instr.storeAt,hxb,Instr.sureAddr,Sem.run_pure,aM,storeVar,hT.run_size];rw[if_neg this];simp only[hrun]
theorem vU{x y:Operand}{t xt el:TypeId}{q re:TI}(ha:IsAppend e o x y t xt el q re)(hxc:(f.ev e x).sc)(hyc:(f.ev e y).sc)
 (hex:(f.ev e x).sv= .nils) (hst:Dc e.P xt el (f.ev e y).sv=ab)
 {m:Nat} {cs:List V} (hy:jS h re.size (f.ev e y).sv=al (m,cs)) (hyf:oP re.size (f.ev e y).sv=ab)
 (hnz:0<m) (hbig:0+m<=maxLen) (hbytes:(0+m)*re.bytes<=140737488355328)
 (hk:Kn (f.put o.dst (.ls (aa h) re.size 0 (0+m) (0+m))) (h++[.typed el ([]++cs)])):Eff e n r o f h Kn Q:=by
 obtain⟨⟨ts,hop,ht0,ht1⟩,hti,hkind,htie,hzf,hzl,hpos⟩:=ha;refine aV ?_ (λc=>by rw[hop];exact λh=>by cases h);intro ok pl w ev hs hr;obtain⟨i,d,z,hT⟩:=aG hti;have hd:=hT.slice hkind;subst hd;obtain⟨ie,de,ze,hE⟩:=aG htie;obtain⟨rx,ix,dx,zx,hX,hxi⟩:=EN hst;have hxv:=(hr x (by simp[hop,Op.operands,Call.operands])).sv hxc;have hyv:=(hr y (by simp[hop,Op.operands,Call.operands])).sv hyc;rw[hex]at hxv;obtain⟨n0,hn0⟩:∃n0,n0=0:=⟨0,rfl⟩;obtain⟨cs0,hcs0⟩:∃cs0:List V,cs0=[]:=⟨[],rfl⟩;rw[<-hn0]at hbig hbytes;obtain⟨olds,ho1,ho2,ho3,ho4⟩:=mi (n:=n0) (k:=re.size) (cs:=cs0) hs hxv (by subst hn0;subst hcs0;rfl) rfl;obtain⟨news,hn1,hn2,hn3,hn4⟩:=mi hs hyv hy hyf;obtain⟨base,hbase⟩:∃base,ev x= .slice base n0 n0:=by simp only[VRel]at hxv;exact⟨aq,by rw[hn0];exact hxv⟩
 have hol:=ho3.length;have hnl:=hn3.length;have hroom:¬n0+m<=n0:=by omega
 have hrun:=iR (P:=e.P) (w:=w) (ty:=o.type) ht0 ht1 hT hE hX hxi base n0 n0 m (ev y) olds news (λw'=>hn1 w') (by rw[<-hbase];exact ho2 _ (λ_=>rfl)) (hn2 _ (λ_=>rfl)) (by omega) hbig hbytes;obtain⟨cap,hcap⟩:∃cap,grownCap w (n0+m) n0 el=cap:=⟨_,rfl⟩;have hge:=grownCap_ge w (n0+m) n0 el;have hle:=grownCap_le_maxLen w (n0+m) n0 el hbig;rw[hcap]at hrun hge hle;obtain⟨arr,harr⟩:∃arr,olds++news++Builtin.zeroCells ze.cells (cap-(n0+m))=arr:=⟨_,rfl⟩;rw[harr]at hrun;have hzs:ze.cells.size=re.size:=by have hzr:=(dA (cx ok pl w) ze).vc (by rw[<-hE.zv];exact hzf);have:=hzr.length;rw[<-hE.zv,hzl]at this;simpa using this
 have hasz:arr.size=cap*re.size:=by rw[<-harr];simp only[Array.size_append,size_zeroCells,hzs];simp only[Array.length_toList]at hol hnl;rw[hol,hnl,ho4,hn4,<-Nat.add_mul,<-Nat.add_mul];congr 1;omega
 have hlist:arr.toList.take (aa (cs0++cs))=olds.toList++news.toList:=by rw[<-harr];simp only[Array.toList_append];rw[List.take_append_of_le_length (by simp only[zqa];omega),zqh (by simp only[zqa];omega)]
 obtain⟨hs',kk⟩:=Bl hs (cs:=cs0++cs) (arr:=arr) (by rw[hasz,zqa,ho4,hn4,<-Nat.add_mul];exact Nat.mul_le_mul_right _ hge) (by rw[hlist];exact ho3.append hn3) el (WExt.drew w);subst hn0;subst hcs0;refine⟨λ_=>ac,_,_,_,_,.slice (al ⟨w.heap.size,0,aq⟩) (0+m) cap,.inl ?_,hs',kk,?_,λ_ _=>rfl,by rw[Fr.drop_none];exact hk⟩
 ·rw[dE hop,hbase];exact gJ hrun
 ·simp only[VRel];refine⟨_,cap,rfl,hge,hge,hle,.inr ⟨w.heap.size,arr,el,(0,0),by simp[cx,bz],rfl,?_,by rw[hasz];omega⟩⟩;exact World.alloc_heap_new w.drew (.cells arr el)
theorem xH{x y:Operand}{t xt el:TypeId}{q re:TI}(ha:IsAppend e o x y t xt el q re)(hxc:(f.ev e x).sc)(hyc:(f.ev e y).sc)
 {id len cap:Nat} (hx:(f.ev e x).sv= .ls id re.size 0 len cap) {cs0:List V} (hc:h[id]? =al (.typed el cs0)) (hcl:aa cs0=len*re.size)
 (hst:Dc e.P xt el (f.ev e y).sv=ab) {m:Nat} {cs:List V} (hy:jS h re.size (f.ev e y).sv=al (m,cs)) (hyf:oP re.size (f.ev e y).sv=ab) (h1:dB cs=ab)
 (hbig:len+m<=maxLen) (hbytes:(len+m)*re.bytes<=140737488355328) (hid:∀i∈f.d,(i==id)=ac)
 (hk:Kn ((f.drop (·==id)).put o.dst (.ls id re.size 0 (len+m) (len+m))) ((h.map (O.drop (·==id))).set id (.typed el (ap (·==id) (cs0++cs))))):Eff e n r o f h Kn Q:=by
 obtain⟨⟨ts,hop,ht0,ht1⟩,hti,hkind,htie,hzf,hzl,hpos⟩:=ha;refine aV ?_ (λc=>by rw[hop];exact λh=>by cases h);intro ok pl w ev hs hr;obtain⟨i,d,z,hT⟩:=aG hti;have hd:=hT.slice hkind;subst hd;obtain⟨ie,de,ze,hE⟩:=aG htie;obtain⟨rx,ix,dx,zx,hX,hxi⟩:=EN hst;have hxv:=(hr x (by simp[hop,Op.operands,Call.operands])).sv hxc;have hyv:=(hr y (by simp[hop,Op.operands,Call.operands])).sv hyc;have hx':=hxv;rw[hx]at hx';obtain⟨olds,ho1,ho2,ho3,ho4⟩:=mi (k:=re.size) (n:=len) (cs:=cs0) hs hx' (by
  have:fA h id=cs0:=by simp[fA,hc]
  simp only[jS,this];rw[if_pos ⟨trivial,by omega⟩];simp only[List.drop_zero];rw[zqh (by omega)]) rfl
 obtain⟨news,hn1,hn2,hn3,hn4⟩:=mi hs hyv hy hyf;simp only[VRel]at hx';obtain⟨base,cp,hbase,hcap,hlen,hmax,hpl⟩:=hx';have hol:=ho3.length;have hnl:=hn3.length;have hidl:id<aa h:=(zqe hc).1;by_cases hroom:len+m<=cp
 ·rcases hpl with hcp|⟨b,arr,el',fz,hb,hbs,harr,hsz⟩
  ·have hm0:m=0:=by omega
   have hl0:len=0:=by omega
   subst hm0;subst hl0;subst hcp;have hcs:cs=[]:=zse (by omega);have hcs0:cs0=[]:=zse (by omega);subst hcs;subst hcs0;have hnews:news.toList=[]:=zse (by omega);have hrun:=eX (P:=e.P) (w:=w) (ty:=o.type) ht0 ht1 hT hE hX hxi base 0 0 0 (ev y) news (λw'=>hn1 w') (hn2 w (λ_=>rfl)) (by omega) (w':=w) (by
    cases base with
    |none=>exact .inl ⟨rfl,rfl⟩
    |some a=>exact .inr ⟨a,rfl,by rw[hnews];rfl⟩)
   obtain⟨hs',kk⟩:=hs.kill (·==id);have hset:(h.map (O.drop (·==id))).set id (.typed el (ap (·==id) ([]++[])))=h.map (O.drop (·==id)):=by
    apply List.ext_getElem?;intro j;by_cases hj:j=id
    ·subst hj;rw[zqt (by simpa using hidl),zqo,hc];simp[O.drop,ap]
    ·rw[zqn (Ne.symm hj)]
   rw[hset]at hk;refine⟨(·==id),_,_,pl,w,.slice base 0 0,.inl ?_,hs',kk,?_,hid,hk⟩
   ·rw[dE hop,hbase];exact gJ hrun
   ·simp only[VRel];exact⟨base,0,rfl,by omega,by omega,by simp[maxLen],.inl rfl⟩
  ·subst hbs;have hb':pl id=al b:=hb;obtain⟨ob,hob,hat⟩:=hs.obj id b hb';rw[hc]at hob;cases hob;obtain⟨arr2,fz2,g1,g2,g3,g4⟩:=hat;have harr':w.heap[b]? =al (.cells arr el' fz):=harr;have g1':w.heap[b]? =al (.cells arr2 el fz2):=g1;rw[harr']at g1';cases g1';have hfit:aa cs0+aa news.toList<=arr.size:=by
    rw[hnl,hcl,hn4,<-Nat.add_mul];have:=Nat.mul_le_mul_right re.size hroom;omega
   have hfit':aa cs0+news.size<=arr.size:=by simpa using hfit
   have hnsz:news.size=aa cs:=by simpa using hnl
   have hst':=gW (P:=e.P) (o:=aa cs0) harr' g2 hfit (hn3.oneCells h1);have hw:=iO (b:=b) news.toList (aa cs0) arr w harr' hfit;obtain⟨w',hw'⟩:∃w',w.setCells b (aa cs0) news.toList=w':=⟨_,rfl⟩;rw[hw']at hst' hw;have hrun:=eX (P:=e.P) (w:=w) (ty:=o.type) ht0 ht1 hT hE hX hxi (al ⟨b,0,aq⟩) len cp m (ev y) news (λw'=>hn1 w') (hn2 w (λ_=>rfl)) hroom (w':=w') (.inr ⟨_,rfl,by
    rw[dI,Nat.zero_add,<-hcl];exact hst'⟩)
   have hkk:Keeps (·==id) pl w (λi=>if i=id then al b else pl i) w':=by
    refine⟨hw.os,hw.tape,hw.output,by rw[hw.size];exact zrb _,λb' hb1 hn'=>hw.same b' (λhe=>hn' id (he▸hb')),λi b' hi=> ?_,λi b' hp hi=> ?_,λb' a1 e1 z1 hb1=> ?_⟩
    ·split at hi
     ·cases hi;exact .inl ⟨id,hb'⟩
     ·exact .inl ⟨i,hi⟩
    ·have:i≠id:=by simpa using hp
     rw[if_neg this];exact hi
    ·by_cases he:b'=b
     ·subst he;rw[harr']at hb1;cases hb1;exact⟨_,_,hw.here,by simp;omega⟩
     ·exact⟨a1,z1,(hw.same b' he).trans hb1,rfl⟩
   have hsize':(arr.toList.take (aa cs0)++news.toList++arr.toList.drop (aa cs0+aa news.toList)).toArray.size=arr.size:=by simp;omega
   have hs' := hs.replace hidl (nb := b) (w' := w') (o' := .typed el (ap (· == id) (cs0 ++ cs))) hkk (by rw [hw.size];exact aW harr') (λj hj hjb => hj (hs.inj j id b hjb hb'))
    (λj b' hj hjb=>hw.same b' (λhe=>hj (hs.inj j id b (he▸hjb) hb'))) (by
     refine⟨_,fz,hw.here,λj hj=>g2 j (by omega),?_,?_⟩
     ·rw[bZ,hsize',zqa];omega
     ·have hq:aa (ap (·==id) (cs0++cs))=aa cs0+aa news.toList:=by rw[bZ,zqa];omega
      rw[hq];have e1:(arr.toList.take (aa cs0)++news.toList++arr.toList.drop (aa cs0+aa news.toList)).toArray.toList.take (aa cs0+aa news.toList)=arr.toList.take (aa cs0)++news.toList:=by
       have e2:aa (arr.toList.take (aa cs0)++news.toList)=aa cs0+aa news.toList:=by simp only[zqa,zrl,Array.length_toList];omega
       show(arr.toList.take (aa cs0)++news.toList++arr.toList.drop (aa cs0+aa news.toList)).take (aa cs0+aa news.toList)=_;rw[List.take_append_of_le_length (by omega),zqh (by omega)]
      rw[e1];exact VList.mdrop hkk.cext _ _ (g4.append hn3))
   refine⟨(·==id),_,_,_,w',.slice (al ⟨b,0,aq⟩) (len+m) cp,.inl ?_,hs',hkk,?_,hid,hk⟩
   ·rw[dE hop,hbase];exact gJ hrun
   ·simp only[VRel];exact⟨_,cp,rfl,hroom,hroom,hmax,.inr ⟨b,_,el,fz,by simp[cx],rfl,hw.here,by rw[hsize'];omega⟩⟩
 ·have hrun:=iR (P:=e.P) (w:=w) (ty:=o.type) ht0 ht1 hT hE hX hxi base len cp m (ev y) olds news (λw'=>hn1 w') (by rw[<-hbase];exact ho2 _ (λ_=>rfl)) (hn2 _ (λ_=>rfl)) (by omega) hbig hbytes;obtain⟨cap',hcap'⟩:∃cap',grownCap w (len+m) cp el=cap':=⟨_,rfl⟩;have hge:=grownCap_ge w (len+m) cp el;have hle:=grownCap_le_maxLen w (len+m) cp el hbig;rw[hcap']at hrun hge hle;obtain⟨arr,harr⟩:∃arr,olds++news++Builtin.zeroCells ze.cells (cap'-(len+m))=arr:=⟨_,rfl⟩;rw[harr]at hrun;have hzs:ze.cells.size=re.size:=by have hzr:=(dA (cx ok pl w) ze).vc (by rw[<-hE.zv];exact hzf);have:=hzr.length;rw[<-hE.zv,hzl]at this;simpa using this
  have hasz:arr.size=cap'*re.size:=by rw[<-harr];simp only[Array.size_append,size_zeroCells,hzs];simp only[Array.length_toList]at hol hnl;rw[hol,hnl,ho4,hn4,<-Nat.add_mul,<-Nat.add_mul];congr 1;omega
  have hlist:arr.toList.take (aa (cs0++cs))=olds.toList++news.toList:=by rw[<-harr];simp only[Array.toList_append];rw[List.take_append_of_le_length (by simp only[zqa];omega),zqh (by simp only[zqa];omega)]
  have x2:=(WExt.drew w).trans (WExt.alloc w.drew (.cells arr el));have hhere:(w.drew.alloc (.cells arr el)).heap[w.heap.size]? =al (.cells arr el):=World.alloc_heap_new w.drew (.cells arr el);have hkk:Keeps (·==id) pl w (λi=>if i=id then al w.heap.size else pl i) (w.drew.alloc (.cells arr el)):=by
   refine⟨rfl,rfl,rfl,x2.size,λb' hb1 _=>x2.same b' hb1,λi b' hi=> ?_,λi b' hp hi=> ?_,λb' a1 e1 z1 hb1=>⟨a1,z1,(x2.same b' (aW hb1)).trans hb1,rfl⟩⟩
   ·split at hi
    ·cases hi;exact .inr (zrb _)
    ·exact .inl ⟨i,hi⟩
   ·have:i≠id:=by simpa using hp
    rw[if_neg this];exact hi
  have hs' := hs.replace hidl (nb := w.heap.size) (o' := .typed el (ap (· == id) (cs0 ++ cs))) hkk (by simp) (λj hj hjb => by have := hs.lt j _ hjb;omega)
   (λj b' hj hjb=>x2.same b' (hs.lt j b' hjb)) (by
    refine⟨arr,(0,0),hhere,λj _=>by simp,?_,?_⟩
    ·rw[bZ,hasz,zqa,ho4,hn4,<-Nat.add_mul];exact Nat.mul_le_mul_right _ hge
    ·rw[bZ,hlist];exact VList.mdrop hkk.cext _ _ (ho3.append hn3))
  refine⟨(·==id),_,_,_,_,.slice (al ⟨w.heap.size,0,aq⟩) (len+m) cap',.inl ?_,hs',hkk,?_,hid,hk⟩
  ·rw[dE hop,hbase];exact gJ hrun
  ·simp only[VRel];exact⟨_,cap',rfl,hge,hge,hle,.inr ⟨w.heap.size,arr,el,(0,0),by simp[cx],rfl,hhere,by rw[hasz];omega⟩⟩
theorem HSim.burn(hs:HSim e ok pl h w){id b:Nat}(hid:pl id=al b){w':World}(os:w'.os=w.os)(tape:w'.tape=w.tape)(output:w'.output=w.output)(size:w'.heap.size=w.heap.size)
 (same:∀i,i≠b->w'.heap[i]? =w.heap[i]?)
 (row:∀arr el fz,w.heap[b]? =al (.cells arr el fz)->∃arr' fz',w'.heap[b]? =al (.cells arr' el fz')/\arr'.size=arr.size) :
 HSim e ok (λi=>if i=id then aq else pl i) ((h.map (O.drop (·==id))).set id .dead) w'/\Keeps (·==id) pl w (λi=>if i=id then aq else pl i) w':=by
 have k:Keeps (·==id) pl w (λi=>if i=id then aq else pl i) w':=by
  refine⟨os,tape,output,by omega,λb' hb hn=>same b' (λhe=>hn id (he▸hid)),λi b hi=> ?_,λi b hp hi=> ?_,λb' arr el fz hb=> ?_⟩
  ·split at hi
   ·cases hi
   ·exact .inl ⟨i,hi⟩
  ·have:i≠id:=by simpa using hp
   rw[if_neg this];exact hi
  ·by_cases he:b'=b
   ·subst he;exact row arr el fz hb
   ·exact⟨arr,fz,(same b' he).trans hb,rfl⟩
 refine⟨hs.next k (λi b hi=> ?_) (λi j b hi hj=> ?_) (λi b' hi=> ?_) (λi o ho hi=> ?_),k⟩
 ·split at hi
  ·cases hi
  ·have:=hs.lt i b hi;omega
 ·split at hi<;>split at hj<;>first|cases hi|cases hj|exact hs.inj i j b hi hj
  all_goals (first|(cases hi;done)|(cases hj;done))
 ·split at hi
  ·cases hi
  ·rename_i hne;refine .inl ⟨hi,same b' (λhe=>hne (hs.inj i id b' hi (he▸hid))),?_⟩;rw[zqn (Ne.symm hne),zqo]
 ·by_cases hii:i=id
  ·subst hii;have hlt:i<aa h:=by
    have:=(zqe ho).1;simpa using this
   left;have:((h.map (O.drop (·==i))).set i .dead)[i]? =al .dead:=by simp[hlt]
   exact Option.some.inj (ho.symm.trans this)
  ·rw[zqn (Ne.symm hii),zqo]at ho;rw[if_neg hii]at hi;cases hh:h[i]? with
   |none=>rw[hh]at ho;cases ho
   |some o' =>
    rw[hh]at ho;have ho:o'.drop (·==id)=o:=by simpa using ho
    rcases hs.bare i o' hh hi with rfl|rfl<;>subst ho<;>simp[O.drop,ap]
end
end Go.Abs
