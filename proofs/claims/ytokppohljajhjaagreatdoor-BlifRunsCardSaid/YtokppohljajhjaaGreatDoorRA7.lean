/- Lemmas for this claim, part A7: each holds under what it names. -/
import Derived.Test.YtokppohljajhjaaGreatDoorRA6
import Derived.ProofKit
import Derived.SizedLaws
import Derived.JoinedCond
import Derived.RecoverIn
import Derived.RangeFuncLeaves
set_option linter.all false
namespace Go.Abs
open Go.RowKit Go.ChangeShapes
theorem WExt.below{w w':World}(x:WExt w w'):Below w.heap.size w w':=⟨x.os,x.tape,x.output,x.size,x.same⟩
section
variable{H:Type}{enc:TypeId×Value->H}{P:Program}
def Vz:Sh->Value->Prop
 | .struct fs,v=>∃cs,v= .agg cs/\cs.size=Sh.sizes fs
 |_,v=>v.cells=#[v]
theorem xW{w:World}{r:Reach}{base:Nat}{sh:Sh}{t:TypeId}{v:Value}(hok:sh.ok P t=true)(h:Value.okWide P w r base t v):Vz sh v:=by
 unfold Value.okWide at h;cases sh with
 |struct fs =>
  simp only[Sh.ok]at hok;split at hok
  ·rename_i gs hu;unfold jF at hu;simp only[zqf,beq_iff_eq]at hok;split at hu
   ·rename_i hu';rw[hu']at h;obtain⟨cs,h1,h2,_⟩:=h;exact⟨cs,h1,h2.trans hok.1⟩
   ·rename_i hu';rw[hu']at h;obtain⟨cs,h1,h2,_⟩:=h;exact⟨cs,h1,h2.trans hok.1⟩
   ·cases hu
  ·cases hok
 |str =>
  simp only[Sh.ok]at hok;split at hok
  ·rename_i hu;rw[hu]at h;cases v<;>simp only[Cell.okWide,Cell.ok,hu]at h<;>first|exact h.elim|rfl
  ·cases hok
 |bool =>
  simp only[Sh.ok]at hok;split at hok
  ·rename_i hu;rw[hu]at h;cases v<;>simp only[Cell.okWide,Cell.ok,hu]at h<;>first|exact h.elim|rfl
  ·cases hok
 |int k =>
  simp only[Sh.ok]at hok;split at hok
  ·rename_i k' hu;rw[hu]at h;cases v<;>simp only[Cell.okWide,Cell.ok,hu]at h<;>first|exact h.elim|rfl
  ·cases hok
 |slice e =>
  simp only[Sh.ok]at hok;split at hok
  ·rename_i u hu;rw[hu]at h;cases v<;>simp only[Cell.okWide,Cell.ok,hu]at h<;>first|exact h.elim|rfl
  ·cases hok
theorem OG{c:C}{sh:Sh}{u:V}{v:Value}(hf:Vz sh v)(ht:Took c sh u v.cells.toList):VRel c u v:=by
 have one:v.cells=#[v]->u.vc=[u]->VRel c u v:=by intro h1 h2;have:=ht.rel;rw[h1,h2]at this;simp only[VList]at this;obtain⟨y,ys,h3,h4,_⟩:=this;simp only[List.cons.injEq]at h3;rw[h3.1];exact h4
 cases sh with
 |struct fs=>obtain⟨cs,rfl,_⟩:=hf;have hi:=ht.is;simp only[Sh.Is]at hi;obtain⟨vs,rfl,_⟩:=hi;simp only[VRel];exact⟨cs,rfl,ht.rel⟩
 |str=>obtain⟨s,rfl⟩:=ht.is;exact one hf rfl
 |bool=>obtain⟨s,rfl⟩:=ht.is;exact one hf rfl
 |int k=>obtain⟨s,rfl,_⟩:=ht.is;exact one hf rfl
 |slice e=>have hi:=ht.is;simp only[Sh.Is]at hi;obtain⟨s,rfl,_⟩:=hi;exact one hf rfl
theorem KI{sh:Sh}{v:Value}(hf:Vz sh v):v.cells.size=sh.size:=by
 cases sh with
 |struct fs=>obtain⟨cs,rfl,h⟩:=hf;exact h
 |str=>rw[show v.cells=#[v]from hf];rfl
 |bool=>rw[show v.cells=#[v]from hf];rfl
 |int k=>rw[show v.cells=#[v]from hf];rfl
 |slice e=>rw[show v.cells=#[v]from hf];rfl
theorem qI{W W':World}(hl:laidOutB P=true)(hb:Below W.heap.size W W'):∀(ts:List TypeId)(vs:List Value)(ds:List (DataW H))(ps:List MemPlace),
 (ts.all fun t=>P.readableRec t&&decide (t<P.types.size))=true->(∀x∈ps,x.block<W.heap.size)->DataW.TrodAll enc P W 0 (fun _=>true) true ts vs ds ps ->
 DataW.TrodAll enc P W' 0 (fun b=>decide (b<W.heap.size)) true ts vs ds ps
 |[],vs,ds,ps,_,_,h=>by obtain⟨rfl,rfl,rfl⟩:=trodAll_nil h;exact trodAll_mk0
 |t::ts,vs,ds,ps,ht,hlt,h=>by obtain⟨v,vs',d,ds',p,q,rfl,rfl,rfl,h1,h2⟩:=trodAll_cons h;simp only[List.all_cons,zqf,zqb]at ht;exact⟨p,q,Below.trod hl ht.1.1 ht.1.2 h1 hb (fun x hx=>hlt x (by simp[hx])),qI hl hb ts vs' ds' q (by simpa using ht.2) (fun x hx=>hlt x (by simp[hx])) h2,rfl⟩
theorem Gg{w:World}{base:Nat}{sp:Nat->Bool}{held:Bool}:∀ {ts:List TypeId} {vs:List Value} {ds:List (DataW H)} {ps:List MemPlace},DataW.TrodAll enc P w base sp held ts vs ds ps->ds.length=ts.length
 |[],_,_,_,h=>by obtain⟨_,rfl,_⟩:=trodAll_nil h;rfl
 |t::ts,vs,ds,ps,h=>by obtain⟨v,vs',d,ds',p,q,rfl,rfl,rfl,_,h2⟩:=trodAll_cons h;simp[Gg h2]
end
open Go
theorem OH(b:Bool):V.dat (.bool b)=true:=by simp only[V.dat]
theorem Sm(k:IntKind)(n:Int):V.dat (.int k n)=true:=by simp only[V.dat]
theorem Sr(s:List UInt8):V.dat (.str s)=true:=by simp only[V.dat]
theorem OI:V.dat (.nilp)=true:=by simp only[V.dat]
theorem Uw(e:V):V.dat (.ip e)=true:=by simp only[V.dat]
theorem OJ:V.dat (.nils)=true:=by simp only[V.dat]
theorem Ux(x:Bool)(k:Nat)(es:List V):V.dat (.is x k es)=true:=by simp only[V.dat]
theorem OL:V.dat (.nilm)=true:=by simp only[V.dat]
theorem Uy(ks vs:List V):V.dat (.im ks vs)=true:=by simp only[V.dat]
theorem OM:V.dat (.nilf)=true:=by simp only[V.dat]
theorem OO:V.dat (.nili)=true:=by simp only[V.dat]
theorem Uz(i o:Nat):V.dat (.lp i o)=false:=by simp only[V.dat]
theorem UA(i k o l c:Nat):V.dat (.ls i k o l c)=false:=by simp only[V.dat]
theorem UB(i:Nat):V.dat (.lm i)=false:=by simp only[V.dat]
theorem Su(k:Nat)(es:List V):V.dat (.row k es)=false:=by simp only[V.dat]
theorem Sv(vs:List V):V.dat (.agg vs)=V.dats vs:=by simp only[V.dat]
theorem KJ(t:TypeId)(e:V):V.dat (.iface t e)=e.dat:=by simp only[V.dat]
theorem OQ:V.dats []=true:=by simp only[V.dats]
theorem KL(v:V)(vs:List V):V.dats (v::vs)=(v.dat&&V.dats vs):=by simp only[V.dats]
def sa0 :=
 PLift.up <|
 zsa (@Go.Abs.Ul) <|
 zsa (@Go.Abs.Iu) <|
 zsa (@Go.Abs.tkZ.eq_1) <|
 zsa (@Go.Abs.tkZ.eq_2) <|
 zsa (@Go.Abs.onZ.eq_1) <|
 zsa (@Go.Abs.onZ.eq_2) <|
 zsa (@Go.Abs.EE) <|
 zsa (@Go.Abs.Iw) <|
 zsa (@Go.Abs.Iy) <|
 zsa (@Go.Abs.zK) <|
 zsa (@Go.Abs.Ky) <|
 zsa (@Go.Abs.Oz) <|
 zsa (@List.all_cons.{0}) <|
 zsa (@List.all_nil.{0}) <|
 zsa (@Go.Abs.Uk) <|
 zsa (@Go.Abs.RV) <|
 zsa (@Go.Abs.Oy) <|
 zsa (@Go.Abs.RX) <|
 zsa (@Go.Abs.RZ) <|
 zsa (@Go.Abs.BD) <|
 zsa (@Go.Abs.RY) <|
 zsa (@Go.Abs.Il) <|
 zsa (@Go.Abs.KC) <|
 zsa (@Go.Abs.KA) <|
 zsa (@Go.Abs.Bv) <|
 zsa (@Go.Abs.Et) <|
 zsa (@Go.Abs.Eu) <|
 zsa (@Go.Abs.OB) <|
 zsa (@Go.Abs.KE) <|
 zsa (@Go.Abs.Sj) <|
 zsa (@Go.Abs.KF) <|
 zsa (@Go.Abs.Io) <|
 zsa (@Go.Abs.Um) <|
 @Go.Abs.VG
def sa1 :=
 PLift.up <|
 zsa (@Go.Abs.Ip) <|
 zsa (@Go.Abs.OD) <|
 zsa (@Go.Abs.Sl) <|
 zsa (@Go.Abs.Un) <|
 zsa (@Go.Abs.F9) <|
 zsa (@Go.Abs.Ij) <|
 zsa (@Go.Abs.Si) <|
 zsa (@Go.Abs.OA) <|
 zsa (@Go.Abs.Bq) <|
 zsa (@Go.Abs.Ik) <|
 zsa (@Go.Abs.Kz) <|
 zsa (@Go.Abs.OC) <|
 zsa (@Go.Abs.Kw) <|
 zsa (@Go.Abs.Ih) <|
 zsa (@Go.Abs.Em) <|
 zsa (@Go.Abs.JS) <|
 zsa (@Go.Abs.Ot) <|
 zsa (@Go.Abs.JW) <|
 zsa (@decide_true) <|
 zsa (@decide_false) <|
 zsa (@true_and) <|
 zsa (@and_true) <|
 zsa (@and_self) <|
 zsa (@imp_self) <|
 zsa (@implies_true.{0}) <|
 zsa (@forall_const.{0}) <|
 zsa (@forall_const.{1}) <|
 zsa (@List.getD_cons_zero.{0}) <|
 zsa (@List.getD_cons_succ.{0}) <|
 @List.length_nil.{0}
def sa2 :=
 PLift.up <|
 zsa (@Bool.or_true) <|
 zsa (@Bool.false_or) <|
 zsa (@Bool.true_or) <|
 zsa (@Bool.or_false) <|
 zsa (@Bool.and_true) <|
 zsa (@Bool.true_and) <|
 zsa (@Bool.and_false) <|
 zsa (@Bool.false_and) <|
 zsa (@Bool.not_true) <|
 zsa (@Bool.not_false) <|
 zsa (@List.length_map.{0,0}) <|
 zsa (@List.nil_append.{0}) <|
 zsa (@List.cons_append.{0}) <|
 zsa (@List.length_cons.{0}) <|
 zsa (@List.getElem?_cons_zero.{0}) <|
 zsa (@List.getElem?_cons_succ.{0}) <|
 zsa (@cond_true.{1}) <|
 zsa (@cond_false.{1}) <|
 zsa (@Bool.cond_false_right) <|
 zsa (@Bool.cond_true_right) <|
 zsa (@Bool.cond_true_left) <|
 zsa (@Bool.cond_false_left) <|
 zsa (@List.map_cons.{0,0}) <|
 zsa (@List.map_nil.{0,0}) <|
 zsa (@List.append_nil.{0}) <|
 zsa (@List.zip_cons_cons.{0,0}) <|
 zsa (@beq_self_eq_true.{0}) <|
 zsa (@Option.bind_some.{0,0}) <|
 zsa (@List.append_eq.{0}) <|
 @List.forall_mem_cons.{0}
def sa3 :=
 PLift.up <|
 zsa (@List.not_mem_nil.{0}) <|
 zsa (@Go.Abs.Us) <|
 zsa (@Go.Abs.VH) <|
 zsa (@Go.Abs.Ut) <|
 zsa (@beq_true) <|
 zsa (@beq_false) <|
 zsa (@Bool.false_eq_true) <|
 zsa (@true_or) <|
 zsa (@or_true) <|
 zsa (@Go.Abs.Uo) <|
 zsa (@Go.Abs.Ur) <|
 zsa (@Go.Abs.BB) <|
 zsa (@Go.Abs.Ir) <|
 zsa (@Go.Abs.Ez) <|
 zsa (@Go.Abs.BC) <|
 zsa (@Go.Abs.EC) <|
 zsa (@Go.Abs.aC) <|
 zsa (@Go.Abs.fE) <|
 zsa (@false_imp_iff) <|
 zsa (@List.take_zero.{0}) <|
 zsa (@List.take_succ_cons.{0}) <|
 zsa (@List.take_nil.{0}) <|
 zsa (@List.drop_succ_cons.{0}) <|
 zsa (@List.drop_nil.{0}) <|
 zsa (@List.set_cons_zero.{0}) <|
 zsa (@List.set_cons_succ.{0}) <|
 zsa (@List.length_append.{0}) <|
 zsa (@List.map_append.{0,0}) <|
 zsa (@Bool.not_eq_true') <|
 zsa (@Bool.not_eq_false') <|
 @Nat.le_refl
def sa4 :=
 PLift.up <|
 zsa (@Nat.zero_add) <|
 zsa (@Nat.add_zero) <|
 zsa (@Option.toList_some.{0}) <|
 zsa (@Option.toList_none.{0}) <|
 zsa (@Option.map_some.{0,0}) <|
 zsa (@Option.map_none.{0,0}) <|
 zsa (@Int.toNat_natCast) <|
 zsa (@Int.toNat_zero) <|
 zsa (@Nat.sub_zero) <|
 zsa (@List.drop_zero.{0}) <|
 zsa (@Go.Abs.KD) <|
 zsa (@Go.Abs.Bc) <|
 zsa (@Go.Abs.Ie) <|
 zsa (@Go.Abs.Ig) <|
 zsa (@Go.Abs.Bd) <|
 zsa (@Go.Abs.zI) <|
 zsa (@Go.Abs.zJ) <|
 zsa (@Go.Abs.zH) <|
 @List.getElem?_toArray.{0}
def sb0 :=
 PLift.up <|
 zsa (@Go.Abs.rU.eq_def) <|
 zsa (@Go.Abs.zG.eq_def) <|
 zsa (@Go.Abs.Ox.eq_def) <|
 zsa (@Go.Abs.jD.eq_def) <|
 zsa (@Go.Abs.Be.eq_def) <|
 zsa (@Go.Abs.rF.eq_def) <|
 zsa (@Go.Abs.iT.eq_def) <|
 zsa (@Go.Abs.FZ.eq_def) <|
 zsa (@Go.Abs.JX.eq_def) <|
 zsa (@Go.Abs.uO.eq_def) <|
 zsa (@Go.Abs.kX.eq_def) <|
 zsa (@Go.Abs.dE.eq_def) <|
 zsa (@Go.Abs.iU.eq_1) <|
 zsa (@Go.Abs.iU.eq_2) <|
 zsa (@Go.Abs.V.sv.eq_1) <|
 zsa (@Go.Abs.V.sv.eq_2) <|
 zsa (@Go.Abs.V.sc.eq_1) <|
 zsa (@Go.Abs.V.sc.eq_2) <|
 zsa (@Go.Abs.V.fit.eq_def) <|
 zsa (@Go.Abs.V.vc.eq_def) <|
 zsa (@Go.Abs.V.one.eq_def) <|
 zsa (@Go.Abs.V.sub.eq_def) <|
 zsa (@Go.Abs.AV.eq_def) <|
 zsa (@Go.Abs.lS.eq_def) <|
 zsa (@Go.Abs.y8.eq_def) <|
 zsa (@Go.Abs.vF.eq_def) <|
 zsa (@Go.Abs.TZ.eq_def) <|
 zsa (@Go.Abs.dN.eq_def) <|
 zsa (@Go.Abs.Vx.eq_def) <|
 zsa (@Go.Abs.yu.eq_def) <|
 zsa (@Go.Abs.RQ.eq_def) <|
 zsa (@Go.Abs.vM.eq_1) <|
 zsa (@Go.Abs.vM.eq_2) <|
 @Go.Abs.y7.eq_def
def sb1 :=
 PLift.up <|
 zsa (@Go.Abs.N9.eq_def) <|
 zsa (@Go.Abs.Ob.eq_def) <|
 zsa (@Go.Abs.FV.eq_def) <|
 zsa (@Go.Abs.AX.eq_def) <|
 zsa (@Go.Abs.zi.eq_def) <|
 zsa (@Go.Abs.Og.eq_def) <|
 zsa (@Go.Abs.lT.eq_def) <|
 zsa (@Go.Abs.y9.eq_def) <|
 zsa (@Go.Abs.zf.eq_def) <|
 zsa (@Go.Abs.K.isSlice.eq_def) <|
 zsa (@Go.Abs.K.isMap.eq_def) <|
 zsa (@Go.Abs.TI.agg.eq_def) <|
 zsa (@Go.Abs.fZ.eq_1) <|
 zsa (@Go.Abs.fZ.eq_2) <|
 zsa (@Go.Abs.uN.eq_def) <|
 zsa (@Go.Abs.K.keyOk.eq_def) <|
 zsa (@Go.Abs.V.dats.eq_1) <|
 zsa (@Go.Abs.V.dats.eq_2) <|
 zsa (@Go.Abs.V.dat.eq_1) <|
 zsa (@Go.Abs.V.dat.eq_2) <|
 zsa (@Go.Abs.V.dat.eq_3) <|
 zsa (@Go.Abs.V.dat.eq_4) <|
 zsa (@Go.Abs.V.dat.eq_5) <|
 zsa (@Go.Abs.V.dat.eq_6) <|
 zsa (@Go.Abs.V.dat.eq_7) <|
 zsa (@Go.Abs.V.dat.eq_8) <|
 zsa (@Go.Abs.V.dat.eq_9) <|
 zsa (@Go.Abs.V.dat.eq_10) <|
 zsa (@Go.Abs.V.drop.eq_1) <|
 @Go.Abs.V.drop.eq_2
def sb2 :=
 PLift.up <|
 zsa (@Go.Abs.V.drop.eq_3) <|
 zsa (@Go.Abs.V.drop.eq_4) <|
 zsa (@Go.Abs.V.drop.eq_5) <|
 zsa (@Go.Abs.V.drop.eq_6) <|
 zsa (@Go.Abs.V.drop.eq_7) <|
 zsa (@Go.Abs.V.drop.eq_8) <|
 zsa (@Go.Abs.V.drop.eq_9) <|
 zsa (@Go.Abs.V.drop.eq_10) <|
 zsa (@Go.Abs.V.drop.eq_11) <|
 zsa (@Go.Abs.V.drops.eq_1) <|
 zsa (@Go.Abs.V.drops.eq_2) <|
 zsa (@Go.Abs.lV.eq_1) <|
 zsa (@Go.Abs.lV.eq_2) <|
 zsa (@Go.Abs.zh.eq_1) <|
 zsa (@Go.Abs.zh.eq_2) <|
 zsa (@Go.Abs.eP.eq_def) <|
 zsa (@Go.Abs.dm.eq_1) <|
 zsa (@Go.Abs.dm.eq_2) <|
 zsa (@Go.Abs.zy.eq_def) <|
 zsa (@Go.Abs.mJ.eq_def) <|
 zsa (@Go.Abs.jq.eq_def) <|
 zsa (@Go.Abs.vS.eq_def) <|
 zsa (@Nat.lt_irrefl) <|
 zsa (@Go.Abs.OH) <|
 zsa (@Go.Abs.Sm) <|
 zsa (@Go.Abs.Sr) <|
 zsa (@Go.Abs.OI) <|
 zsa (@Go.Abs.Uw) <|
 zsa (@Go.Abs.OJ) <|
 zsa (@Go.Abs.Ux) <|
 zsa (@Go.Abs.OL) <|
 zsa (@Go.Abs.Uy) <|
 zsa (@Go.Abs.OM) <|
 zsa (@Go.Abs.OO) <|
 zsa (@Go.Abs.Uz) <|
 zsa (@Go.Abs.UA) <|
 zsa (@Go.Abs.UB) <|
 zsa (@Go.Abs.Su) <|
 zsa (@Go.Abs.Sv) <|
 zsa (@Go.Abs.KJ) <|
 zsa (@Go.Abs.OQ) <|
 zsa (@Go.Abs.KL) <|
 zsa (@Go.Abs.lW.eq_def) <|
 zsa (@Go.Abs.Vy.eq_def) <|
 zsa (@Go.Abs.dH.eq_1) <|
 zsa (@Go.Abs.dH.eq_2) <|
 zsa (@Go.Abs.J5.eq_def) <|
 zsa (@Go.Abs.gd.eq_def) <|
 zsa (@Go.Abs.zA.eq_1) <|
 zsa (@Go.Abs.zA.eq_2) <|
 zsa (@Go.Abs.zA.eq_3) <|
 @Go.Abs.zA.eq_4
def sb3 :=
 PLift.up <|
 zsa (@Go.Abs.zA.eq_5) <|
 zsa (@Go.Abs.zA.eq_6) <|
 zsa (@Go.Abs.qF.eq_def) <|
 zsa (@Go.Abs.Q3.eq_def) <|
 zsa (@Go.Abs.lZ.eq_def) <|
 zsa (@Go.Abs.Uj.eq_def) <|
 zsa (@Go.Abs.fH.eq_1) <|
 zsa (@Go.Abs.fH.eq_2) <|
 zsa (@Go.Abs.xU.eq_def) <|
 zsa (@Go.Abs.vW.eq_def) <|
 zsa (@Go.Abs.jE.eq_1) <|
 @Go.Abs.jE.eq_2
def sz :=
 PLift.up <|
 zsa sa0.down <|
 zsa sa1.down <|
 zsa sa2.down <|
 zsa sa3.down <|
 zsa sa4.down <|
 zsa sb0.down <|
 zsa sb1.down <|
 zsa sb2.down <|
 sb3.down
section
variable{e:E}{n:Nat}{f:Fr}{h:H}{Q:XE->Fr->H->Prop}
def BH(id:Nat)(L:(Nat->V)->LoopState->Option Code->O)(S:Option Code->H->(Nat->Bool)->Prop)(xe:XE)(f2:Fr)(h2:H):Prop :=
 match xe.jump with
 |some j=>f2.k id=false/\∃t st,h2[id]? =some (L t st none)/\S j (h2.set id (L t (if j.isNone then .ready else .done) j)) f2.k
 |none=>False
def Gh(e:E)(n l id:Nat)(body:Code)(L:(Nat->V)->LoopState->Option Code->O)(S:Option Code->H->(Nat->Bool)->Prop)(f1:Fr)(h1:H):Prop :=
 f1.k id=false/\∃t,h1[id]? =some (L t .ready none)/\awp e n (some l) body (BH id L S) f1 (h1.set id (L t .busy none))
def UC(id:Nat)(L:(Nat->V)->LoopState->Option Code->O)(Q:XE->Fr->H->Prop)(f1:Fr)(ae:AEnd)(h2:H)(p:Nat->Bool):Prop :=
 (∀i∈f1.d,p i=false)/\match ae with
  | .ret _=>p id=false/\∃t st c,st≠ .busy/\h2[id]? =some (L t st c)/\Ko Q c (f1.drop p) (h2.set id (L t .exhausted c))
  | .pan v=>Q (.pan v) (f1.drop p) h2
theorem rV{g:Operand}{ps:Array Tmp}{asg body:Code}{q:FuncId}{first captured:List V}(hsc:(f.ev e g).sc)(hg:(f.ev e g).sv= .fn (.func q) first captured)(hen:ai e.P q=true)
 (hps:(ps.toList.all fun p=>decide (p<n))=true)
 (main:∀L:(Nat->V)->LoopState->Option Code->O,(∀p t st c,(L t st c).drop p=L (fun i=>(t i).drop p) st c) ->
  (∀h' vs S t,h'[h.length+1]? =some (L t .ready none)->vs.length=ps.size ->
   (∀lb,awp e n (some lb) asg (XE.seq (Gh e n lb (h.length+1) body L S) (fun _ _ _=>False)) (fZ {t:=t} ps.toList vs) h')->VI e (h.length+1) vs h' S) ->
  ag e q (first++[.yd (h.length+1)]++captured) (h++[.misc .dfd]++[L f.t .ready none]) (UC (h.length+1) L Q {f with d:=h.length::f.d})) :
 awp e n none (.rangeFunc g ps asg body) Q f h:=by
 refine qC hsc hg hen ?_;refine ag.mono (main (fun t st c=> .loop t n ps asg body st c) (fun _ _ _ _=>rfl) ?_) ?_
 ·intro h' vs S t hc hsz hw;refine⟨t,n,ps,asg,body,none,hc,hsz,hps,fun lb=>bi ?_ (hw lb)⟩;intro xe f1 h1 hq;cases xe<;>try exact hq
  obtain⟨h1k,t1,hc1,hb⟩:=hq;unfold XE.seq Gf;dsimp only;rw[hc1];refine⟨h1k,bi ?_ hb⟩;intro xe f2 h2 hq2;unfold BH at hq2;unfold KH;split at hq2
  ·rename_i j hj;obtain⟨h2k,t2,st2,hc2,hS⟩:=hq2;simp only[hj,hc2];exact⟨h2k,hS⟩
  ·exact hq2.elim
 ·rintro ae h' p ⟨hd,hr⟩;refine⟨hd,?_⟩;cases ae with
  |pan v=>exact hr
  |ret v=>obtain⟨hp,t,st,c,hst,hc,hQ⟩:=hr;dsimp only;rw[hc];exact⟨⟨hp,hst⟩,hQ⟩
end
section
variable{e:E}{g:FuncId}{args:List V}{h:H}{R:AEnd->H->(Nat->Bool)->Prop}
def EvR(e:E)(g:FuncId)(args:List V)(S:V->Prop):Prop :=
 ∀ok w vs,HSim e ok (fun _=>none) [] w->VList (cx ok (fun _=>none) w) args vs ->
  Calls e.P g vs.toArray w fun en w'=>∃x r,S r/\en= .returned x/\WExt w w'/\VRel (cx ok (fun _=>none) w') r x
theorem EvR.run{S:V->Prop}(hv:EvR e g args S)(hd:V.dats args=true){ok:Nat->Prop}{pl:Nat->Option Nat}{h:H}{w:World}{vs:List Value}
 (hs:HSim e ok pl h w) (hl:VList (cx ok pl w) args vs):Calls e.P g vs.toArray w fun en w'=>∃x r,S r/\en= .returned x/\WExt w w'/\VRel (cx ok pl w') r x :=
 (hv _ w vs hs.toData (VList.mono (kV ok pl w) _ _ (VList.todata _ _ hd hl))).mono fun en w' ⟨x,r,h0,h1,h2,h3⟩ =>
  ⟨x,r,h0,h1,h2,VRel.mono (yw ok pl w') _ _ h3⟩
def vZ(p:Nat->Bool):Nat->H->H
 |_,[]=>[]
 |i,o::h=>(if p i=true then o.drop (fun j=> !p j)else .dead)::vZ p (i+1) h
def rW(p:Nat->Bool):Nat->H->H
 |_,[]=>[]
 |i,o::h=>(if p i=true then .dead else o.drop p)::rW p (i+1) h
theorem iK{p:Nat->Bool}:∀ {h:H} {k i:Nat},(vZ p k h)[i]? =(h[i]?).map fun o=>if p (k+i)=true then o.drop (fun j=> !p j)else .dead
 |[],k,i=>by simp[vZ]
 |o::h,k,0=>by simp[vZ]
 |o::h,k,i+1=>by rw[vZ,List.getElem?_cons_succ,iK,List.getElem?_cons_succ,show k+1+i=k+(i+1) by omega]
theorem je{p:Nat->Bool}:∀ {h:H} {k i:Nat},(rW p k h)[i]? =(h[i]?).map fun o=>if p (k+i)=true then .dead else o.drop p
 |[],k,i=>by simp[rW]
 |o::h,k,0=>by simp[rW]
 |o::h,k,i+1=>by rw[rW,List.getElem?_cons_succ,je,List.getElem?_cons_succ,show k+1+i=k+(i+1) by omega]
theorem wo{o:O}{p:Nat->Bool}(h:o= .dead\/o= .cells []):o.drop p= .dead\/o.drop p= .cells []:=by
 rcases h with rfl|rfl
 ·exact .inl rfl
 ·exact .inr (by simp[O.drop,V.drops])
theorem oC(p:Nat->Bool)(ok:Nat->Prop)(pl:Nat->Option Nat)(w:World) :
 CExt (fun j=> !p j) (cx ok pl w) (cx (fun b=>ok b/\∀i,p i=false->pl i≠some b) (fun i=>if p i=true then pl i else none) w) :=
 ⟨fun b hb hok=>⟨⟨⟨hok.1,fun i _=>hok.2 i⟩,fun i hi=>by
  try dsimp only at hi
  split at hi
  ·exact hok.2 i hi
  ·cases hi⟩,rfl⟩,
  fun i b hp hi=>by
   have hp:p i=true:=by simpa using hp
   simp only[cx,hp,if_true];exact hi,
  fun b arr el fz hb=>⟨arr,fz,hb,rfl⟩⟩
theorem HSim.sub{ok:Nat->Prop}{pl:Nat->Option Nat}{w:World}(hs:HSim e ok pl h w)(p:Nat->Bool) :
 HSim e (fun b=>ok b/\∀i,p i=false->pl i≠some b) (fun i=>if p i=true then pl i else none) (vZ p 0 h) w where
 fresh b hb:=⟨hs.fresh b hb,fun i _ hi=>by have:=hs.lt i b hi;omega⟩
 lt i b hi:=by
  try dsimp only at hi
  split at hi
  ·exact hs.lt i b hi
  ·cases hi
 okl i b hi:=by
  try dsimp only at hi
  split at hi
  ·rename_i hp;refine⟨hs.okl i b hi,fun j hj hj2=> ?_⟩;have:=hs.inj i j b hi hj2;subst this;rw[hp]at hj;cases hj
  ·cases hi
 inj i j b hi hj:=by
  try dsimp only at hi
  split at hi
  ·try dsimp only at hj
   split at hj
   ·exact hs.inj i j b hi hj
   ·cases hj
  ·cases hi
 obj i b hi:=by
  try dsimp only at hi
  split at hi
  ·rename_i hp;obtain⟨o,ho,hat⟩:=hs.obj i b hi;exact⟨o.drop (fun j=> !p j),by rw[iK,ho];simp[hp],qx (oC p ok pl w) rfl hat⟩
  ·cases hi
 bare i o ho hi:=by
  rw[iK]at ho;cases hh:h[i]? with
  |none=>rw[hh]at ho;cases ho
  |some o1 =>
   rw[hh]at ho;simp only[zrw,Nat.zero_add,Option.some.injEq]at ho;subst ho;split
   ·rename_i hp;rw[if_pos hp]at hi;exact wo (hs.bare i o1 hh hi)
   ·exact .inl rfl
 glob g v hg:=(hs.glob g v hg).glob_next (oC p ok pl w)
 exa g cs hg:=(hs.exa g cs hg).next (oC p ok pl w)
theorem ww{p:Nat->Bool}{ok:Nat->Prop}{pl:Nat->Option Nat}{w w':World}(hs:HSim e ok pl h w)(x:WExt w w') :
 HSim e ok (fun i=>if p i=true then none else pl i) (rW p 0 h) w'/\Keeps p pl w (fun i=>if p i=true then none else pl i) w':=by
 have k:Keeps p pl w (fun i=>if p i=true then none else pl i) w' :=
  ⟨x.os,x.tape,x.output,x.size,fun b hb _=>x.same b hb,fun i b hi=>by
   try dsimp only at hi
   split at hi
   ·cases hi
   ·exact .inl ⟨i,hi⟩,
   fun i b hp hi=>by rw[if_neg (by simp[hp])];exact hi,
   fun b arr el fz hb=>⟨arr,fz,(x.same b (aP hb)).trans hb,rfl⟩⟩
 refine⟨hs.next k (fun i b hi=> ?_) (fun i j b hi hj=> ?_) (fun i b hi=> ?_) (fun i o ho hi=> ?_),k⟩
 ·try dsimp only at hi
  try dsimp only at hi
  split at hi
  ·cases hi
  ·exact Nat.lt_of_lt_of_le (hs.lt i b hi) x.size
 ·try dsimp only at hi hj
  try dsimp only at hi
  split at hi
  ·cases hi
  ·try dsimp only at hj
   split at hj
   ·cases hj
   ·exact hs.inj i j b hi hj
 ·try dsimp only at hi
  try dsimp only at hi
  split at hi
  ·cases hi
  ·rename_i hp;refine .inl ⟨hi,x.same b (hs.lt i b hi),?_⟩;rw[je];simp[hp]
 ·rw[je]at ho;cases hh:h[i]? with
  |none=>rw[hh]at ho;cases ho
  |some o1 =>
   rw[hh]at ho;simp only[zrw,Nat.zero_add,Option.some.injEq]at ho;subst ho;split
   ·exact .inl rfl
   ·rename_i hp;rw[if_neg hp]at hi;exact wo (hs.bare i o1 hh hi)
theorem Gi{n:Nat}{r:Option Nat}{c:Code}{Q:XE->Fr->H->Prop}{f:Fr}(p:Nat->Bool)(t:Nat->V)(ht:∀i,t i=(f.t i).drop p\/((f.t i).drop (fun j=> !p j)=f.t i/\aA e (vZ p 0 h) (f.t i) (t i)))
 (hd:∀i∈f.d,p i=false) (hw:awp e n r c Q {f with t:=t,k:=fun i=>f.k i||p i} (rW p 0 h)):awp e n r c Q f h:=by
 intro ok pl0 w0 pl w a s;obtain⟨k1,k2⟩:=ww (p:=p) s.hs (WExt.refl w);refine hw ok pl0 w0 (fun i=>if p i=true then none else pl i) w a ⟨k1,s.kp.trans k2,s.size,fun i=> ?_,?_⟩
 ·rcases ht i with h1|⟨h1,h2⟩
  ·show VRel _ (t i) _;rw[h1];exact VRel.mdrop k2.cext _ _ (s.val i)
  ·have h3:=VRel.mdrop (oC p ok pl w) _ _ (s.val i);rw[h1]at h3;have h4:=h2 _ _ w _ (s.hs.sub p) h3;refine VRel.mono (c:=cx (fun b=>ok b/\∀i,p i=false->pl i≠some b) (fun _=>none) w) ?_ _ _ h4;refine⟨fun b hb hok=>⟨⟨hok.1.1,fun i hi=> ?_⟩,rfl⟩,fun i b _ hi=>(by cases hi),fun b arr el fz hb=>⟨arr,fz,hb,rfl⟩⟩
   try dsimp only at hi
   split at hi
   ·cases hi
   ·rename_i hp;exact hok.1.2 i (by simpa using hp) hi
 ·have:∀(is:List Nat)(l:List Deferred),(∀i∈is,p i=false)->AO (cx ok pl w) e.tl is l->AO (cx ok (fun i=>if p i=true then none else pl i) w) e.tl is l:=by
   intro is
   induction is with
   |nil=>intro l _ hl;exact hl
   |cons i is ih=>rintro l hi ⟨b,rest,h1,h2,h3⟩;exact⟨b,rest,h1,k2.keep _ _ (hi i (by simp)) h2,ih rest (fun j hj=>hi j (by simp[hj])) h3⟩
  exact this f.d _ hd s.dfr
end
section
variable{e:E}{h:H}
end
section
variable{e:E}{h:H}
def GV(e:E)(p:Nat->Bool)(h:H)(v v':V):Prop:=v'=v.drop p\/(v.drop (fun j=> !p j)=v/\aA e (vZ p 0 h) v v')
def GVs(e:E)(p:Nat->Bool)(h:H):List V->List V->Prop
 |[],[]=>True
 |v::vs,v'::vs'=>GV e p h v v'/\GVs e p h vs vs'
 |_,_=>False
theorem GV.rel{p:Nat->Bool}{ok:Nat->Prop}{pl:Nat->Option Nat}{w:World}(hs:HSim e ok pl h w){v v':V}{x:Value}(hg:GV e p h v v')(hx:VRel (cx ok pl w) v x) :
 VRel (cx ok (fun i=>if p i=true then none else pl i) w) v' x:=by
 obtain⟨k1,k2⟩:=ww (p:=p) hs (WExt.refl w);rcases hg with h1|⟨h1,h2⟩
 ·rw[h1];exact VRel.mdrop k2.cext _ _ hx
 ·have h3:=VRel.mdrop (oC p ok pl w) _ _ hx;rw[h1]at h3;have h4:=h2 _ _ w _ (hs.sub p) h3;refine VRel.mono (c:=cx (fun b=>ok b/\∀i,p i=false->pl i≠some b) (fun _=>none) w) ?_ _ _ h4;refine⟨fun b hb hok=>⟨⟨hok.1.1,fun i hi=> ?_⟩,rfl⟩,fun i b _ hi=>(by cases hi),fun b arr el fz hb=>⟨arr,fz,hb,rfl⟩⟩
  try dsimp only at hi
  split at hi
  ·cases hi
  ·rename_i hp;exact hok.1.2 i (by simpa using hp) hi
theorem GVs.rel{p:Nat->Bool}{ok:Nat->Prop}{pl:Nat->Option Nat}{w:World}(hs:HSim e ok pl h w):∀ {vs vs':List V} {xs:List Value},GVs e p h vs vs'->VList (cx ok pl w) vs xs ->
 VList (cx ok (fun i=>if p i=true then none else pl i) w) vs' xs
 |[],[],xs,_,hx=>by simp only[VList]at hx ⊢;exact hx
 |v::vs,v'::vs',xs,hg,hx=>by simp only[VList]at hx ⊢;obtain⟨y,ys,h1,h2,h3⟩:=hx;exact⟨y,ys,h1,hg.1.rel hs h2,GVs.rel hs hg.2 h3⟩
 |[],v'::vs',_,hg,_=>hg.elim
 |v::vs,[],_,hg,_=>hg.elim
theorem GVs.length{p:Nat->Bool}:∀ {vs vs':List V},GVs e p h vs vs'->vs'.length=vs.length
 |[],[],_=>rfl
 |v::vs,v'::vs',hg=>by simp[GVs.length hg.2]
 |[],v'::vs',hg=>hg.elim
 |v::vs,[],hg=>hg.elim
theorem wz{n:Nat}{r:Option Nat}{c:Code}{Q:XE->Fr->H->Prop}{f:Fr}(p:Nat->Bool)(h':H)
 (hh:∀i,p i=false->h'[i]? =(h[i]?).map (O.drop p)\/∃cs cs',h[i]? =some (.cells cs)/\h'[i]? =some (.cells cs')/\GVs e p h cs cs')
 (hb:∀i o,p i=true->h'[i]? =some o->o= .dead)
 (hd:∀i∈f.d,p i=false) (hw:awp e n r c Q {f with t:=fun i=>(f.t i).drop p,k:=fun i=>f.k i||p i} h'):awp e n r c Q f h:=by
 intro ok pl0 w0 pl w a s;obtain⟨k1,k2⟩:=ww (p:=p) s.hs (WExt.refl w);have hs':HSim e ok (fun i=>if p i=true then none else pl i) h' w:=by
  refine s.hs.next k2 k1.lt k1.inj (fun i b hi=> ?_) (fun i o ho hi=> ?_)
  ·try dsimp only at hi
   split at hi
   ·cases hi
   ·rename_i hp;have hp:p i=false:=by simpa using hp
    rcases hh i hp with h1|⟨cs,cs',h1,h2,h3⟩
    ·exact .inl ⟨hi,rfl,h1⟩
    ·obtain⟨o,h4,h5⟩:=s.hs.obj i b hi;rw[h1]at h4;cases h4;obtain⟨arr,el,fz,g1,g2,g3,g4⟩:=h5;refine .inr ⟨_,h2,arr,el,fz,g1,g2,by rw[h3.length];exact g3,?_⟩;rw[h3.length];exact h3.rel s.hs g4
  ·by_cases hp:p i=true
   ·exact .inl (hb i o hp ho)
   ·have hp:p i=false:=by simpa using hp
    have hi2:pl i=none:=by
     try dsimp only at hi
     rw[if_neg (by simp[hp])]at hi;exact hi
    rcases hh i hp with h1|⟨cs,cs',h1,h2,h3⟩
    ·rw[h1]at ho;cases h4:h[i]? with
     |none=>rw[h4]at ho;cases ho
     |some o1=>rw[h4]at ho;simp only[zrw,Option.some.injEq]at ho;subst ho;exact wo (s.hs.bare i o1 h4 hi2)
    ·rw[h2]at ho;cases ho;rcases s.hs.bare i _ h1 hi2 with h4|h4
     ·cases h4
     ·simp only[O.cells.injEq]at h4;subst h4;cases cs' with
      |nil=>exact .inr rfl
      |cons v vs=>exact h3.elim
 refine hw ok pl0 w0 (fun i=>if p i=true then none else pl i) w a ⟨hs',s.kp.trans k2,s.size,fun i=>VRel.mdrop k2.cext _ _ (s.val i),?_⟩;have:∀(is:List Nat)(l:List Deferred),(∀i∈is,p i=false)->AO (cx ok pl w) e.tl is l->AO (cx ok (fun i=>if p i=true then none else pl i) w) e.tl is l:=by
  intro is
  induction is with
  |nil=>intro l _ hl;exact hl
  |cons i is ih=>rintro l hi ⟨b,rest,h1,h2,h3⟩;exact⟨b,rest,h1,k2.keep _ _ (hi i (by simp)) h2,ih rest (fun j hj=>hi j (by simp[hj])) h3⟩
 exact this f.d _ hd s.dfr
end
section
variable{e:E}{h:H}
theorem Iz{n:Nat}{r:Option Nat}{c:Code}{Q:XE->Fr->H->Prop}{f:Fr}(j:Nat)(v:V)(hd:f.d=[])(hj:aA e h (f.t j) v)
 (hw:awp e n r c Q {t:=fun i=>if i=j then v else(f.t i).drop fun _=>true,d:=[],k:=fun _=>true} []):awp e n r c Q f h:=by
 intro ok pl0 w0 pl w a s;have kp:=s.kp;refine hw ok pl0 w0 (fun _=>none) w a ⟨s.hs.lend,⟨kp.os,kp.tape,kp.output,kp.size,kp.same,fun i b hi=>(by cases hi),fun i b hi=>(by cases hi),kp.row⟩,s.size,fun i=> ?_,?_⟩
 ·by_cases hi:i=j
  ·subst hi;show VRel _ (if i=i then v else _) _;rw[if_pos rfl];exact hj _ _ w _ s.hs (s.val i)
  ·show VRel _ (if i=j then v else _) _;rw[if_neg hi];refine VRel.mdrop (c:=cx ok pl w) (p:=fun _=>true) ?_ _ _ (s.val i);exact⟨fun b hb hok=>⟨⟨hok.1,fun i hi=>(by cases hi)⟩,rfl⟩,fun i b hi=>(by cases hi),fun b arr el fz hb=>⟨arr,fz,hb,rfl⟩⟩
 ·have:=s.dfr;rw[hd]at this;exact this
end
section
variable{H:Type}{enc:TypeId×Value->H}{P:Program}
end
section
variable{e:E}{n:Nat}{o:Oper}{f:Fr}{h:H}{Kn:Fr->H->Prop}{Q:XE->Fr->H->Prop}
def UD(e:E)(h:H)(t:TypeId)(v:V)(name:String)(g:FuncId)(v':V):Prop :=
 ∀ok pl w x,HSim e ok pl h w->VRel (cx ok pl w) v x->∃y,(Go.method (e.P.types.size+Made.depth) t x name).run e.P w= .ok (g,y) w/\VRel (cx ok pl w) v' y
theorem bV{x:Operand}{name:String}{args:Array Operand}{ts:Array TypeId}(hop:o.op= .call {callee:= .invoke x name,args:=args,argTypes:=ts})
 {t:TypeId} {v v':V} {g:FuncId} (hx:(f.ev e x).sv= .iface t v) (hsc:dE (f.ev e) x args) (hm:UD e h t v name g v') (hen:ai e.P g=true)
 (hc:ag e g (v'::args.toList.map fun y=>(f.ev e y).sv) h (dW o.dst Kn Q f)):∀r,Eff e n r o f h Kn Q:=by
 intro r ok pl0 w0 pl w a s hd;have hr:=s.evs (o:=o);have h1:=(hr x (by simp[hop,Op.operands,Call.operands])).sv hsc.1;rw[hx]at h1;simp only[VRel]at h1;obtain⟨ev,h2,h3⟩:=h1;obtain⟨y,hrun,hy⟩:=hm ok pl w ev s.hs h3;have h5:=(cZ (c:=cx ok pl w) (ρ:=f.ev e) (ev:=a.eval) args.toList fun z hz=>hr z (by simp[hop,Op.operands,Call.operands];exact .inr (Array.mem_toList_iff.1 hz))).sv hsc.2;rw[List.map_map]at h5;have hexec:(execOp a.eval o).run e.P w= .ok (.enter g (y::args.toList.map a.eval).toArray) w:=by
  have e1:execOp a.eval o=(do let d <-resolve a.eval {callee:= .invoke x name,args:=args,argTypes:=ts} o.type;invoke d.target d.args):=by simp[execOp,hop]
  rw[e1];have h6:(resolve a.eval {callee:= .invoke x name,args:=args,argTypes:=ts} o.type).run e.P w= .ok {target:= .fn (.method name) #[],args:=#[.iface t ev]++args.map a.eval} w:=by
   simp[resolve,h2]
  simp only[Sem.run_bind,h6,Result.andThen,invoke];have h7:(#[Value.iface t ev]++args.map a.eval)[0]? =some (Value.iface t ev):=by rw[Array.getElem?_append_left (by simp)];rfl
  simp only[h7];unfold callMethod;simp only[Sem.run_bind,run_program,Result.andThen,hrun];rw[kW hen]
  congr 2
  apply Array.ext';simp only[List.size_toArray,Array.size_append,Array.size_map,Array.toList_append,Array.toList_extract,Array.toList_map,zrt,List.length_nil];simp[List.extract];rw[zqh (by simp)]
 refine⟨fun g _=>dZ r g,?_⟩;rw[bH,Oper.semAt_eq r a.eval o (fun c=>by rw[hop];exact fun h=>by cases h),hexec];refine⟨fun hd'=>(by rw[fK]at hd';cases hd'),bJ ((hc ok pl w (y::args.toList.map a.eval) s.hs (by simp only[VList];exact⟨_,_,rfl,hy,h5⟩)).mono ?_)⟩;rintro en w' ⟨p,pl',h',ae,hs',k,hend,hk⟩;cases ae with
 |ret v =>
  cases en with
  |returned x=>exact⟨pl',_,h',(s.next hs' k hk.1).put hd hend,hk.2⟩
  |panicked ch=>exact hend.elim
  |outgrown=>exact hend.elim
 |pan v =>
  cases en with
  |returned x=>exact hend.elim
  |panicked ch=>exact⟨pl',_,h',.pan v,s.next hs' k hk.1,hend,hk.2⟩
  |outgrown=>exact hend.elim
end
def OLe(o o':O):Prop:=(∀c b,OAt c b o->OAt c b o')/\((o= .dead\/o= .cells [])->(o'= .dead\/o'= .cells []))
theorem OLe.refl(o:O):OLe o o:=⟨fun _ _ h=>h,fun h=>h⟩
theorem OLe.cells{cs cs':List V}(hl:cs'.length<=cs.length)(hv:gX (cs.take cs'.length) cs'):OLe (.cells cs) (.cells cs'):=by
 refine⟨fun c b ho=> ?_,fun h=> ?_⟩
 ·obtain⟨arr,el,fz,h1,h2,h3,h4⟩:=ho;refine⟨arr,el,fz,h1,h2,by omega,?_⟩;have:=hv c _ (h4.take cs'.length)
  rwa [List.take_take,Nat.min_eq_left hl]at this
 ·rcases h with h|h
  ·cases h
  ·cases h;exact .inr (by rw[zse (Nat.le_zero.1 hl)])
theorem OLe.take(cs:List V)(m:Nat):OLe (.cells cs) (.cells (cs.take m)):=OLe.cells (by simp;omega) (by
 rw[zrl,show List.take (min m cs.length) cs=List.take m cs by
  rcases Nat.le_total m cs.length with h|h
  ·rw[Nat.min_eq_left h]
  ·rw[Nat.min_eq_right h,zqh (zrb _),zqh h]]
 exact gX.refl _)
theorem VLe.cap{id k off len cap cap':Nat}(hc:cap'<=cap):VLe (.ls id k off len cap) (.ls id k off len cap'):=fun c x h=>by simp only[VRel]at h ⊢;obtain⟨a,cp,h1,h2,h3⟩:=h;exact⟨a,cp,h1,by omega,h3⟩
theorem eU{id k off:Nat}:VLe .nils (.ls id k off 0 0):=fun c x h=>by simp only[VRel]at h ⊢;exact⟨none,0,h,zrb _,zrb _,Nat.zero_le _,.inl rfl⟩
theorem VLe.any(v:V):VLe v .any:=fun c x h=>by simp only[VRel]
theorem gX.set{vs:List V}{i:Nat}{v v':V}(hi:vs[i]? =some v)(h:VLe v v'):gX vs (vs.set i v'):=by
 induction vs generalizing i with
 |nil=>simp at hi
 |cons u vs ih =>
  cases i with
  |zero=>simp only[List.getElem?_cons_zero,Option.some.injEq]at hi;subst hi;exact gX.cons h (gX.refl _)
  |succ i=>exact gX.cons (VLe.refl _) (ih (by simpa using hi))
def HLe(h h':H):Prop:=h'.length=h.length/\∀(i:Nat)(o':O),h'[i]? =some o'->∃o:O,h[i]? =some o/\OLe o o'
theorem HLe.refl(h:H):HLe h h:=⟨rfl,fun i o ho=>⟨o,ho,OLe.refl o⟩⟩
theorem HLe.trans{a b c:H}(h:HLe a b)(k:HLe b c):HLe a c:=⟨k.1.trans h.1,fun i o ho=>by
 obtain⟨o1,h1,h2⟩:=k.2 i o ho;obtain⟨o2,h3,h4⟩:=h.2 i o1 h1;exact⟨o2,h3,fun c b x=>h2.1 c b (h4.1 c b x),fun x=>h2.2 (h4.2 x)⟩⟩
theorem HLe.set{h:H}{i:Nat}{o o':O}(hi:h[i]? =some o)(hl:OLe o o'):HLe h (h.set i o'):=by
 have hlt:=(zqe hi).1;refine⟨zrn,fun j q hq=> ?_⟩;by_cases hj:i=j
 ·subst hj;rw[zqt hlt]at hq;cases hq;exact⟨o,hi,hl⟩
 ·rw[zqn hj]at hq;exact⟨q,hq,OLe.refl q⟩
theorem HSim.le{e:E}{ok:Nat->Prop}{pl:Nat->Option Nat}{h h':H}{w:World}(hs:HSim e ok pl h w)(k:HLe h h'):HSim e ok pl h' w where
 fresh:=hs.fresh
 lt:=hs.lt
 okl:=hs.okl
 inj:=hs.inj
 obj i b hi:=by
  obtain⟨o,h1,h2⟩:=hs.obj i b hi;have hlt:i<h'.length:=by have:=(zqe h1).1;rw[k.1];exact this
  obtain⟨o1,h3,h4⟩:=k.2 i _ (zqk hlt);rw[h1]at h3;cases h3;exact⟨_,zqk hlt,h4.1 _ _ h2⟩
 bare i o ho hp:=by
  obtain⟨o1,h3,h4⟩:=k.2 i o ho;exact h4.2 (hs.bare i o1 h3 hp)
 glob:=hs.glob
 exa:=hs.exa
structure FLe(f f':Fr):Prop where
 t:∀i,VLe (f.t i) (f'.t i)
 d:f'.d=f.d
 k:f'.k=f.k
theorem Q4{e:E}{n:Nat}{r:Option Nat}{c:Code}{Q:XE->Fr->H->Prop}{f f':Fr}{h h':H}(hf:FLe f f')(hh:HLe h h')(hw:awp e n r c Q f' h'):awp e n r c Q f h:=by intro ok pl0 w0 pl w a s;refine hw ok pl0 w0 pl w a ⟨s.hs.le hh,by rw[hf.k];exact s.kp,s.size,fun i=>hf.t i _ _ (s.val i),by rw[hf.d];exact s.dfr⟩
theorem jG{e:E}{n:Nat}{r:Option Nat}{c:Code}{Q:XE->Fr->H->Prop}{f:Fr}{h h':H}(hh:HLe h h')(hw:awp e n r c Q f h'):awp e n r c Q f h :=
 Q4 ⟨fun _=>VLe.refl _,rfl,rfl⟩ hh hw
theorem IA{e:E}{g:FuncId}{args:List V}{h:H}{R:AEnd->H->(Nat->Bool)->Prop}(hc:ag e g args h fun ae h1 p=>∃h2,HLe h1 h2/\R ae h2 p):ag e g args h R :=
 fun ok pl w vs hs hv=>(hc ok pl w vs hs hv).mono fun en w' ⟨p,pl',h',ae,h1,h2,h3,h2',h4,h5⟩=>⟨p,pl',h2',ae,h1.le h4,h2,h3,h5⟩
theorem jZ{e:E}{g:FuncId}{args args':List V}{h h':H}{R:AEnd->H->(Nat->Bool)->Prop}(ha:gX args args')(hh:HLe h h')(hc:ag e g args' h' R):ag e g args h R :=
 fun ok pl w vs hs hv=>hc ok pl w vs (hs.le hh) (ha _ _ hv)
theorem iC{e:E}{n:Nat}{r:Option Nat}{c:Code}{Q:XE->Fr->H->Prop}{f:Fr}{h:H}(hw:awp e n r c Q f (h++[.cells []])):awp e n r c Q f h:=by intro ok pl0 w0 pl w a s;exact hw ok pl0 w0 pl w a ⟨oz s.hs,s.kp,s.size,s.val,s.dfr⟩
theorem FLe.one{f:Fr}(i:Nat){v:V}(h:VLe (f.t i) v):FLe f {f with t:=fun j=>if j=i then v else f.t j}:=by
 refine⟨fun j=> ?_,rfl,rfl⟩;show VLe (f.t j) (if j=i then v else f.t j);by_cases he:j=i
 ·rw[if_pos he,he];exact h
 ·rw[if_neg he];exact VLe.refl _
section
variable{e:E}{n:Nat}{o:Oper}{Kn:Fr->H->Prop}{Q:XE->Fr->H->Prop}{f:Fr}{h:H}
end
end Go.Abs
namespace Go
def KN:List Item->Prop
 | .call ..::_=>False
 |_=>True
def Code.wpP(F:Fence)(n:Nat)(P:Program)(c:Code)(Q:Exit->Act->World->Prop)(QP:List PanicEntry->Act->World->Prop)(a:Act)(w:World):Prop :=
 ∀b k cs,b.roundOf=F.round->F.fn b.fn->F.room (cs.length+1+n) ->
  (∃e a' w',Q e a' w'/\ArrivesIn (Machine.fenced P F) P (lone (b.atR a (.code c::k)) cs w) b k cs e a' w') \/
  (∃chain a' w' todo,QP chain a' w'/\KN todo/\StepsIn (Machine.fenced P F) P (lone (b.atR a (.code c::k)) cs w) (lone {b.atR a' todo with mode:= .panicking chain} cs w'))
section
variable{F:Fence}{n:Nat}{P:Program}{Q:Exit->Act->World->Prop}{QP:List PanicEntry->Act->World->Prop}{a:Act}{w:World}
theorem KO{id:Nat}{c:Code}(h:c.wpP F n P (fun e a w=>(e= .normal\/e= .exit id)/\Q .normal a w) QP a w):(Code.block id c).wpP F n P Q QP a w:=by
 intro b k cs hro hb hr;have i0:(lone (b.atR a (.code (.block id c)::k)) cs w).fenced P F:=fenced_calm hb hr rfl;rcases h b (.inBlock id::k) cs hro hb hr with⟨e,a1,w1,⟨he,hq⟩,harr⟩|⟨ch,a1,w1,td,hq,hn,hs⟩
 ·rcases he with rfl|rfl
  ·exact .inl ⟨.normal,a1,w1,hq,.head i0 stepR_block (StepsIn.trans harr (.one (fenced_calm hb hr rfl) stepR_inBlock))⟩
  ·exact .inl ⟨.normal,a1,w1,hq,.head i0 stepR_block (harr.1 k (by simp[exitTo]))⟩
 ·exact .inr ⟨ch,a1,w1,td,hq,hn,.head i0 stepR_block hs⟩
def Oper.wpP(F:Fence)(n:Nat)(P:Program)(o:Oper)(a:Act)(w:World)(next:Act->World->Prop)(QP:List PanicEntry->Act->World->Prop):Prop :=
 ∃vs w',(o.semAt F.round a.eval).run P w= .ok vs w'/\(∀f,o.about P w a.eval=some f->F.fn f)/\(F.depth=none)/\match vs with
  | .value v=>next (a.put o.dst v) w'
  | .skip=>next (a.put o.dst undef) w'
  | .enter g args => CallsIn F (n - 1) P g args w' fun
   | .returned v,w''=>next (a.put o.dst v) w''
   | .panicked chain,w''=>QP chain a w''
   | .outgrown,_=>False
  |_=>False
def Gj(F:Fence)(n:Nat)(P:Program)(ops:Array Oper)(Q:Exit->Act->World->Prop)(QP:List PanicEntry->Act->World->Prop):List Nat->Act->World->Prop
 |[],a,w=>Q .normal a w
 |i::rest,a,w=>∃o,ops[i]? =some o/\Region.wanted o (yielded ops a.tmps)=true/\o.wpP F n P a w (Gj F n P ops Q QP rest) QP
theorem zL{ops:Array Oper}:∀(l:List Nat)(a:Act)(w:World),Gj F n P ops Q QP l a w->∀(b:Frame)(k:List Item)(cs:List Frame),b.roundOf=F.round->F.fn b.fn->F.room (cs.length+1+n) ->
 (∃e a' w',Q e a' w'/\ArrivesIn (Machine.fenced P F) P (lone (b.atR a (.inRegion ops l::k)) cs w) b k cs e a' w') \/
 (∃chain a' w' todo,QP chain a' w'/\KN todo/\StepsIn (Machine.fenced P F) P (lone (b.atR a (.inRegion ops l::k)) cs w) (lone {b.atR a' todo with mode:= .panicking chain} cs w'))
 |[],a,w,h,b,k,cs,hro,hb,hr=> .inl ⟨.normal,a,w,h,.one (fenced_calm hb hr rfl) stepR_region_end⟩
 |i::rest,a,w,h,b,k,cs,hro,hb,hr=>by
  obtain⟨o,ho,hw,nx,w1,hrun,habout,hdep,hnx⟩:=h;have i0:(lone (b.atR a (.inRegion ops (i::rest)::k)) cs w).fenced P F:=fenced_oper hb hr ho habout;have hg:=stepGR_op (P:=P) (b:=b) (k:=k) (cs:=cs) (w:=w) (rest:=rest) ho hw;rw[hro]at hg;have hfin:∀v,(b.atR a (.inRegion ops (i::rest)::k)).finish v=b.atR (a.put o.dst v) (.inRegion ops rest::k):=fun v=>by rw[Frame.finish_atR,ho];rfl
  cases nx<;>try exact hnx.elim
  case value v =>
   have s1:StepsIn (Machine.fenced P F) P (lone (b.atR a (.inRegion ops (i::rest)::k)) cs w) (lone (b.atR (a.put o.dst v) (.inRegion ops rest::k)) cs w1) :=
    .one i0 (step_lone_go (by rw[hg,<-hfin];simp[stepG.apply,hrun]))
   rcases zL rest _ _ hnx b k cs hro hb hr with⟨e,a2,w2,hq,harr⟩|⟨ch,a2,w2,td,hq,hn,hs⟩
   ·exact .inl ⟨e,a2,w2,hq,.of_steps s1 harr⟩
   ·exact .inr ⟨ch,a2,w2,td,hq,hn,s1.trans hs⟩
  case skip =>
   have s1:StepsIn (Machine.fenced P F) P (lone (b.atR a (.inRegion ops (i::rest)::k)) cs w) (lone (b.atR (a.put o.dst undef) (.inRegion ops rest::k)) cs w1) :=
    .one i0 (step_lone_go (by rw[hg,<-hfin];simp[stepG.apply,hrun]))
   rcases zL rest _ _ hnx b k cs hro hb hr with⟨e,a2,w2,hq,harr⟩|⟨ch,a2,w2,td,hq,hn,hs⟩
   ·exact .inl ⟨e,a2,w2,hq,.of_steps s1 harr⟩
   ·exact .inr ⟨ch,a2,w2,td,hq,hn,s1.trans hs⟩
  case enter g args =>
   obtain⟨hF,hc⟩:=hnx;have hroom:F.room ((b.atR a (.inRegion ops (i::rest)::k)::cs).length+1+(n-1)):=Fence.room_enter hr (fun h=>by rw[hdep]at h;cases h);obtain⟨e,w2,fr,hR,hsteps,hfn,hleave⟩:=hc (b.atR a (.inRegion ops (i::rest)::k)::cs) hroom;have henter:step P (lone (b.atR a (.inRegion ops (i::rest)::k)) cs w)= .next (lone (Frame.enter P g args .normal) (b.atR a (.inRegion ops (i::rest)::k)::cs) w1) :=
    step_lone_go (by rw[hg];simp[stepG.apply,hrun,Frame.atR])
   cases e with
   |outgrown=>exact hR.elim
   |returned v =>
    have il:(lone fr (b.atR a (.inRegion ops (i::rest)::k)::cs) w2).fenced P F:=fenced_leaving (hfn▸hF) hroom hleave;have s1:StepsIn (Machine.fenced P F) P (lone (b.atR a (.inRegion ops (i::rest)::k)) cs w) (lone (b.atR (a.put o.dst v) (.inRegion ops rest::k)) cs w2):=by refine .head i0 henter (StepsIn.trans hsteps (.one il ?_));rw[<-hfin];exact step_leave_returned hleave
    rcases zL rest _ _ hR b k cs hro hb hr with⟨e,a2,w2,hq,harr⟩|⟨ch,a2,w2,td,hq,hn,hs⟩
    ·exact .inl ⟨e,a2,w2,hq,.of_steps s1 harr⟩
    ·exact .inr ⟨ch,a2,w2,td,hq,hn,s1.trans hs⟩
   |panicked chain=>have il:(lone fr (b.atR a (.inRegion ops (i::rest)::k)::cs) w2).fenced P F:=fenced_leaving (hfn▸hF) hroom hleave;refine .inr ⟨chain,a,w2,.inRegion ops (i::rest)::k,hR,trivial,.head i0 henter (StepsIn.trans hsteps (.one il ?_))⟩;rw[<-Frame.raise_atR];exact step_leave_panicked hleave
theorem IB{id:Nat}{ops:Array Oper}(h:Gj F n P ops Q QP (List.range ops.size) a w):(Code.region id ops false).wpP F n P Q QP a w:=by
 intro b k cs hro hb hr;have i0:(lone (b.atR a (.code (.region id ops false)::k)) cs w).fenced P F:=fenced_calm hb hr rfl;rcases zL _ a w h b k cs hro hb hr with⟨e,a2,w2,hq,harr⟩|⟨ch,a2,w2,td,hq,hn,hs⟩
 ·exact .inl ⟨e,a2,w2,hq,.of_steps (.one i0 stepR_region) harr⟩
 ·exact .inr ⟨ch,a2,w2,td,hq,hn,.head i0 stepR_region hs⟩
theorem Oper.wpP_mono{o:Oper}{nx nx':Act->World->Prop}{QP':List PanicEntry->Act->World->Prop}(h:o.wpP F n P a w nx QP)(h1:∀a w,nx a w->nx' a w)(h2:∀ch a w,QP ch a w->QP' ch a w):o.wpP F n P a w nx' QP':=by
 obtain⟨vs,w',hr,ha,hd,hm⟩:=h;refine⟨vs,w',hr,ha,hd,?_⟩;cases vs<;>try exact hm.elim
 case value v=>exact h1 _ _ hm
 case skip=>exact h1 _ _ hm
 case enter g args =>
  refine CallsIn.mono hm fun e w'' hq=> ?_;cases e with
  |returned v=>exact h1 _ _ hq
  |panicked ch=>exact h2 _ _ _ hq
  |outgrown=>exact hq.elim
def wB(F:Fence)(n:Nat)(P:Program)(ops:Array Oper)(Q:Exit->Act->World->Prop)(QP:List PanicEntry->Act->World->Prop):List Oper->Act->World->Prop
 |[],a,w=>Q .normal a w
 |o::rest,a,w=>Region.wanted o (yielded ops a.tmps)=true/\o.wpP F n P a w (wB F n P ops Q QP rest) QP
theorem pq{ops:Array Oper}:∀(l:List Oper)(k:Nat)(a:Act)(w:World),(∀j,j<l.length->l[j]? =ops[k+j]?)->wB F n P ops Q QP l a w->Gj F n P ops Q QP (List.range' k l.length) a w
 |[],k,a,w,_,h=>h
 |o::rest,k,a,w,hl,h=>by
  refine⟨o,by have:=hl 0 (by simp);simpa using this.symm,h.1,Oper.wpP_mono h.2 (fun a w h=>pq rest (k+1) a w (fun j hj=> ?_) h) fun _ _ _ h=>h⟩;have:=hl (j+1) (by simpa using hj);rw[List.getElem?_cons_succ]at this;rw[this]
  congr 1
  omega
theorem OT{id:Nat}{l:List Oper}(h:wB F n P l.toArray Q QP l a w):(Code.region id l.toArray false).wpP F n P Q QP a w:=by
 refine IB ?_;rw[List.range_eq_range'];have e:l.toArray.size=l.length:=by simp
 rw[e];exact pq l 0 a w (fun j _=>by simp) h
theorem zM{c:Code}{Q':Exit->Act->World->Prop}{QP':List PanicEntry->Act->World->Prop}(h:c.wpP F n P Q QP a w)(h1:∀e a w,Q e a w->Q' e a w)(h2:∀ch a w,QP ch a w->QP' ch a w):c.wpP F n P Q' QP' a w:=by
 intro b k cs hro hb hr;rcases h b k cs hro hb hr with⟨e,a1,w1,hq,harr⟩|⟨ch,a1,w1,td,hq,hn,hs⟩
 ·exact .inl ⟨e,a1,w1,h1 _ _ _ hq,harr⟩
 ·exact .inr ⟨ch,a1,w1,td,h2 _ _ _ hq,hn,hs⟩
theorem KP{fr c:Frame}{cs:List Frame}{chain:List PanicEntry}(hm:fr.mode= .panicking chain)(hd:fr.defers=[])(ht:KN fr.todo):step P (lone fr (c::cs) w)= .next (lone (c.raise chain) cs w):=by
 have hc:fr.catches P=false:=by
  unfold Frame.catches;split
  ·rename_i h1 h2;rw[h2]at ht;exact ht.elim
  ·rfl
 exact step_lone_go (by simp[stepG,unwind,hm,hd,hc])
theorem xX{l:Nat}{f:FuncId}{tmps:Array Value}{assign body:Code}{R:Ending->World->Prop}(hF:F.fn f)
 (h:assign.wpIn (F.inRound l) n P (Exit.then (fun a₁ w₁=>∃w₂,(Instr.beginRound l).run P w₁= .ok () w₂ /\
  body.wpP (F.inRound l) n P (fun e a w=>e= .normal/\∃v w',(Instr.endRound l none).run P w= .ok v w'/\R (.returned v) w') (fun ch a w=>a.defers=[]/\R (.panicked ch) w) a₁ w₂) (fun _ _ _=>False)) {tmps:=tmps,defers:=[]} w) :
 RoundIn F n P l f tmps assign body w R:=by
 refine⟨hF,fun c cs hr=> ?_⟩;obtain⟨b,eb⟩:∃b:Frame,b={(default:Frame)with fn:=f,kind:= .normal,roundOf:=some l}:=⟨_,rfl⟩;have hb0:Frame.round l f tmps assign body .normal=b.atR {tmps:=tmps,defers:=[]} [.code assign,.beginRound,.code body]:=by
  rw[eb];simp[Frame.round,Frame.atR]
 have hr':(F.inRound l).room ((c::cs).length+1+n):=hr;have hF':(F.inRound l).fn b.fn:=by rw[eb];exact hF
 have hro:b.roundOf=(F.inRound l).round:=by rw[eb];rfl
 have hro2:b.roundOf=some l:=by rw[eb]
 have hkd:b.kind= .normal:=by rw[eb]
 obtain⟨e,a1,w1,hq,harr⟩:=h b [.beginRound,.code body] (c::cs) hro hF' hr';rw[<-hb0]at harr;cases e<;>try exact hq.elim
 obtain⟨w2,hbr,hbody⟩:=hq;have s1:StepsIn (Machine.fenced P (F.inRound l)) P (lone (b.atR a1 [.beginRound,.code body]) (c::cs) w1) (lone (b.atR a1 [.code body]) (c::cs) w2) :=
  .one (fenced_calm (fr:=b.atR a1 [.beginRound,.code body]) hF' hr' rfl) (stepR_beginRound hro2 hbr)
 have s2:=StepsIn.trans harr s1;rcases hbody b [] (c::cs) hro hF' hr' with⟨e,a3,w3,⟨rfl,v,w4,hend,hR⟩,harr2⟩|⟨ch,a3,w3,td,⟨hd,hR⟩,hn,hs⟩
 ·exact⟨.returned v,w4,hR,s2.trans (StepsIn.trans harr2 (.one (fenced_calm (fr:=b.atR a3 []) hF' hr' rfl) (stepR_round_end hro2 hkd hend)))⟩
 ·refine⟨.panicked ch,w3,hR,s2.trans (StepsIn.trans hs (.one (fenced_calm (fr:={b.atR a3 td with mode:= .panicking ch}) hF' hr' ?_) (KP rfl hd hn)))⟩;obtain⟨fr,efr⟩:∃fr:Frame,fr={b.atR a3 td with mode:= .panicking ch}:=⟨_,rfl⟩;have hd':fr.defers=[]:=by rw[efr];exact hd
  have hm':fr.mode= .panicking ch:=by rw[efr]
  rw[<-efr];simp[Frame.about,hd',hm']
end
end Go
namespace Go.Abs
open Go Go.RowKit
def SA(e:E)(n:Nat)(ok:Nat->Prop)(pl0:Nat->Option Nat)(w0:World)(QP:V->Fr->H->Prop):List PanicEntry->Act->World->Prop :=
 fun ch a' w'=>∃pl' f' h' v x,SSim e n ok pl0 w0 f' h' pl' w' a'/\ch=[{v:=x,recovered:=false}]/\VRel (cx ok pl' w') v x/\QP v f' h'
def Q5(e:E)(n:Nat)(r:Option Nat)(c:Code)(Q:XE->Fr->H->Prop)(QP:V->Fr->H->Prop)(f:Fr)(h:H):Prop :=
 ∀ok pl0 w0 pl w a,SSim e n ok pl0 w0 f h pl w a->c.wpP (RF r) 0 e.P (fU e n ok pl0 w0 Q) (SA e n ok pl0 w0 QP) a w
section
variable{e:E}{n:Nat}{r:Option Nat}{f:Fr}{h:H}{Q:XE->Fr->H->Prop}{QP:V->Fr->H->Prop}
theorem KQ{c:Code}{Q':XE->Fr->H->Prop}{QP':V->Fr->H->Prop}(h1:∀xe f h,Q xe f h->Q' xe f h)(h2:∀v f h,QP v f h->QP' v f h)(hv:Q5 e n r c Q QP f h):Q5 e n r c Q' QP' f h:=fun ok pl0 w0 pl w a s =>
 zM (hv ok pl0 w0 pl w a s) (fun ex a w ⟨pl',f',h',xe,s,hx,hk⟩=>⟨pl',f',h',xe,s,hx,h1 _ _ _ hk⟩) fun ch a w ⟨pl',f',h',v,x,s,hc,hr,hk⟩=>⟨pl',f',h',v,x,s,hc,hr,h2 _ _ _ hk⟩
theorem IC{id:Nat}{c:Code}(hv:Q5 e n r c (fun xe f h=>(xe= .normal\/xe= .exit id)/\Q .normal f h) QP f h):Q5 e n r (.block id c) Q QP f h:=fun ok pl0 w0 pl w a s=>by
 refine KO (zM (hv ok pl0 w0 pl w a s) ?_ fun _ _ _ h=>h);rintro ex a w ⟨pl',f',h',xe,s,hx,hq,hk⟩;rcases hq with rfl|rfl<;>cases ex<;>(try exact hx.elim)
 ·exact⟨.inl rfl,pl',f',h',.normal,s,trivial,hk⟩
 ·cases hx;exact⟨.inr rfl,pl',f',h',.normal,s,trivial,hk⟩
def UE(dst:Option Tmp)(Kn:Fr->H->Prop)(QP:V->Fr->H->Prop)(f:Fr)(ae:AEnd)(h':H)(p:Nat->Bool):Prop :=
 (∀i∈f.d,p i=false)/\match ae with
  | .ret v=>Kn ((f.drop p).put dst v) h'
  | .pan v=>QP v (f.drop p) h'
def EG(e:E)(o:Oper)(f:Fr)(h:H)(Kn:Fr->H->Prop)(QP:V->Fr->H->Prop):Prop :=
 match o.op with
 | .call {callee:= .value fx,args:=args,argTypes:=ts}=>match kX e (f.ev e) fx args with
  |some (g,vs)=>dE (f.ev e) fx args/\ai e.P g=true/\ag e g vs h (UE o.dst Kn QP f)
  |none=>False
 |_=>False
def BI(e:E)(n:Nat)(Q:XE->Fr->H->Prop)(QP:V->Fr->H->Prop):List Oper->Fr->H->Prop
 |[],f,h=>Q .normal f h
 |o::rest,f,h=>o.guard=none/\iT n o.dst=true/\match jD o.op with
  |false=>uy true (rF e.P o (f.ev e) h) o.dst (BI e n Q QP rest) f h
  |true=>EG e o f h (BI e n Q QP rest) QP
theorem wC{ops:Array Oper}{ok:Nat->Prop}{pl0:Nat->Option Nat}{w0:World} :
 ∀(l:List Oper)(f:Fr)(h:H),BI e n Q QP l f h->∀(pl:Nat->Option Nat)(w:World)(a:Act),SSim e n ok pl0 w0 f h pl w a->wB (RF r) 0 e.P ops (fU e n ok pl0 w0 Q) (SA e n ok pl0 w0 QP) l a w
 |[],f,h,hv,pl,w,a,s=>⟨pl,f,h,.normal,s,trivial,hv⟩
 |o::rest,f,h,hv,pl,w,a,s=>by
  obtain⟨hg,hd,hv⟩:=hv;have hw:Region.wanted o (yielded ops a.tmps)=true:=by refine mW (ops:=ops) s.val (g:=true) ?_;unfold gd;rw[hg]
  refine⟨hw,?_⟩;cases he:jD o.op with
  |false =>
   rw[he]at hv;dsimp only at hv;obtain⟨hc,hk⟩:=hv;have hq:=lX (e:=e) (hc rfl) ok pl w a.eval s.hs s.evs;have hnd:o.semAt (RF r).round a.eval=execOp a.eval o:=by
    rw[bH];refine Oper.semAt_eq r a.eval o fun c hc=> ?_;have this:=hq;unfold execOp at this;rw[hc]at this;simp only[Sem.run_bind]at this
    revert this
    cases(resolve a.eval c o.type).run e.P w<;>simp[jr,Result.andThen]
   have fin:∀x w',WExt w w'/\VRel (cx ok pl w') (rF e.P o (f.ev e) h).2 x->wB (RF r) 0 e.P ops (fU e n ok pl0 w0 Q) (SA e n ok pl0 w0 QP) rest (a.put o.dst x) w':=fun x w' ⟨hx,hv⟩ =>
    wC rest _ h hk pl w' _ ((s.next0 (s.hs.wext hx) (hx.keeps s.hs)).put hd hv)
   revert hq
   cases hrun:(execOp a.eval o).run e.P w with
   |halt x w'=>intro hq;exact hq.elim
   |ok nx w' =>
    intro hq;refine⟨nx,w',by rw[hnd];exact hrun,fun g _=>dZ r g,fK r,?_⟩;cases nx<;>try exact hq.elim
    case value x=>exact fin x w' hq
    case skip=>exact fin undef w' hq
    case enter g args =>
     refine(bJ (Calls.mono hq ?_));rintro en w'' ⟨x,rfl,hx⟩;exact fin x w'' hx
  |true =>
   rw[he]at hv;dsimp only at hv;unfold EG at hv;split at hv
   ·rename_i fx args ts hop;split at hv
    ·rename_i g vs hon;obtain⟨hsc,hen,hc⟩:=hv;obtain⟨xs,hrun,hl⟩:=qA (e:=e) hop (s.evs (o:=o)) hon hsc hen;refine⟨_,_,by rw[bH,Oper.semAt_eq r a.eval o (fun c=>by rw[hop];exact fun h=>by cases h)];exact hrun,fun g _=>dZ r g,fK r,bJ ((hc ok pl w xs s.hs hl).mono ?_)⟩;rintro en w' ⟨p,pl',h',ae,hs',k,hend,hp,hk⟩;cases ae with
     |ret v =>
      cases en with
      |returned x=>exact wC rest _ h' hk pl' w' _ ((s.next hs' k hp).put hd hend)
      |panicked ch=>exact hend.elim
      |outgrown=>exact hend.elim
     |pan v =>
      cases en with
      |returned x=>exact hend.elim
      |panicked ch=>obtain⟨x,hx,hr⟩:=hend;exact⟨pl',_,h',v,x,s.next hs' k hp,hx,hr,hk⟩
      |outgrown=>exact hend.elim
    ·exact hv.elim
   ·exact hv.elim
theorem EH{id:Nat}{l:List Oper}(hv:BI e n Q QP l f h):Q5 e n r (.region id l.toArray false) Q QP f h:=fun ok pl0 w0 pl w a s=>OT (wC l f h hv pl w a s)
theorem IE(htl:e.tl=[]){o:Oper}{Kn:Fr->H->Prop}{fx:Operand}{args:Array Operand}{ts:Array TypeId}(hop:o.op= .call {callee:= .value fx,args:=args,argTypes:=ts}){id:Nat}(hfx:(f.ev e fx).sv= .yd id)
 (hsc:dE (f.ev e) fx args) {t:Nat->V} {n':Nat} {ps:Array Tmp} {asg body:Code} (hc:h[id]? =some (.loop t n' ps asg body .ready none))
 (hl:args.size=ps.size) (hps:(ps.toList.all fun p=>decide (p<n'))=true)
 (hv:∀l,awp e n' (some l) asg (fun xe f1 h1=>xe= .normal/\f1.k id=false/\∃t,h1[id]? =some (.loop t n' ps asg body .ready none) /\
  Q5 e n' (some l) body (fun xe f2 h2 => xe = .normal /\ (f2.k id = false /\ ∀ i ∈ f.d,f2.k i = false) /\ ∃ t st,h2[id]? = some (.loop t n' ps asg body st none) /\ Kn ((f.drop f2.k).put o.dst (.bool true)) (h2.set id (.loop t n' ps asg body .ready none)))
   (fun v f2 h2=>f2.d=[]/\(∀i∈f.d,f2.k i=false)/\Q (.pan v) (f.drop f2.k) h2) f1 (h1.set id (.loop t n' ps asg body .busy none)))
  (fZ {t:=t} ps.toList (args.toList.map fun x=>(f.ev e x).sv)) h):Eff e n r o f h Kn Q:=by
 intro ok pl0 w0 pl w a s hd;have h1:=(s.ev fx).sv hsc.1;rw[hfx]at h1;simp only[VRel]at h1;obtain⟨b,hb,hx⟩:=h1;have hb:pl id=some b:=hb;have h5:=(cZ (c:=cx ok pl w) (ρ:=f.ev e) (ev:=a.eval) args.toList fun x hx=>s.ev x).sv hsc.2;rw[List.map_map]at h5;obtain⟨rec,g1,g2,g3,g4,g5,g6,g7,_⟩:=s.hs.loopSet hb hc .ready none;have hrun:(execOp a.eval o).run e.P w= .ok (.round b rec.fn ((rec.params.zip (args.map a.eval)).foldl (fun tmps (t,a)=>tmps.setIfInBounds t a) rec.tmps) rec.assign rec.body) w:=by
  have:execOp a.eval o=(do let d <-resolve a.eval {callee:= .value fx,args:=args,argTypes:=ts} o.type;invoke d.target d.args):=by simp[execOp,hop]
  rw[this];have h6:(resolve a.eval {callee:= .value fx,args:=args,argTypes:=ts} o.type).run e.P w= .ok {target:= .fn (.yield b) #[],args:=args.map a.eval} w:=by
   simp[resolve,hx,Deferred.ofValue]
  simp only[Sem.run_bind,h6,Result.andThen,invoke];exact run_yield g1 (by simp[g4,hl])
 refine⟨fun g _=>dZ r g,?_⟩;rw[bH,Oper.semAt_eq r a.eval o (fun c=>by rw[hop];exact fun h=>by cases h),hrun];refine⟨fun hd'=>(by rw[fK]at hd';cases hd'),?_⟩;rw[g5,g6];have tr:=TRel.all (ps:=ps.toList) g7 hps h5;have htm:(rec.params.zip (args.map a.eval)).foldl (fun tmps (t,a)=>tmps.setIfInBounds t a) rec.tmps=((ps.toList.zip (args.toList.map a.eval)).foldl (fun tmps (t,a)=>tmps.setIfInBounds t a) rec.tmps):=by
  rw[g4,<-Array.foldl_toList,Array.toList_zip,Array.toList_map]
 rw[htm];have hk:∀(ps:List Tmp)(vs:List V)(f:Fr),(fZ f ps vs).k=f.k/\(fZ f ps vs).d=f.d:=by
  intro ps
  induction ps with
  |nil=>intro vs f;cases vs<;>exact⟨rfl,rfl⟩
  |cons p ps ih=>intro vs f;cases vs with
   |nil=>exact⟨rfl,rfl⟩
   |cons v vs=>exact ih vs (f.put (some p) v)
 have s0:SSim e n' ok pl w (fZ {t:=t} ps.toList (args.toList.map fun x=>(f.ev e x).sv)) h pl w {tmps:=((ps.toList.zip (args.toList.map a.eval)).foldl (fun tmps (t,a)=>tmps.setIfInBounds t a) rec.tmps),defers:=[]}:=by
  refine⟨s.hs,?_,tr.size,tr.val,?_⟩
  ·rw[(hk _ _ _).1];exact Keeps.refl pl w
  ·rw[(hk _ _ _).2];exact htl.symm
 refine xX (dZ r _) ?_;rw[yx];refine wpIn_mono (hv b ok pl w pl w _ s0) ?_;rintro ex a1 w1 ⟨pl1,f1,h1,xe,s1,hx1,rfl,hk1,t1,hc1,hbody⟩;cases ex<;>(try exact hx1.elim);have hb1:pl1 id=some b:=s1.kp.keep id b hk1 hb;obtain⟨rec1,q1,q2,q3,q4,q5,q6,q7,hs2,k2⟩:=s1.hs.loopSet hb1 hc1 .busy none;refine⟨_,run_beginRound q1 q2,?_⟩;have hrec:({rec1 with state:= .busy}:Loop)={rec1 with state:= .busy,pending:=none}:=by rw[<-q3]
 rw[hrec];refine zM (hbody ok pl w pl1 _ a1 (s1.next0 hs2 k2)) ?_ ?_
 ·rintro ex a2 w2 ⟨pl2,f2,h2,xe2,s2,hx2,rfl,⟨hk2,hd2⟩,t2,st2,hc2,hK⟩;cases ex<;>(try exact hx2.elim);have hb2:pl2 id=some b:=s2.kp.keep id b hk2 hb;obtain⟨rec2,p1,p2,p3,p4,p5,p6,p7,hs3,k3⟩:=s2.hs.loopSet hb2 hc2 .ready none;refine⟨rfl,_,_,run_endRound none p1,pl2,_,_,?_,hK⟩;have s3:=s2.next0 hs3 k3;exact(s.next s3.hs s3.kp hd2).put hd (by simp only[VRel];rfl)
 ·rintro ch a2 w2 ⟨pl2,f2,h2,v,x,s2,hch,hr,hd0,hd2,hq⟩;refine⟨?_,pl2,_,h2,.pan v,s.next s2.hs s2.kp hd2,⟨x,hch,hr⟩,hq⟩;have:=s2.dfr;rw[hd0]at this;exact Eq.trans this htl
end
section
variable{e:E}{n:Nat}{r:Option Nat}{f:Fr}{h:H}{Q:XE->Fr->H->Prop}{ops:Array Oper}
def KR(e:E)(n:Nat)(r:Option Nat)(ops:Array Oper)(Q:XE->Fr->H->Prop)(l:List Oper)(f:Fr)(h:H):Prop :=
 ∀ok pl0 w0 pl w a,SSim e n ok pl0 w0 f h pl w a->wpListIn (RF r) 0 e.P ops (fU e n ok pl0 w0 Q) l a w
theorem iL{id:Nat}{l:List Oper}(hv:KR e n r l.toArray Q l f h):awp e n r (.region id l.toArray false) Q f h :=
 fun ok pl0 w0 pl w a s=>wpIn_region_lit (hv ok pl0 w0 pl w a s)
theorem eG(hv:Q .normal f h):KR e n r ops Q [] f h:=fun ok pl0 w0 pl w a s=>⟨pl,f,h,.normal,s,trivial,hv⟩
theorem eX{o:Oper}{rest:List Oper}(hg:o.guard=none)(hd:iT n o.dst=true)(he:Eff e n r o f h (KR e n r ops Q rest) Q):KR e n r ops Q (o::rest) f h:=fun ok pl0 w0 pl w a s=>by
 have hgd:gd ops f o=some true:=by unfold gd;rw[hg]
 have hw:=mW s.val hgd;unfold wpListIn;rw[if_pos hw];exact Oper.wpIn_mono (fun a' w' ⟨pl',f',h',s',hk⟩=>hk ok pl0 w0 pl' w' a' s') (he ok pl0 w0 pl w a s hd)
theorem ay{o:Oper}{rest:List Oper}(hg:o.guard=none)(hd:iT n o.dst=true) (he:match jD o.op with
 |true=>Be e n o f h (KR e n r ops Q rest) Q
 |false=>uy true (rF e.P o (f.ev e) h) o.dst (KR e n r ops Q rest) f h):KR e n r ops Q (o::rest) f h:=by
 refine eX hg hd ?_;cases hi:jD o.op with
 |true=>rw[hi]at he;exact zD he
 |false=>rw[hi]at he;exact jc (lX (he.1 rfl)) he.2
end
theorem HSim.tl{e:E}{ok:Nat->Prop}{pl:Nat->Option Nat}{h:H}{w:World}(hs:HSim e ok pl h w)(tl:List Deferred):HSim {e with tl:=tl} ok pl h w :=
 ⟨hs.fresh,hs.lt,hs.okl,hs.inj,hs.obj,hs.bare,hs.glob,hs.exa⟩
theorem HSim.untl{e:E}{ok:Nat->Prop}{pl:Nat->Option Nat}{h:H}{w:World}{tl:List Deferred}(hs:HSim {e with tl:=tl} ok pl h w):HSim e ok pl h w :=
 ⟨hs.fresh,hs.lt,hs.okl,hs.inj,hs.obj,hs.bare,hs.glob,hs.exa⟩
theorem ag.tl{e:E}{g:FuncId}{args:List V}{h:H}{R:AEnd->H->(Nat->Bool)->Prop}(hc:ag e g args h R)(tl:List Deferred):ag {e with tl:=tl} g args h R :=
 fun ok pl w vs hs hl=>(hc ok pl w vs hs.untl hl).mono fun en w' ⟨p,pl',h',ae,h1,h2⟩=>⟨p,pl',h',ae,h1.tl tl,h2⟩
def uQ:Op->Bool
 | .assign _ | .move _ | .alloc _ | .store _ _ _ | .extract _ _ | .typeAssert _ _ _ _=>true
 |_=>false
theorem IG{P:Program}{o:Oper}(h:uQ o.op=true)(ev:Operand->Value)(w:World):(∃x w',(execOp ev o).run P w= .ok (.value x) w')\/(∃w',(execOp ev o).run P w= .ok .skip w')\/∃x w',(execOp ev o).run P w= .halt x w':=by
 cases hop:o.op<;>rw[hop]at h<;>try(cases h;done)
 all_goals
  simp only[execOp,hop,Sem.run_bind,Sem.run_pure]
 case assign x=>exact .inl ⟨_,_,rfl⟩
 case move x=>exact .inl ⟨_,_,rfl⟩
 case store t x y=>cases hr:(Instr.storeAt t (ev x) (ev y)).run P w with
  |ok v w'=>exact .inr (.inl ⟨w',rfl⟩)
  |halt x w'=>exact .inr (.inr ⟨x,w',rfl⟩)
 all_goals
  generalize hs:Sem.run P _ w=r;cases r with
  |ok v w'=>exact .inl ⟨v,w',rfl⟩
  |halt x w'=>exact .inr (.inr ⟨x,w',rfl⟩)
section
variable{e:E}{n:Nat}
theorem nI{ops:Array Oper}{P:Program}{Q:Exit->Act->World->Prop}{cs:List Frame}:∀(l:List Oper)(k:Nat)(a:Act)(w:World),(∀j,j<l.length->l[j]? =ops[k+j]?)->(∀o∈l,uQ o.op=true)->wpListIn (RF none) 0 P ops Q l a w ->
 wpOpsSIn (RF none) 0 P ops (fun ex a cs' w=>cs'=cs/\Q ex a w) (List.range' k l.length) a cs w
 |[],k,a,w,_,_,h=>by show wpOpsSIn _ _ _ _ _ [] a cs w;exact(zsa rfl h:cs=cs/\Q .normal a w)
 |o::rest,k,a,w,hl,hs,h=>by
  have ho:ops[k]? =some o:=by have:=hl 0 (by simp);simpa using this.symm
  have ih:∀a w,wpListIn (RF none) 0 P ops Q rest a w->wpOpsSIn (RF none) 0 P ops (fun ex a cs' w=>cs'=cs/\Q ex a w) (List.range' (k+1) rest.length) a cs w:=fun a w h=>nI rest (k+1) a w (fun j hj=>by
   have:=hl (j+1) (by simpa using hj);rw[List.getElem?_cons_succ]at this;rw[this];congr 1;omega) (fun o ho=>hs o (List.mem_cons_of_mem _ ho)) h
  show wpOpsSIn (RF none) 0 P ops _ (k::List.range' (k+1) rest.length) a cs w;unfold wpListIn at h;simp only[wpOpsSIn,ho];refine⟨fun g _=>dZ none g,?_⟩;split at h
  ·rename_i hw;rw[if_pos hw];obtain⟨_,hu⟩:=h;rw[bH,Oper.semAt_eq none a.eval o (fun c hc=>by have:=hs o (by simp);rw[hc]at this;cases this)]at hu;rcases IG (P:=P) (hs o (by simp)) a.eval w with⟨x,w',hr⟩|⟨w',hr⟩|⟨x,w',hr⟩
   ·rw[hr]at hu ⊢;exact ih _ _ hu
   ·rw[hr]at hu ⊢;exact ih _ _ hu
   ·rw[hr]at hu ⊢;cases x<;>try exact hu.elim
    exact⟨trivial,hu⟩
  ·rename_i hw;rw[if_neg hw];exact ih _ _ h.2
theorem jH{F:Fence}{m:Nat}{P:Program}{ops:Array Oper}{Q Q':Exit->Act->List Frame->World->Prop}(hq:∀ex a cs w,Q ex a cs w->Q' ex a cs w):∀(l:List Nat)(a:Act)(cs:List Frame)(w:World),wpOpsSIn F m P ops Q l a cs w->wpOpsSIn F m P ops Q' l a cs w
 |[],a,cs,w,h=>hq _ _ _ _ h
 |i::rest,a,cs,w,h=>by
  simp only[wpOpsSIn]at h ⊢;split at h
  ·exact jH hq rest _ _ _ h
  ·refine⟨h.1,?_⟩;have h2:=h.2;split at h2
   ·rename_i hw;rw[if_pos hw];split at h2
    ·split at h2<;>exact jH hq rest _ _ _ h2
    ·exact jH hq rest _ _ _ h2
    ·exact jH hq rest _ _ _ h2
    ·exact hq _ _ _ _ h2
    ·exact h2.elim
   ·rename_i hw;rw[if_neg hw];exact jH hq rest _ _ _ h2
def jI(e:E)(q:FuncId)(args:List V)(v:V)(h:H)(K:H->(Nat->Bool)->Prop):Prop :=
 ∀ok pl w vs x,HSim e ok pl h w->VList (cx ok pl w) args vs->VRel (cx ok pl w) v x ->
  CallsDIn (RF none) (0-1) e.P q vs.toArray (.panicking [{v:=x,recovered:=false}]) w fun en u' w'=>(∃y,en= .returned y)/\u'= .panicking [{v:=x,recovered:=true}] /\
   ∃p pl' h',HSim e ok pl' h' w'/\Keeps p pl w pl' w'/\K h' p
theorem pz(htl:e.tl=[]){q:FuncId}{fn:Func}{args:List V}{v:V}{h:H}{K:H->(Nat->Bool)->Prop}{id:Nat}{o0:Oper}{l:List Oper}{rest:Code}(hf:e.P.funcs[q]? =some fn)
 (hb:fn.body=some (.seq (.region id (o0::l).toArray false) rest)) (hr0:fn.results.toList=[]) (hn:args.length<=fn.ntmps) (hg:o0.guard=none) (ho:∀ev w,(execOp ev o0).run e.P w= .ok .recover w) (hd:iT fn.ntmps o0.dst=true)
 (hl:(l.all fun o=>uQ o.op)=true)
 (hv:KR e fn.ntmps none (o0::l).toArray (XE.seq (awp e fn.ntmps none rest (fun xe f h=>(xe= .normal\/xe= .ret)/\f.d=[]/\K h f.k)) (fun _ _ _=>False)) l ((Fr.init args).put o0.dst v) h):jI e q args v h K:=by
 intro ok pl w vs x hs hl2 hx;refine callsDIn_of_wpSIn hf hb (dZ none q) fun c0 cs hm=> ?_;have s0:=SSim.init htl (n:=fn.ntmps) hs hl2 hn;have s1:=s0.put hd hx;obtain⟨c1,ec1⟩:∃c1:Frame,c1={c0 with mode:= .panicking [{v:=x,recovered:=true}]}:=⟨_,rfl⟩;have hrec:recoverD (c0::cs)=some (x,c1::cs):=by
  rw[ec1];simp[recoverD,hm]
 refine wpSIn_seq (wpSIn_region ?_);have hsz:(o0::l).toArray.size=(o0::l).length:=by simp
 rw[hsz,List.range_eq_range'];show wpOpsSIn (RF none) (0-1) e.P _ _ (0::List.range' 1 l.length) _ _ _;have h00:(o0::l).toArray[0]? =some o0:=by simp
 simp only[wpOpsSIn,h00];refine⟨fun g _=>dZ none g,?_⟩;have hgd:gd (o0::l).toArray (Fr.init args) o0=some true:=by unfold gd;rw[hg]
 rw[if_pos (mW s0.val hgd),ho];dsimp only;rw[hrec];dsimp only;have hlist:=hv ok pl w pl w _ s1;have hS:=nI (P:=e.P) (cs:=c1::cs) (ops:=(o0::l).toArray) l 1 _ w (fun j hj=>by simp[Nat.add_comm]) (fun o ho=>zrs.1 hl o ho) hlist;refine jH ?_ _ _ _ _ hS;rintro ex a2 cs2 w2 ⟨rfl,pl2,f2,h2,xe,s2,hx2,hq2⟩;cases xe<;>cases ex<;>(try exact hx2.elim)<;>(try exact hq2.elim);have hq2:awp e fn.ntmps none rest (fun xe f h=>(xe= .normal\/xe= .ret)/\f.d=[]/\K h f.k) f2 h2:=hq2;refine wpSIn_of_wpIn (bH none) (wpIn_mono (hq2 ok pl w pl2 w2 a2 s2) ?_);rintro ex a3 w3 ⟨pl3,f3,h3,xe,s3,hx3,hxe,hd3,hk3⟩;have hdf:a3.defers=[]:=by
  have:=s3.dfr;rw[hd3]at this;exact Eq.trans this htl
 have hres:∃y,(results fn a3.tmps).run e.P w3= .ok y w3:=by
  have hp:(xU e.P f3 h3 fn.results.toList).1:=by rw[hr0];trivial
  obtain⟨y,h1,_⟩:=Bo (f:=f3) s3.hs s3.val hp;exact⟨y,h1⟩
 obtain⟨y,hy⟩:=hres;have fin:a3.defers=[]/\∃u',c1::cs={c0 with mode:=u'}::cs/\∃v,(results fn a3.tmps).run e.P w3= .ok v w3/\((∃y,Ending.returned v= .returned y)/\u'= .panicking [{v:=x,recovered:=true}] /\
  ∃p pl' h',HSim e ok pl' h' w3/\Keeps p pl w pl' w3/\K h' p) :=
  ⟨hdf,_,by rw[ec1],y,hy,⟨y,rfl⟩,rfl,f3.k,pl3,h3,s3.hs,s3.kp,hk3⟩
 rcases hxe with rfl|rfl<;>cases ex<;>(try exact hx3.elim)
 ·exact fin
 ·exact fin
end
section
variable{e:E}{n:Nat}
def OV(e:E)(ok:Nat->Prop)(pl0:Nat->Option Nat)(w0:World)(R:AEnd->H->(Nat->Bool)->Prop)(en:Ending)(w':World):Prop :=
 ∃p pl' h' ae,HSim e ok pl' h' w'/\Keeps p pl0 w0 pl' w'/\FX (cx ok pl' w') ae en/\R ae h' p
def UF(e:E)(n:Nat)(M:Exit->Act->World->Prop)(ok:Nat->Prop)(pl0:Nat->Option Nat)(w0:World)(c:Code)(f:Fr)(h:H):Prop :=
 ∀pl w a,SSim e n ok pl0 w0 f h pl w a->c.wpIn (RF none) 0 e.P M a w
theorem kK(htl:e.tl=[]){g:FuncId}{fn:Func}{c:Code}{args:List V}{h:H}{R:AEnd->H->(Nat->Bool)->Prop}(hf:e.P.funcs[g]? =some fn)(hb:fn.body=some c)(hn:args.length<=fn.ntmps)
 (hv:∀ok pl0 w0,UF e fn.ntmps (bodyPostM (RF none) 0 e.P fn (OV e ok pl0 w0 R)) ok pl0 w0 c (Fr.init args) h):ag e g args h R:=by
 intro ok pl w vs hs hl;exact nC (r:=none) (n:=0) (callsIn_of_wp_marks hf hb (dZ none g) (hv ok pl w pl w _ (SSim.init htl (n:=fn.ntmps) hs hl hn)) rfl)
theorem zN{M:Exit->Act->World->Prop}{ok:Nat->Prop}{pl0:Nat->Option Nat}{w0:World}{f:Fr}{h:H}{x y:Code}{Q:XE->Fr->H->Prop}(hx:awp e n none x (XE.seq (fun f h=>UF e n M ok pl0 w0 y f h) Q) f h)
 (hQ:∀ex a w,fU e n ok pl0 w0 Q ex a w->M ex a w):UF e n M ok pl0 w0 (.seq x y) f h:=fun pl w a s=>by
 refine wpIn_seq (wpIn_mono (hx ok pl0 w0 pl w a s) fun ex a w hp=> ?_);have:=fU.seq (K':=fun a w=>y.wpIn (RF none) 0 e.P M a w) (fun pl f h a w s hk=>hk pl w a s) ex a w hp;cases ex<;>first|exact this|exact hQ _ _ _ this
end
section
variable{e:E}{n:Nat}{r:Option Nat}{o:Oper}{f:Fr}{h:H}{Kn:Fr->H->Prop}{Q:XE->Fr->H->Prop}
end
end Go.Abs
