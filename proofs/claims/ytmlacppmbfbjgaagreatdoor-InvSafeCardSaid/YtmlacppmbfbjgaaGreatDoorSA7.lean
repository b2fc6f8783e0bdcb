/- Lemmas for this claim, part A7: each holds under what it names. -/
import Derived.Test.YtmlacppmbfbjgaaGreatDoorSA6
import Derived.ProofKit
import Derived.SizedLaws
import Derived.JoinedCond
set_option linter.unusedVariables false
set_option linter.unusedSimpArgs false
namespace Go.Abs
open Go.RowKit Go.ChangeShapes
theorem WExt.below {w w':World} (x:WExt w w'):Below w.heap.size w w':=⟨x.os,x.tape,x.output,x.size,x.same⟩
section
variable {H:Type} {enc:TypeId×Value→H} {P:Program}
def WA : Sh → Value → Prop
 | .struct fs,v=>∃cs,v= .agg cs∧cs.size=Sh.sizes fs
 | _,v=>v.cells=#[v]
theorem xk {w:World} {r:Reach} {base:Nat} {sh:Sh} {t:TypeId} {v:Value} (hok:sh.ok P t=true) (h:Value.okWide P w r base t v):WA sh v:=by
 unfold Value.okWide at h;cases sh with
 | struct fs =>
  simp only[Sh.ok]at hok;split at hok
  ·rename_i gs hu;unfold jV at hu;simp only [zqf,beq_iff_eq] at hok;split at hu
   ·rename_i hu';rw[hu']at h;obtain⟨cs,h1,h2,_⟩:=h;exact⟨cs,h1,h2.trans hok.1⟩
   ·rename_i hu';rw[hu']at h;obtain⟨cs,h1,h2,_⟩:=h;exact⟨cs,h1,h2.trans hok.1⟩
   ·cases hu
  ·cases hok
 | str =>
  simp only[Sh.ok]at hok;split at hok
  ·rename_i hu;rw[hu]at h;cases v<;>simp only[Cell.okWide,Cell.ok,hu]at h<;>first | exact h.elim | rfl
  ·cases hok
 | bool =>
  simp only[Sh.ok]at hok;split at hok
  ·rename_i hu;rw[hu]at h;cases v<;>simp only[Cell.okWide,Cell.ok,hu]at h<;>first | exact h.elim | rfl
  ·cases hok
 | int k =>
  simp only[Sh.ok]at hok;split at hok
  ·rename_i k' hu;rw[hu]at h;cases v<;>simp only[Cell.okWide,Cell.ok,hu]at h<;>first | exact h.elim | rfl
  ·cases hok
 | slice e =>
  simp only[Sh.ok]at hok;split at hok
  ·rename_i u hu;rw[hu]at h;cases v<;>simp only[Cell.okWide,Cell.ok,hu]at h<;>first | exact h.elim | rfl
  ·cases hok
theorem OV {c:C} {sh:Sh} {u:V} {v:Value} (hf:WA sh v) (ht:Took c sh u v.cells.toList):VRel c u v:=by
 have one:v.cells=#[v]→u.vc=[u]→VRel c u v:=by intro h1 h2;have:=ht.rel;rw[h1,h2]at this;simp only[VList]at this;obtain⟨y,ys,h3,h4,_⟩:=this;simp only[List.cons.injEq]at h3;rw[h3.1];exact h4
 cases sh with
 | struct fs=>obtain⟨cs,rfl,_⟩:=hf;have hi:=ht.is;simp only[Sh.Is]at hi;obtain⟨vs,rfl,_⟩:=hi;simp only[VRel];exact⟨cs,rfl,ht.rel⟩
 | str=>obtain⟨s,rfl⟩:=ht.is;exact one hf rfl
 | bool=>obtain⟨s,rfl⟩:=ht.is;exact one hf rfl
 | int k=>obtain⟨s,rfl,_⟩:=ht.is;exact one hf rfl
 | slice e=>have hi:=ht.is;simp only[Sh.Is]at hi;obtain⟨s,rfl,_⟩:=hi;exact one hf rfl
theorem KI {sh:Sh} {v:Value} (hf:WA sh v):v.cells.size=sh.size:=by
 cases sh with
 | struct fs=>obtain⟨cs,rfl,h⟩:=hf;exact h
 | str=>rw[show v.cells=#[v]from hf];rfl
 | bool=>rw[show v.cells=#[v]from hf];rfl
 | int k=>rw[show v.cells=#[v]from hf];rfl
 | slice e=>rw[show v.cells=#[v]from hf];rfl
theorem qG {W W':World} (hl:laidOutB P=true) (hb:Below W.heap.size W W'):∀(ts:List TypeId) (vs:List Value) (ds:List (DataW H)) (ps:List MemPlace),
 (ts.all fun t=>P.readableRec t&&decide (t<P.types.size))=true→(∀x∈ps,x.block<W.heap.size)→DataW.TrodAll enc P W 0 (fun _=>true) true ts vs ds ps →
 DataW.TrodAll enc P W' 0 (fun b=>decide (b<W.heap.size)) true ts vs ds ps
 | [],vs,ds,ps,_,_,h=>by obtain⟨rfl,rfl,rfl⟩:=trodAll_nil h;exact trodAll_mk0
 | t::ts,vs,ds,ps,ht,hlt,h=>by obtain⟨v,vs',d,ds',p,q,rfl,rfl,rfl,h1,h2⟩:=trodAll_cons h;simp only[List.all_cons,zqf,zqb]at ht;exact⟨p,q,Below.trod hl ht.1.1 ht.1.2 h1 hb (fun x hx=>hlt x (by simp[hx])),qG hl hb ts vs' ds' q (by simpa using ht.2) (fun x hx=>hlt x (by simp[hx])) h2,rfl⟩
theorem FM {w : World} {base : Nat} {sp : Nat → Bool} {held : Bool} : ∀ {ts : List TypeId} {vs : List Value} {ds : List (DataW H)} {ps : List MemPlace},DataW.TrodAll enc P w base sp held ts vs ds ps → ds.length = ts.length
 | [],_,_,_,h=>by obtain⟨_,rfl,_⟩:=trodAll_nil h;rfl
 | t::ts,vs,ds,ps,h=>by obtain⟨v,vs',d,ds',p,q,rfl,rfl,rfl,_,h2⟩:=trodAll_cons h;simp[FM h2]
end
open Go
theorem OW (b:Bool):V.dat (.bool b)=true:=by simp only[V.dat]
theorem RU (k:IntKind) (n:Int):V.dat (.int k n)=true:=by simp only[V.dat]
theorem RV (s:List UInt8):V.dat (.str s)=true:=by simp only[V.dat]
theorem OX:V.dat (.nilp)=true:=by simp only[V.dat]
theorem UX (e:V):V.dat (.ip e)=true:=by simp only[V.dat]
theorem OY:V.dat (.nils)=true:=by simp only[V.dat]
theorem UY (x:Bool) (k:Nat) (es:List V):V.dat (.is x k es)=true:=by simp only[V.dat]
theorem OZ:V.dat (.nilm)=true:=by simp only[V.dat]
theorem UZ (ks vs:List V):V.dat (.im ks vs)=true:=by simp only[V.dat]
theorem O0:V.dat (.nilf)=true:=by simp only[V.dat]
theorem O1:V.dat (.nili)=true:=by simp only[V.dat]
theorem U0 (i o:Nat):V.dat (.lp i o)=false:=by simp only[V.dat]
theorem U1 (i k o l c:Nat):V.dat (.ls i k o l c)=false:=by simp only[V.dat]
theorem U2 (i:Nat):V.dat (.lm i)=false:=by simp only[V.dat]
theorem RX (k:Nat) (es:List V):V.dat (.row k es)=false:=by simp only[V.dat]
theorem RY (vs:List V):V.dat (.agg vs)=V.dats vs:=by simp only[V.dat]
theorem KJ (t:TypeId) (e:V):V.dat (.iface t e)=e.dat:=by simp only[V.dat]
theorem O3:V.dats []=true:=by simp only[V.dats]
theorem KL (v:V) (vs:List V):V.dats (v::vs)=(v.dat&&V.dats vs):=by simp only[V.dats]
def sa0 :=
 PLift.up <|
 And.intro (@Go.Abs.UM) <|
 And.intro (@Go.Abs.Ij) <|
 And.intro (@Go.Abs.Et) <|
 And.intro (@Go.Abs.Ik) <|
 And.intro (@Go.Abs.Il) <|
 And.intro (@Go.Abs.RS) <|
 And.intro (@Go.Abs.Kw) <|
 And.intro (@Go.Abs.OL) <|
 And.intro (@List.all_cons.{0}) <|
 And.intro (@List.all_nil.{0}) <|
 And.intro (@Go.Abs.UL) <|
 And.intro (@Go.Abs.RG) <|
 And.intro (@Go.Abs.OJ) <|
 And.intro (@Go.Abs.RH) <|
 And.intro (@Go.Abs.RJ) <|
 And.intro (@Go.Abs.Bc) <|
 And.intro (@Go.Abs.RI) <|
 And.intro (@Go.Abs.Ie) <|
 And.intro (@Go.Abs.KA) <|
 And.intro (@Go.Abs.Kz) <|
 And.intro (@Go.Abs.A8) <|
 And.intro (@Go.Abs.Eg) <|
 And.intro (@Go.Abs.Eh) <|
 And.intro (@Go.Abs.OO) <|
 And.intro (@Go.Abs.KD) <|
 And.intro (@Go.Abs.RP) <|
 And.intro (@Go.Abs.KE) <|
 And.intro (@Go.Abs.Ig) <|
 And.intro (@Go.Abs.UN) <|
 @Go.Abs.WJ
def sa1 :=
 PLift.up <|
 And.intro (@Go.Abs.Ei) <|
 And.intro (@Go.Abs.OT) <|
 And.intro (@Go.Abs.RQ) <|
 And.intro (@Go.Abs.UO) <|
 And.intro (@Go.Abs.UQ) <|
 And.intro (@Go.Abs.Ib) <|
 And.intro (@Go.Abs.RN) <|
 And.intro (@Go.Abs.OM) <|
 And.intro (@Go.Abs.A7) <|
 And.intro (@Go.Abs.Ic) <|
 And.intro (@Go.Abs.Ky) <|
 And.intro (@Go.Abs.OQ) <|
 And.intro (@Go.Abs.Kv) <|
 And.intro (@Go.Abs.H8) <|
 And.intro (@Go.Abs.Ea) <|
 And.intro (@Go.Abs.JV) <|
 And.intro (@Go.Abs.OD) <|
 And.intro (@Go.Abs.JY) <|
 And.intro (@decide_true) <|
 And.intro (@decide_false) <|
 And.intro (@true_and) <|
 And.intro (@and_true) <|
 And.intro (@and_self) <|
 And.intro (@imp_self) <|
 And.intro (@implies_true.{0}) <|
 And.intro (@forall_const.{0}) <|
 And.intro (@forall_const.{1}) <|
 And.intro (@List.getD_cons_zero.{0}) <|
 And.intro (@List.getD_cons_succ.{0}) <|
 @List.length_nil.{0}
def sa2 :=
 PLift.up <|
 And.intro (@Bool.or_true) <|
 And.intro (@Bool.false_or) <|
 And.intro (@Bool.true_or) <|
 And.intro (@Bool.or_false) <|
 And.intro (@Bool.and_true) <|
 And.intro (@Bool.true_and) <|
 And.intro (@Bool.and_false) <|
 And.intro (@Bool.false_and) <|
 And.intro (@Bool.not_true) <|
 And.intro (@Bool.not_false) <|
 And.intro (@List.length_map.{0,0}) <|
 And.intro (@List.nil_append.{0}) <|
 And.intro (@List.cons_append.{0}) <|
 And.intro (@List.length_cons.{0}) <|
 And.intro (@List.getElem?_cons_zero.{0}) <|
 And.intro (@List.getElem?_cons_succ.{0}) <|
 And.intro (@cond_true.{1}) <|
 And.intro (@cond_false.{1}) <|
 And.intro (@Bool.cond_false_right) <|
 And.intro (@Bool.cond_true_right) <|
 And.intro (@Bool.cond_true_left) <|
 And.intro (@Bool.cond_false_left) <|
 And.intro (@List.map_cons.{0,0}) <|
 And.intro (@List.map_nil.{0,0}) <|
 And.intro (@List.append_nil.{0}) <|
 And.intro (@List.zip_cons_cons.{0,0}) <|
 And.intro (@beq_self_eq_true.{0}) <|
 And.intro (@Option.bind_some.{0,0}) <|
 And.intro (@List.append_eq.{0}) <|
 @List.forall_mem_cons.{0}
def sa3 :=
 PLift.up <|
 And.intro (@List.not_mem_nil.{0}) <|
 And.intro (@Go.Abs.UU) <|
 And.intro (@Go.Abs.WL) <|
 And.intro (@Go.Abs.UV) <|
 And.intro (@beq_true) <|
 And.intro (@beq_false) <|
 And.intro (@Bool.false_eq_true) <|
 And.intro (@true_or) <|
 And.intro (@or_true) <|
 And.intro (@Go.Abs.UR) <|
 And.intro (@Go.Abs.UT) <|
 And.intro (@Go.Abs.bH) <|
 And.intro (@Go.Abs.jO) <|
 And.intro (@Go.Abs.En) <|
 And.intro (@Go.Abs.Ba) <|
 And.intro (@Go.Abs.Eo) <|
 And.intro (@Go.Abs.Ii) <|
 And.intro (@Go.Abs.kW) <|
 And.intro (@false_imp_iff) <|
 And.intro (@List.take_zero.{0}) <|
 And.intro (@List.take_succ_cons.{0}) <|
 And.intro (@List.take_nil.{0}) <|
 And.intro (@List.drop_succ_cons.{0}) <|
 And.intro (@List.drop_nil.{0}) <|
 And.intro (@List.set_cons_zero.{0}) <|
 And.intro (@List.set_cons_succ.{0}) <|
 And.intro (@List.length_append.{0}) <|
 And.intro (@List.map_append.{0,0}) <|
 And.intro (@Bool.not_eq_true') <|
 And.intro (@Bool.not_eq_false') <|
 @Nat.le_refl
def sa4 :=
 PLift.up <|
 And.intro (@Nat.zero_add) <|
 And.intro (@Nat.add_zero) <|
 And.intro (@Option.toList_some.{0}) <|
 And.intro (@Option.toList_none.{0}) <|
 And.intro (@Option.map_some.{0,0}) <|
 And.intro (@Option.map_none.{0,0}) <|
 And.intro (@Int.toNat_natCast) <|
 And.intro (@Int.toNat_zero) <|
 And.intro (@Nat.sub_zero) <|
 And.intro (@List.drop_zero.{0}) <|
 And.intro (@Go.Abs.KC) <|
 And.intro (@Go.Abs.AC) <|
 And.intro (@Go.Abs.H6) <|
 And.intro (@Go.Abs.H7) <|
 And.intro (@Go.Abs.AL) <|
 And.intro (@Go.Abs.zn) <|
 And.intro (@Go.Abs.zo) <|
 And.intro (@Go.Abs.zi) <|
 @List.getElem?_toArray.{0}
def sb0 :=
 PLift.up <|
 And.intro (@Go.Abs.vC.eq_def) <|
 And.intro (@Go.Abs.zf.eq_def) <|
 And.intro (@Go.Abs.OH.eq_def) <|
 And.intro (@Go.Abs.jT.eq_def) <|
 And.intro (@Go.Abs.AO.eq_def) <|
 And.intro (@Go.Abs.uh.eq_def) <|
 And.intro (@Go.Abs.jA.eq_def) <|
 And.intro (@Go.Abs.FC.eq_def) <|
 And.intro (@Go.Abs.JZ.eq_def) <|
 And.intro (@Go.Abs.uu.eq_def) <|
 And.intro (@Go.Abs.lI.eq_def) <|
 And.intro (@Go.Abs.dW.eq_def) <|
 And.intro (@Go.Abs.jq.eq_1) <|
 And.intro (@Go.Abs.jq.eq_2) <|
 And.intro (@Go.Abs.V.sv.eq_1) <|
 And.intro (@Go.Abs.V.sv.eq_2) <|
 And.intro (@Go.Abs.V.sc.eq_1) <|
 And.intro (@Go.Abs.V.sc.eq_2) <|
 And.intro (@Go.Abs.V.fit.eq_def) <|
 And.intro (@Go.Abs.V.vc.eq_def) <|
 And.intro (@Go.Abs.V.one.eq_def) <|
 And.intro (@Go.Abs.V.sub.eq_def) <|
 And.intro (@Go.Abs.Ar.eq_def) <|
 And.intro (@Go.Abs.mF.eq_def) <|
 And.intro (@Go.Abs.yL.eq_def) <|
 And.intro (@Go.Abs.uM.eq_def) <|
 And.intro (@Go.Abs.Uw.eq_def) <|
 And.intro (@Go.Abs.bM.eq_def) <|
 And.intro (@Go.Abs.Wx.eq_def) <|
 And.intro (@Go.Abs.xN.eq_def) <|
 And.intro (@Go.Abs.Ry.eq_def) <|
 And.intro (@Go.Abs.uU.eq_1) <|
 And.intro (@Go.Abs.uU.eq_2) <|
 @Go.Abs.yK.eq_def
def sb1 :=
 PLift.up <|
 And.intro (@Go.Abs.Oo.eq_def) <|
 And.intro (@Go.Abs.Ot.eq_def) <|
 And.intro (@Go.Abs.Fq.eq_def) <|
 And.intro (@Go.Abs.Au.eq_def) <|
 And.intro (@Go.Abs.yR.eq_def) <|
 And.intro (@Go.Abs.Ox.eq_def) <|
 And.intro (@Go.Abs.mG.eq_def) <|
 And.intro (@Go.Abs.yM.eq_def) <|
 And.intro (@Go.Abs.yO.eq_def) <|
 And.intro (@Go.Abs.K.isSlice.eq_def) <|
 And.intro (@Go.Abs.K.isMap.eq_def) <|
 And.intro (@Go.Abs.TI.agg.eq_def) <|
 And.intro (@Go.Abs.iR.eq_1) <|
 And.intro (@Go.Abs.iR.eq_2) <|
 And.intro (@Go.Abs.ut.eq_def) <|
 And.intro (@Go.Abs.K.keyOk.eq_def) <|
 And.intro (@Go.Abs.V.dats.eq_1) <|
 And.intro (@Go.Abs.V.dats.eq_2) <|
 And.intro (@Go.Abs.V.dat.eq_1) <|
 And.intro (@Go.Abs.V.dat.eq_2) <|
 And.intro (@Go.Abs.V.dat.eq_3) <|
 And.intro (@Go.Abs.V.dat.eq_4) <|
 And.intro (@Go.Abs.V.dat.eq_5) <|
 And.intro (@Go.Abs.V.dat.eq_6) <|
 And.intro (@Go.Abs.V.dat.eq_7) <|
 And.intro (@Go.Abs.V.dat.eq_8) <|
 And.intro (@Go.Abs.V.dat.eq_9) <|
 And.intro (@Go.Abs.V.dat.eq_10) <|
 And.intro (@Go.Abs.V.drop.eq_1) <|
 @Go.Abs.V.drop.eq_2
def sb2 :=
 PLift.up <|
 And.intro (@Go.Abs.V.drop.eq_3) <|
 And.intro (@Go.Abs.V.drop.eq_4) <|
 And.intro (@Go.Abs.V.drop.eq_5) <|
 And.intro (@Go.Abs.V.drop.eq_6) <|
 And.intro (@Go.Abs.V.drop.eq_7) <|
 And.intro (@Go.Abs.V.drop.eq_8) <|
 And.intro (@Go.Abs.V.drop.eq_9) <|
 And.intro (@Go.Abs.V.drop.eq_10) <|
 And.intro (@Go.Abs.V.drop.eq_11) <|
 And.intro (@Go.Abs.V.drops.eq_1) <|
 And.intro (@Go.Abs.V.drops.eq_2) <|
 And.intro (@Go.Abs.mM.eq_1) <|
 And.intro (@Go.Abs.mM.eq_2) <|
 And.intro (@Go.Abs.yQ.eq_1) <|
 And.intro (@Go.Abs.yQ.eq_2) <|
 And.intro (@Go.Abs.bP.eq_def) <|
 And.intro (@Go.Abs.bC.eq_1) <|
 And.intro (@Go.Abs.bC.eq_2) <|
 And.intro (@Go.Abs.yY.eq_def) <|
 And.intro (@Go.Abs.nI.eq_def) <|
 And.intro (@Go.Abs.iQ.eq_def) <|
 And.intro (@Go.Abs.uZ.eq_def) <|
 And.intro (@Nat.lt_irrefl) <|
 And.intro (@Go.Abs.OW) <|
 And.intro (@Go.Abs.RU) <|
 And.intro (@Go.Abs.RV) <|
 And.intro (@Go.Abs.OX) <|
 And.intro (@Go.Abs.UX) <|
 And.intro (@Go.Abs.OY) <|
 And.intro (@Go.Abs.UY) <|
 And.intro (@Go.Abs.OZ) <|
 And.intro (@Go.Abs.UZ) <|
 And.intro (@Go.Abs.O0) <|
 And.intro (@Go.Abs.O1) <|
 And.intro (@Go.Abs.U0) <|
 And.intro (@Go.Abs.U1) <|
 And.intro (@Go.Abs.U2) <|
 And.intro (@Go.Abs.RX) <|
 And.intro (@Go.Abs.RY) <|
 And.intro (@Go.Abs.KJ) <|
 And.intro (@Go.Abs.O3) <|
 And.intro (@Go.Abs.KL) <|
 And.intro (@Go.Abs.kT.eq_def) <|
 And.intro (@Go.Abs.Wy.eq_def) <|
 And.intro (@Go.Abs.dQ.eq_1) <|
 And.intro (@Go.Abs.dQ.eq_2) <|
 And.intro (@Go.Abs.J7.eq_def) <|
 And.intro (@Go.Abs.gd.eq_def) <|
 And.intro (@Go.Abs.yZ.eq_1) <|
 And.intro (@Go.Abs.yZ.eq_2) <|
 And.intro (@Go.Abs.yZ.eq_3) <|
 @Go.Abs.yZ.eq_4
def sb3 :=
 PLift.up <|
 And.intro (@Go.Abs.yZ.eq_5) <|
 And.intro (@Go.Abs.yZ.eq_6) <|
 And.intro (@Go.Abs.xR.eq_def) <|
 And.intro (@Go.Abs.QL.eq_def) <|
 And.intro (@Go.Abs.uj.eq_def) <|
 And.intro (@Go.Abs.UK.eq_def) <|
 And.intro (@Go.Abs.jb.eq_1) <|
 And.intro (@Go.Abs.jb.eq_2) <|
 And.intro (@Go.Abs.zh.eq_def) <|
 And.intro (@Go.Abs.vw.eq_def) <|
 And.intro (@Go.Abs.jU.eq_1) <|
 @Go.Abs.jU.eq_2
section
variable {e:E} {n:Nat} {f:Fr} {h:H} {Q:XE→Fr→H→Prop}
def xU (id:Nat) (L:(Nat→V)→LoopState→Option Code→O) (S:Option Code→H→(Nat→Bool)→Prop) (xe:XE) (f2:Fr) (h2:H):Prop :=
 match xe.jump with
 | some j=>f2.k id=false∧∃t st,h2[id]? =some (L t st none)∧S j (h2.set id (L t (if j.isNone then .ready else .done) j)) f2.k
 | none=>False
def QM (e:E) (n l id:Nat) (body:Code) (L:(Nat→V)→LoopState→Option Code→O) (S:Option Code→H→(Nat→Bool)→Prop) (f1:Fr) (h1:H):Prop :=
 f1.k id=false∧∃t,h1[id]? =some (L t .ready none)∧awp e n (some l) body (xU id L S) f1 (h1.set id (L t .busy none))
def U3 (id:Nat) (L:(Nat→V)→LoopState→Option Code→O) (Q:XE→Fr→H→Prop) (f1:Fr) (ae:AEnd) (h2:H) (p:Nat→Bool):Prop :=
 (∀i∈f1.d,p i=false)∧match ae with
  | .ret _=>p id=false∧∃t st c,st≠ .busy∧h2[id]? =some (L t st c)∧OI Q c (f1.drop p) (h2.set id (L t .exhausted c))
  | .pan v=>Q (.pan v) (f1.drop p) h2
theorem Io {g : Operand} {ps : Array Tmp} {asg body : Code} {q : FuncId} {first captured : List V} (hsc : (f.ev e g).sc) (hg : (f.ev e g).sv = .fn (.func q) first captured) (hen : ai e.P q = true)
 (hps:(ps.toList.all fun p=>decide (p<n))=true)
 (main:∀L:(Nat→V)→LoopState→Option Code→O,(∀p t st c,(L t st c).drop p=L (fun i=>(t i).drop p) st c) →
  (∀h' vs S t,h'[h.length+1]? =some (L t .ready none)→vs.length=ps.size →
   (∀lb,awp e n (some lb) asg (XE.seq (QM e n lb (h.length+1) body L S) (fun _ _ _=>False)) (iR {t:=t} ps.toList vs) h')→Xd e (h.length+1) vs h' S) →
  ah e q (first++[.yd (h.length+1)]++captured) (h++[.misc .dfd]++[L f.t .ready none]) (U3 (h.length+1) L Q {f with d:=h.length::f.d})) :
 awp e n none (.rangeFunc g ps asg body) Q f h:=by
 refine qB hsc hg hen ?_;refine ah.mono (main (fun t st c=> .loop t n ps asg body st c) (fun _ _ _ _=>rfl) ?_) ?_
 ·intro h' vs S t hc hsz hw;refine ⟨t,n,ps,asg,body,none,hc,hsz,hps,fun lb => gy ?_ (hw lb)⟩;intro xe f1 h1 hq;cases xe <;> try exact hq
  obtain⟨h1k,t1,hc1,hb⟩:=hq;unfold XE.seq FK;dsimp only;rw[hc1];refine⟨h1k,gy ?_ hb⟩;intro xe f2 h2 hq2;unfold xU at hq2;unfold KH;split at hq2
  ·rename_i j hj;obtain⟨h2k,t2,st2,hc2,hS⟩:=hq2;simp only[hj,hc2];exact⟨h2k,hS⟩
  ·exact hq2.elim
 ·rintro ae h' p ⟨hd,hr⟩;refine⟨hd,?_⟩;cases ae with
  | pan v=>exact hr
  | ret v=>obtain⟨hp,t,st,c,hst,hc,hQ⟩:=hr;dsimp only;rw[hc];exact⟨⟨hp,hst⟩,hQ⟩
end
section
variable {e:E} {g:FuncId} {args:List V} {h:H} {R:AEnd→H→(Nat→Bool)→Prop}
def EvR (e:E) (g:FuncId) (args:List V) (S:V→Prop):Prop :=
 ∀ok w vs,HSim e ok (fun _=>none) [] w→VList (cx ok (fun _=>none) w) args vs →
  Calls e.P g vs.toArray w fun en w'=>∃x r,S r∧en= .returned x∧WExt w w'∧VRel (cx ok (fun _=>none) w') r x
theorem EvR.of_calls {S:V→Prop} (hv:ah e g args [] fun ae h _=>match ae with | .ret v=>∃r,S r∧az e h v r | .pan _=>False):EvR e g args S:=by
 intro ok w vs hs hl;refine(hv ok _ w vs hs hl).mono ?_;rintro en w' ⟨p,pl',h',ae,hs',k,he,hr⟩;cases ae with
 | pan v=>exact hr.elim
 | ret v =>
  obtain⟨r,hS,hr⟩:=hr;cases en with
  | returned x=>exact⟨x,r,hS,rfl,⟨k.os,k.tape,k.output,k.size,fun b hb=>k.same b hb (fun i hi=>by cases hi)⟩,hr ok pl' w' x hs' he⟩
  | panicked ch=>exact he.elim
  | outgrown=>exact he.elim
theorem EvR.run {S : V → Prop} (hv : EvR e g args S) (hd : V.dats args = true) {ok : Nat → Prop} {pl : Nat → Option Nat} {h : H} {w : World} {vs : List Value}
 (hs:HSim e ok pl h w) (hl:VList (cx ok pl w) args vs):Calls e.P g vs.toArray w fun en w'=>∃x r,S r∧en= .returned x∧WExt w w'∧VRel (cx ok pl w') r x :=
 (hv _ w vs hs.toData (VList.mono (nX ok pl w) _ _ (VList.todata _ _ hd hl))).mono fun en w' ⟨x,r,h0,h1,h2,h3⟩ =>
  ⟨x,r,h0,h1,h2,VRel.mono (xO ok pl w') _ _ h3⟩
theorem lK {S:V→Prop} (hv:EvR e g args S) (hd:V.dats args=true) (hr:∀r,S r→R (.ret r) h (fun _=>false)):ah e g args h R :=
 fun ok pl w vs hs hl=>(hv.run hd hs hl).mono fun en w' ⟨x,r,h0,h1,h2,h3⟩=>⟨fun _=>false,pl,h,.ret r,hs.wext h2,h2.keeps hs,by rw[h1];exact h3,hr r h0⟩
def oU (p : Nat → Bool) : Nat → H → H
 | _,[]=>[]
 | i,o::h=>(if p i=true then o.drop (fun j=> !p j)else .dead)::oU p (i+1) h
def iO (p : Nat → Bool) : Nat → H → H
 | _,[]=>[]
 | i,o::h=>(if p i=true then .dead else o.drop p)::iO p (i+1) h
theorem oh {p : Nat → Bool} : ∀ {h : H} {k i : Nat},(oU p k h)[i]? = (h[i]?).map fun o => if p (k + i) = true then o.drop (fun j => !p j) else .dead
 | [],k,i=>by simp[oU]
 | o::h,k,0=>by simp[oU]
 | o::h,k,i+1=>by rw[oU,List.getElem?_cons_succ,oh,List.getElem?_cons_succ,show k+1+i=k+(i+1) by omega]
theorem vG {p : Nat → Bool} : ∀ {h : H} {k i : Nat},(iO p k h)[i]? = (h[i]?).map fun o => if p (k + i) = true then .dead else o.drop p
 | [],k,i=>by simp[iO]
 | o::h,k,0=>by simp[iO]
 | o::h,k,i+1=>by rw[iO,List.getElem?_cons_succ,vG,List.getElem?_cons_succ,show k+1+i=k+(i+1) by omega]
theorem Be {o:O} {p:Nat→Bool} (h:o= .dead∨o= .cells []):o.drop p= .dead∨o.drop p= .cells []:=by
 rcases h with rfl | rfl
 ·exact .inl rfl
 ·exact .inr (by simp[O.drop,V.drops])
theorem oJ (p:Nat→Bool) (ok:Nat→Prop) (pl:Nat→Option Nat) (w:World) :
 CExt (fun j=> !p j) (cx ok pl w) (cx (fun b=>ok b∧∀i,p i=false→pl i≠some b) (fun i=>if p i=true then pl i else none) w) :=
 ⟨fun b hb hok=>⟨⟨⟨hok.1,fun i _=>hok.2 i⟩,fun i hi=>by
  try dsimp only at hi
  split at hi
  ·exact hok.2 i hi
  ·cases hi⟩,rfl⟩,
  fun i b hp hi=>by
   have hp:p i=true:=by simpa using hp
   simp only[cx,hp,if_true];exact hi,
  fun b arr el fz hb=>⟨arr,fz,hb,rfl⟩⟩
theorem HSim.sub {ok:Nat→Prop} {pl:Nat→Option Nat} {w:World} (hs:HSim e ok pl h w) (p:Nat→Bool) :
 HSim e (fun b=>ok b∧∀i,p i=false→pl i≠some b) (fun i=>if p i=true then pl i else none) (oU p 0 h) w where
 fresh b hb:=⟨hs.fresh b hb,fun i _ hi=>by have:=hs.lt i b hi;omega⟩
 lt i b hi:=by
  try dsimp only at hi
  split at hi
  ·exact hs.lt i b hi
  ·cases hi
 okl i b hi:=by
  try dsimp only at hi
  split at hi
  ·rename_i hp;refine⟨hs.okl i b hi,fun j hj hj2=> ?_⟩;have:=hs.inj i j b hi hj2;subst this;rw[hp]at hj;cases hj
  ·cases hi
 inj i j b hi hj:=by
  try dsimp only at hi
  split at hi
  ·try dsimp only at hj
   split at hj
   ·exact hs.inj i j b hi hj
   ·cases hj
  ·cases hi
 obj i b hi:=by
  try dsimp only at hi
  split at hi
  ·rename_i hp;obtain⟨o,ho,hat⟩:=hs.obj i b hi;exact⟨o.drop (fun j=> !p j),by rw[oh,ho];simp[hp],uJ (oJ p ok pl w) rfl hat⟩
  ·cases hi
 bare i o ho hi:=by
  rw[oh]at ho;cases hh:h[i]? with
  | none=>rw[hh]at ho;cases ho
  | some o1 =>
   rw[hh]at ho;simp only[zrw,Nat.zero_add,Option.some.injEq]at ho;subst ho;split
   ·rename_i hp;rw[if_pos hp]at hi;exact Be (hs.bare i o1 hh hi)
   ·exact .inl rfl
 glob g v hg:=(hs.glob g v hg).glob_next (oJ p ok pl w)
 exa g cs hg:=(hs.exa g cs hg).next (oJ p ok pl w)
theorem vH {p:Nat→Bool} {ok:Nat→Prop} {pl:Nat→Option Nat} {w w':World} (hs:HSim e ok pl h w) (x:WExt w w') :
 HSim e ok (fun i=>if p i=true then none else pl i) (iO p 0 h) w'∧Keeps p pl w (fun i=>if p i=true then none else pl i) w':=by
 have k:Keeps p pl w (fun i=>if p i=true then none else pl i) w' :=
  ⟨x.os,x.tape,x.output,x.size,fun b hb _=>x.same b hb,fun i b hi=>by
   try dsimp only at hi
   split at hi
   ·cases hi
   ·exact .inl ⟨i,hi⟩,
   fun i b hp hi=>by rw[if_neg (by simp[hp])];exact hi,
   fun b arr el fz hb=>⟨arr,fz,(x.same b (aP hb)).trans hb,rfl⟩⟩
 refine⟨hs.next k (fun i b hi=> ?_) (fun i j b hi hj=> ?_) (fun i b hi=> ?_) (fun i o ho hi=> ?_),k⟩
 ·try dsimp only at hi
  try dsimp only at hi
  split at hi
  ·cases hi
  ·exact Nat.lt_of_lt_of_le (hs.lt i b hi) x.size
 ·try dsimp only at hi hj
  try dsimp only at hi
  split at hi
  ·cases hi
  ·try dsimp only at hj
   split at hj
   ·cases hj
   ·exact hs.inj i j b hi hj
 ·try dsimp only at hi
  try dsimp only at hi
  split at hi
  ·cases hi
  ·rename_i hp;refine .inl ⟨hi,x.same b (hs.lt i b hi),?_⟩;rw[vG];simp[hp]
 ·rw[vG]at ho;cases hh:h[i]? with
  | none=>rw[hh]at ho;cases ho
  | some o1 =>
   rw[hh]at ho;simp only[zrw,Nat.zero_add,Option.some.injEq]at ho;subst ho;split
   ·exact .inl rfl
   ·rename_i hp;rw[if_neg hp]at hi;exact Be (hs.bare i o1 hh hi)
theorem Bf {args' : List V} {S : V → Prop} (p : Nat → Bool) (hv : EvR e g args' S) (hd : V.drops (fun j => !p j) args = args) (hr : aj e (oU p 0 h) args args')
 (hk:∀r,S r→R (.ret r) (iO p 0 h) p):ah e g args h R:=by
 intro ok pl w vs hs hl;have hl2:=VList.mdrop (oJ p ok pl w) _ _ hl;rw[hd]at hl2;have hs2:=hs.sub p;refine(hv _ w vs hs2.lend (hr _ _ w vs hs2 hl2)).mono ?_;rintro en w' ⟨x,r,h0,h1,h2,h3⟩;obtain⟨k1,k2⟩:=vH (p:=p) hs h2;refine⟨p,_,_,.ret r,k1,k2,?_,hk r h0⟩;rw[h1];refine VRel.mono (c:=cx (fun b=>ok b∧∀i,p i=false→pl i≠some b) (fun _=>none) w') ?_ _ _ h3;refine⟨fun b hb hok=>⟨⟨hok.1.1,fun i hi=> ?_⟩,rfl⟩,fun i b _ hi=>(by cases hi),fun b arr el fz hb=>⟨arr,fz,hb,rfl⟩⟩
 try dsimp only at hi
 split at hi
 ·cases hi
 ·rename_i hp;exact hok.1.2 i (by simpa using hp) hi
theorem zq {n : Nat} {r : Option Nat} {c : Code} {Q : XE → Fr → H → Prop} {f : Fr} (p : Nat → Bool) (t : Nat → V) (ht : ∀ i,t i = (f.t i).drop p ∨ ((f.t i).drop (fun j => !p j) = f.t i ∧ az e (oU p 0 h) (f.t i) (t i)))
 (hd:∀i∈f.d,p i=false) (hw:awp e n r c Q {f with t:=t,k:=fun i=>f.k i||p i} (iO p 0 h)):awp e n r c Q f h:=by
 intro ok pl0 w0 pl w a s;obtain⟨k1,k2⟩:=vH (p:=p) s.hs (WExt.refl w);refine hw ok pl0 w0 (fun i=>if p i=true then none else pl i) w a ⟨k1,s.kp.trans k2,s.size,fun i=> ?_,?_⟩
 ·rcases ht i with h1 | ⟨h1,h2⟩
  ·show VRel _ (t i) _;rw[h1];exact VRel.mdrop k2.cext _ _ (s.val i)
  ·have h3 := VRel.mdrop (oJ p ok pl w) _ _ (s.val i);rw [h1] at h3;have h4 := h2 _ _ w _ (s.hs.sub p) h3;refine VRel.mono (c := cx (fun b => ok b ∧ ∀ i,p i = false → pl i ≠ some b) (fun _ => none) w) ?_ _ _ h4;refine ⟨fun b hb hok => ⟨⟨hok.1.1,fun i hi => ?_⟩,rfl⟩,fun i b _ hi => (by cases hi),fun b arr el fz hb => ⟨arr,fz,hb,rfl⟩⟩
   try dsimp only at hi
   split at hi
   ·cases hi
   ·rename_i hp;exact hok.1.2 i (by simpa using hp) hi
 ·have:∀(is:List Nat) (l:List Deferred),(∀i∈is,p i=false)→Hr (cx ok pl w) e.tl is l→Hr (cx ok (fun i=>if p i=true then none else pl i) w) e.tl is l:=by
   intro is
   induction is with
   | nil=>intro l _ hl;exact hl
   | cons i is ih=>rintro l hi ⟨b,rest,h1,h2,h3⟩;exact⟨b,rest,h1,k2.keep _ _ (hi i (by simp)) h2,ih rest (fun j hj=>hi j (by simp[hj])) h3⟩
  exact this f.d _ hd s.dfr
end
section
variable {e:E} {h:H}
end
section
variable {e:E} {h:H}
def GV (e:E) (p:Nat→Bool) (h:H) (v v':V):Prop:=v'=v.drop p∨(v.drop (fun j=> !p j)=v∧az e (oU p 0 h) v v')
def GVs (e : E) (p : Nat → Bool) (h : H) : List V → List V → Prop
 | [],[]=>True
 | v::vs,v'::vs'=>GV e p h v v'∧GVs e p h vs vs'
 | _,_=>False
theorem GV.rel {p:Nat→Bool} {ok:Nat→Prop} {pl:Nat→Option Nat} {w:World} (hs:HSim e ok pl h w) {v v':V} {x:Value} (hg:GV e p h v v') (hx:VRel (cx ok pl w) v x) :
 VRel (cx ok (fun i=>if p i=true then none else pl i) w) v' x:=by
 obtain⟨k1,k2⟩:=vH (p:=p) hs (WExt.refl w);rcases hg with h1 | ⟨h1,h2⟩
 ·rw[h1];exact VRel.mdrop k2.cext _ _ hx
 ·have h3 := VRel.mdrop (oJ p ok pl w) _ _ hx;rw [h1] at h3;have h4 := h2 _ _ w _ (hs.sub p) h3;refine VRel.mono (c := cx (fun b => ok b ∧ ∀ i,p i = false → pl i ≠ some b) (fun _ => none) w) ?_ _ _ h4;refine ⟨fun b hb hok => ⟨⟨hok.1.1,fun i hi => ?_⟩,rfl⟩,fun i b _ hi => (by cases hi),fun b arr el fz hb => ⟨arr,fz,hb,rfl⟩⟩
  try dsimp only at hi
  split at hi
  ·cases hi
  ·rename_i hp;exact hok.1.2 i (by simpa using hp) hi
theorem GVs.rel {p:Nat→Bool} {ok:Nat→Prop} {pl:Nat→Option Nat} {w:World} (hs:HSim e ok pl h w):∀ {vs vs':List V} {xs:List Value},GVs e p h vs vs'→VList (cx ok pl w) vs xs →
 VList (cx ok (fun i=>if p i=true then none else pl i) w) vs' xs
 | [],[],xs,_,hx=>by simp only[VList]at hx ⊢;exact hx
 | v::vs,v'::vs',xs,hg,hx=>by simp only[VList]at hx ⊢;obtain⟨y,ys,h1,h2,h3⟩:=hx;exact⟨y,ys,h1,hg.1.rel hs h2,GVs.rel hs hg.2 h3⟩
 | [],v'::vs',_,hg,_=>hg.elim
 | v::vs,[],_,hg,_=>hg.elim
theorem GVs.length {p : Nat → Bool} : ∀ {vs vs' : List V},GVs e p h vs vs' → vs'.length = vs.length
 | [],[],_=>rfl
 | v::vs,v'::vs',hg=>by simp[GVs.length hg.2]
 | [],v'::vs',hg=>hg.elim
 | v::vs,[],hg=>hg.elim
end
section
variable {e:E} {h:H}
end
section
variable {H:Type} {enc:TypeId×Value→H} {P:Program}
end
section
variable {e:E} {n:Nat} {o:Oper} {f:Fr} {h:H} {Kn:Fr→H→Prop} {Q:XE→Fr→H→Prop}
def WB (e:E) (h:H) (t:TypeId) (v:V) (name:String) (g:FuncId) (v':V):Prop :=
 ∀ok pl w x,HSim e ok pl h w→VRel (cx ok pl w) v x→∃y,(Go.method (e.P.types.size+Made.depth) t x name).run e.P w= .ok (g,y) w∧VRel (cx ok pl w) v' y
theorem dB {x : Operand} {name : String} {args : Array Operand} {ts : Array TypeId} (hop : o.op = .call { callee := .invoke x name,args := args,argTypes := ts })
 {t:TypeId} {v v':V} {g:FuncId} (hx:(f.ev e x).sv= .iface t v) (hsc:dW (f.ev e) x args) (hm:WB e h t v name g v') (hen:ai e.P g=true)
 (hc:ah e g (v'::args.toList.map fun y=>(f.ev e y).sv) h (H9 o.dst Kn Q f)):∀r,Eff e n r o f h Kn Q:=by
 intro r ok pl0 w0 pl w a s hd;have hr:=s.evs (o:=o);have h1:=(hr x (by simp[hop,Op.operands,Call.operands])).sv hsc.1;rw[hx]at h1;simp only[VRel]at h1;obtain⟨ev,h2,h3⟩:=h1;obtain⟨y,hrun,hy⟩:=hm ok pl w ev s.hs h3;have h5:=(cO (c:=cx ok pl w) (ρ:=f.ev e) (ev:=a.eval) args.toList fun z hz=>hr z (by simp[hop,Op.operands,Call.operands];exact .inr (Array.mem_toList_iff.1 hz))).sv hsc.2;rw[List.map_map]at h5;have hexec:(execOp a.eval o).run e.P w= .ok (.enter g (y::args.toList.map a.eval).toArray) w:=by
  have e1:execOp a.eval o=(do let d ←resolve a.eval {callee:= .invoke x name,args:=args,argTypes:=ts} o.type;invoke d.target d.args):=by simp[execOp,hop]
  rw[e1];have h6:(resolve a.eval {callee:= .invoke x name,args:=args,argTypes:=ts} o.type).run e.P w= .ok {target:= .fn (.method name) #[],args:=#[.iface t ev]++args.map a.eval} w:=by
   simp[resolve,h2]
  simp only[Sem.run_bind,h6,Result.andThen,invoke];have h7:(#[Value.iface t ev]++args.map a.eval)[0]? =some (Value.iface t ev):=by rw[Array.getElem?_append_left (by simp)];rfl
  simp only[h7];unfold callMethod;simp only[Sem.run_bind,run_program,Result.andThen,hrun];rw[oI hen]
  congr 2
  apply Array.ext';simp only[List.size_toArray,Array.size_append,Array.size_map,Array.toList_append,Array.toList_extract,Array.toList_map,zrt,List.length_nil];simp[List.extract];rw[zqh (by simp)]
 refine⟨fun g _=>iy r g,?_⟩;rw[dS,Oper.semAt_eq r a.eval o (fun c=>by rw[hop];exact fun h=>by cases h),hexec];refine⟨fun hd'=>(by rw[jk]at hd';cases hd'),cZ ((hc ok pl w (y::args.toList.map a.eval) s.hs (by simp only[VList];exact⟨_,_,rfl,hy,h5⟩)).mono ?_)⟩;rintro en w' ⟨p,pl',h',ae,hs',k,hend,hk⟩;cases ae with
 | ret v =>
  cases en with
  | returned x=>exact⟨pl',_,h',(s.next hs' k hk.1).put hd hend,hk.2⟩
  | panicked ch=>exact hend.elim
  | outgrown=>exact hend.elim
 | pan v =>
  cases en with
  | returned x=>exact hend.elim
  | panicked ch=>exact⟨pl',_,h',.pan v,s.next hs' k hk.1,hend,hk.2⟩
  | outgrown=>exact hend.elim
end
def OLe (o o':O):Prop:=(∀c b,OAt c b o→OAt c b o')∧((o= .dead∨o= .cells [])→(o'= .dead∨o'= .cells []))
theorem OLe.refl (o:O):OLe o o:=⟨fun _ _ h=>h,fun h=>h⟩
theorem OLe.cells {cs cs':List V} (hl:cs'.length≤cs.length) (hv:gU (cs.take cs'.length) cs'):OLe (.cells cs) (.cells cs'):=by
 refine⟨fun c b ho=> ?_,fun h=> ?_⟩
 ·obtain ⟨arr,el,fz,h1,h2,h3,h4⟩ := ho;refine ⟨arr,el,fz,h1,h2,by omega,?_⟩;have := hv c _ (h4.take cs'.length)
  rwa [List.take_take,Nat.min_eq_left hl]at this
 ·rcases h with h | h
  ·cases h
  ·cases h;exact .inr (by rw[List.length_eq_zero_iff.1 (Nat.le_zero.1 hl)])
theorem OLe.take (cs:List V) (m:Nat):OLe (.cells cs) (.cells (cs.take m)):=OLe.cells (by simp;omega) (by
 rw[zrl,show List.take (min m cs.length) cs=List.take m cs by
  rcases Nat.le_total m cs.length with h | h
  ·rw[Nat.min_eq_left h]
  ·rw[Nat.min_eq_right h,zqh (zrb _),zqh h]]
 exact gU.refl _)
theorem VLe.cap {id k off len cap cap':Nat} (hc:cap'≤cap):VLe (.ls id k off len cap) (.ls id k off len cap'):=fun c x h=>by simp only[VRel]at h ⊢;obtain⟨a,cp,h1,h2,h3⟩:=h;exact⟨a,cp,h1,by omega,h3⟩
theorem gJ {id k off:Nat}:VLe .nils (.ls id k off 0 0):=fun c x h=>by simp only[VRel]at h ⊢;exact⟨none,0,h,zrb _,zrb _,Nat.zero_le _,.inl rfl⟩
theorem VLe.any (v:V):VLe v .any:=fun c x h=>by simp only[VRel]
theorem gU.set {vs:List V} {i:Nat} {v v':V} (hi:vs[i]? =some v) (h:VLe v v'):gU vs (vs.set i v'):=by
 induction vs generalizing i with
 | nil=>simp at hi
 | cons u vs ih =>
  cases i with
  | zero=>simp only[List.getElem?_cons_zero,Option.some.injEq]at hi;subst hi;exact gU.cons h (gU.refl _)
  | succ i=>exact gU.cons (VLe.refl _) (ih (by simpa using hi))
def HLe (h h':H):Prop:=h'.length=h.length∧∀(i:Nat) (o':O),h'[i]? =some o'→∃o:O,h[i]? =some o∧OLe o o'
theorem HLe.refl (h:H):HLe h h:=⟨rfl,fun i o ho=>⟨o,ho,OLe.refl o⟩⟩
theorem HLe.trans {a b c:H} (h:HLe a b) (k:HLe b c):HLe a c:=⟨k.1.trans h.1,fun i o ho=>by
 obtain⟨o1,h1,h2⟩:=k.2 i o ho;obtain⟨o2,h3,h4⟩:=h.2 i o1 h1;exact⟨o2,h3,fun c b x=>h2.1 c b (h4.1 c b x),fun x=>h2.2 (h4.2 x)⟩⟩
theorem HLe.set {h:H} {i:Nat} {o o':O} (hi:h[i]? =some o) (hl:OLe o o'):HLe h (h.set i o'):=by
 have hlt:=(zqe hi).1;refine⟨zrn,fun j q hq=> ?_⟩;by_cases hj:i=j
 ·subst hj;rw[zqt hlt]at hq;cases hq;exact⟨o,hi,hl⟩
 ·rw[zqn hj]at hq;exact⟨q,hq,OLe.refl q⟩
theorem HSim.le {e : E} {ok : Nat → Prop} {pl : Nat → Option Nat} {h h' : H} {w : World} (hs : HSim e ok pl h w) (k : HLe h h') : HSim e ok pl h' w where
 fresh:=hs.fresh
 lt:=hs.lt
 okl:=hs.okl
 inj:=hs.inj
 obj i b hi:=by
  obtain⟨o,h1,h2⟩:=hs.obj i b hi;have hlt:i<h'.length:=by have:=(zqe h1).1;rw[k.1];exact this
  obtain⟨o1,h3,h4⟩:=k.2 i _ (zqk hlt);rw[h1]at h3;cases h3;exact⟨_,zqk hlt,h4.1 _ _ h2⟩
 bare i o ho hp:=by
  obtain⟨o1,h3,h4⟩:=k.2 i o ho;exact h4.2 (hs.bare i o1 h3 hp)
 glob:=hs.glob
 exa:=hs.exa
structure FLe (f f' : Fr) : Prop where
 t:∀i,VLe (f.t i) (f'.t i)
 d:f'.d=f.d
 k:f'.k=f.k
theorem Bg {e:E} {n:Nat} {r:Option Nat} {c:Code} {Q:XE→Fr→H→Prop} {f f':Fr} {h h':H} (hf:FLe f f') (hh:HLe h h') (hw:awp e n r c Q f' h'):awp e n r c Q f h:=by intro ok pl0 w0 pl w a s;refine hw ok pl0 w0 pl w a ⟨s.hs.le hh,by rw[hf.k];exact s.kp,s.size,fun i=>hf.t i _ _ (s.val i),by rw[hf.d];exact s.dfr⟩
theorem vI {e:E} {n:Nat} {r:Option Nat} {c:Code} {Q:XE→Fr→H→Prop} {f:Fr} {h h':H} (hh:HLe h h') (hw:awp e n r c Q f h'):awp e n r c Q f h :=
 Bg ⟨fun _=>VLe.refl _,rfl,rfl⟩ hh hw
theorem rU {e:E} {g:FuncId} {args:List V} {h:H} {R:AEnd→H→(Nat→Bool)→Prop} (hc:ah e g args h fun ae h1 p=>∃h2,HLe h1 h2∧R ae h2 p):ah e g args h R :=
 fun ok pl w vs hs hv=>(hc ok pl w vs hs hv).mono fun en w' ⟨p,pl',h',ae,h1,h2,h3,h2',h4,h5⟩=>⟨p,pl',h2',ae,h1.le h4,h2,h3,h5⟩
theorem Bh {e:E} {g:FuncId} {args args':List V} {h h':H} {R:AEnd→H→(Nat→Bool)→Prop} (ha:gU args args') (hh:HLe h h') (hc:ah e g args' h' R):ah e g args h R :=
 fun ok pl w vs hs hv=>hc ok pl w vs (hs.le hh) (ha _ _ hv)
theorem O4 {e : E} {n : Nat} {r : Option Nat} {Q : XE → Fr → H → Prop} {f : Fr} {h : H} (hm : e.P.follows .mixedOrders = true) {x y z : Code} (M : Fr → H → Prop)
 (h1:vc e n r x (XE.seq (vc e n r y (fun xe f h=>xe= .normal∧M f h)) (fun xe f h=>xe= .normal∧False)) f h) (h2:∀f h,M f h→awp e n r z Q f h):awp e n r (.seq x (.seq y z)) Q f h:=by
 refine ag (gy ?_ (pI hm _ _ _ _ h1));intro xe f h hq;cases xe with
 | normal=>exact ag (gy (fun xe f h hq=>by
  obtain⟨rfl,hq⟩:=hq;exact h2 f h hq) (pI hm _ _ _ _ hq))
 | _=>exact absurd hq.2 id
theorem jI {e:E} {n:Nat} {r:Option Nat} {c:Code} {Q:XE→Fr→H→Prop} {f:Fr} {h:H} (hw:awp e n r c Q f (h++[.cells []])):awp e n r c Q f h:=by intro ok pl0 w0 pl w a s;exact hw ok pl0 w0 pl w a ⟨oH s.hs,s.kp,s.size,s.val,s.dfr⟩
theorem FLe.one {f:Fr} (i:Nat) {v:V} (h:VLe (f.t i) v):FLe f {f with t:=fun j=>if j=i then v else f.t j}:=by
 refine⟨fun j=> ?_,rfl,rfl⟩;show VLe (f.t j) (if j=i then v else f.t j);by_cases he:j=i
 ·rw[if_pos he,he];exact h
 ·rw[if_neg he];exact VLe.refl _
section
variable {e:E} {n:Nat} {o:Oper} {Kn:Fr→H→Prop} {Q:XE→Fr→H→Prop} {f:Fr} {h:H}
theorem xW {r : Option Nat} {t : TypeId} {x : Operand} (hop : o.op = .buildSlice t 1 #[(0,x)]) {q re : TI} (hq : ti e.P t = some q) {el : TypeId} (hk0 : q.kind = .slice el) (hre : ti e.P el = some re)
 (hz1:re.size=1) (hxc:(f.ev e x).sc) {kk:IntKind} {m:Int} (hx:(f.ev e x).sv= .int kk m)
 (hk:Kn (f.put o.dst (.ls h.length 1 0 1 1)) (h++[.cells [.int kk m]])):Eff e n r o f h Kn Q:=by
 refine aN ?_ (fun c=>by rw[hop];exact fun h=>by cases h);intro ok pl w ev hs hr;obtain⟨i,d,z,hT⟩:=aH hq;have hd:=hT.slice hk0;subst hd;obtain⟨ie,de,ze,hE⟩:=aH hre;have h1:=(hr x (by simp[hop,Op.operands])).sv hxc;rw[hx]at h1;simp only[VRel]at h1;obtain⟨res,hr1,hr2⟩:=yS (k:=1) [Value.int kk m] 0 ((Array.range (1*1)).map (ze.cells[·%ze.cells.size]!)) (by simp) (by simp[Value.cells]);have hres:res.toList=[.int kk m]:=by rw[hr2];simp[Value.cells]
 have hsz:res.size=1:=by rw[←Array.length_toList,hres];rfl
 have hrun:(execOp ev o).run e.P w= .ok (.value (.slice (some ⟨w.heap.size,0,none⟩) 1 1)) (w.alloc (.cells res el)):=by
  have h2:(Instr.buildSlice t 1 #[(0,ev x)]).run e.P w= .ok (.slice (some ⟨w.heap.size,0,none⟩) 1 1) (w.alloc (.cells res el)):=by
   unfold Instr.buildSlice;simp only[Sem.run_bind,hT.run_und,Result.andThen,hE.run_size];rw[hz1,if_neg (by decide),if_neg (by decide)];simp only[Sem.run_bind,hE.run_zero,Sem.run_pure,Result.andThen];have h3:Instr.fill (fun i=>some (i*1,1)) ((Array.range (1*1)).map (ze.cells[·%ze.cells.size]!)) [(0,ev x)]=some res:=by
    rw[h1];exact hr1
   simp only[h3];rfl
  have h4:execOp ev o=(do pure (Next.value (←Instr.buildSlice t 1 #[(0,ev x)]))):=by simp[execOp,hop]
  rw[h4];exact gz h2
 obtain⟨h1',h2'⟩:=lH hs (cs:=[.int kk m]) (arr:=res) (by simp[hsz]) (by rw[hres];simp[VList,VRel]) el (WExt.refl w);refine⟨fun _=>false,.ls h.length 1 0 1 1,_,_,_,.slice (some ⟨w.heap.size,0,none⟩) 1 1,.inl hrun,h1',h2',?_,fun _ _=>rfl,by simpa using hk⟩;simp only[VRel];exact⟨_,1,rfl,zrb _,zrb _,by decide,.inr ⟨w.heap.size,res,el,(0,0),by simp[cx,bG],rfl,World.alloc_heap_new w _,by omega⟩⟩
theorem O5 {r:Option Nat} {id:Nat} {rest:List Oper} (hg:o.guard=none) (hd:jA n o.dst=true) (he:Eff e n r o f h (og e n (o::rest).toArray Q rest) Q):awp e n r (.region id (o::rest).toArray false) Q f h :=
 fun ok pl0 w0 pl w a s=>wpIn_region_list (by
  show wpListIn (RF r) 0 e.P (o::rest).toArray (gW e n ok pl0 w0 Q) (o::rest) a w;have hgd:gd (o::rest).toArray f o=some true:=by unfold gd;rw[hg]
  have hw:=rO s.val hgd;unfold wpListIn;rw[if_pos hw];exact Oper.wpIn_mono (fun a' w' ⟨pl',f',h',s',hk⟩=>qA rest f' h' hk pl' w' a' s') (he ok pl0 w0 pl w a s hd))
end
end Go.Abs
namespace Go
def FN : List Item → Prop
 | .call ..::_=>False
 | _=>True
def Code.wpP (F:Fence) (n:Nat) (P:Program) (c:Code) (Q:Exit→Act→World→Prop) (QP:List PanicEntry→Act→World→Prop) (a:Act) (w:World):Prop :=
 ∀b k cs,b.roundOf=F.round→F.fn b.fn→F.room (cs.length+1+n) →
  (∃e a' w',Q e a' w'∧ArrivesIn (Machine.fenced P F) P (lone (b.atR a (.code c::k)) cs w) b k cs e a' w') ∨
  (∃chain a' w' todo,QP chain a' w'∧FN todo∧StepsIn (Machine.fenced P F) P (lone (b.atR a (.code c::k)) cs w) (lone {b.atR a' todo with mode:= .panicking chain} cs w'))
section
variable {F:Fence} {n:Nat} {P:Program} {Q:Exit→Act→World→Prop} {QP:List PanicEntry→Act→World→Prop} {a:Act} {w:World}
theorem Ew {c:Code} (h:c.wpIn F n P Q a w):c.wpP F n P Q QP a w:=fun b k cs h1 h2 h3=> .inl (h b k cs h1 h2 h3)
theorem RZ {x y:Code} (h:x.wpP F n P (Exit.then (y.wpP F n P Q QP) Q) QP a w):(Code.seq x y).wpP F n P Q QP a w:=by
 intro b k cs hro hb hr;have i0:(lone (b.atR a (.code (.seq x y)::k)) cs w).fenced P F:=fenced_calm hb hr rfl;rcases h b (.code y::k) cs hro hb hr with⟨e,a1,w1,hq,harr⟩ | ⟨ch,a1,w1,td,hq,hn,hs⟩
 ·cases e
  case normal =>
   rcases hq b k cs hro hb hr with⟨e2,a2,w2,hq2,harr2⟩ | ⟨ch,a2,w2,td,hq2,hn,hs⟩
   ·exact .inl ⟨e2,a2,w2,hq2,.of_steps (.head i0 stepR_seq harr) harr2⟩
   ·exact .inr ⟨ch,a2,w2,td,hq2,hn,(StepsIn.head i0 stepR_seq harr).trans hs⟩
  all_goals exact .inl ⟨_,a1,w1,hq,.of_steps (.one i0 stepR_seq) (.pass (x:= .code y) rfl (fun _ _=> .inl (by simp)) harr)⟩
 ·exact .inr ⟨ch,a1,w1,td,hq,hn,.head i0 stepR_seq hs⟩
theorem O6 {c:Operand} {x y:Code} {t:Bool} (hc:a.eval c= .bool t) (h:(if t then x else y).wpP F n P Q QP a w):(Code.cond c x y).wpP F n P Q QP a w:=by
 intro b k cs hro hb hr;rcases h b k cs hro hb hr with⟨e,a1,w1,hq,harr⟩ | ⟨ch,a1,w1,td,hq,hn,hs⟩
 ·exact .inl ⟨e,a1,w1,hq,.of_steps (.one (fenced_calm hb hr rfl) (stepR_cond hc)) harr⟩
 ·exact .inr ⟨ch,a1,w1,td,hq,hn,.head (fenced_calm hb hr rfl) (stepR_cond hc) hs⟩
theorem KN {id:Nat} {c:Code} (h:c.wpP F n P (fun e a w=>(e= .normal∨e= .exit id)∧Q .normal a w) QP a w):(Code.block id c).wpP F n P Q QP a w:=by
 intro b k cs hro hb hr;have i0:(lone (b.atR a (.code (.block id c)::k)) cs w).fenced P F:=fenced_calm hb hr rfl;rcases h b (.inBlock id::k) cs hro hb hr with⟨e,a1,w1,⟨he,hq⟩,harr⟩ | ⟨ch,a1,w1,td,hq,hn,hs⟩
 ·rcases he with rfl | rfl
  ·exact .inl ⟨.normal,a1,w1,hq,.head i0 stepR_block (StepsIn.trans harr (.one (fenced_calm hb hr rfl) stepR_inBlock))⟩
  ·exact .inl ⟨.normal,a1,w1,hq,.head i0 stepR_block (harr.1 k (by simp[exitTo]))⟩
 ·exact .inr ⟨ch,a1,w1,td,hq,hn,.head i0 stepR_block hs⟩
theorem O7 {c : Code} {id : Nat} (I : Nat → Act → World → Prop) (m₀ : Nat) (h₀ : I m₀ a w)
 (round:∀m a w,I m a w→c.wpP F n P (fun e a' w'=>(e= .normal∧∃m',m'<m∧I m' a' w')∨(e= .exit id∧Q (.exit id) a' w')) QP a w):(Code.loop c).wpP F n P Q QP a w:=by
 intro b k cs hro hb hr;have key:∀j,∀m a w,m<j→I m a w →
  (∃e a' w',Q e a' w'∧ArrivesIn (Machine.fenced P F) P (lone (b.atR a (.code c:: .inLoop c::k)) cs w) b k cs e a' w') ∨
  (∃chain a' w' todo,QP chain a' w'∧FN todo∧StepsIn (Machine.fenced P F) P (lone (b.atR a (.code c:: .inLoop c::k)) cs w) (lone {b.atR a' todo with mode:= .panicking chain} cs w')):=by
  intro j
  induction j with
  | zero=>intro m a w hm;omega
  | succ j ih =>
   intro m a w hm hI;rcases round m a w hI b (.inLoop c::k) cs hro hb hr with⟨e,a1,w1,hq,harr⟩ | ⟨ch,a1,w1,td,hq,hn,hs⟩
   ·rcases hq with ⟨rfl,m',hlt,hI'⟩ | ⟨rfl,hq⟩
    ·have s1 := StepsIn.trans harr (.one (fenced_calm (fr := b.atR a1 (.inLoop c :: k)) hb hr rfl) stepR_inLoop);rcases ih m' a1 w1 (by omega) hI' with ⟨e2,a2,w2,hq2,harr2⟩ | ⟨ch,a2,w2,td,hq2,hn,hs⟩
     ·exact .inl ⟨e2,a2,w2,hq2,.of_steps s1 harr2⟩
     ·exact .inr ⟨ch,a2,w2,td,hq2,hn,s1.trans hs⟩
    ·exact .inl ⟨_,a1,w1,hq,.pass (x:= .inLoop c) rfl (fun _ _=> .inl (by simp)) harr⟩
   ·exact .inr ⟨ch,a1,w1,td,hq,hn,hs⟩
 have i0:(lone (b.atR a (.code (.loop c)::k)) cs w).fenced P F:=fenced_calm hb hr rfl;rcases key (m₀+1) m₀ a w (Nat.lt_succ_self _) h₀ with⟨e,a1,w1,hq,harr⟩ | ⟨ch,a1,w1,td,hq,hn,hs⟩
 ·exact .inl ⟨e,a1,w1,hq,.of_steps (.one i0 stepR_loop) harr⟩
 ·exact .inr ⟨ch,a1,w1,td,hq,hn,.head i0 stepR_loop hs⟩
def Oper.wpP (F:Fence) (n:Nat) (P:Program) (o:Oper) (a:Act) (w:World) (next:Act→World→Prop) (QP:List PanicEntry→Act→World→Prop):Prop :=
 ∃vs w',(o.semAt F.round a.eval).run P w= .ok vs w'∧(∀f,o.about P w a.eval=some f→F.fn f)∧(F.depth=none)∧match vs with
  | .value v=>next (a.put o.dst v) w'
  | .skip=>next (a.put o.dst undef) w'
  | .enter g args => CallsIn F (n - 1) P g args w' fun
   | .returned v,w''=>next (a.put o.dst v) w''
   | .panicked chain,w''=>QP chain a w''
   | .outgrown,_=>False
  | _=>False
def FO (F : Fence) (n : Nat) (P : Program) (ops : Array Oper) (Q : Exit → Act → World → Prop) (QP : List PanicEntry → Act → World → Prop) : List Nat → Act → World → Prop
 | [],a,w=>Q .normal a w
 | i::rest,a,w=>∃o,ops[i]? =some o∧Region.wanted o (yielded ops a.tmps)=true∧o.wpP F n P a w (FO F n P ops Q QP rest) QP
theorem zu {ops:Array Oper}:∀(l:List Nat) (a:Act) (w:World),FO F n P ops Q QP l a w→∀(b:Frame) (k:List Item) (cs:List Frame),b.roundOf=F.round→F.fn b.fn→F.room (cs.length+1+n) →
 (∃e a' w',Q e a' w'∧ArrivesIn (Machine.fenced P F) P (lone (b.atR a (.inRegion ops l::k)) cs w) b k cs e a' w') ∨
 (∃chain a' w' todo,QP chain a' w'∧FN todo∧StepsIn (Machine.fenced P F) P (lone (b.atR a (.inRegion ops l::k)) cs w) (lone {b.atR a' todo with mode:= .panicking chain} cs w'))
 | [],a,w,h,b,k,cs,hro,hb,hr=> .inl ⟨.normal,a,w,h,.one (fenced_calm hb hr rfl) stepR_region_end⟩
 | i::rest,a,w,h,b,k,cs,hro,hb,hr=>by
  obtain⟨o,ho,hw,nx,w1,hrun,habout,hdep,hnx⟩:=h;have i0:(lone (b.atR a (.inRegion ops (i::rest)::k)) cs w).fenced P F:=fenced_oper hb hr ho habout;have hg:=stepGR_op (P:=P) (b:=b) (k:=k) (cs:=cs) (w:=w) (rest:=rest) ho hw;rw[hro]at hg;have hfin:∀v,(b.atR a (.inRegion ops (i::rest)::k)).finish v=b.atR (a.put o.dst v) (.inRegion ops rest::k):=fun v=>by rw[Frame.finish_atR,ho];rfl
  cases nx<;>try exact hnx.elim
  case value v =>
   have s1:StepsIn (Machine.fenced P F) P (lone (b.atR a (.inRegion ops (i::rest)::k)) cs w) (lone (b.atR (a.put o.dst v) (.inRegion ops rest::k)) cs w1) :=
    .one i0 (step_lone_go (by rw[hg,←hfin];simp[stepG.apply,hrun]))
   rcases zu rest _ _ hnx b k cs hro hb hr with⟨e,a2,w2,hq,harr⟩ | ⟨ch,a2,w2,td,hq,hn,hs⟩
   ·exact .inl ⟨e,a2,w2,hq,.of_steps s1 harr⟩
   ·exact .inr ⟨ch,a2,w2,td,hq,hn,s1.trans hs⟩
  case skip =>
   have s1:StepsIn (Machine.fenced P F) P (lone (b.atR a (.inRegion ops (i::rest)::k)) cs w) (lone (b.atR (a.put o.dst undef) (.inRegion ops rest::k)) cs w1) :=
    .one i0 (step_lone_go (by rw[hg,←hfin];simp[stepG.apply,hrun]))
   rcases zu rest _ _ hnx b k cs hro hb hr with⟨e,a2,w2,hq,harr⟩ | ⟨ch,a2,w2,td,hq,hn,hs⟩
   ·exact .inl ⟨e,a2,w2,hq,.of_steps s1 harr⟩
   ·exact .inr ⟨ch,a2,w2,td,hq,hn,s1.trans hs⟩
  case enter g args =>
   obtain⟨hF,hc⟩:=hnx;have hroom:F.room ((b.atR a (.inRegion ops (i::rest)::k)::cs).length+1+(n-1)):=Fence.room_enter hr (fun h=>by rw[hdep]at h;cases h);obtain⟨e,w2,fr,hR,hsteps,hfn,hleave⟩:=hc (b.atR a (.inRegion ops (i::rest)::k)::cs) hroom;have henter:step P (lone (b.atR a (.inRegion ops (i::rest)::k)) cs w)= .next (lone (Frame.enter P g args .normal) (b.atR a (.inRegion ops (i::rest)::k)::cs) w1) :=
    step_lone_go (by rw[hg];simp[stepG.apply,hrun,Frame.atR])
   cases e with
   | outgrown=>exact hR.elim
   | returned v =>
    have il:(lone fr (b.atR a (.inRegion ops (i::rest)::k)::cs) w2).fenced P F:=fenced_leaving (hfn▸hF) hroom hleave;have s1:StepsIn (Machine.fenced P F) P (lone (b.atR a (.inRegion ops (i::rest)::k)) cs w) (lone (b.atR (a.put o.dst v) (.inRegion ops rest::k)) cs w2):=by refine .head i0 henter (StepsIn.trans hsteps (.one il ?_));rw[←hfin];exact step_leave_returned hleave
    rcases zu rest _ _ hR b k cs hro hb hr with⟨e,a2,w2,hq,harr⟩ | ⟨ch,a2,w2,td,hq,hn,hs⟩
    ·exact .inl ⟨e,a2,w2,hq,.of_steps s1 harr⟩
    ·exact .inr ⟨ch,a2,w2,td,hq,hn,s1.trans hs⟩
   | panicked chain=>have il:(lone fr (b.atR a (.inRegion ops (i::rest)::k)::cs) w2).fenced P F:=fenced_leaving (hfn▸hF) hroom hleave;refine .inr ⟨chain,a,w2,.inRegion ops (i::rest)::k,hR,trivial,.head i0 henter (StepsIn.trans hsteps (.one il ?_))⟩;rw[←Frame.raise_atR];exact step_leave_panicked hleave
theorem Ip {id:Nat} {ops:Array Oper} (h:FO F n P ops Q QP (List.range ops.size) a w):(Code.region id ops false).wpP F n P Q QP a w:=by
 intro b k cs hro hb hr;have i0:(lone (b.atR a (.code (.region id ops false)::k)) cs w).fenced P F:=fenced_calm hb hr rfl;rcases zu _ a w h b k cs hro hb hr with⟨e,a2,w2,hq,harr⟩ | ⟨ch,a2,w2,td,hq,hn,hs⟩
 ·exact .inl ⟨e,a2,w2,hq,.of_steps (.one i0 stepR_region) harr⟩
 ·exact .inr ⟨ch,a2,w2,td,hq,hn,.head i0 stepR_region hs⟩
theorem Oper.wpP_mono {o:Oper} {nx nx':Act→World→Prop} {QP':List PanicEntry→Act→World→Prop} (h:o.wpP F n P a w nx QP) (h1:∀a w,nx a w→nx' a w) (h2:∀ch a w,QP ch a w→QP' ch a w):o.wpP F n P a w nx' QP':=by
 obtain⟨vs,w',hr,ha,hd,hm⟩:=h;refine⟨vs,w',hr,ha,hd,?_⟩;cases vs<;>try exact hm.elim
 case value v=>exact h1 _ _ hm
 case skip=>exact h1 _ _ hm
 case enter g args =>
  refine CallsIn.mono hm fun e w'' hq=> ?_;cases e with
  | returned v=>exact h1 _ _ hq
  | panicked ch=>exact h2 _ _ _ hq
  | outgrown=>exact hq.elim
def vJ (F : Fence) (n : Nat) (P : Program) (ops : Array Oper) (Q : Exit → Act → World → Prop) (QP : List PanicEntry → Act → World → Prop) : List Oper → Act → World → Prop
 | [],a,w=>Q .normal a w
 | o::rest,a,w=>Region.wanted o (yielded ops a.tmps)=true∧o.wpP F n P a w (vJ F n P ops Q QP rest) QP
theorem o5 {ops : Array Oper} : ∀ (l : List Oper) (k : Nat) (a : Act) (w : World),(∀ j,j < l.length → l[j]? = ops[k + j]?) → vJ F n P ops Q QP l a w → FO F n P ops Q QP (List.range' k l.length) a w
 | [],k,a,w,_,h=>h
 | o::rest,k,a,w,hl,h=>by
  refine⟨o,by have:=hl 0 (by simp);simpa using this.symm,h.1,Oper.wpP_mono h.2 (fun a w h=>o5 rest (k+1) a w (fun j hj=> ?_) h) fun _ _ _ h=>h⟩;have:=hl (j+1) (by simpa using hj);rw[List.getElem?_cons_succ]at this;rw[this]
  congr 1
  omega
theorem O8 {id:Nat} {l:List Oper} (h:vJ F n P l.toArray Q QP l a w):(Code.region id l.toArray false).wpP F n P Q QP a w:=by
 refine Ip ?_;rw[List.range_eq_range'];have e:l.toArray.size=l.length:=by simp
 rw[e];exact o5 l 0 a w (fun j _=>by simp) h
theorem qH {c:Code} {Q':Exit→Act→World→Prop} {QP':List PanicEntry→Act→World→Prop} (h:c.wpP F n P Q QP a w) (h1:∀e a w,Q e a w→Q' e a w) (h2:∀ch a w,QP ch a w→QP' ch a w):c.wpP F n P Q' QP' a w:=by
 intro b k cs hro hb hr;rcases h b k cs hro hb hr with⟨e,a1,w1,hq,harr⟩ | ⟨ch,a1,w1,td,hq,hn,hs⟩
 ·exact .inl ⟨e,a1,w1,h1 _ _ _ hq,harr⟩
 ·exact .inr ⟨ch,a1,w1,td,h2 _ _ _ hq,hn,hs⟩
theorem KO {fr c:Frame} {cs:List Frame} {chain:List PanicEntry} (hm:fr.mode= .panicking chain) (hd:fr.defers=[]) (ht:FN fr.todo):step P (lone fr (c::cs) w)= .next (lone (c.raise chain) cs w):=by
 have hc:fr.catches P=false:=by
  unfold Frame.catches;split
  ·rename_i h1 h2;rw[h2]at ht;exact ht.elim
  ·rfl
 exact step_lone_go (by simp[stepG,unwind,hm,hd,hc])
theorem xn {l : Nat} {f : FuncId} {tmps : Array Value} {assign body : Code} {R : Ending → World → Prop} (hF : F.fn f)
 (h:assign.wpIn (F.inRound l) n P (Exit.then (fun a₁ w₁=>∃w₂,(Instr.beginRound l).run P w₁= .ok () w₂ ∧
  body.wpP (F.inRound l) n P (fun e a w=>e= .normal∧∃v w',(Instr.endRound l none).run P w= .ok v w'∧R (.returned v) w') (fun ch a w=>a.defers=[]∧R (.panicked ch) w) a₁ w₂) (fun _ _ _=>False)) {tmps:=tmps,defers:=[]} w) :
 RoundIn F n P l f tmps assign body w R:=by
 refine⟨hF,fun c cs hr=> ?_⟩;obtain⟨b,eb⟩:∃b:Frame,b={(default:Frame)with fn:=f,kind:= .normal,roundOf:=some l}:=⟨_,rfl⟩;have hb0:Frame.round l f tmps assign body .normal=b.atR {tmps:=tmps,defers:=[]} [.code assign,.beginRound,.code body]:=by
  rw[eb];simp[Frame.round,Frame.atR]
 have hr':(F.inRound l).room ((c::cs).length+1+n):=hr;have hF':(F.inRound l).fn b.fn:=by rw[eb];exact hF
 have hro:b.roundOf=(F.inRound l).round:=by rw[eb];rfl
 have hro2:b.roundOf=some l:=by rw[eb]
 have hkd:b.kind= .normal:=by rw[eb]
 obtain⟨e,a1,w1,hq,harr⟩:=h b [.beginRound,.code body] (c::cs) hro hF' hr';rw[←hb0]at harr;cases e<;>try exact hq.elim
 obtain⟨w2,hbr,hbody⟩:=hq;have s1:StepsIn (Machine.fenced P (F.inRound l)) P (lone (b.atR a1 [.beginRound,.code body]) (c::cs) w1) (lone (b.atR a1 [.code body]) (c::cs) w2) :=
  .one (fenced_calm (fr:=b.atR a1 [.beginRound,.code body]) hF' hr' rfl) (stepR_beginRound hro2 hbr)
 have s2:=StepsIn.trans harr s1;rcases hbody b [] (c::cs) hro hF' hr' with⟨e,a3,w3,⟨rfl,v,w4,hend,hR⟩,harr2⟩ | ⟨ch,a3,w3,td,⟨hd,hR⟩,hn,hs⟩
 ·exact⟨.returned v,w4,hR,s2.trans (StepsIn.trans harr2 (.one (fenced_calm (fr:=b.atR a3 []) hF' hr' rfl) (stepR_round_end hro2 hkd hend)))⟩
 ·refine ⟨.panicked ch,w3,hR,s2.trans (StepsIn.trans hs (.one (fenced_calm (fr := { b.atR a3 td with mode := .panicking ch }) hF' hr' ?_) (KO rfl hd hn)))⟩;obtain ⟨fr,efr⟩ : ∃ fr : Frame,fr = { b.atR a3 td with mode := .panicking ch } := ⟨_,rfl⟩;have hd' : fr.defers = [] := by rw [efr];exact hd
  have hm':fr.mode= .panicking ch:=by rw[efr]
  rw[←efr];simp[Frame.about,hd',hm']
end
end Go
namespace Go.Abs
open Go Go.RowKit
def Si (e:E) (n:Nat) (ok:Nat→Prop) (pl0:Nat→Option Nat) (w0:World) (QP:V→Fr→H→Prop):List PanicEntry→Act→World→Prop :=
 fun ch a' w'=>∃pl' f' h' v x,SSim e n ok pl0 w0 f' h' pl' w' a'∧ch=[{v:=x,recovered:=false}]∧VRel (cx ok pl' w') v x∧QP v f' h'
def DT (e:E) (n:Nat) (r:Option Nat) (c:Code) (Q:XE→Fr→H→Prop) (QP:V→Fr→H→Prop) (f:Fr) (h:H):Prop :=
 ∀ok pl0 w0 pl w a,SSim e n ok pl0 w0 f h pl w a→c.wpP (RF r) 0 e.P (gW e n ok pl0 w0 Q) (Si e n ok pl0 w0 QP) a w
section
variable {e:E} {n:Nat} {r:Option Nat} {f:Fr} {h:H} {Q:XE→Fr→H→Prop} {QP:V→Fr→H→Prop}
theorem iC {c:Code} (hv:awp e n r c Q f h):DT e n r c Q QP f h:=fun ok pl0 w0 pl w a s=>Ew (hv ok pl0 w0 pl w a s)
theorem mQ {x y:Code} (hv:DT e n r x (XE.seq (DT e n r y Q QP) Q) QP f h):DT e n r (.seq x y) Q QP f h:=fun ok pl0 w0 pl w a s =>
 RZ (qH (hv ok pl0 w0 pl w a s) (gW.seq fun pl f h a w s hk=>hk ok pl0 w0 pl w a s) fun _ _ _ h=>h)
theorem KP {c:Code} {Q':XE→Fr→H→Prop} {QP':V→Fr→H→Prop} (h1:∀xe f h,Q xe f h→Q' xe f h) (h2:∀v f h,QP v f h→QP' v f h) (hv:DT e n r c Q QP f h):DT e n r c Q' QP' f h:=fun ok pl0 w0 pl w a s =>
 qH (hv ok pl0 w0 pl w a s) (fun ex a w ⟨pl',f',h',xe,s,hx,hk⟩=>⟨pl',f',h',xe,s,hx,h1 _ _ _ hk⟩) fun ch a w ⟨pl',f',h',v,x,s,hc,hr,hk⟩=>⟨pl',f',h',v,x,s,hc,hr,h2 _ _ _ hk⟩
theorem rV {id:Nat} {c:Code} (hv:DT e n r c (fun xe f h=>(xe= .normal∨xe= .exit id)∧Q .normal f h) QP f h):DT e n r (.block id c) Q QP f h:=fun ok pl0 w0 pl w a s=>by
 refine KN (qH (hv ok pl0 w0 pl w a s) ?_ fun _ _ _ h=>h);rintro ex a w ⟨pl',f',h',xe,s,hx,hq,hk⟩;rcases hq with rfl | rfl<;>cases ex<;>(try exact hx.elim)
 ·exact⟨.inl rfl,pl',f',h',.normal,s,trivial,hk⟩
 ·cases hx;exact⟨.inr rfl,pl',f',h',.normal,s,trivial,hk⟩
theorem KQ {c : Code} (id : Nat) (I : Nat → Fr → H → Prop) (m₀ : Nat) (h₀ : I m₀ f h)
 (round:∀m f h,I m f h→DT e n r c (fun xe f' h'=>(xe= .normal∧∃m',m'<m∧I m' f' h')∨(xe= .exit id∧Q (.exit id) f' h')) QP f h):DT e n r (.loop c) Q QP f h:=fun ok pl0 w0 pl w a s=>by
 refine O7 (id:=id) (fun m a w=>∃pl f h,SSim e n ok pl0 w0 f h pl w a∧I m f h) m₀ ⟨pl,f,h,s,h₀⟩ ?_;rintro m a w ⟨pl,f,h,s,hI⟩;refine qH (round m f h hI ok pl0 w0 pl w a s) ?_ fun _ _ _ h=>h;rintro ex a w ⟨pl',f',h',xe,s,hx,hq⟩;rcases hq with⟨rfl,m',hlt,hk⟩ | ⟨rfl,hk⟩<;>cases ex<;>(try exact hx.elim)
 ·exact .inl ⟨rfl,m',hlt,pl',f',h',s,hk⟩
 ·cases hx;exact .inr ⟨rfl,pl',f',h',.exit id,s,rfl,hk⟩
theorem Bi {c:Operand} {x y:Code} {b:Bool} (hsc:(f.ev e c).sc) (hb:(f.ev e c).sv= .bool b) (hx:b=true→DT e n r x Q QP f h) (hy:b=false→DT e n r y Q QP f h):DT e n r (.cond c x y) Q QP f h:=by
 intro ok pl0 w0 pl w a s;have h1:=(s.ev c).sv hsc;rw[hb]at h1;simp only[VRel]at h1;refine O6 (t:=b) h1 ?_;cases b
 ·exact hy rfl ok pl0 w0 pl w a s
 ·exact hx rfl ok pl0 w0 pl w a s
def xX (dst:Option Tmp) (Kn:Fr→H→Prop) (QP:V→Fr→H→Prop) (f:Fr) (ae:AEnd) (h':H) (p:Nat→Bool):Prop :=
 (∀i∈f.d,p i=false)∧match ae with
  | .ret v=>Kn ((f.drop p).put dst v) h'
  | .pan v=>QP v (f.drop p) h'
def zy (e:E) (o:Oper) (f:Fr) (h:H) (Kn:Fr→H→Prop) (QP:V→Fr→H→Prop):Prop :=
 match o.op with
 | .call {callee:= .value fx,args:=args,argTypes:=ts}=>match lI e (f.ev e) fx args with
  | some (g,vs)=>dW (f.ev e) fx args∧ai e.P g=true∧ah e g vs h (xX o.dst Kn QP f)
  | none=>False
 | _=>False
def xY (e : E) (n : Nat) (Q : XE → Fr → H → Prop) (QP : V → Fr → H → Prop) : List Oper → Fr → H → Prop
 | [],f,h=>Q .normal f h
 | o::rest,f,h=>o.guard=none∧jA n o.dst=true∧match jT o.op with
  | false=>PV.go true (uh e.P o (f.ev e) h) o.dst (xY e n Q QP rest) f h
  | true=>zy e o f h (xY e n Q QP rest) QP
theorem vK {ops:Array Oper} {ok:Nat→Prop} {pl0:Nat→Option Nat} {w0:World} :
 ∀(l:List Oper) (f:Fr) (h:H),xY e n Q QP l f h→∀(pl:Nat→Option Nat) (w:World) (a:Act),SSim e n ok pl0 w0 f h pl w a→vJ (RF r) 0 e.P ops (gW e n ok pl0 w0 Q) (Si e n ok pl0 w0 QP) l a w
 | [],f,h,hv,pl,w,a,s=>⟨pl,f,h,.normal,s,trivial,hv⟩
 | o::rest,f,h,hv,pl,w,a,s=>by
  obtain⟨hg,hd,hv⟩:=hv;have hw:Region.wanted o (yielded ops a.tmps)=true:=by refine rO (ops:=ops) s.val (g:=true) ?_;unfold gd;rw[hg]
  refine⟨hw,?_⟩;cases he:jT o.op with
  | false =>
   rw[he]at hv;dsimp only at hv;obtain⟨hc,hk⟩:=hv;have hq:=nT (e:=e) (hc rfl) ok pl w a.eval s.hs s.evs;have hnd:o.semAt (RF r).round a.eval=execOp a.eval o:=by
    rw[dS];refine Oper.semAt_eq r a.eval o fun c hc=> ?_;have this:=hq;unfold execOp at this;rw[hc]at this;simp only[Sem.run_bind]at this
    revert this
    cases(resolve a.eval c o.type).run e.P w<;>simp[jF,Result.andThen]
   have fin:∀x w',WExt w w'∧VRel (cx ok pl w') (uh e.P o (f.ev e) h).2 x→vJ (RF r) 0 e.P ops (gW e n ok pl0 w0 Q) (Si e n ok pl0 w0 QP) rest (a.put o.dst x) w':=fun x w' ⟨hx,hv⟩ =>
    vK rest _ h hk pl w' _ ((s.next0 (s.hs.wext hx) (hx.keeps s.hs)).put hd hv)
   revert hq
   cases hrun:(execOp a.eval o).run e.P w with
   | halt x w'=>intro hq;exact hq.elim
   | ok nx w' =>
    intro hq;refine⟨nx,w',by rw[hnd];exact hrun,fun g _=>iy r g,jk r,?_⟩;cases nx<;>try exact hq.elim
    case value x=>exact fin x w' hq
    case skip=>exact fin undef w' hq
    case enter g args =>
     refine(cZ (Calls.mono hq ?_));rintro en w'' ⟨x,rfl,hx⟩;exact fin x w'' hx
  | true =>
   rw[he]at hv;dsimp only at hv;unfold zy at hv;split at hv
   ·rename_i fx args ts hop;split at hv
    ·rename_i g vs hon;obtain⟨hsc,hen,hc⟩:=hv;obtain⟨xs,hrun,hl⟩:=qx (e:=e) hop (s.evs (o:=o)) hon hsc hen;refine⟨_,_,by rw[dS,Oper.semAt_eq r a.eval o (fun c=>by rw[hop];exact fun h=>by cases h)];exact hrun,fun g _=>iy r g,jk r,cZ ((hc ok pl w xs s.hs hl).mono ?_)⟩;rintro en w' ⟨p,pl',h',ae,hs',k,hend,hp,hk⟩;cases ae with
     | ret v =>
      cases en with
      | returned x=>exact vK rest _ h' hk pl' w' _ ((s.next hs' k hp).put hd hend)
      | panicked ch=>exact hend.elim
      | outgrown=>exact hend.elim
     | pan v =>
      cases en with
      | returned x=>exact hend.elim
      | panicked ch=>obtain⟨x,hx,hr⟩:=hend;exact⟨pl',_,h',v,x,s.next hs' k hp,hx,hr,hk⟩
      | outgrown=>exact hend.elim
    ·exact hv.elim
   ·exact hv.elim
theorem vM {id:Nat} {l:List Oper} (hv:xY e n Q QP l f h):DT e n r (.region id l.toArray false) Q QP f h:=fun ok pl0 w0 pl w a s=>O8 (vK l f h hv pl w a s)
theorem Iq (htl : e.tl = []) {o : Oper} {Kn : Fr → H → Prop} {fx : Operand} {args : Array Operand} {ts : Array TypeId} (hop : o.op = .call { callee := .value fx,args := args,argTypes := ts }) {id : Nat} (hfx : (f.ev e fx).sv = .yd id)
 (hsc:dW (f.ev e) fx args) {t:Nat→V} {n':Nat} {ps:Array Tmp} {asg body:Code} (hc:h[id]? =some (.loop t n' ps asg body .ready none))
 (hl:args.size=ps.size) (hps:(ps.toList.all fun p=>decide (p<n'))=true)
 (hv:∀l,awp e n' (some l) asg (fun xe f1 h1=>xe= .normal∧f1.k id=false∧∃t,h1[id]? =some (.loop t n' ps asg body .ready none) ∧
  DT e n' (some l) body (fun xe f2 h2 => xe = .normal ∧ (f2.k id = false ∧ ∀ i ∈ f.d,f2.k i = false) ∧ ∃ t st,h2[id]? = some (.loop t n' ps asg body st none) ∧ Kn ((f.drop f2.k).put o.dst (.bool true)) (h2.set id (.loop t n' ps asg body .ready none)))
   (fun v f2 h2=>f2.d=[]∧(∀i∈f.d,f2.k i=false)∧Q (.pan v) (f.drop f2.k) h2) f1 (h1.set id (.loop t n' ps asg body .busy none)))
  (iR {t:=t} ps.toList (args.toList.map fun x=>(f.ev e x).sv)) h):Eff e n r o f h Kn Q:=by
 intro ok pl0 w0 pl w a s hd;have h1:=(s.ev fx).sv hsc.1;rw[hfx]at h1;simp only[VRel]at h1;obtain⟨b,hb,hx⟩:=h1;have hb:pl id=some b:=hb;have h5:=(cO (c:=cx ok pl w) (ρ:=f.ev e) (ev:=a.eval) args.toList fun x hx=>s.ev x).sv hsc.2;rw[List.map_map]at h5;obtain⟨rec,g1,g2,g3,g4,g5,g6,g7,_⟩:=s.hs.loopSet hb hc .ready none;have hrun:(execOp a.eval o).run e.P w= .ok (.round b rec.fn ((rec.params.zip (args.map a.eval)).foldl (fun tmps (t,a)=>tmps.setIfInBounds t a) rec.tmps) rec.assign rec.body) w:=by
  have:execOp a.eval o=(do let d ←resolve a.eval {callee:= .value fx,args:=args,argTypes:=ts} o.type;invoke d.target d.args):=by simp[execOp,hop]
  rw[this];have h6:(resolve a.eval {callee:= .value fx,args:=args,argTypes:=ts} o.type).run e.P w= .ok {target:= .fn (.yield b) #[],args:=args.map a.eval} w:=by
   simp[resolve,hx,Deferred.ofValue]
  simp only[Sem.run_bind,h6,Result.andThen,invoke];exact run_yield g1 (by simp[g4,hl])
 refine⟨fun g _=>iy r g,?_⟩;rw[dS,Oper.semAt_eq r a.eval o (fun c=>by rw[hop];exact fun h=>by cases h),hrun];refine⟨fun hd'=>(by rw[jk]at hd';cases hd'),?_⟩;rw[g5,g6];have tr:=TRel.all (ps:=ps.toList) g7 hps h5;have htm:(rec.params.zip (args.map a.eval)).foldl (fun tmps (t,a)=>tmps.setIfInBounds t a) rec.tmps=((ps.toList.zip (args.toList.map a.eval)).foldl (fun tmps (t,a)=>tmps.setIfInBounds t a) rec.tmps):=by
  rw[g4,←Array.foldl_toList,Array.toList_zip,Array.toList_map]
 rw[htm];have hk:∀(ps:List Tmp) (vs:List V) (f:Fr),(iR f ps vs).k=f.k∧(iR f ps vs).d=f.d:=by
  intro ps
  induction ps with
  | nil=>intro vs f;cases vs<;>exact⟨rfl,rfl⟩
  | cons p ps ih=>intro vs f;cases vs with
   | nil=>exact⟨rfl,rfl⟩
   | cons v vs=>exact ih vs (f.put (some p) v)
 have s0:SSim e n' ok pl w (iR {t:=t} ps.toList (args.toList.map fun x=>(f.ev e x).sv)) h pl w {tmps:=((ps.toList.zip (args.toList.map a.eval)).foldl (fun tmps (t,a)=>tmps.setIfInBounds t a) rec.tmps),defers:=[]}:=by
  refine⟨s.hs,?_,tr.size,tr.val,?_⟩
  ·rw[(hk _ _ _).1];exact Keeps.refl pl w
  ·rw[(hk _ _ _).2];exact htl.symm
 refine xn (iy r _) ?_;rw[xP];refine wpIn_mono (hv b ok pl w pl w _ s0) ?_;rintro ex a1 w1 ⟨pl1,f1,h1,xe,s1,hx1,rfl,hk1,t1,hc1,hbody⟩;cases ex<;>(try exact hx1.elim);have hb1:pl1 id=some b:=s1.kp.keep id b hk1 hb;obtain⟨rec1,q1,q2,q3,q4,q5,q6,q7,hs2,k2⟩:=s1.hs.loopSet hb1 hc1 .busy none;refine⟨_,run_beginRound q1 q2,?_⟩;have hrec:({rec1 with state:= .busy}:Loop)={rec1 with state:= .busy,pending:=none}:=by rw[←q3]
 rw[hrec];refine qH (hbody ok pl w pl1 _ a1 (s1.next0 hs2 k2)) ?_ ?_
 ·rintro ex a2 w2 ⟨pl2,f2,h2,xe2,s2,hx2,rfl,⟨hk2,hd2⟩,t2,st2,hc2,hK⟩;cases ex<;>(try exact hx2.elim);have hb2:pl2 id=some b:=s2.kp.keep id b hk2 hb;obtain⟨rec2,p1,p2,p3,p4,p5,p6,p7,hs3,k3⟩:=s2.hs.loopSet hb2 hc2 .ready none;refine⟨rfl,_,_,run_endRound none p1,pl2,_,_,?_,hK⟩;have s3:=s2.next0 hs3 k3;exact(s.next s3.hs s3.kp hd2).put hd (by simp only[VRel];rfl)
 ·rintro ch a2 w2 ⟨pl2,f2,h2,v,x,s2,hch,hr,hd0,hd2,hq⟩;refine⟨?_,pl2,_,h2,.pan v,s.next s2.hs s2.kp hd2,⟨x,hch,hr⟩,hq⟩;have:=s2.dfr;rw[hd0]at this;exact Eq.trans this htl
end
section
variable {e:E} {n:Nat} {r:Option Nat} {f:Fr} {h:H} {Q:XE→Fr→H→Prop} {ops:Array Oper}
def QN (e:E) (n:Nat) (r:Option Nat) (ops:Array Oper) (Q:XE→Fr→H→Prop) (l:List Oper) (f:Fr) (h:H):Prop :=
 ∀ok pl0 w0 pl w a,SSim e n ok pl0 w0 f h pl w a→wpListIn (RF r) 0 e.P ops (gW e n ok pl0 w0 Q) l a w
theorem fP {id:Nat} {l:List Oper} (hv:QN e n r l.toArray Q l f h):awp e n r (.region id l.toArray false) Q f h :=
 fun ok pl0 w0 pl w a s=>wpIn_region_lit (hv ok pl0 w0 pl w a s)
theorem fA (hv:Q .normal f h):QN e n r ops Q [] f h:=fun ok pl0 w0 pl w a s=>⟨pl,f,h,.normal,s,trivial,hv⟩
theorem dG {o:Oper} {rest:List Oper} (hg:o.guard=none) (hd:jA n o.dst=true) (he:Eff e n r o f h (QN e n r ops Q rest) Q):QN e n r ops Q (o::rest) f h:=fun ok pl0 w0 pl w a s=>by
 have hgd:gd ops f o=some true:=by unfold gd;rw[hg]
 have hw:=rO s.val hgd;unfold wpListIn;rw[if_pos hw];exact Oper.wpIn_mono (fun a' w' ⟨pl',f',h',s',hk⟩=>hk ok pl0 w0 pl' w' a' s') (he ok pl0 w0 pl w a s hd)
theorem aB {o:Oper} {rest:List Oper} (hg:o.guard=none) (hd:jA n o.dst=true) (he:match jT o.op with
 | true=>AO e n o f h (QN e n r ops Q rest) Q
 | false=>PV.go true (uh e.P o (f.ev e) h) o.dst (QN e n r ops Q rest) f h):QN e n r ops Q (o::rest) f h:=by
 refine dG hg hd ?_;cases hi:jT o.op with
 | true=>rw[hi]at he;exact y8 he
 | false=>rw[hi]at he;exact lG (nT (he.1 rfl)) he.2
end
end Go.Abs
