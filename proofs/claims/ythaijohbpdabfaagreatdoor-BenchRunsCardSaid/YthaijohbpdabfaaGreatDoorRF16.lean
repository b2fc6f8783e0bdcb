/- Lemmas for this claim, part F16: each holds under what it names. -/
import Derived.Test.YthaijohbpdabfaaGreatDoorRF15
import Derived.Test.YthaijohbpdabfaaGreatDoorRA8
import Derived.JoinedOf
import Derived.HandedShaped
import Derived.Test.YthaijohbpdabfaaGreatDoorRF07
import Derived.Test.YthaijohbpdabfaaGreatDoorRF01
set_option linter.all false
set_option maxRecDepth 100000
set_option maxHeartbeats 4000000
namespace Go.Proofs.YthaijohbpdabfaaGreatDoor
open Go Go.Proofs Go.Abs Go.RowKit Go.ChangeShapes
open List renaming length → aa, replicate → ao
open Bool renaming true → ab, false → ac
open Option renaming some → al, none → aq
open Decidable renaming decide → ar
open Go.IntKind renaming wrap → aD
open Go.Result renaming andThen → aM
open Go.Abs.O renaming cells → am
open Go.Abs.V renaming drops → ap, dat → aE, dats → aL
def WC(z:V):Option V->V
 |some v=>v
 |none=>z
theorem SK{α:Type}[DecidableEq α]{kd:K}{mk:α->V}(hk:∀a b,keq kd (mk a) (mk b)=al (ar (a=b)))(hi:∀a b,mk a=mk b->a=b){L:List MapEntry}{T:List (α×V)}(hT:(T.map (·.1)).Nodup)
 (h1:∀x∈L,∃y∈T,vOf x.key=mk y.1/\vOf x.val=y.2) (h2:∀y∈T,∃x∈L,vOf x.key=mk y.1) (a:α) (z:V) :
 rU kd (mk a) (L.map λx=>vOf x.key) (L.map λx=>vOf x.val) z ac=(True,WC z ((T.find? λy=>ar (a=y.1)).map (·.2))):=by
 obtain⟨T',t1,t2,t3,t4⟩:=Jw h1;rw[t1,t2];unfold rU;rw[Aj hk];cases hf:(T'.map (·.1)).findIdx? λb=>ar (a=b)with
 |some n =>
  obtain⟨hn,hp,_⟩:=List.findIdx?_eq_some_iff_getElem.1 hf;have hn':n<aa T':=by simpa using hn
  have hp:a=T'[n].1:=by simpa using hp
  have hm:=t3 _ (zqu hn');have hff:(T.find? λy=>ar (a=y.1))=al T'[n]:=by
   cases hq:T.find? λy=>ar (a=y.1)with
   |none=>have:=List.find?_eq_none.1 hq _ hm;rw[hp]at this;simp at this
   |some y =>
    have e1:=List.find?_some hq;have e2:=List.mem_of_find?_eq_some hq;have e1:a=y.1:=by simpa using e1
    rw[Ak hT e2 hm (by rw[<-e1,<-hp])]
  rw[hff];dsimp only[WC,zrw];have:(T'.map (·.2)).getD n .any=T'[n].2:=fG hn' _;rw[this];rfl
 |none =>
  have hff:(T.find? λy=>ar (a=y.1))=aq:=by
   rw[List.find?_eq_none];intro y hy e;have e:a=y.1:=by simpa using e
   obtain⟨x,hx,ex⟩:=h2 y hy;obtain⟨y',hy',ey⟩:=t4 x hx;have e3:=hi _ _ (ex.symm.trans ey);have:=List.findIdx?_eq_none_iff.1 hf y'.1 (zrh.2 ⟨y',hy',rfl⟩);rw[e,e3]at this;simp at this
  rw[hff];rfl
theorem zaD {W : World} {r : List (String × DataW Unit)} (h : laidMet Tryz.prog (("internal/strconv.uint64pow10", Rows.laid_internal_strconv_uint64pow10) :: r) W) : ∃ ty fz, W.heap[10]? = some (Obj.cells (Lib.pow10Tab.map fun z => Value.int .u64 z).toArray ty fz) := by
 have e1 : Tryz.prog.globalNamed "internal/strconv.uint64pow10" = some 10 := by kernel_rfl
 have e2:(Tryz.prog.globals[10]?).map (·.type)=al 344:=by kernel_rfl
 have c1:Tryz.prog.cellsOf 313=1:=by kernel_rfl
 have c2:Tryz.prog.cellsOf 344=20:=by kernel_rfl
 have:=Lib.tabIs_of_head (zs:=Lib.pow10Tab) (k:= .u64) e1 e2 Tryz.underlying344 Tryz.underlying313 c1 c2 h;exact iy e1 this
theorem Yy {W : World} {r : List (String × DataW Unit)} (h : laidMet Tryz.prog (("patchbay/bench.words", Rows.laid_patchbay_bench_words) :: r) W) : ∃ ty fz, W.heap[1]? = some (Obj.cells (dZ.map fun z => Value.string ⟨z.toArray⟩).toArray ty fz) := by
 obtain ⟨ps, ⟨g', t', cs, fuel, p, q, hg', ht', hvar, hd, _, _⟩, _⟩ := h;have e1 : Tryz.prog.globalNamed "patchbay/bench.words" = some 1 := by kernel_rfl
 obtain rfl:=Option.some.inj (e1.symm.trans hg');have e2:(Tryz.prog.globals[1]?).map (·.type)=al 90:=by kernel_rfl
 obtain rfl:=Option.some.inj (e2.symm.trans ht');have c1:Tryz.prog.cellsOf 9=1:=by kernel_rfl
 have c2:Tryz.prog.cellsOf 90=10:=by kernel_rfl
 obtain⟨ty,fz,hh⟩:=iy e1 hvar;have:=xE (zs:=dZ) Tryz.underlying90 Tryz.underlying9 c1 c2 hd;have:cs=(dZ.map λz=>Value.string ⟨z.toArray⟩).toArray:=Array.toList_inj.1 (by rw[this]);exact⟨ty,fz,by rw[<-this];exact hh⟩
theorem Yz {W : World} {r : List (String × DataW Unit)} (h : laidMet Tryz.prog (("patchbay/bench.latches", Rows.laid_patchbay_bench_latches) :: r) W) : ∃ ty fz, W.heap[0]? = some (Obj.cells (bW.map fun z => Value.string ⟨z.toArray⟩).toArray ty fz) := by
 obtain ⟨ps, ⟨g', t', cs, fuel, p, q, hg', ht', hvar, hd, _, _⟩, _⟩ := h;have e1 : Tryz.prog.globalNamed "patchbay/bench.latches" = some 0 := by kernel_rfl
 obtain rfl:=Option.some.inj (e1.symm.trans hg');have e2:(Tryz.prog.globals[0]?).map (·.type)=al 89:=by kernel_rfl
 obtain rfl:=Option.some.inj (e2.symm.trans ht');have c1:Tryz.prog.cellsOf 9=1:=by kernel_rfl
 have c2:Tryz.prog.cellsOf 89=3:=by kernel_rfl
 obtain⟨ty,fz,hh⟩:=iy e1 hvar;have:=xE (zs:=bW) Tryz.underlying89 Tryz.underlying9 c1 c2 hd;have:cs=(bW.map λz=>Value.string ⟨z.toArray⟩).toArray:=Array.toList_inj.1 (by rw[this]);exact⟨ty,fz,by rw[<-this];exact hh⟩
theorem SL{w:World}{g:Nat}{zs:List S}{ty:TypeId}{fz:Nat×Nat}(hz:zs≠[])(hl:∀z∈zs,aa z<=maxLen)(h:w.heap[g]? =al (Obj.cells (zs.map λz=>Value.string ⟨z.toArray⟩).toArray ty fz)):VRel (cw w) (.ip (.agg (zs.map V.str))) (.pointer (al ⟨g,0,aq⟩)):=by
 have hv:∀zs:List S,(∀z∈zs,aa z<=maxLen)->VList (cw w).data (zs.map V.str) (zs.map λz=>Value.string ⟨z.toArray⟩):=λzs=>by
  induction zs with
  |nil=>intro _;simp only[List.map_nil,VList]
  |cons a l ih=>intro h;simp only[zrd,VList,VRel];exact⟨_,_,rfl,⟨_,rfl,by simp,h a (by simp)⟩,ih λz hz=>h z (List.mem_cons_of_mem _ hz)⟩
 simp only[VRel];refine⟨g,0,.agg (zs.map λz=>Value.string ⟨z.toArray⟩).toArray,rfl,λj hj=>⟨⟨trivial,λi hi=>by cases hi⟩,?_⟩,?_,_,rfl,hv zs hl⟩
 ·show w.cell? ⟨g,0+j,aq⟩=_;unfold World.cell?;simp only[h,Nat.zero_add];rfl
 ·have:0<aa zs:=List.length_pos_iff.2 hz;simpa [Value.cells]using this
def VM:List (S×V):=NW.map λy=>(y.1,.int .i64 y.2)
def LH:List (Int×V):=qG.map λy=>(y.1,.int .i64 y.2)
/-- What the condition gives the walks. -/
theorem laid_moN{W:World}(h:laidMetH Tryz.prog LLn W)(hsh:W.ShapedOpen Tryz.prog):∃mo:MO,(∀g v,(@TE mo).gl g=al v->VRel (cw W) (.ip v) (.pointer (al ⟨g,0,aq⟩)))/\∀g p,(@TE mo).gx g=al p->∃cs ty fz,W.heap[g]? =al (Obj.cells cs ty fz)/\p cs:=by
 have h3:=laidMet.tail (laidMet.tail (Jy h));have h5:=laidMet.tail (laidMet.tail h3);have h7:=laidMet.tail (laidMet.tail h5);have h8:=laidMet.tail h7;have h9:=laidMet.tail h8;have h10:=laidMet.tail h9;have h11:=laidMet.tail h10;obtain⟨b,es,clk,ty,fz,t1,t2,t3,t4,t5⟩:=Yx h10;obtain⟨b',es',clk',ty',fz',i1,i2,i3,i4,i5⟩:=ZR h7;obtain⟨b2,es2,clk2,ty2,fz2,o1,o2,o3,o4,o5⟩:=VL h11;obtain⟨sty,sfz,s1⟩:=VK h5;obtain⟨dty,dfz,d1⟩:=zaD h3;obtain⟨wty,wfz,w1⟩:=Yy h8;obtain⟨lty,lfz,l1⟩:=Yz h9;obtain⟨mty,mfz,m,m1⟩:=zaC hsh;have q1:∀x∈es.toList,∃y∈VM,vOf x.key=V.str y.1/\vOf x.val=y.2:=λx hx=>by obtain⟨s,y,hy,e1,e2,_,e3⟩:=t4 x hx;exact⟨(y.1,.int .i64 y.2),zrh.2 ⟨y,hy,rfl⟩,by rw[e1,<-e2];rfl,by rw[e3];rfl⟩
 have q2:∀y∈VM,∃x∈es.toList,vOf x.key=V.str y.1:=λy hy=>by obtain⟨y',hy',rfl⟩:=zrh.1 hy;obtain⟨x,hx,s,e1,e2⟩:=t5 y' hy';exact⟨x,hx,by rw[e1,<-e2];rfl⟩
 have q3:∀x∈es'.toList,∃y∈ZQ,vOf x.key=V.int .i64 y.1/\vOf x.val=y.2:=λx hx=>by obtain⟨y,hy,e1,e3⟩:=i4 x hx;exact⟨(y.1,.agg [.int .i64 y.2.1,.int .i64 y.2.2]),zrh.2 ⟨y,hy,rfl⟩,by rw[e1];rfl,by rw[e3];rfl⟩
 have q4:∀y∈ZQ,∃x∈es'.toList,vOf x.key=V.int .i64 y.1:=λy hy=>by obtain⟨y',hy',rfl⟩:=zrh.1 hy;obtain⟨x,hx,e1⟩:=i5 y' hy';exact⟨x,hx,by rw[e1];rfl⟩
 have q5:∀x∈es2.toList,∃y∈LH,vOf x.key=V.int .i64 y.1/\vOf x.val=y.2:=λx hx=>by obtain⟨y,hy,e1,e3⟩:=o4 x hx;exact⟨(y.1,.int .i64 y.2),zrh.2 ⟨y,hy,rfl⟩,by rw[e1];rfl,by rw[e3];rfl⟩
 have q6:∀y∈LH,∃x∈es2.toList,vOf x.key=V.int .i64 y.1:=λy hy=>by obtain⟨y',hy',rfl⟩:=zrh.1 hy;obtain⟨x,hx,e1⟩:=o5 y' hy';exact⟨x,hx,by rw[e1];rfl⟩
 have g1:=LG Yw (λa b e=>by injection e) (T:=VM) (by decide) q1 q2;have g2:=LG SH (λa b e=>by injection e) (T:=ZQ) (by decide) q3 q4;have g3:=SK SH (λa b e=>by injection e) (T:=LH) (by decide) q5 q6;refine⟨{ik:=es'.toList.map λx=>vOf x.key,iv:=es'.toList.map λx=>vOf x.val,bk:=es.toList.map λx=>vOf x.key,bv:=es.toList.map λx=>vOf x.val,ok:=es2.toList.map λx=>vOf x.key,ov:=es2.toList.map λx=>vOf x.val,ins:=λn z=> ?_,more:=λs z=> ?_,other:=λn z=> ?_},λg v hg=> ?_,λg p hg=> ?_⟩
 ·rw[g2];refine congrArg _ ?_;by_cases hn:0<=n/\n<=10
  ·rw[if_pos hn];have:n=0\/n=1\/n=2\/n=3\/n=4\/n=5\/n=6\/n=7\/n=8\/n=9\/n=10:=by omega
   rcases this with rfl|rfl|rfl|rfl|rfl|rfl|rfl|rfl|rfl|rfl|rfl<;>rfl
  ·rw[if_neg hn];have:(ZQ.find? λy=>ar (n=y.1))=aq:=by
    rw[List.find?_eq_none];intro y hy e;have e:n=y.1:=by simpa using e
    simp only[ZQ,Ik,zrd,List.map_nil,zrj,zrp,or_false]at hy;rcases hy with rfl|rfl|rfl|rfl|rfl|rfl|rfl|rfl|rfl|rfl|rfl<;>exact hn (by omega)
   rw[this];rfl
 ·rw[g1];refine congrArg _ ?_;unfold VM NW;simp only[zrd,List.map_nil];by_cases h0:s=[66,85,70]
  ·rw[if_pos h0,List.find?_cons_of_pos (by simpa using h0)];rfl
  ·rw[if_neg h0,List.find?_cons_of_neg (by simpa using h0)];rfl
 ·rw[g3];refine congrArg _ ?_;unfold LH qG;simp only[zrd,List.map_nil];by_cases h0:n=0
  ·rw[if_pos h0,List.find?_cons_of_pos (by simpa using h0)];rfl
  rw[if_neg h0,List.find?_cons_of_neg (by simpa using h0)];by_cases h1:n=1
  ·rw[if_pos h1,List.find?_cons_of_pos (by simpa using h1)];rfl
  rw[if_neg h1,List.find?_cons_of_neg (by simpa using h1)];by_cases h2:n=2
  ·rw[if_pos h2,List.find?_cons_of_pos (by simpa using h2)];rfl
  rw[if_neg h2,List.find?_cons_of_neg (by simpa using h2)];by_cases h3:n=3
  ·rw[if_pos h3,List.find?_cons_of_pos (by simpa using h3)];rfl
  rw[if_neg h3,List.find?_cons_of_neg (by simpa using h3)];by_cases h4:n=4
  ·rw[if_pos h4,List.find?_cons_of_pos (by simpa using h4)];rfl
  rw[if_neg h4,List.find?_cons_of_neg (by simpa using h4)];by_cases h5:n=6
  ·rw[if_pos h5,List.find?_cons_of_pos (by simpa using h5)];rfl
  rw[if_neg h5,List.find?_cons_of_neg (by simpa using h5)];rfl
 ·match g,hg with
  |4,hg =>
   obtain rfl:=Option.some.inj hg;exact SG t1 t2 t3 (λx hx=>by
    obtain⟨s,y,_,e1,_,e2,_⟩:=t4 x hx;rw[e1];simp only[vOf,VRel];exact⟨s,rfl,rfl,by simpa using e2⟩) (λx hx=>by
    obtain⟨s,y,_,_,_,_,e3⟩:=t4 x hx;rw[e3];simp only[vOf,VRel])
  |2,hg =>
   obtain rfl:=Option.some.inj hg;exact SG o1 o2 o3 (λx hx=>by
    obtain⟨y,_,e1,_⟩:=o4 x hx;rw[e1];simp only[vOf,VRel]) (λx hx=>by
    obtain⟨y,_,_,e3⟩:=o4 x hx;rw[e3];simp only[vOf,VRel])
  |5,hg =>
   obtain rfl:=Option.some.inj hg;exact SG i1 i2 i3 (λx hx=>by
    obtain⟨y,_,e1,_⟩:=i4 x hx;rw[e1];simp only[vOf,VRel]) (λx hx=>by
    obtain⟨y,_,_,e3⟩:=i4 x hx;rw[e3];simp only[vOf,VRel];refine⟨_,rfl,?_⟩;simp only[zrd,List.map_nil,VList,VRel];exact⟨_,_,rfl,rfl,_,_,rfl,rfl,rfl⟩)
  |1,hg=>obtain rfl:=Option.some.inj hg;exact SL (by decide) (by decide) w1
  |0,hg=>obtain rfl:=Option.some.inj hg;exact SL (by decide) (by decide) l1
  |3,hg=>obtain rfl:=Option.some.inj hg;exact WZ s1
 ·match g,hg with
  |3,hg=>have hp:(λcs=>cs=#[Value.int .i64 1,Value.int .i64 1])=p:=Option.some.inj hg;subst hp;exact⟨_,sty,sfz,s1,rfl⟩
  |7,hg=>have hp:(λcs=>∃m,cs=#[Value.int .i64 m])=p:=Option.some.inj hg;subst hp;exact⟨_,mty,mfz,m1,m,rfl⟩
  |10,hg=>have hp:(λcs=>cs=(Lib.pow10Tab.map λz=>Value.int .u64 z).toArray)=p:=Option.some.inj hg;subst hp;exact⟨_,dty,dfz,d1,rfl⟩
def plc:MemPlace->Nat
 | .cell b off=>b*256+off
 | .map b=>b*256
def CB:Nat->List MemPlace->Bool
 |_,[]=>ab
 |acc,p::ps=> !acc.testBit (plc p)&&CB (acc ||| 1 <<< plc p) ps
theorem Am:∀(ps:List MemPlace)(acc:Nat),CB acc ps=ab->ps.Nodup/\∀p∈ps,acc.testBit (plc p)=ac
 |[],_,_=>⟨List.nodup_nil,λp h=>by cases h⟩
 |p::ps,acc,h=>by
  rw[CB,zqf,Bool.not_eq_true']at h;obtain⟨h1,h2⟩:=h;obtain⟨k1,k2⟩:=Am ps _ h2;have hb:∀q∈ps,acc.testBit (plc q)=ac/\plc q≠plc p:=λq hq=>by
   have:=k2 q hq;rw[Nat.testBit_or,Nat.shiftLeft_eq,Nat.one_mul,Nat.testBit_two_pow,zsf,zqd]at this;exact⟨this.1,λe=>this.2 e.symm⟩
  refine⟨List.nodup_cons.2 ⟨λhp=>(hb p hp).2 rfl,k1⟩,λq hq=> ?_⟩;rcases zrj.1 hq with rfl|hq
  ·exact h1
  ·exact(hb q hq).1
noncomputable def Ie (os : Os) : World := (World.doorLaid Tryz.prog 1200 os).layVars Tryz.prog [("unicode/utf8.first", Rows.laid_unicode_utf8_first)]
theorem SN(os:Os)(args:Array Value):(DataW.laidRun Tryz.prog ((Ie os).forCall (λ_ _=>0) ⟨#[],args,[]⟩).memory 8 (LLn.map (·.1))).map (·.1)=al LLn:=by kernel_rfl
theorem SQ(os:Os)(args:Array Value):(DataW.laidRun Tryz.prog ((Ie os).forCall (λ_ _=>0) ⟨#[],args,[]⟩).memory 8 (LLn.map (·.1))).map (λx=>CB 0 x.2&&laidRowsB Tryz.prog ((Ie os).forCall (λ_ _=>0) ⟨#[],args,[]⟩).memory x.2)=al ab:=by kernel_rfl
theorem NY{P:Program}{w:World}{l:List (String×DataW Unit)}(fuel:Nat)(h:(DataW.laidRun P w fuel (l.map (·.1))).map (·.1)=al l)
 (hr:(DataW.laidRun P w fuel (l.map (·.1))).map (λx=>CB 0 x.2&&laidRowsB P w x.2)=al ab):laidMet P l w:=by
 cases hx:DataW.laidRun P w fuel (l.map (·.1))with
 |none=>rw[hx]at h;cases h
 |some x=>obtain⟨l',ps⟩:=x;rw[hx]at h hr;have h:l'=l:=Option.some.inj h;have hr:(CB 0 ps&&laidRowsB P w ps)=ab:=Option.some.inj hr;subst h;rw[zqf]at hr;exact laidMet_of_run fuel hx (decide_eq_true (Am ps 0 hr.1).1) hr.2
theorem door_metN(os:Os)(args:Array Value):laidMetH Tryz.prog LLn ((Ie os).forCall (λ_ _=>0) ⟨#[],args,[]⟩).memory :=
 (NY 8 (SN os args) (SQ os args):laidMet Tryz.prog LLn _)
section
variable{H:Type}{enc:TypeId×Value->H}
theorem rih_andS{a:Assume}{C:Checked}{os:Os}{f:FuncId}{fn:Func}{s:ChangeSpec}{conds:List PathCond}{apart fresh handsOn again:Bool}{X:World->Array Value->Prop}
 (hX:∀(w w':World)(args:Array Value),w.heap=w'.heap->X w args->X w' args)
 (own:ownKnob C.prog.godebug=aq) (started:os.Started) (noInit:C.prog.inits.idxOf? f=aq) (hfn:C.prog.funcs[f]? =al fn)
 (witness:∃(w:World)(tape:Tape)(i:Input),w.os=os/\(w.forCall tape i).Shaped C.prog/\i.vars=[]/\Input.okWide C.prog (w.forCall tape i) .any w.heap.size f i /\
  ((s.pre enc C.prog fn conds apart (w.forCall tape i).memory i.args/\X (w.forCall tape i).memory i.args)/\sizedMet enc C.prog fn (OpenSpec.ofChange s) apart (w.forCall tape i).memory i.args)/\a.holds C.prog (lone (Frame.enter C.prog f i.args .normal) [] (w.forCall tape i)))
 (contract:∀(W:World)(base:Nat)(args:Array Value)(ds gs:List (DataW H))(before:List MemPlace),
  (∀(j:Nat) t v,fn.params[j]? =al t->args[j]? =al v->Value.okWide C.prog W .any base t v) ->
  DataW.Whole enc C.prog fn.params.toList s.vars apart W args.toList ds gs before ->
  (DataW.weightsEach C.prog (fn.params.toList++s.plain.varTypes C.prog) (ds++gs)).all (·<=reachBytes)=ab->X W args->W.ShapedOpen C.prog ->
  Calls C.prog f args W λe W'=>∃v,e= .returned v/\s.post enc C.prog fn apart fresh handsOn again W args v W') :
 ReturnsInHanded a C os f .any (λw args=>(s.pre enc C.prog fn conds apart w args/\X w args)/\sizedMet enc C.prog fn (OpenSpec.ofChange s) apart w args) (s.post enc C.prog fn apart fresh handsOn again):=by
 refine returnsInHanded_of_calls own started noInit witness ?_;intro w tape i _ hsh _ hok hpre hholds;obtain⟨_,_,_,fn',hfn',_,_,_,_,hval⟩:=hok;have e:fn'=fn:=Option.some.inj (hfn'.symm.trans hfn);subst e;obtain⟨⟨⟨ds,gs,before,hw,hc⟩,hx⟩,hz⟩:=hpre;have hw':=DataW.Whole.of_heap (w':=w.forCall tape i) (by rfl) hw;refine(contract (w.forCall tape i) w.heap.size i.args ds gs before hval hw' (hz.weights hw) (hX _ _ _ (by rfl) hx) hsh).mono λe W' ⟨v,he,hp⟩=> ?_;subst he;exact ChangeSpec.post_blind hp
end
abbrev xF:Sh:= .slice .str
abbrev zaE:Sh:= .struct [.str,.int .i64,xF,xF,.bool]
abbrev shBs:Sh:= .slice .bool
theorem wS{R:Nat}{e:Sh}{α:Type}{F:α->V}(he:∀v,Sh.Sz R e v->∃a,v=F a):∀es:List V,(∀x∈es,Sh.Sz R e x)->∃l:List α,es=l.map F
 |[],_=>⟨[],rfl⟩
 |x::es,h=>by obtain⟨a,rfl⟩:=he x (h x (by simp));obtain⟨l,rfl⟩:=wS he es λy hy=>h y (by simp[hy]);exact⟨a::l,rfl⟩
theorem WE{R:Nat}{v:V}(h:Sh.Sz R (.int .i64) v):∃n:Int,v=vi n:=by simp only[Sh.Sz]at h;obtain⟨n,rfl,hw⟩:=h;exact⟨n,rfl⟩
theorem Ig{R:Nat}{v:V}(h:Sh.Sz R .str v):∃s:S,v= .str s:=by simp only[Sh.Sz]at h;obtain⟨s,rfl,_⟩:=h;exact⟨s,rfl⟩
theorem SS{R:Nat}{v:V}(h:Sh.Sz R .bool v):∃b:Bool,v= .bool b:=by simpa only[Sh.Sz]using h
theorem Jz{R:Nat}{v:V}(h:Sh.Sz R xF v):∃c:List S,v=aJ c:=by unfold xF at h;rw[Sh.Sz]at h;obtain⟨es,rfl,hl,h⟩:=h;obtain⟨l,rfl⟩:=wS (F:=V.str) (λv hv=>Ig hv) es h;exact⟨l,rfl⟩
theorem sz_bs{R:Nat}{v:V}(h:Sh.Sz R shBs v):∃c:List Bool,v=dw c:=by unfold shBs at h;rw[Sh.Sz]at h;obtain⟨es,rfl,hl,h⟩:=h;obtain⟨l,rfl⟩:=wS (F:=V.bool) (λv hv=>SS hv) es h;exact⟨l,rfl⟩
theorem zaF{R:Nat}{v:V}(h:Sh.Sz R zaE v):∃g:Ga,v=g.v:=by unfold zaE at h;rw[Sh.Sz]at h;obtain⟨vs,rfl,h⟩:=h;simp only[Sh.Szs]at h;obtain⟨u0,us,rfl,h0,u1,us,rfl,h1,u2,us,rfl,h2,u3,us,rfl,h3,u4,us,rfl,h4,rfl⟩:=h;obtain⟨n,rfl⟩:=Ig h0;obtain⟨o,rfl⟩:=WE h1;obtain⟨i,rfl⟩:=Jz h2;obtain⟨r,rfl⟩:=Jz h3;obtain⟨b,rfl⟩:=SS h4;exact⟨⟨n,o,i,r,b⟩,rfl⟩
theorem pf_laid:laidOutB Tryz.pinned.checked.prog=ab:=by kernel_rfl
theorem pf_maps:mapsRowed Tryz.pinned.checked.prog=ab:=by kernel_rfl
theorem pf_stops:(Tryz.pinned.checked.prog.stops==[])=ab:=by kernel_rfl
theorem pf_knobs:(Tryz.pinned.checked.prog.stopKnobs==[])=ab:=by kernel_rfl
theorem pf_heard:Tryz.pinned.checked.prog.stopsHeard=ab:=by kernel_rfl
theorem pf_enter:Tryz.pinned.checked.prog.mayEnter=ab:=by kernel_rfl
theorem pf_lifts:(Rows.benchBackRow.lifted==Tryz.pinned.checked.prog.liftsFinal)=ab:=by kernel_rfl
theorem pf_plain:(Rows.benchBackRow.plainKeys==Tryz.pinned.checked.prog.plainKeys)=ab:=by kernel_rfl
theorem pf_main : Tryz.pinned.checked.prog.mainIs = some (true, "277376348e67c6e4505156191ba0faf005bbeea4c685b33672f996eaf3e381ba".toList) := by kernel_rfl
theorem pf_looks:ab=Tryz.pinned.checked.prog.looks []:=by kernel_rfl
abbrev zaG:Sh:= .struct [.str,.str,.int .i64]
abbrev shCi:Sh:= .struct [xF,xF,.slice zaG,.slice zaE]
theorem zaH{R:Nat}{v:V}(h:Sh.Sz R zaG v):∃g:La,v=g.v:=by unfold zaG at h;rw[Sh.Sz]at h;obtain⟨vs,rfl,h⟩:=h;simp only[Sh.Szs]at h;obtain⟨u0,us,rfl,h0,u1,us,rfl,h1,u2,us,rfl,h2,rfl⟩:=h;obtain⟨n,rfl⟩:=Ig h0;obtain⟨o,rfl⟩:=Ig h1;obtain⟨i,rfl⟩:=WE h2;exact⟨⟨n,o,i⟩,rfl⟩
theorem VN{R:Nat}{v:V}(h:Sh.Sz R xF v):∃c:List S,v=aJ c/\aa c<=R:=by unfold xF at h;rw[Sh.Sz]at h;obtain⟨es,rfl,hl,h⟩:=h;obtain⟨l,rfl⟩:=wS (F:=V.str) (λv hv=>Ig hv) es h;exact⟨l,rfl,by simpa using hl⟩
theorem sz_ci{R:Nat}(hR:R<=200000000000000){v:V}(h:Sh.Sz R shCi v):∃c:Ci,v=c.v/\Sum c:=by unfold shCi at h;rw[Sh.Sz]at h;obtain⟨vs,rfl,h⟩:=h;simp only[Sh.Szs]at h;obtain⟨u0,us,rfl,h0,u1,us,rfl,h1,u2,us,rfl,h2,u3,us,rfl,h3,rfl⟩:=h;obtain⟨a,rfl,ha⟩:=VN h0;obtain⟨b,rfl⟩:=Jz h1;rw[Sh.Sz]at h2 h3;obtain⟨es,rfl,hl,h2⟩:=h2;obtain⟨l,rfl⟩:=wS (F:=La.v) (λv hv=>zaH hv) es h2;obtain⟨es,rfl,hl3,h3⟩:=h3;obtain⟨g,rfl⟩:=wS (F:=Ga.v) (λv hv=>zaF hv) es h3;rw[zra]at hl hl3;exact⟨⟨a,b,l,g⟩,rfl,by show aa a+aa l+aa g<=_;omega⟩
theorem VO{l:List Bool}{i:Nat}(h:i<aa l)(d:V):(l.map V.bool).getD i d= .bool l[i]:=fG h _
theorem NZ{l:List Bool}{i:Nat}(h:i<aa l):(l.take (i+1)).count ab=if l[i]=ab then(l.take i).count ab+1 else(l.take i).count ab:=by rw[List.take_succ_eq_append_getElem h,List.count_append];cases l[i]<;>simp
theorem EE[MO](l:List Bool):Ev TE 240 [dw l] (vi (l.count ab)):=by
 have hM:=mLx;refine Ev.bnd λhb=> ?_;have hlen:=Py hb;refine ai Tryz.func240 rfl (by simp[nts]) (vm ?_);simp only[wq.1,seval,Tryz.results240];refine aF (λm f h=>∃i:Nat,m+i=aa l/\i<=aa l/\f.t 3=vi ((l.take i).count ab)/\f.t 6=dw l/\f.t 7=vi (aa l)/\f.t 8=vi i/\f.d=[]) (aa l) ⟨0,by omega,by omega,by simp only[wq.1,seval];simp,by simp only[wq.1,seval],by simp only[wq.1,seval],by simp only[wq.1,↓reduceIte];rfl,by simp only[wq.1]⟩ ?_;rintro m f h ⟨i,hm,hil,t3,t6,t7,t8,hd⟩;have hc:=List.count_le_length (a:=ab) (l:=l.take i);rw[zrl]at hc;refine vm ?_;simp only[wq.1,seval,t7,t8];refine vcB.mk (λhlt=> ?_) (λhlt=> ?_)
 ·have hlt:i<aa l:=by have:=zqs hlt;omega
  have hg:=VO hlt .any;have hct:=NZ hlt;have hw:=aA (show i<maxLen by omega);have hw2:=aA (show(l.take i).count ab<maxLen by omega);simp only[wq.1,seval,t6,t8,hg];refine⟨⟨by omega,by omega⟩,?_⟩;cases hv:l[i]with
  |true=>rw[hv,if_pos rfl]at hct;simp only[wq.1,seval,t3,t8,hw,hw2];exact .inl ⟨m-1,by omega,i+1,by omega,by omega,by simp only[wq.1,seval,hct],by simp only[wq.1,seval,t6],by simp only[wq.1,seval,t7],by simp only[wq.1,↓reduceIte],by simp only[wq.1,hd]⟩
  |false=>rw[hv,if_neg (by decide)]at hct;simp only[wq.1,seval,t8,hw];exact .inl ⟨m-1,by omega,i+1,by omega,by omega,by simp only[wq.1,seval,hct,t3],by simp only[wq.1,seval,t6],by simp only[wq.1,seval,t7],by simp only[wq.1,↓reduceIte],by simp only[wq.1,hd]⟩
 ·have hi:i=aa l:=by have:=of_decide_eq_false hlt;omega
  rw[hi,zrx]at t3;simp only[wq.1,seval,t3,hd];exact aC.dat rfl
theorem ZT[MO](l:List Bool):Ev TE 238 [dw l] (.bool ac):=by refine ai Tryz.func238 rfl (by simp[nts]) (vm ?_);simp only[wq.1,seval,Tryz.results238];exact aC.dat rfl
theorem ZU[MO](l:List Bool):Ev TE 239 [dw l] (.bool (l.count ab==aa l)):=by
 have h:=EE l;have e:(((l.count ab:Nat):Int)==((aa l:Nat):Int))=(l.count ab==aa l):=by rw[Bool.eq_iff_iff,beq_iff_eq,beq_iff_eq];omega
 refine ai Tryz.func239 rfl (by simp[nts]) (vm ?_);simp only[wq.1,seval,Tryz.results239];refine ag.ev h (by simp only[aL,aE,kT,zre]) ?_;simp only[wq.1,seval,e];exact aC.dat rfl
theorem ZV[MO](l:List Bool):Ev TE 241 [dw l] (.bool (ar (0<l.count ab))):=by have h:=EE l;have e:ar ((0:Int)<((l.count ab:Nat):Int))=ar (0<l.count ab):=decide_eq_decide.2 (by omega);refine ai Tryz.func241 rfl (by simp[nts]) (vm ?_);simp only[wq.1,seval,Tryz.results241];refine ag.ev h (by simp only[aL,aE,kT,zre]) ?_;simp only[wq.1,seval,e];exact aC.dat rfl
theorem ZW[MO](l:List Bool):Ev TE 242 [dw l] (.bool (l.count ab%2==1)):=by
 have h:=EE l;have e:(Int.tmod ((l.count ab:Nat):Int) 2==1)=(l.count ab%2==1):=by rw[Bool.eq_iff_iff,beq_iff_eq,beq_iff_eq,Int.tmod_eq_emod_of_nonneg (by omega)];omega
 refine ai Tryz.func242 rfl (by simp[nts]) (vm ?_);simp only[wq.1,↓reduceIte,Nat.reduceLT,reduceCtorEq,Tryz.results242];refine ag.ev h (by simp only[aL,aE,kT,zre]) ?_;simp only[wq.1,↓reduceIte,Nat.reduceLT,e];exact⟨by decide,aC.dat rfl⟩
def ofF(op:Nat):FuncId:=if op<=1 then 238 else if op<=5 then 239 else if op<=7 then 241 else 242
theorem ZX[MO](op:Nat)(l:List Bool):Ev TE (ofF op) [dw l] (.bool (opB op l)):=by
 unfold ofF opB;split
 ·exact ZT l
 ·split
  ·exact ZU l
  ·split
   ·exact ZV l
   ·exact ZW l
theorem N7(op:Nat):ah P (ofF op)=ab:=by
 unfold ofF;split
 ·rfl
 ·split
  ·rfl
  ·split<;>rfl
theorem zaI[MO](op:Nat)(ho:op<=10)(k:Int)(hk:k=op):Ev TE 177 [vi k] (.agg [if op=10 then .nilf else .fn (.func (ofF op)) [] [],.bool (Qw op)]):=by
 have h:op=0\/op=1\/op=2\/op=3\/op=4\/op=5\/op=6\/op=7\/op=8\/op=9\/op=10:=by omega
 rcases h with rfl|rfl|rfl|rfl|rfl|rfl|rfl|rfl|rfl|rfl|rfl
 ·obtain rfl:k=0:=hk;show Ev TE 177 [vi 0] (.agg [.fn (.func 238) [] [],.bool ac]);refine ai Tryz.func177 rfl (by simp[nts]) (vm ?_);simp only[wq.1,seval,Tryz.results177];exact aC.agg (au.cons (aC.fn au.nil au.nil) (au.cons (aC.dat rfl) au.nil))
 ·obtain rfl:k=1:=hk;show Ev TE 177 [vi 1] (.agg [.fn (.func 238) [] [],.bool ab]);refine ai Tryz.func177 rfl (by simp[nts]) (vm ?_);simp only[wq.1,seval,Tryz.results177];exact aC.agg (au.cons (aC.fn au.nil au.nil) (au.cons (aC.dat rfl) au.nil))
 ·obtain rfl:k=2:=hk;show Ev TE 177 [vi 2] (.agg [.fn (.func 239) [] [],.bool ac]);refine ai Tryz.func177 rfl (by simp[nts]) (vm ?_);simp only[wq.1,seval,Tryz.results177];exact aC.agg (au.cons (aC.fn au.nil au.nil) (au.cons (aC.dat rfl) au.nil))
 ·obtain rfl:k=3:=hk;show Ev TE 177 [vi 3] (.agg [.fn (.func 239) [] [],.bool ab]);refine ai Tryz.func177 rfl (by simp[nts]) (vm ?_);simp only[wq.1,seval,Tryz.results177];exact aC.agg (au.cons (aC.fn au.nil au.nil) (au.cons (aC.dat rfl) au.nil))
 ·obtain rfl:k=4:=hk;show Ev TE 177 [vi 4] (.agg [.fn (.func 239) [] [],.bool ac]);refine ai Tryz.func177 rfl (by simp[nts]) (vm ?_);simp only[wq.1,seval,Tryz.results177];exact aC.agg (au.cons (aC.fn au.nil au.nil) (au.cons (aC.dat rfl) au.nil))
 ·obtain rfl:k=5:=hk;show Ev TE 177 [vi 5] (.agg [.fn (.func 239) [] [],.bool ab]);refine ai Tryz.func177 rfl (by simp[nts]) (vm ?_);simp only[wq.1,seval,Tryz.results177];exact aC.agg (au.cons (aC.fn au.nil au.nil) (au.cons (aC.dat rfl) au.nil))
 ·obtain rfl:k=6:=hk;show Ev TE 177 [vi 6] (.agg [.fn (.func 241) [] [],.bool ac]);refine ai Tryz.func177 rfl (by simp[nts]) (vm ?_);simp only[wq.1,seval,Tryz.results177];exact aC.agg (au.cons (aC.fn au.nil au.nil) (au.cons (aC.dat rfl) au.nil))
 ·obtain rfl:k=7:=hk;show Ev TE 177 [vi 7] (.agg [.fn (.func 241) [] [],.bool ab]);refine ai Tryz.func177 rfl (by simp[nts]) (vm ?_);simp only[wq.1,seval,Tryz.results177];exact aC.agg (au.cons (aC.fn au.nil au.nil) (au.cons (aC.dat rfl) au.nil))
 ·obtain rfl:k=8:=hk;show Ev TE 177 [vi 8] (.agg [.fn (.func 242) [] [],.bool ac]);refine ai Tryz.func177 rfl (by simp[nts]) (vm ?_);simp only[wq.1,seval,Tryz.results177];exact aC.agg (au.cons (aC.fn au.nil au.nil) (au.cons (aC.dat rfl) au.nil))
 ·obtain rfl:k=9:=hk;show Ev TE 177 [vi 9] (.agg [.fn (.func 242) [] [],.bool ab]);refine ai Tryz.func177 rfl (by simp[nts]) (vm ?_);simp only[wq.1,seval,Tryz.results177];exact aC.agg (au.cons (aC.fn au.nil au.nil) (au.cons (aC.dat rfl) au.nil))
 ·obtain rfl:k=10:=hk;show Ev TE 177 [vi 10] (.agg [.nilf,.bool ac]);refine ai Tryz.func177 rfl (by simp[nts]) (vm ?_);simp only[wq.1,seval,Tryz.results177];exact aC.agg (au.cons (aC.dat rfl) (au.cons (aC.dat rfl) au.nil))
theorem YA[MO](r:S)(l:List Bool)(hl:aa l<=aa r):Ev TE 180 [.str r,dw l] (.bool (rE r l)):=by
 have hM:=mLx;refine Ev.bnd λhb=> ?_;have hlen:aa l<=maxLen:=by simp only[V.bnds,V.bnd,zra]at hb;omega
 obtain⟨F,hF⟩:∃F,F=rE r l:=⟨_,rfl⟩;rw[<-hF];refine ai Tryz.func180 rfl (by simp[nts]) (vm ?_);simp only[wq.1,seval,Tryz.results180];refine aF (λm f h=>∃i:Nat,m+i=aa l/\i<=aa l/\F=rE (r.drop i) (l.drop i)/\f.t 0= .str r/\f.t 7=dw l/\f.t 8=vi (aa l)/\f.t 9=vi i/\f.d=[]) (aa l) ⟨0,by omega,by omega,hF,by simp only[wq.1,seval],by simp only[wq.1,seval],by simp only[wq.1,seval],by simp only[wq.1,↓reduceIte];rfl,by simp only[wq.1]⟩ ?_;rintro m f h ⟨i,hm,hil,hFi,t0,t7,t8,t9,hd⟩;refine vm ?_;simp only[wq.1,seval,t8,t9];refine vcB.mk (λhlt=> ?_) (λhlt=> ?_)
 ·have hlt:i<aa l:=by have:=zqs hlt;omega
  have hlr:i<aa r:=by omega
  have hg:=VO hlt .any;have hgr:r.getD i 0=r[i]:=PD hlr;rw[List.drop_eq_getElem_cons hlt,List.drop_eq_getElem_cons hlr]at hFi;have hFi:F=((r[i]==45||((r[i]==49)==l[i]))&&rE (r.drop (i+1)) (l.drop (i+1))):=hFi;have q1:((r[i].toNat:Int) != 45)= !(r[i]==45):=Xl r[i] 45;have q2:((r[i].toNat:Int)==49)=(r[i]==49):=Xm r[i] 49;have hw:=aA (show i<maxLen by omega);have hbe:((r[i]==45||((r[i]==49)==l[i])))= !(!(r[i]==45)&& !((r[i]==49)==l[i])):=by cases(r[i]==45)<;>cases(r[i]==49)<;>cases l[i]<;>rfl
  rw[hbe]at hFi;simp only[wq.1,seval,t0,t7,t9,hg,hgr,q1,q2];refine⟨⟨by omega,by omega⟩,⟨by omega,by omega⟩,λh=>⟨h,by omega,by omega⟩,vcB.mk (λhc=> ?_) (λhc=> ?_)⟩
  ·rw[hc]at hFi;have hFi:F=ac:=hFi;rw[hFi];simp only[wq.1,seval,hd];exact aC.dat rfl
  ·rw[hc]at hFi;have hFi:F=rE (r.drop (i+1)) (l.drop (i+1)):=hFi;simp only[wq.1,seval,t9,hw];exact .inl ⟨m-1,by omega,i+1,by omega,by omega,hFi,by simp only[wq.1,seval,t0],by simp only[wq.1,seval,t7],by simp only[wq.1,seval,t8],by simp only[wq.1,↓reduceIte],by simp only[wq.1,hd]⟩
 ·have hi:i=aa l:=by have:=of_decide_eq_false hlt;omega
  rw[hi,List.drop_length]at hFi;have hFi:F=ab:=hFi.trans (by cases r.drop (aa l)<;>rfl);rw[hFi];simp only[wq.1,seval,hd];exact aC.dat rfl
theorem SV[MO](r:S)(l:List Bool)(hl:aa l<=aa r):Ev TE 179 [.str r,.ip (dw l)] (.bool (rE r l)):=by have h:=YA r l hl;refine ai Tryz.func179 rfl (by simp[nts]) (vm ?_);simp only[wq.1,seval,Tryz.results179];refine ag.ev h (by simp only[aL,aE,kT,zre]) ?_;simp only[wq.1,seval];exact aC.dat rfl
theorem SX[MO](g:Ga)(l:List Bool)(hl:∀r∈g.rows,aa l<=aa r):Ev TE 178 [dw l,.ip g.v] (.bool (g.rows.any λr=>rE r l)):=by have hct:=DK g.rows 179 [.ip (dw l)] (λr=>rE r l) rfl (by simp only[aL,aE,kT,zre]) λr hr=>SV r l (hl r hr);refine ai Tryz.func178 rfl (by simp[nts]) (vm ?_);simp only[wq.1,seval,Tryz.results178];refine ag.lend hct (au.cons (aC.dat (by simp only[aE,ax])) (au.cons (aC.fn au.nil (au.cons (aC.lp rfl (au.dat (by simp only[aL,aE,kT,zre])) rfl rfl (by simp[V.vc]) rfl) au.nil)) au.nil)) rfl ?_;simp only[wq.1,seval];exact aC.dat rfl
theorem VP[MO](g:Ga)(l:List Bool):Ev TE 114 [g.v,dw l] (.tup [.bool (xO g l).1,vi (xO g l).2]):=by
 have hM:=mLx;have hG:=Ko g;have hd1:∀g:Ga,aL [g.v]=ab:=λg=>by simp only[aL,aE,ax,zre]
 have en:(((aa l:Nat):Int) != ((aa g.ins:Nat):Int))= !(aa l==aa g.ins):=by
  unfold bne
  congr 1
  rw[Bool.eq_iff_iff,beq_iff_eq,beq_iff_eq];omega
 refine ai Tryz.func114 rfl (by simp[nts]) ?_;refine vn ?_;simp only[wq.1,Nat.reduceLT,Tryz.results114];refine ak ?_;refine vn ?_;simp only[wq.1,seval];refine ag.ev hG (hd1 g) ?_;simp only[wq.1,seval,en];cases hc:(gQ g&&aa l==aa g.ins)with
 |false =>
  have hb:(!gQ g|| !(aa l==aa g.ins))=ab:=by cases h1:gQ g<;>cases h2:(aa l==aa g.ins)<;>rw[h1,h2]at hc<;>first|rfl|cases hc
  have hs:xO g l=(ac,1):=by unfold xO;rw[if_neg (by rw[hc];decide)]
  rw[hs];refine bH (b:=ab) (by simp only[wq.1,↓reduceIte]) (by simp only[wq.1,↓reduceIte,hb]) (λ_=> ?_) (λh=>by cases h);refine vm ?_;simp only[wq.1,seval];exact aC.dat rfl
 |true =>
  have hb:(!gQ g|| !(aa l==aa g.ins))=ac:=by cases h1:gQ g<;>cases h2:(aa l==aa g.ins)<;>rw[h1,h2]at hc<;>first|rfl|cases hc
  have hs:xO g l=(rF g l,0):=by unfold xO;rw[if_pos hc]
  rw[hs];rw[zqf,beq_iff_eq]at hc;obtain⟨hgo,hgr,hgw⟩:=jC hc.1;have hh:=hgo.h;unfold vJ at hh;simp only[zqf,zqb]at hh;obtain⟨op,hop⟩:∃op:Nat,g.op=op:=⟨g.op.toNat,by omega⟩;have hop1:op<=10:=by omega
  have hof:=zaI op hop1 g.op hop;refine bH (b:=ac) (by simp only[wq.1,↓reduceIte]) (by simp only[wq.1,↓reduceIte,hb]) (λh=>by cases h) (λ_=> ?_);refine vm ?_;simp only[wq.1];show awp _ _ _ _ _ _ _;refine vn ?_;simp only[wq.1,seval];refine ag.ev hof rfl ?_;by_cases h10:op=10
  ·have hv:rF g l=((g.rows.any λr=>rE r l) != g.off):=by unfold rF;rw[if_pos (by omega)]
   have e10:(g.op==10)=ab:=by rw[hop,h10];rfl
   have hg1:=SX g l λr hr=>by have:=hgw r hr;unfold mQ at this;rw[zqf,beq_iff_eq]at this;omega
   rw[if_pos h10,hv];simp only[wq.1,seval];refine ak ?_;refine vn ?_;simp only[wq.1,seval,e10];refine vm ?_;simp only[wq.1,seval];refine yU (·==0) [.dead,am [.fn (.func 178) [] [.ip g.v],.bool g.off]] (λj hj=> ?_) (λj x hj hx=> ?_) (λj hj=>by cases hj) ?_
   ·match j,hj with
    |1,_=>exact .inr ⟨_,_,rfl,rfl,.inr ⟨rfl,aC.fn au.nil (au.cons (aC.lp rfl (au.dat (by show aL [V.str g.name,vi g.op,aJ g.ins,aJ g.rows,V.bool g.off]=ab;simp only[aL,aE,ax,zre])) rfl rfl (by simp[V.vc]) rfl) au.nil)⟩,.inl rfl,trivial⟩
    |j+2,_=>exact .inl rfl
   ·match j,hj with
    |0,_=>cases hx;rfl
   ·refine vn ?_;simp only[wq.1,seval];refine⟨by decide +kernel,uh.mk hg1 rfl (by simp only[aL,aE,ax,kT,zre]) ?_⟩;simp only[wq.1,seval];refine vm ?_;simp only[wq.1,seval];exact aC.dat rfl
  ·have hv:rF g l=(opB op l != Qw op):=by unfold rF;rw[if_neg (by omega),hop,zsg]
   have e10:(g.op==10)=ac:=by rw[beq_eq_false_iff_ne];omega
   have hg1:=ZX op l;have hen:=N7 op;rw[if_neg h10,hv];simp only[wq.1,seval];refine ak ?_;refine vn ?_;simp only[wq.1,seval,e10];refine vm ?_;simp only[wq.1,↓reduceIte];refine vn ?_;simp only[wq.1,seval];refine⟨by decide +kernel,uh.mk hg1 hen (by simp only[aL,aE,kT,zre]) ?_⟩;simp only[wq.1,seval];refine vm ?_;simp only[wq.1,seval];exact aC.dat rfl
theorem wU{e:E}{g:FuncId}{args:List V}{h:H}{R:AEnd->H->(Nat->Bool)->Prop}(hc:ag e g args h λae h' p=>(∀i,i<aa h->p i=ac)/\R ae h' (λ_=>ac)):ag e g args h R:=by intro ok pl w vs hs hl;refine(hc ok pl w vs hs hl).mono ?_;rintro en w' ⟨p,pl',h',ae,h1,h2,h3,h4,h5⟩;exact⟨λ_=>ac,pl',h',ae,h1,⟨h2.os,h2.tape,h2.output,h2.size,h2.same,h2.loc,λi b _ hi=>h2.keep i b (h4 i (hs.pl_lt hi)) hi,h2.row⟩,h3,h5⟩
theorem VQ{h0:H}(hcl:∀p:Nat->Bool,(∀j,j<aa h0->p j=ac)->h0.map (O.drop p)=h0)(X:H):((jv (λj=>j==aa h0) 0 (h0++X)).map (O.drop λj=>ar (aa h0<=j))).take (aa h0)=h0:=by
 refine List.ext_getElem? λj=> ?_;rw[List.getElem?_take];by_cases hj:j<aa h0
 ·have b:(j==aa h0)=ac:=by rw[beq_eq_false_iff_ne];omega
  rw[if_pos hj,zqo,gZ,zqj hj];have e1:=hcl (λj=>j==aa h0) λi hi=>by rw[beq_eq_false_iff_ne];omega
  have e2:=hcl (λj=>ar (aa h0<=j)) λi hi=>by rw[zqd];omega
  have e1:(h0.map (O.drop λj=>j==aa h0))[j]? =h0[j]? :=by rw[e1]
  have e2:(h0.map (O.drop λj=>ar (aa h0<=j)))[j]? =h0[j]? :=by rw[e2]
  rw[zqo]at e1 e2;cases hx:h0[j]? with
  |none=>rfl
  |some o =>
   rw[hx]at e1 e2;have e1:O.drop (λj=>j==aa h0) o=o:=by injection e1
   have e2:O.drop (λj=>ar (aa h0<=j)) o=o:=by injection e2
   show al (O.drop _ (if(0+j==aa h0)=ab then .dead else _))=_;rw[if_neg (by rw[Nat.zero_add,b];decide),e1,e2]
 ·rw[if_neg hj,zsj (by omega)]
theorem CE[MO]{m:Env}(hm:okE m){id:Nat}{h0:H}(hid:h0[id]? =al (UY m))(hcl:∀p:Nat->Bool,(∀j,j<aa h0->p j=ac)->h0.map (O.drop p)=h0)(l:List S)(hl:aa l<=1000000){R:AEnd->H->(Nat->Bool)->Prop}
 (hr:R (.ret (dw (l.map (lkE m)))) h0 (λ_=>ac)) :
 ag TE 62 [.lm id,aJ l] h0 R:=by
 refine wU ?_;have hM:=mLx;have hidl:=(zqe hid).1;have hgE:∀x:O,(h0++[x])[aa h0]? =al x:=λx=>by simp
 have hgS:∀x y:O,(h0++[x]).set (aa h0) y=h0++[y]:=λx y=>by simp
 have hid2:∀x:O,(h0++[x])[id]? =al (UY m):=λx=>by rw[zqj hidl];exact hid
 have hcl1:=hcl (λj=>j==aa h0) λj hj=>by rw[beq_eq_false_iff_ne];omega
 have bI:(id==aa h0)=ac:=by rw[beq_eq_false_iff_ne];omega
 refine aj Tryz.func62 rfl (by simp[nts]) ?_;refine vn ?_;simp only[wq.1,Nat.reduceLT,Tryz.results62];refine vn ?_;simp only[wq.1,Nat.reduceLT];refine vn ?_;simp only[wq.1,seval];refine aF (λk f h=>∃i:Nat,k+i=aa l/\i<=aa l/\f.t 0= .lm id/\f.t 8=aJ l/\f.t 9=vi (aa l)/\f.t 10=vi i/\f.d=[]/\(∀j,j<aa h0->f.k j=ac)/\(i=0/\f.t 5= .nils/\h=h0\/0<i/\f.t 5= .ls (aa h0) 1 0 i i/\h=h0++[am (((l.take i).map (lkE m)).map V.bool)])) (aa l) ⟨0,by omega,by omega,by simp only[wq.1,seval],by simp only[wq.1,seval],by simp only[wq.1,seval],by simp only[wq.1,↓reduceIte];rfl,by simp only[wq.1],λj _=>(by simp only[wq.1]),.inl ⟨rfl,by simp only[wq.1,seval],rfl⟩⟩ ?_;rintro k f h ⟨i,hk,hil,t0,t8,t9,t10,hd,hkk,hh⟩;refine vn ?_;simp only[wq.1,Nat.reduceLT,t10,t9];refine vn ?_;simp only[wq.1,↓reduceIte];have hw:=aA (show i<maxLen by omega);refine vcB.mk (λhc=> ?_) (λhc=> ?_)
 ·have hc1:i<aa l:=by have:=zqs hc;omega
  simp only[wq.1];have hgl:=Bz hc1 .any;obtain⟨X3,hX3⟩:∃X3,X3=((l.take (i+1)).map (lkE m)).map V.bool:=⟨_,rfl⟩;have hnx:((l.take i).map (lkE m)).map V.bool++[.bool (lkE m l[i])]=X3:=by
   rw[hX3,List.take_succ_eq_append_getElem hc1,zql,zql];rfl
  have hds:ap (λj=>j==aa h0) (((l.take i).map (lkE m)).map V.bool)=((l.take i).map (lkE m)).map V.bool:=cO _;have hll:aa (l.take i)=i*1:=by rw[zrl];omega
  refine ak (aB ?_);rcases hh with⟨rfl,t5,rfl⟩|⟨hi,t5,rfl⟩
  ·refine vn ?_;simp only[wq.1,↓reduceIte,Nat.reduceEqDiff,Nat.reduceLT,Nat.reduceLeDiff,Nat.reduceAdd,Nat.reduceSub,Int.reduceToNat,Nat.reduceDiv,Int.reduceLT,Int.reduceLE,Int.reduceNeg,Int.reduceBEq,Int.reduceBNe,Int.reduceAdd,Int.reduceSub,Nat.reduceBEq,reduceCtorEq,Nat.reduceMul,ay,Tryz.results62,t0,t8,t10,t9,hd,hgl];refine⟨⟨by omega,by omega⟩,?_⟩;refine vm ?_;simp only[wq.1,↓reduceIte,Nat.reduceEqDiff,Nat.reduceLT,Nat.reduceLeDiff,reduceCtorEq,Nat.reduceMul,t0,t5,hid,DT hm,K.keyOk];refine⟨⟨rfl,by decide⟩,by omega,?_⟩;refine vm ?_;simp only[wq.1,seval,t10,hw];exact .inl ⟨k-1,by omega,1,by omega,by omega,t0,t8,t9,rfl,hd,hkk,.inr ⟨by omega,rfl,by rw[List.take_succ_eq_append_getElem hc1];rfl⟩⟩
  ·refine vn ?_;simp only[wq.1,↓reduceIte,Nat.reduceEqDiff,Nat.reduceLT,t8,t10,hgl];refine⟨⟨by omega,by omega⟩,?_⟩;refine vm ?_;simp only[wq.1,↓reduceIte,Nat.reduceEqDiff,Nat.reduceLT,reduceCtorEq,Nat.reduceMul,t0,t5,hd,hid2,DT hm,K.keyOk,hgE,hgS,hcl1,hds,hnx];refine⟨⟨rfl,by decide⟩,⟨hll,by omega,by omega⟩,?_⟩;refine vm ?_;simp only[wq.1,seval,t10,hw];refine .inl ⟨k-1,by omega,i+1,by omega,by omega,(by simp only[wq.1,seval,t0,bI]),(by simp only[wq.1,seval,t8]),(by simp only[wq.1,seval,t9]),rfl,hd,λj hj=> ?_,.inr ⟨by omega,rfl,by rw[hX3,cO]⟩⟩;show(f.k j||j==aa h0)=ac;rw[hkk j hj,Bool.false_or,beq_eq_false_iff_ne];omega
 ·have hi:i=aa l:=by have:=of_decide_eq_false hc;omega
  subst hi;simp only[wq.1];obtain⟨X,hX,hre⟩:∃X,h=h0++X/\((f.t 5).drop (λj=> !(j==aa h0))=f.t 5/\aC TE (sH (λj=>j==aa h0) 0 h) (f.t 5) (dw (l.map (lkE m)))):=by
   rcases hh with⟨hl0,t5,rfl⟩|⟨hi,t5,rfl⟩
   ·refine⟨[],by simp,by rw[t5];rfl,?_⟩;rw[t5,zse hl0];exact aC.nils
   ·refine⟨_,rfl,?_,?_⟩
    ·rw[t5];simp[V.drop]
    ·rw[t5];refine vY (by rw[fV,hgE];show al (if _ then am (ap _ _)else _)=_;rw[cO,if_pos (by simp),zrx]) (by simp)
  clear hh;subst hX;obtain⟨F,hF⟩:∃F,F=f.put (al 11) (V.bool (ar ((aa l:Int)<aa l))):=⟨_,rfl⟩;have F5:F.t 5=f.t 5:=by rw[hF];simp only[wq.1,seval]
  have Fd:F.d=[]:=by rw[hF];exact hd
  have Fk:∀j,j<aa h0->F.k j=ac:=by rw[hF];exact hkk
  rw[<-F5]at hre;have hre1:=hre.1;have hre2:=hre.2;show awp _ _ _ _ _ _ _;rw[<-hF];clear hre hF F5 t0 t8 t9 t10 hkk hd;refine x8 (λj=>j==aa h0) (λi=>if i=5 then dw (l.map (lkE m))else(F.t i).drop (λj=>j==aa h0)) (λi=> ?_) (λi hi=>by rw[Fd]at hi;cases hi) ?_
  ·by_cases h5:i=5
   ·subst h5;exact .inr ⟨hre1,hre2⟩
   ·exact .inl (if_neg h5)
  have hdd:∀i∈F.d,i<aa h0:=λi hi=>by rw[Fd]at hi;cases hi
  refine OQ (.inr ⟨aa h0,hdd,?_⟩);rw[VQ hcl];obtain⟨G,hG⟩:∃G,G=({F with t:=λi=>if i=5 then dw (l.map (lkE m))else(F.t i).drop (λj=>j==aa h0),k:=λi=>F.k i||i==aa h0}:Fr).drop λi=>ar (aa h0<=i):=⟨_,rfl⟩;have G5:G.t 5=dw (l.map (lkE m)):=by rw[hG];show V.drop (λi=>ar (aa h0<=i)) (dw _)=_;simp only[V.drop]
  have Gd:G.d=[]:=by rw[hG];exact Fd
  have Gk:∀j,j<aa h0->G.k j=ac:=λj hj=>by
   rw[hG];have q1:(j==aa h0)=ac:=by rw[beq_eq_false_iff_ne];omega
   have q2:ar (aa h0<=j)=ac:=by rw[zqd];omega
   simp only[Fr.drop,Fk j hj,q1,q2,Bool.or_self]
  rw[<-hG];clear hG;refine vn ?_;simp only[wq.1,seval,G5];refine vm ?_;simp only[wq.1,↓reduceIte,Gd];exact⟨Gk,hr⟩
theorem Ap(c:Ci):aL [c.v]=ab:=by simp only[aL,aE,ax,lg,kZ,zre]
theorem N8[MO](c:Ci)(hs:Sum c):Ev TE 112 [c.v] (.bool ((kW c).1==0)):=by have e3:=zH c hs;refine ai Tryz.func112 rfl (by simp[nts]) ?_;refine vn ?_;simp only[wq.1,Nat.reduceLT,Tryz.results112];refine vn ?_;simp only[wq.1,seval];refine ag.ev e3 (Ap c) ?_;simp only[wq.1,seval];refine vn ?_;simp only[wq.1,seval];refine vm ?_;simp only[wq.1,↓reduceIte];exact aC.dat rfl
def WG:Plan:= .take 3<| .alt 0 (onZ [1,2,4,5]<| .take 6<| .take 7<| .fin) (.one 1 (.alt 0 (onZ [2,4,5]<| .take 6<| .take 7<| .fin) (.one 2 (onZ [0,4,5]<| .take 6<| .take 7<| .fin))))
def jZ(c:Ci):O:=am [aJ c.ins,aJ c.outs,kY c.lat,iU c.gates,aJ (aT c),.is ac 1 (dh (jA c).1)]
theorem JA[MO](c:Ci)(hs:Sum c){C0:O}(hC0:C0=am [aJ c.ins,aJ c.outs,kY c.lat,iU c.gates]){R:AEnd->H->(Nat->Bool)->Prop}
 (hok:(kW c).1=0->R (.ret (.tup [.lp 2 0,vi 0])) [C0,C0,jZ c] (λ_=>ac)) (hbad:(kW c).1≠0->R (.ret (.tup [.nilp,vi 1])) [C0,C0] (λ_=>ac)) :
 ag TE 60 [c.v] [C0] R:=by
 have e1:=N8 c hs;have e2:=Qv c hs;refine aj Tryz.func60 rfl (by simp[nts]) ?_;refine vn ?_;simp only[wq.1,Nat.reduceLT,Tryz.results60];rw[<-hC0];by_cases ho:(kW c).1=0
 ·have e3:=Qa c (P9 (iJ ho).lim);have hq:((kW c).1==0)=ab:=by rw[ho];rfl
  rw[hq]at e1;refine vn ?_;simp only[wq.1,seval,hC0];refine ag.ev e1 (Ap c) ?_;simp only[wq.1,seval];refine vm ?_;simp only[wq.1,seval];refine ag.ev e2 (Ap c) ?_;simp only[wq.1,seval];refine dJ mixed WG (λf' h'=>f'.t 2= .lp 2 0/\f'.t 3=vi 0/\f'.d=[]/\f'.k=(λ_=>ac)/\h'=[C0,C0,jZ c]) (by rw[TEP];decide +kernel) (by decide +kernel) ?_ ?_
  ·simp only[wq.1,seval,WG]
   and_intros
   all_goals (refine ag.ev e3 (Ap c) ?_)
   all_goals (simp only[wq.1,seval,hC0,jZ])
   done
  ·rintro f' h' ⟨t2,t3,hd,hk,rfl⟩;simp only[wq.1,t2,t3,hd,hk];exact hok ho
 ·have hq:((kW c).1==0)=ac:=by simpa using ho
  rw[hq]at e1;refine vn ?_;simp only[wq.1,seval,hC0];refine ag.ev e1 (Ap c) ?_;simp only[wq.1,seval];rw[<-hC0];exact hbad ho
abbrev vH(c:Ci):O:=am [aJ c.ins,aJ c.outs,kY c.lat,iU c.gates]
abbrev mX(c:Ci)(m:Env):H:=[vH c,vH c,jZ c,UY m]
theorem Aq(c:Ci)(m:Env)(p:Nat->Bool):(mX c m).map (O.drop p)=mX c m:=by
 have h1:O.drop p (vH c)=vH c:=by show am (ap _ _)=_;rw[iT.dats_drops _ (by simp only[aL,aE,ax,lg,kZ,zre])]
 have h2:O.drop p (jZ c)=jZ c:=by show am (ap _ _)=_;rw[iT.dats_drops _ (by simp only[aL,aE,ax,lg,kZ,lC,zre])];rfl
 have h3:O.drop p (UY m)=UY m:=by show O.map (ap _ _) (ap _ _)=_;rw[aN,cO]
 simp only[zrd,List.map_nil,h1,h2,h3]
theorem LJ{B:List (List Nat)}:∀(f:Nat)(N:List (List Nat))(Q:List Nat),aa (lI B f N Q)<=f
 |0,_,_=>zrb _
 |f+1,N,Q=>by
  rw[lI];split
  ·exact Nat.zero_le _
  ·rw[zrt];exact Nat.succ_le_succ (LJ f _ _)
theorem SY(c:Ci):(jA c).1.length<=aa c.gates:=by
 unfold jA;split
 ·have:=LJ (B:=(oC (c.gates.map (·.name)) (c.gates.map (·.ins))).2) (aa (c.gates.map (·.ins))) (oC (c.gates.map (·.name)) (c.gates.map (·.ins))).1 (xN (oC (c.gates.map (·.name)) (c.gates.map (·.ins))).1 (List.range (aa (c.gates.map (·.ins)))) []);have e:aa (c.gates.map (·.ins))=aa c.gates:=by simp
  rw[<-e];exact this
 ·exact Nat.zero_le _
def S9:Plan:=tkZ [0,1,4,5]<| .alt 2 (.alt 3 (onZ [6,7,8]<| .take 9<| .alt 10 (.alt 11 (.one 12<| .fin) (.one 12 (.one 11<| .fin))) (.one 11 (.one 10<| .one 12<| .fin))) (.one 6 (.alt 3 (.one 7<| .one 8<| .take 9<| .alt 10 (.alt 11 (.one 12<| .fin) (.one 12 (.one 11<| .fin))) (.one 11 (.one 10<| .one 12<| .fin))) (.one 7 (.one 3<| .one 8<| .take 9<| .alt 10 (.alt 11 (.one 12<| .fin) (.one 12 (.one 11<| .fin))) (.one 11 (.one 10<| .one 12<| .fin))))))) (.alt 3 (.alt 2 (onZ [6,7,8]<| .take 9<| .alt 10 (.alt 11 (.one 12<| .fin) (.one 12 (.one 11<| .fin))) (.one 11 (.one 10<| .one 12<| .fin))) (.one 6 (.alt 2 (.one 7<| .one 8<| .take 9<| .alt 10 (.alt 11 (.one 12<| .fin) (.one 12 (.one 11<| .fin))) (.one 11 (.one 10<| .one 12<| .fin))) (.one 7 (.alt 2 (.one 8<| .take 9<| .alt 10 (.alt 11 (.one 12<| .fin) (.one 12 (.one 11<| .fin))) (.one 11 (.one 10<| .one 12<| .fin))) (.one 8 (.take 9<| .alt 2 (.alt 10 (.alt 11 (.one 12<| .fin) (.one 12 (.one 11<| .fin))) (.one 11 (.one 10<| .one 12<| .fin))) (.alt 10 (.alt 2 (.alt 11 (.one 12<| .fin) (.one 12 (.one 11<| .fin))) (.one 11 (.one 2<| .one 12<| .fin))) (.one 11 (.alt 2 (.one 10<| .one 12<| .fin) (.one 10 (.one 2<| .one 12<| .fin)))))))))))) (.one 6 (.alt 2 (.alt 3 (.one 7<| .one 8<| .take 9<| .alt 10 (.alt 11 (.one 12<| .fin) (.one 12 (.one 11<| .fin))) (.one 11 (.one 10<| .one 12<| .fin))) (.one 7 (.one 3<| .one 8<| .take 9<| .alt 10 (.alt 11 (.one 12<| .fin) (.one 12 (.one 11<| .fin))) (.one 11 (.one 10<| .one 12<| .fin))))) (.alt 3 (.alt 2 (.one 7<| .one 8<| .take 9<| .alt 10 (.alt 11 (.one 12<| .fin) (.one 12 (.one 11<| .fin))) (.one 11 (.one 10<| .one 12<| .fin))) (.one 7 (.alt 2 (.one 8<| .take 9<| .alt 10 (.alt 11 (.one 12<| .fin) (.one 12 (.one 11<| .fin))) (.one 11 (.one 10<| .one 12<| .fin))) (.one 8 (.take 9<| .alt 2 (.alt 10 (.alt 11 (.one 12<| .fin) (.one 12 (.one 11<| .fin))) (.one 11 (.one 10<| .one 12<| .fin))) (.alt 10 (.alt 2 (.alt 11 (.one 12<| .fin) (.one 12 (.one 11<| .fin))) (.one 11 (.one 2<| .one 12<| .fin))) (.one 11 (.alt 2 (.one 10<| .one 12<| .fin) (.one 10 (.one 2<| .one 12<| .fin)))))))))) (.one 7 (.alt 2 (.one 3<| .one 8<| .take 9<| .alt 10 (.alt 11 (.one 12<| .fin) (.one 12 (.one 11<| .fin))) (.one 11 (.one 10<| .one 12<| .fin))) (.one 3 (.alt 2 (.one 8<| .take 9<| .alt 10 (.alt 11 (.one 12<| .fin) (.one 12 (.one 11<| .fin))) (.one 11 (.one 10<| .one 12<| .fin))) (.one 8 (.take 9<| .alt 2 (.alt 10 (.alt 11 (.one 12<| .fin) (.one 12 (.one 11<| .fin))) (.one 11 (.one 10<| .one 12<| .fin))) (.alt 10 (.alt 2 (.alt 11 (.one 12<| .fin) (.one 12 (.one 11<| .fin))) (.one 11 (.one 2<| .one 12<| .fin))) (.one 11 (.alt 2 (.one 10<| .one 12<| .fin) (.one 10 (.one 2<| .one 12<| .fin)))))))))))))))
theorem Ih[MO](c:Ci)(st ins:List Bool)(hst:aa st<=1000000)(hins:aa ins<=1000000)(hn:NetOk c){R:AEnd->H->(Nat->Bool)->Prop}
 (hbad:aa st≠aa c.lat\/aa ins≠aa c.ins->R (.ret (.tup [.nilm,vi 11])) [vH c,vH c,jZ c] (λ_=>ac))
 (hok:aa st=aa c.lat->aa ins=aa c.ins->R (.ret (.tup [.lm 3,vi 0])) (mX c (rG c st ins)) (λ_=>ac)) :
 ag TE 61 [.lp 2 0,dw st,dw ins] [vH c,vH c,jZ c] R:=by
 have hM:=mLx;have e1:=IU [ins,st] (by simp;omega) (by simp);have hfl:[ins,st].flatten=ins++st:=by simp
 rw[hfl]at e1;refine wU ?_;refine aj Tryz.func61 rfl (by simp[nts]) ?_;refine vn ?_;simp only[wq.1,seval,Tryz.results61];refine vn ?_;simp only[wq.1,seval,jZ];rw[show am [aJ c.ins,aJ c.outs,kY c.lat,iU c.gates,aJ (aT c),V.is ac 1 (dh (jA c).1)]=jZ c from rfl];refine vcB.mk (λhc=> ?_) (λhc=> ?_)
 ·have hc:aa st≠aa c.lat\/aa ins≠aa c.ins:=by simp only[bne,Bool.or_eq_true,Bool.not_eq_true',beq_eq_false_iff_ne]at hc;omega
  simp only[wq.1,seval];exact hbad hc
 ·have hc:aa st=aa c.lat/\aa ins=aa c.ins:=by simp only[bne,zsf,Bool.not_eq_false',beq_iff_eq]at hc;omega
  obtain⟨hc1,hc2⟩:=hc;have hnl:aa (ins++st)<=aa (aT c):=by unfold aT;simp only[zqa,zra];omega
  obtain⟨L,hL⟩:∃L,L=ins++st:=⟨_,rfl⟩;rw[<-hL]at e1 hnl;have hLl:aa L<=2000000:=by rw[hL,zqa];omega
  have hnn:xP ((aT c).take (aa L)) L=xP ((aT c).take (aa L)) (L.take (aa L)):=by rw[zrx]
  have hm2:∀m:Env,(mX c m)[2]? =al (jZ c):=λm=>rfl;simp only[wq.1];refine vn ?_;simp only[wq.1,↓reduceIte,Nat.reduceLT,Nat.reduceAdd];refine vn ?_;simp only[wq.1,↓reduceIte,Nat.reduceEqDiff,Nat.reduceLT,reduceCtorEq,Nat.reduceMul];refine⟨⟨rfl,by decide⟩,ag.ev e1 (by simp only[aL,aE,zrd,List.map_nil,kT,zre]) ?_⟩;simp only[wq.1,seval];refine aF (λk f h=>∃i:Nat,k+i=aa L/\i<=aa L/\f.t 0= .lp 2 0/\f.t 8= .lm 3/\f.t 38=dw L/\f.t 39=vi (aa L)/\f.t 40=vi i/\f.d=[]/\(∀j,j<3->f.k j=ac)/\h=mX c (xP ((aT c).take i) (L.take i))) (aa L) ⟨0,by omega,by omega,by simp only[wq.1,seval],by simp only[wq.1,seval],by simp only[wq.1,seval],by simp only[wq.1,seval],by simp only[wq.1,↓reduceIte];rfl,by simp only[wq.1],λj _=>(by simp only[wq.1]),by rw[List.take_zero,List.take_zero];rfl⟩ ?_;rintro k f h ⟨i,hk,hil,t0,t8,t38,t39,t40,hd,hkk,rfl⟩;have hw:=aA (show i<maxLen by omega);refine vn ?_;simp only[wq.1,Nat.reduceLT,t39,t40];refine vn ?_;simp only[wq.1,↓reduceIte];refine vcB.mk (λhlt=> ?_) (λhlt=> ?_)
  ·have hlt:i<aa L:=by have:=zqs hlt;omega
   have hlt2:i<aa (aT c):=by omega
   have ga:=VO hlt .any;have gb:=Bz hlt2 .any;have hmp:=Kz (xP ((aT c).take i) (L.take i)) (aT c)[i] L[i];rw[<-Nw hlt2 hlt]at hmp;simp only[wq.1];refine ak (aB ?_);refine vn ?_;simp only[wq.1,seval,t38,t40,ga];refine⟨⟨by omega,by omega⟩,?_⟩;refine vm ?_;simp only[wq.1,seval,t0,t8,jZ,gb,K.keyOk,hmp];refine⟨⟨by omega,by omega⟩,?_⟩;refine vm ?_;simp only[wq.1,seval,t40,hw];exact .inl ⟨k-1,by omega,i+1,by omega,by omega,t0,t8,t38,t39,rfl,hd,hkk,rfl⟩
  ·have hi:i=aa L:=by have:=of_decide_eq_false hlt;omega
   subst hi;rw[<-hnn];simp only[wq.1];refine ak ?_;show awp _ _ _ _ _ _ _;obtain⟨m0,hm0⟩:∃m0,m0=xP ((aT c).take (aa L)) L:=⟨_,rfl⟩;have ok0:okE m0:=by rw[hm0];exact DU _ _
   obtain⟨od,hod⟩:∃od,od=(jA c).1:=⟨_,rfl⟩;have hodl:aa od<=100000:=by have:=SY c;have:=(P9 hn.lim);obtain⟨l1,l2,l3,l4,l5⟩:=this;rw[hod];omega
   have hV:rG c st ins=od.foldl (sZ c.gates) m0:=by rw[hm0,hod,hL];rfl
   have hlt:∀x∈od,x<aa c.gates:=λx hx=>yj c x (hod▸hx);rw[<-hm0];clear e1 t38 t39 t40 hk hw hm0 hnn hnl;refine vn ?_;simp only[wq.1,seval,t0,jZ,<-hod];refine aB ?_;refine aF (λk f h=>∃(i:Nat)(X:H),k+i=aa od/\i<=aa od/\f.t 0= .lp 2 0/\f.t 8= .lm 3/\f.t 58= .is ac 1 (dh od)/\f.t 59=vi (aa od)/\f.t 60=vi i/\f.d=[]/\(∀j,j<3->f.k j=ac)/\h=mX c ((od.take i).foldl (sZ c.gates) m0)++X) (aa od) ⟨0,[],by omega,by omega,by simp only[wq.1,seval,t0],by simp only[wq.1,seval,t8],by simp only[wq.1,seval],by simp only[wq.1,seval],by simp only[wq.1,↓reduceIte];rfl,by simp only[wq.1,hd],λj hj=>(by simp only[wq.1,hkk j hj]),rfl⟩ ?_;clear t0 t8 hd hkk f;rintro k f h ⟨i,X,hk,hil,t0,t8,t58,t59,t60,hd,hkk,rfl⟩;obtain⟨m,hm⟩:∃m,m=(od.take i).foldl (sZ c.gates) m0:=⟨_,rfl⟩;have okm:okE m:=by rw[hm];exact DV _ ok0
   rw[<-hm];refine fB (h0:=mX c m) (by rw[hd];simp) ?_;rw[Aq];obtain⟨f',hf'⟩:∃f',f'=f.drop (Abs.fK (aa (mX c m))):=⟨_,rfl⟩;have u0:f'.t 0= .lp 2 0:=by rw[hf'];show(f.t 0).drop _=_;rw[t0];rfl
   have u8:f'.t 8= .lm 3:=by rw[hf'];show(f.t 8).drop _=_;rw[t8];rfl
   have u58:f'.t 58= .is ac 1 (dh od):=by rw[hf'];show(f.t 58).drop _=_;rw[t58];rfl
   have u59:f'.t 59=vi (aa od):=by rw[hf'];show(f.t 59).drop _=_;rw[t59];rfl
   have u60:f'.t 60=vi i:=by rw[hf'];show(f.t 60).drop _=_;rw[t60];rfl
   have ud:f'.d=[]:=by rw[hf'];exact hd
   have uk:∀j,j<3->f'.k j=ac:=λj hj=>by
    have q:Abs.fK (aa (mX c m)) j=ac:=by show ar (4<=j)=ac;rw[zqd];omega
    rw[hf'];simp only[Fr.drop,hkk j hj,q,Bool.or_self]
   rw[<-hf'];clear hf' hd t0 t8 t58 t59 t60 hkk X f;have hw:=aA (show i<maxLen by omega);refine vn ?_;simp only[wq.1,Nat.reduceLT,u59,u60];refine vn ?_;simp only[wq.1,↓reduceIte];refine vcB.mk (λhlt2=> ?_) (λhlt2=> ?_)
   ·have hlt2:i<aa od:=by have:=zqs hlt2;omega
    have gN:=Zx hlt2 .any;obtain⟨a,ha⟩:∃a,a=od.getD i 0:=⟨_,rfl⟩;rw[<-ha]at gN;have hae:od[i]=a:=by rw[ha,zqg,zqk hlt2];rfl
    have hal:a<aa c.gates:=hlt a (hae▸zqu hlt2);have hgg:=uH hal .any;obtain⟨g,hg⟩:∃g,g=c.gates[a]:=⟨_,rfl⟩;rw[<-hg]at hgg;have hgd:c.gates.getD a ga0=g:=by rw[zqg,zqk hal,hg];rfl
    have hil2:aa g.ins<=1000000:=by have:=(P9 hn.lim);obtain⟨l1,l2,l3,l4,l5⟩:=this;have:=l5 g (hg▸zqu hal);omega
    have hst:(od.take (i+1)).foldl (sZ c.gates) m0=ptE m g.name (xO g (g.ins.map (lkE m))).1:=by rw[List.take_succ_eq_append_getElem hlt2,List.foldl_append,<-hm,hae];show sZ c.gates m a=_;unfold sZ;rw[hgd]
    have hmp:=Kz m g.name (xO g (g.ins.map (lkE m))).1;rw[<-hst]at hmp;have hev:=VP g (g.ins.map (lkE m));simp only[wq.1];refine ak (aB ?_);refine vn ?_;simp only[wq.1,seval,u58,u60,gN];refine⟨⟨by omega,by omega⟩,?_⟩;refine vn ?_;simp only[wq.1,seval,u0,jZ,hgg];refine⟨⟨by omega,by omega⟩,?_⟩;rw[show am [aJ c.ins,aJ c.outs,kY c.lat,iU c.gates,aJ (aT c),V.is ac 1 (dh (jA c).1)]=jZ c from rfl];obtain⟨HG,hHG⟩:∃HG:H,HG=[vH c,vH c,jZ c,UY m,am [.str g.name,vi g.op,aJ g.ins,aJ g.rows,.bool g.off]]:=⟨_,rfl⟩;have hcl:∀p:Nat->Bool,(∀j,j<aa HG->p j=ac)->HG.map (O.drop p)=HG:=λp _=>by
     rw[hHG];have:=Aq c m p;have h5:O.drop p (am [.str g.name,vi g.op,aJ g.ins,aJ g.rows,.bool g.off])=am [.str g.name,vi g.op,aJ g.ins,aJ g.rows,.bool g.off]:=by
      show am (ap _ _)=_;rw[iT.dats_drops _ (by simp only[aL,aE,ax,zre])]
     show(mX c m++[_]).map _=_;rw[zql,this,zrd,List.map_nil,h5];rfl
    have g3:HG[3]? =al (UY m):=by rw[hHG];rfl
    have g4:HG[4]? =al (am [.str g.name,vi g.op,aJ g.ins,aJ g.rows,.bool g.off]):=by rw[hHG];rfl
    have gs3:∀x:O,HG.set 3 x=[vH c,vH c,jZ c,x,am [.str g.name,vi g.op,aJ g.ins,aJ g.rows,.bool g.off]]:=λx=>by rw[hHG];rfl
    rw[<-hHG];refine fU (λF=>F.t 0= .lp 2 0/\F.t 8= .lm 3/\F.t 13= .lp 4 0/\F.t 58= .is ac 1 (dh od)/\F.t 59=vi (aa od)/\F.t 60=vi i/\F.d=[]/\∀j,j<3->F.k j=ac) ⟨by simp only[wq.1,seval,u0],by simp only[wq.1,seval,u8],by simp only[wq.1,↓reduceIte],by simp only[wq.1,seval,u58],by simp only[wq.1,seval,u59],by simp only[wq.1,seval,u60],by simp only[wq.1,ud],λj hj=>(by simp only[wq.1,uk j hj])⟩ ?_;clear u0 u8 u58 u59 u60 ud uk f';rintro F ⟨u0,u8,u13,u58,u59,u60,ud,uk⟩;refine dJ mixed S9 (λF h'=>F.t 0= .lp 2 0/\F.t 8= .lm 3/\F.t 58= .is ac 1 (dh od)/\F.t 59=vi (aa od)/\F.t 60=vi i/\F.d=[]/\(∀j,j<3->F.k j=ac)/\h'=HG.set 3 (UY ((od.take (i+1)).foldl (sZ c.gates) m0))) (by rw[TEP];decide +kernel) (by decide +kernel) ?_ ?_
    ·have hgd2:aL [.agg [.str g.name,vi g.op,aJ g.ins,aJ g.rows,.bool g.off],dw (g.ins.map (lkE m))]=ab:=by simp only[aL,aE,ax,kT,zre]
     simp only[wq.1,seval,S9,u8,u13,g4]
     and_intros
     all_goals (refine CE okm g3 hcl _ hil2 ?_)
     all_goals (simp only[wq.1,seval,u13,g4])
     all_goals and_intros
     all_goals (refine ag.ev hev hgd2 ?_)
     all_goals (simp only[wq.1,seval,u0,u8,u58,u59,u60,ud,g3,g4,K.keyOk,hmp])
     all_goals exact uk
    ·rintro F h' ⟨u0,u8,u58,u59,u60,ud,uk,rfl⟩;rw[gs3];simp only[wq.1];refine vm ?_;simp only[wq.1,seval,u60,hw];exact .inl ⟨k-1,by omega,i+1,[_],by omega,by omega,u0,u8,u58,u59,rfl,ud,uk,rfl⟩
   ·have hi:i=aa od:=by have:=of_decide_eq_false hlt2;omega
    subst hi;rw[zrx]at hm;have hmV:m=rG c st ins:=by rw[hm,hV]
    simp only[wq.1];refine vn ?_;simp only[wq.1,seval,u8];refine vm ?_;simp only[wq.1,seval,ud];rw[hmV];exact⟨uk,hok hc1 hc2⟩
abbrev laO(g:La):O:=am [.str g.name,.str g.next,vi g.init]
abbrev Bd(l:List Bool):O:=am (l.map V.bool)
abbrev rJ(c:Ci)(m:Env)(i:Nat):List Bool:=(c.lat.take i).map λq=>lkE m q.next
theorem LK(c:Ci)(m:Env)(g:La)(l:List Bool)(p:Nat->Bool):(mX c m++[laO g,Bd l]).map (O.drop p)=mX c m++[laO g,Bd l]:=by
 have h1:O.drop p (Bd l)=Bd l:=by show am (ap _ _)=_;rw[cO]
 rw[zql,Aq];show _++[laO g,O.drop p (Bd l)]=_;rw[h1]
def dS(c:Ci)(m:Env)(i:Nat)(f:Fr)(h:H):Prop:=i=0/\f.t 11= .nils/\h=mX c m\/0<i/\f.t 11= .ls 5 1 0 i i/\∃g,h=mX c m++[laO g,Bd (rJ c m i)]
def dSX(c:Ci)(m:Env)(i:Nat)(f:Fr)(h:H):Prop:=i=0/\f.t 11= .nils/\h=mX c m\/0<i/\f.t 11= .ls 5 1 0 i i/\∃g X,h=mX c m++[laO g,Bd (rJ c m i)]++X
theorem JB[MO](c:Ci)(st ins:List Bool)(hst:aa st<=1000000)(hins:aa ins<=1000000)(ho:(kW c).1=0){R:AEnd->H->(Nat->Bool)->Prop}
 (hr:∀(h:H)(v w:V),aC TE h v (dw (ql c st ins).1)->aC TE h w (dw (ql c st ins).2.1)->R (.ret (.tup [v,w,vi (ql c st ins).2.2])) h (λ_=>ac)) :
 ag TE 65 [.lp 2 0,dw st,dw ins] [vH c,vH c,jZ c] R:=by
 have hM:=mLx;have hn:=iJ ho;have hlim:=P9 hn.lim;obtain⟨l1,l2,l3,l4,l5⟩:=hlim;refine wU ?_;refine aj Tryz.func65 rfl (by simp[nts]) ?_;refine vn ?_;simp only[wq.1,seval,Tryz.results65];refine vn ?_;simp only[wq.1,seval];refine Ih c st ins hst hins hn (λhc=> ?_) (λh1 h2=> ?_)
 ·have hq:ql c st ins=([],[],11):=by unfold ql;rw[if_neg (λh=>h ho),if_pos hc]
  rw[hq]at hr;simp only[wq.1,seval];refine vn ?_;simp only[wq.1,seval];exact hr _ _ _ aC.nils aC.nils
 ·obtain⟨m,hm⟩:∃m,m=rG c st ins:=⟨_,rfl⟩;have okm:okE m:=by rw[hm];exact DV _ (DU _ _)
  have hq:ql c st ins=(c.outs.map (lkE m),c.lat.map (λq=>lkE m q.next),0):=by unfold ql;rw[if_neg (λh=>h ho),if_neg (by omega),hm]
  rw[hq]at hr;rw[<-hm];simp only[wq.1,seval];refine vn ?_;simp only[wq.1,seval];have hm2:(mX c m)[2]? =al (jZ c):=rfl;refine vn ?_;simp only[wq.1,Nat.reduceLT];refine ak ?_;refine vn ?_;simp only[wq.1,seval,jZ];refine aB ?_;refine aF (λk f h=>∃i:Nat,k+i=aa c.lat/\i<=aa c.lat/\f.t 0= .lp 2 0/\f.t 9= .lm 3/\f.t 28=kY c.lat/\f.t 29=vi (aa c.lat)/\f.t 30=vi i/\f.d=[]/\(∀j,j<3->f.k j=ac)/\dSX c m i f h) (aa c.lat) ⟨0,by omega,by omega,by simp only[wq.1,seval],by simp only[wq.1,seval],by simp only[wq.1,seval],by simp only[wq.1,seval],by simp only[wq.1,↓reduceIte];rfl,by simp only[wq.1],λj _=>(by simp only[wq.1]),.inl ⟨rfl,by simp only[wq.1,seval],rfl⟩⟩ ?_;rintro k f h ⟨i,hk,hil,t0,t9,t28,t29,t30,hd,hkk,hX⟩;obtain⟨Y,h',f',hcut,u0,u9,u28,u29,u30,ud,uk,hh⟩:∃(Y h':H)(f':Fr),(∀Q:XE->Fr->H->Prop,∀cd,awp TE 50 aq cd Q f' h'->awp TE 50 aq cd Q f h)/\f'.t 0= .lp 2 0/\f'.t 9= .lm 3/\f'.t 28=kY c.lat/\f'.t 29=vi (aa c.lat)/\f'.t 30=vi i/\f'.d=[]/\(∀j,j<3->f'.k j=ac)/\dS c m i f' h':=by
   rcases hX with⟨h0,t11,rfl⟩|⟨hi,t11,g,X,rfl⟩
   ·exact⟨[],_,f,λ_ _ hh=>hh,t0,t9,t28,t29,t30,hd,hkk,.inl ⟨h0,t11,rfl⟩⟩
   ·refine⟨X,mX c m++[laO g,Bd (rJ c m i)],f.drop (Abs.fK (aa (mX c m++[laO g,Bd (rJ c m i)]))),λQ cd hh=> ?_,?_,?_,?_,?_,?_,hd,λj hj=> ?_,.inr ⟨hi,?_,g,rfl⟩⟩
    ·refine fB (by rw[hd];simp) ?_;rw[LK];exact hh
    ·show(f.t 0).drop _=_;rw[t0];rfl
    ·show(f.t 9).drop _=_;rw[t9];rfl
    ·show(f.t 28).drop _=_;rw[t28];rfl
    ·show(f.t 29).drop _=_;rw[t29];rfl
    ·show(f.t 30).drop _=_;rw[t30];rfl
    ·have q:Abs.fK (aa (mX c m++[laO g,Bd (rJ c m i)])) j=ac:=by show ar (6<=j)=ac;rw[zqd];omega
     simp only[Fr.drop,hkk j hj,q,Bool.or_self]
    ·show(f.t 11).drop _=_;rw[t11];rfl
  refine hcut _ _ ?_;clear hcut t0 t9 t28 t29 t30 hd hkk hX f h Y;have hw:=aA (show i<maxLen by omega);refine vn ?_;simp only[wq.1,Nat.reduceLT,u29,u30];refine vn ?_;simp only[wq.1,↓reduceIte];refine vcB.mk (λhlt=> ?_) (λhlt=> ?_)
  ·have hlt:i<aa c.lat:=by have:=zqs hlt;omega
   have hgg:=IY hlt .any;obtain⟨g,hg⟩:∃g,g=c.lat[i]:=⟨_,rfl⟩;rw[<-hg]at hgg;obtain⟨X3,hX3⟩:∃X3,X3=(rJ c m (i+1)).map V.bool:=⟨_,rfl⟩;have hnx:(rJ c m i).map V.bool++[.bool (lkE m g.next)]=X3:=by rw[hX3,rJ,rJ,List.take_succ_eq_append_getElem hlt,zql,zql,hg];rfl
   have hd3:ap (λj=>j==5) ((rJ c m i).map V.bool)=(rJ c m i).map V.bool:=cO _;have hll:aa (rJ c m i)=i:=by rw[zra,zrl];omega
   have hmg:=DT okm g.next
   have hmb:ap (λx=>x==5) (m.2.map V.bool)=m.2.map V.bool:=cO _;have hmc:O.drop (λx=>x==5) (jZ c)=jZ c:=by have:=Aq c m (λx=>x==5);simp only[mX,zrd,List.cons.injEq]at this;exact this.2.2.1
   simp only[wq.1];refine ak (aB ?_);rcases hh with⟨rfl,u11,rfl⟩|⟨hi,u11,g0,rfl⟩
   ·refine vn ?_;simp only[wq.1,↓reduceIte,Nat.reduceEqDiff,Nat.reduceLT,Nat.reduceLeDiff,Nat.reduceAdd,Nat.reduceSub,Int.reduceToNat,Nat.reduceDiv,Int.reduceLT,Int.reduceLE,Int.reduceNeg,Int.reduceBEq,Int.reduceBNe,Int.reduceAdd,Int.reduceSub,Nat.reduceBEq,reduceCtorEq,Nat.reduceMul,ay,Tryz.results65,u28,u30,hgg];refine⟨⟨by omega,by omega⟩,?_⟩;refine vm ?_;simp only[wq.1,↓reduceIte,Nat.reduceEqDiff,Nat.reduceLT,Nat.reduceLeDiff,Nat.reduceAdd,reduceCtorEq,Nat.reduceMul,u9,u11,hmg,K.keyOk];refine⟨⟨rfl,by decide⟩,by omega,?_⟩;refine vm ?_;simp only[wq.1,seval,u30,hw];exact .inl ⟨k-1,by omega,1,by omega,by omega,u0,u9,u28,u29,rfl,ud,uk,.inr ⟨by omega,rfl,g,[],by rw[rJ,List.take_succ_eq_append_getElem hlt,<-hg];rfl⟩⟩
   ·refine vn ?_;simp only[wq.1,↓reduceIte,Nat.reduceEqDiff,Nat.reduceLT,Nat.reduceAdd,u28,u30,hgg];refine⟨⟨by omega,by omega⟩,?_⟩;refine vm ?_;simp only[wq.1,↓reduceIte,Nat.reduceEqDiff,Nat.reduceLT,Nat.reduceLeDiff,Nat.reduceAdd,reduceCtorEq,Nat.reduceMul,u9,u11,ud,hmg,K.keyOk,hd3,hmc,hmb,hnx];refine⟨⟨rfl,by decide⟩,⟨by rw[zrl];omega,by omega,by omega⟩,?_⟩;refine vm ?_;simp only[wq.1,seval,u30,hw];refine .inl ⟨k-1,by omega,i+1,by omega,by omega,by simp only[wq.1,seval,u0],by simp only[wq.1,seval,u9],by simp only[wq.1,seval,u28],by simp only[wq.1,seval,u29],by simp only[wq.1,↓reduceIte],ud,λj hj=> ?_,.inr ⟨by omega,by simp only[wq.1,seval],g0,[laO g],by rw[hX3,cO];rfl⟩⟩;have q:(j==5)=ac:=by rw[beq_eq_false_iff_ne];omega
    simp only[wq.1,uk j hj,q]
  ·have hi:i=aa c.lat:=by have:=of_decide_eq_false hlt;omega
   subst hi;clear hlt hk hil hw;obtain⟨hid,h2m,hcl,hre⟩:h'[3]? =al (UY m)/\h'[2]? =al (jZ c)/\(∀p:Nat->Bool,(∀j,j<aa h'->p j=ac)->h'.map (O.drop p)=h')/\aC TE h' (f'.t 11) (dw (rJ c m (aa c.lat))):=by
    rcases hh with⟨hl0,u11,rfl⟩|⟨hi,u11,g,rfl⟩
    ·refine⟨rfl,rfl,λp _=>Aq c m p,?_⟩;rw[u11,rJ,hl0];exact aC.nils
    ·refine⟨rfl,rfl,λp _=>LK c m g _ p,?_⟩;rw[u11];exact vY rfl (by simp)
   rw[rJ,zrx]at hre;clear hh;simp only[wq.1];refine vn ?_;simp only[wq.1,seval,u0,u9,h2m,jZ];refine CE okm hid hcl c.outs (by omega) ?_;simp only[wq.1,seval];refine vm ?_;simp only[wq.1,seval,ud];exact⟨uk,hr _ _ _ (aC.dat (by simp only[aE,kT])) hre⟩
end Go.Proofs.YthaijohbpdabfaaGreatDoor
