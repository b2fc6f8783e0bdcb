/- Lemmas for this claim, part F16: each holds under what it names. -/
import Derived.Test.YthaijohbpdabfaaGreatDoorNF15
import Derived.HandedShaped
import Derived.Stop.LaidErr
import Derived.Test.YthaijohbpdabfaaGreatDoorNA8
import Derived.JoinedOf
set_option linter.all false
set_option maxRecDepth 100000
set_option maxHeartbeats 4000000
namespace Go.Proofs.YthaijohbpdabfaaGreatDoor
open Go Go.Proofs Go.Abs Go.RowKit Go.ChangeShapes
abbrev LLn : List (String × DataW Unit) := [("math/bits.deBruijn32tab", Rows.laid_math_bits_deBruijn32tab), ("math/bits.deBruijn64tab", Rows.laid_math_bits_deBruijn64tab), ("internal/strconv.uint64pow10", Rows.laid_internal_strconv_uint64pow10), ("unicode/utf8.acceptRanges", Rows.laid_unicode_utf8_acceptRanges), ("patchbay/spot.start", Rows.laid_patchbay_spot_start), ("patchbay/ident.kept", Rows.laid_patchbay_ident_kept), ("patchbay/net.ins", Rows.laid_patchbay_net_ins), ("patchbay/bench.words", Rows.laid_patchbay_bench_words), ("patchbay/bench.latches", Rows.laid_patchbay_bench_latches), ("patchbay/bench.more", Rows.laid_patchbay_bench_more), ("patchbay/bench.other", Rows.laid_patchbay_bench_other), ("unicode/utf8.first", Rows.laid_unicode_utf8_first)]
theorem Ie{W:World}(h:laidMetH Tryz.prog LLn W):laidMet Tryz.prog LLn W:=h
theorem gJ{P:Program}{w:World}{n:String}{g:Nat}{cs:Array Value}(hg:P.globalNamed n=some g)(h:w.var? P n=some cs):∃ty fz,w.heap[g]? =some (.cells cs ty fz):=by
 unfold World.var? at h;rw[hg,Option.bind_some]at h;split at h
 ·cases h;exact⟨_,_,by assumption⟩
 ·cases h
theorem XJ{P:Program}{v:Value}{e e':TypeId}{n:Nat}(hu:P.underlying e=some (.array n e'))(hf:v.formed P e=true):∃cs,v= .agg cs:=by cases v<;>simp[Value.formed,hu]at hf;exact⟨_,rfl⟩
def Gh:List (Int×Int×Int):=[(0,0,0),(1,0,0),(2,1,1),(3,1,1),(4,2,8),(5,2,8),(6,2,8),(7,2,8),(8,2,8),(9,2,8),(10,0,8)]
def XL:List (Int×V):=Gh.map fun y=>(y.1,.agg [.int .i64 y.2.1,.int .i64 y.2.2])
theorem XM {W : World} {r : List (String × DataW Unit)} (h : laidMet Tryz.prog (("patchbay/net.ins", Rows.laid_patchbay_net_ins) :: r) W) : ∃ b es clk ty fz, W.heap[5]? = some (.cells #[.map (some b)] ty fz) ∧ W.heap[b]? = some (.map es clk) ∧ wW es clk ∧
 (∀x∈es.toList,∃y∈Gh,x.key= .int .i64 y.1/\x.val= .agg #[.int .i64 y.2.1,.int .i64 y.2.2])/\∀y∈Gh,∃x∈es.toList,x.key= .int .i64 y.1:=by
 obtain ⟨ps, ⟨g', t', cs, fuel, p, q, hg', ht', hvar, hd, _, _⟩, _⟩ := h;have e1 : Tryz.prog.globalNamed "patchbay/net.ins" = some 5 := by kernel_rfl
 obtain rfl:=Option.some.inj (e1.symm.trans hg');have e2:(Tryz.prog.globals[5]?).map (·.type)=some 220:=by kernel_rfl
 obtain rfl:=Option.some.inj (e2.symm.trans ht');have hd':DataW.trod (fun _=>()) Tryz.prog W 0 (fun _=>true) false fuel 220 cs.toList=some (.map [(.int .i64 0,.agg [.lit (.int .i64 0),.lit (.int .i64 0)]),(.int .i64 1,.agg [.lit (.int .i64 0),.lit (.int .i64 0)]),(.int .i64 2,.agg [.lit (.int .i64 1),.lit (.int .i64 1)]),(.int .i64 3,.agg [.lit (.int .i64 1),.lit (.int .i64 1)]),(.int .i64 4,.agg [.lit (.int .i64 2),.lit (.int .i64 8)]),(.int .i64 5,.agg [.lit (.int .i64 2),.lit (.int .i64 8)]),(.int .i64 6,.agg [.lit (.int .i64 2),.lit (.int .i64 8)]),(.int .i64 7,.agg [.lit (.int .i64 2),.lit (.int .i64 8)]),(.int .i64 8,.agg [.lit (.int .i64 2),.lit (.int .i64 8)]),(.int .i64 9,.agg [.lit (.int .i64 2),.lit (.int .i64 8)]),(.int .i64 10,.agg [.lit (.int .i64 0),.lit (.int .i64 8)])],p):=hd;obtain⟨b,es,clk,n,hcs,hb,hok,hnd,h1,h2⟩:=rH Tryz.underlying220 hd';obtain⟨ty,fz,hh⟩:=gJ e1 hvar;have hcs':cs=#[.map (some b)]:=Array.toList_inj.1 hcs;rw[hcs']at hh;have c1:Tryz.prog.cellsOf 3=1:=by kernel_rfl
 have c2:Tryz.prog.cellsOf 187=2:=by kernel_rfl
 have ikey:∀ {v:Value} {n:Int},keyOf Tryz.prog 47 v=some (.int .i64 n)->v= .int .i64 n:=fun {v n} hk=>by rw[keyOf_int Tryz.underlying47]at hk;cases v<;>simp[mapKey,Tryz.underlying47]at hk;obtain⟨⟨rfl,_⟩,rfl⟩:=hk;rfl
 have ival:∀ {v:Value} {a b:Int} {q:List MemPlace},v.formed Tryz.prog 187=true->DataW.trod (fun _=>()) Tryz.prog W 0 (fun _=>true) false n 187 v.cells.toList=some (.agg [.lit (.int .i64 a),.lit (.int .i64 b)],q)->v= .agg #[.int .i64 a,.int .i64 b]:=fun {v a b q} hf hr=>by obtain⟨cs,rfl⟩:=XJ Tryz.underlying187 hf;have:=Lib.cells_of_tab (zs:=[a,b]) (k:= .i64) Tryz.underlying187 Tryz.underlying3 c1 c2 hr;have:cs=#[.int .i64 a,.int .i64 b]:=Array.toList_inj.1 this;rw[this]
 refine⟨b,es,clk,ty,fz,hh,hb,hok,fun x hx=> ?_,fun y hy=> ?_⟩
 ·obtain⟨l,d,q,hm,hk,hr,hf⟩:=h1 x hx;simp only[zrj,zrp,or_false,Prod.mk.injEq]at hm;rcases hm with⟨rfl,rfl⟩|⟨rfl,rfl⟩|⟨rfl,rfl⟩|⟨rfl,rfl⟩|⟨rfl,rfl⟩|⟨rfl,rfl⟩|⟨rfl,rfl⟩|⟨rfl,rfl⟩|⟨rfl,rfl⟩|⟨rfl,rfl⟩|⟨rfl,rfl⟩
  ·exact⟨(0,0,0),by simp[Gh],ikey hk,ival hf hr⟩
  ·exact⟨(1,0,0),by simp[Gh],ikey hk,ival hf hr⟩
  ·exact⟨(2,1,1),by simp[Gh],ikey hk,ival hf hr⟩
  ·exact⟨(3,1,1),by simp[Gh],ikey hk,ival hf hr⟩
  ·exact⟨(4,2,8),by simp[Gh],ikey hk,ival hf hr⟩
  ·exact⟨(5,2,8),by simp[Gh],ikey hk,ival hf hr⟩
  ·exact⟨(6,2,8),by simp[Gh],ikey hk,ival hf hr⟩
  ·exact⟨(7,2,8),by simp[Gh],ikey hk,ival hf hr⟩
  ·exact⟨(8,2,8),by simp[Gh],ikey hk,ival hf hr⟩
  ·exact⟨(9,2,8),by simp[Gh],ikey hk,ival hf hr⟩
  ·exact⟨(10,0,8),by simp[Gh],ikey hk,ival hf hr⟩
 ·have hy':∃y'∈([(.int .i64 0,.agg [.lit (.int .i64 0),.lit (.int .i64 0)]),(.int .i64 1,.agg [.lit (.int .i64 0),.lit (.int .i64 0)]),(.int .i64 2,.agg [.lit (.int .i64 1),.lit (.int .i64 1)]),(.int .i64 3,.agg [.lit (.int .i64 1),.lit (.int .i64 1)]),(.int .i64 4,.agg [.lit (.int .i64 2),.lit (.int .i64 8)]),(.int .i64 5,.agg [.lit (.int .i64 2),.lit (.int .i64 8)]),(.int .i64 6,.agg [.lit (.int .i64 2),.lit (.int .i64 8)]),(.int .i64 7,.agg [.lit (.int .i64 2),.lit (.int .i64 8)]),(.int .i64 8,.agg [.lit (.int .i64 2),.lit (.int .i64 8)]),(.int .i64 9,.agg [.lit (.int .i64 2),.lit (.int .i64 8)]),(.int .i64 10,.agg [.lit (.int .i64 0),.lit (.int .i64 8)])]:List (Lit×DataW Unit)),y'.1= .int .i64 y.1:=by
   simp only[Gh,zrj,zrp,or_false]at hy;rcases hy with rfl|rfl|rfl|rfl|rfl|rfl|rfl|rfl|rfl|rfl|rfl
   ·exact⟨(.int .i64 0,.agg [.lit (.int .i64 0),.lit (.int .i64 0)]),by simp,rfl⟩
   ·exact⟨(.int .i64 1,.agg [.lit (.int .i64 0),.lit (.int .i64 0)]),by simp,rfl⟩
   ·exact⟨(.int .i64 2,.agg [.lit (.int .i64 1),.lit (.int .i64 1)]),by simp,rfl⟩
   ·exact⟨(.int .i64 3,.agg [.lit (.int .i64 1),.lit (.int .i64 1)]),by simp,rfl⟩
   ·exact⟨(.int .i64 4,.agg [.lit (.int .i64 2),.lit (.int .i64 8)]),by simp,rfl⟩
   ·exact⟨(.int .i64 5,.agg [.lit (.int .i64 2),.lit (.int .i64 8)]),by simp,rfl⟩
   ·exact⟨(.int .i64 6,.agg [.lit (.int .i64 2),.lit (.int .i64 8)]),by simp,rfl⟩
   ·exact⟨(.int .i64 7,.agg [.lit (.int .i64 2),.lit (.int .i64 8)]),by simp,rfl⟩
   ·exact⟨(.int .i64 8,.agg [.lit (.int .i64 2),.lit (.int .i64 8)]),by simp,rfl⟩
   ·exact⟨(.int .i64 9,.agg [.lit (.int .i64 2),.lit (.int .i64 8)]),by simp,rfl⟩
   ·exact⟨(.int .i64 10,.agg [.lit (.int .i64 0),.lit (.int .i64 8)]),by simp,rfl⟩
  obtain⟨y',hm,he⟩:=hy';obtain⟨x,hx,hk⟩:=h2 y' hm;rw[he]at hk;exact⟨x,hx,ikey hk⟩
theorem own:ownKnob Tryz.prog.godebug=none:=by kernel_rfl
theorem laid:laidOutB Tryz.prog=true:=by kernel_rfl
theorem nO{H:Type}{enc:TypeId×Value->H}{P:Program}{w:World}{base:Nat}{sp:Nat->Bool}{b:Bool}{fuel:Nat}{t:TypeId}{k:IntKind}{n:Int}{cs:List Value}{p:List MemPlace}
 (ht:P.underlying t=some (.int k)) (h:DataW.trod enc P w base sp b fuel t cs=some (.lit (.int k n),p)):cs=[.int k n]:=by
 cases fuel with
 |zero=>simp[DataW.trod]at h
 |succ fuel =>
  simp only [DataW.trod,ht] at h;split at h <;> first
   |(cases h;done)
   |(split at h<;>simp_all;done)
   |simp_all
theorem Tz {W : World} {r : List (String × DataW Unit)} (h : laidMet Tryz.prog (("patchbay/spot.start", Rows.laid_patchbay_spot_start) :: r) W) : ∃ ty fz, W.heap[3]? = some (.cells #[.int .i64 1, .int .i64 1] ty fz) := by
 obtain ⟨ps, ⟨g', t', cs, fuel, p, q, hg', ht', hvar, hd, _, _⟩, _⟩ := h;have e1 : Tryz.prog.globalNamed "patchbay/spot.start" = some 3 := by kernel_rfl
 obtain rfl:=Option.some.inj (e1.symm.trans hg');have e2:(Tryz.prog.globals[3]?).map (·.type)=some 188:=by kernel_rfl
 obtain rfl:=Option.some.inj (e2.symm.trans ht');have c1:Tryz.prog.cellsOf 188=2:=by kernel_rfl
 have c2:Tryz.prog.cellsOf 3=1:=by kernel_rfl
 have u3:Tryz.prog.underlying 3=some (.int .i64):=by kernel_rfl
 obtain⟨ty,fz,hh⟩:=gJ e1 hvar;cases fuel with
 |zero=>simp[DataW.trod]at hd
 |succ fuel =>
  simp only[DataW.trod,Tryz.underlying188]at hd;split at hd
  ·rename_i hl;rw[Option.map_eq_some_iff]at hd;obtain⟨xs,hx,he⟩:=hd;rw[c1]at hl;rw[c2,show List.range 2=[0,1]from rfl]at hx;simp only[List.mapM_cons,List.mapM_nil,Option.bind_eq_bind,Option.pure_def,Option.bind_eq_some_iff,Option.some.injEq]at hx;obtain⟨⟨y1,y2⟩,hy,ys,⟨⟨z1,z2⟩,hz,zs,rfl,rfl⟩,rfl⟩:=hx;simp only[zrd,List.map_nil,Prod.mk.injEq,Rows.laid_patchbay_spot_start,DataW.agg.injEq,List.cons.injEq,and_true]at he;obtain⟨⟨rfl,rfl⟩,_⟩:=he;have a1:=nO u3 hy;have a2:=nO u3 hz;have:cs=#[.int .i64 1,.int .i64 1]:=by
    apply Array.toList_inj.1
    match hcs:cs.toList,hl with
    |[a,b],_=>rw[hcs]at a1 a2;simp at a1 a2;rw[a1,a2]
   rw[this]at hh;exact⟨ty,fz,hh⟩
  ·cases hd
theorem Yr{W:World}(h:W.ShapedOpen Tryz.prog):∃ty fz m,W.heap[7]? =some (.cells #[.int .i64 m] ty fz):=by
 have h0:((begin Tryz.prog (fun _ _=>0) default).world.heap[7]?).bind Obj.row? =some (#[.int .i64 0],3):=by kernel_rfl
 have hg:7<Tryz.prog.globals.size:=by
  have:Tryz.prog.globals.size=13:=by kernel_rfl
  omega
 have hu:Tryz.prog.underlying 3=some (.int .i64):=Tryz.underlying3;obtain⟨m,hm⟩:=cell_of_shapedOpen_int h hg h0 rfl (by kernel_rfl) (by kernel_rfl) hu;obtain⟨cs,hh,hs,_⟩:=h.1 _ _ _ hg h0;have hs:cs.size=1:=hs;have:cs=#[.int .i64 m]:=by
  unfold World.cell? at hm;simp only[hh]at hm;have hm:cs[0]? =some (.int .i64 m):=hm;obtain⟨l⟩:=cs
  match l,hs with
  |[a],_=>simp at hm;rw[hm]
 rw[this]at hh;exact⟨3,(0,0),m,hh⟩
theorem reach_of'{H:Type}{P:Program}{fn:Func}{more:List TypeId}{ds gs:List (DataW H)}(h:(DataW.weightsEach P (fn.params.toList++more) (ds++gs)).all (·<=reachBytes)=true) :
 ∀(i:Nat) d t,ds[i]? =some d->fn.params.toList[i]? =some t->(reachM H P).L t d:=by
 intro i d t h1 h2 n hn;have h3:=zrs.1 h n (jV _ _ i d t (by rw[zqj (zqe h1).1];exact h1) (by rw[zqj (zqe h2).1];exact h2) hn);simpa using h3
theorem P5{P:Program}{v:Value}{e:TypeId}{k:IntKind}{n:Int}(hu:P.underlying e=some (.int k))(hf:v.formed P e=true)(h:v.cells.toList=[.int k n]):v= .int k n:=by
 cases v with
 |agg cs=>simp[Value.formed,hu]at hf
 |tuple cs=>simp[Value.formed,hu]at hf
 |_=>exact(List.cons.inj (show [_]=[Value.int k n]from h)).1
def Ld:List (S×Int):=[([66,85,70],2)]
def pG:List (Int×Int):=[(0,1),(1,0),(2,3),(3,2),(4,5),(6,7)]
theorem VX {W : World} {r : List (String × DataW Unit)} (h : laidMet Tryz.prog (("patchbay/bench.more", Rows.laid_patchbay_bench_more) :: r) W) : ∃ b es clk ty fz, W.heap[4]? = some (.cells #[.map (some b)] ty fz) ∧ W.heap[b]? = some (.map es clk) ∧ wW es clk ∧
 (∀x∈es.toList,∃s y,y∈Ld/\x.key= .string s/\s.data.toList=y.1/\s.size<=maxLen/\x.val= .int .i64 y.2)/\∀y∈Ld,∃x∈es.toList,∃s:ByteArray,x.key= .string s/\s.data.toList=y.1:=by
 obtain ⟨ps, ⟨g', t', cs, fuel, p, q, hg', ht', hvar, hd, _, _⟩, _⟩ := h;have e1 : Tryz.prog.globalNamed "patchbay/bench.more" = some 4 := by kernel_rfl
 obtain rfl:=Option.some.inj (e1.symm.trans hg');have e2:(Tryz.prog.globals[4]?).map (·.type)=some 178:=by kernel_rfl
 obtain rfl:=Option.some.inj (e2.symm.trans ht');have hd':DataW.trod (fun _=>()) Tryz.prog W 0 (fun _=>true) false fuel 178 cs.toList=some (.map [(.string [66,85,70],.lit (.int .i64 2))],p):=hd;obtain⟨b,es,clk,n,hcs,hb,hok,hnd,h1,h2⟩:=rH Tryz.underlying178 hd';obtain⟨ty,fz,hh⟩:=gJ e1 hvar;have hcs':cs=#[.map (some b)]:=Array.toList_inj.1 hcs;rw[hcs']at hh;refine⟨b,es,clk,ty,fz,hh,hb,hok,fun x hx=> ?_,fun y hy=> ?_⟩
 ·obtain⟨l,d,q,hm,hk,hr,hf⟩:=h1 x hx;obtain⟨s,hs1,hs2,hs3⟩:=WideMaps.string_of_keyOf Tryz.underlying9 hk;simp only[zrj,zrp,or_false,Prod.mk.injEq]at hm;obtain⟨rfl,rfl⟩:=hm;simp only[Lit.string.injEq]at hs2;exact⟨s,([66,85,70],2),by simp[Ld],hs1,hs2.symm,hs3,P5 Tryz.underlying3 hf (nO Tryz.underlying3 hr)⟩
 ·simp only[Ld,zrj,zrp,or_false]at hy;subst hy;obtain⟨x,hx,hk⟩:=h2 (.string [66,85,70],.lit (.int .i64 2)) (by simp);obtain⟨s,hs1,hs2,_⟩:=WideMaps.string_of_keyOf Tryz.underlying9 hk;simp only[Lit.string.injEq]at hs2;exact⟨x,hx,s,hs1,hs2.symm⟩
theorem TA {W : World} {r : List (String × DataW Unit)} (h : laidMet Tryz.prog (("patchbay/bench.other", Rows.laid_patchbay_bench_other) :: r) W) : ∃ b es clk ty fz, W.heap[2]? = some (.cells #[.map (some b)] ty fz) ∧ W.heap[b]? = some (.map es clk) ∧ wW es clk ∧
 (∀x∈es.toList,∃y∈pG,x.key= .int .i64 y.1/\x.val= .int .i64 y.2)/\∀y∈pG,∃x∈es.toList,x.key= .int .i64 y.1:=by
 obtain ⟨ps, ⟨g', t', cs, fuel, p, q, hg', ht', hvar, hd, _, _⟩, _⟩ := h;have e1 : Tryz.prog.globalNamed "patchbay/bench.other" = some 2 := by kernel_rfl
 obtain rfl:=Option.some.inj (e1.symm.trans hg');have e2:(Tryz.prog.globals[2]?).map (·.type)=some 149:=by kernel_rfl
 obtain rfl:=Option.some.inj (e2.symm.trans ht');have hd':DataW.trod (fun _=>()) Tryz.prog W 0 (fun _=>true) false fuel 149 cs.toList=some (.map [(.int .i64 0,.lit (.int .i64 1)),(.int .i64 1,.lit (.int .i64 0)),(.int .i64 2,.lit (.int .i64 3)),(.int .i64 3,.lit (.int .i64 2)),(.int .i64 4,.lit (.int .i64 5)),(.int .i64 6,.lit (.int .i64 7))],p):=hd;obtain⟨b,es,clk,n,hcs,hb,hok,hnd,h1,h2⟩:=rH Tryz.underlying149 hd';obtain⟨ty,fz,hh⟩:=gJ e1 hvar;have hcs':cs=#[.map (some b)]:=Array.toList_inj.1 hcs;rw[hcs']at hh;have ikey:∀ {v:Value} {n:Int},keyOf Tryz.prog 47 v=some (.int .i64 n)->v= .int .i64 n:=fun {v n} hk=>by rw[keyOf_int Tryz.underlying47]at hk;cases v<;>simp[mapKey,Tryz.underlying47]at hk;obtain⟨⟨rfl,_⟩,rfl⟩:=hk;rfl
 have ival:∀ {v:Value} {m:Int} {q:List MemPlace},v.formed Tryz.prog 47=true->DataW.trod (fun _=>()) Tryz.prog W 0 (fun _=>true) false n 47 v.cells.toList=some (.lit (.int .i64 m),q)->v= .int .i64 m:=fun hf hr=>P5 Tryz.underlying47 hf (nO Tryz.underlying47 hr);refine⟨b,es,clk,ty,fz,hh,hb,hok,fun x hx=> ?_,fun y hy=> ?_⟩
 ·obtain⟨l,d,q,hm,hk,hr,hf⟩:=h1 x hx;simp only[zrj,zrp,or_false,Prod.mk.injEq]at hm;rcases hm with⟨rfl,rfl⟩|⟨rfl,rfl⟩|⟨rfl,rfl⟩|⟨rfl,rfl⟩|⟨rfl,rfl⟩|⟨rfl,rfl⟩
  ·exact⟨(0,1),by simp[pG],ikey hk,ival hf hr⟩
  ·exact⟨(1,0),by simp[pG],ikey hk,ival hf hr⟩
  ·exact⟨(2,3),by simp[pG],ikey hk,ival hf hr⟩
  ·exact⟨(3,2),by simp[pG],ikey hk,ival hf hr⟩
  ·exact⟨(4,5),by simp[pG],ikey hk,ival hf hr⟩
  ·exact⟨(6,7),by simp[pG],ikey hk,ival hf hr⟩
 ·have hy':∃y'∈([(.int .i64 0,.lit (.int .i64 1)),(.int .i64 1,.lit (.int .i64 0)),(.int .i64 2,.lit (.int .i64 3)),(.int .i64 3,.lit (.int .i64 2)),(.int .i64 4,.lit (.int .i64 5)),(.int .i64 6,.lit (.int .i64 7))]:List (Lit×DataW Unit)),y'.1= .int .i64 y.1:=by
   simp only[pG,zrj,zrp,or_false]at hy;rcases hy with rfl|rfl|rfl|rfl|rfl|rfl
   ·exact⟨(.int .i64 0,.lit (.int .i64 1)),by simp,rfl⟩
   ·exact⟨(.int .i64 1,.lit (.int .i64 0)),by simp,rfl⟩
   ·exact⟨(.int .i64 2,.lit (.int .i64 3)),by simp,rfl⟩
   ·exact⟨(.int .i64 3,.lit (.int .i64 2)),by simp,rfl⟩
   ·exact⟨(.int .i64 4,.lit (.int .i64 5)),by simp,rfl⟩
   ·exact⟨(.int .i64 6,.lit (.int .i64 7)),by simp,rfl⟩
  obtain⟨y',hm,he⟩:=hy';obtain⟨x,hx,hk⟩:=h2 y' hm;rw[he]at hk;exact⟨x,hx,ikey hk⟩
theorem vV{H:Type}{enc:TypeId×Value->H}{P:Program}{w:World}{base:Nat}{sp:Nat->Bool}{held:Bool}{fuel:Nat}{t e:TypeId}{n:Nat}{cs:List Value}{zs:List S}{p:List MemPlace}
 (ht:P.underlying t=some (.array n e)) (he:P.underlying e=some .string) (hce:P.cellsOf e=1) (hct:P.cellsOf t=n)
 (h:DataW.trod enc P w base sp held fuel t cs=some (.agg (zs.map fun z=> .lit (.string z)),p)):cs=zs.map fun z=>Value.string ⟨z.toArray⟩:=by
 cases fuel with
 |zero=>simp[DataW.trod]at h
 |succ fuel =>
  simp only[DataW.trod,ht,hce,hct,Nat.mul_one]at h;split at h
  ·rename_i hl;obtain⟨xs,hm,hx⟩:=Option.map_eq_some_iff.1 h;have hxs:xs.map (·.1)=zs.map fun z=>(DataW.lit (.string z):DataW H):=by
    have:=congrArg Prod.fst hx;simpa using this
   have hxl:xs.length=n:=by simpa using Lib.mapM_length hm
   have hzl:zs.length=n:=by have:=congrArg List.length hxs;simp at this;omega
   apply List.ext_getElem?;intro i;by_cases hi:i<n
   ·obtain⟨b,hb,hf⟩:=Lib.mapM_at hm i i (by simp[hi]);obtain⟨z,hc,hbz,_⟩:=DataW.trod_string he hf;have h1:cs[i]? =some (.string z):=by have:=congrArg (·[0]?) hc;simpa [List.getElem?_take,List.getElem?_drop]using this
    have h2:(xs.map (·.1))[i]? =some b.1:=by simp[hb]
    rw[hxs]at h2;rw[hbz]at h2;simp only[zqo,Option.map_eq_some_iff,DataW.lit.injEq,Lit.string.injEq]at h2;obtain⟨z',hz',hzz⟩:=h2;simp only[h1,zqo,hz',zrw,hzz]
   ·rw[zsj (by omega),zsj (by simp;omega)]
  ·cases h
def Ul(z:V):Option V->V
 |some v=>v
 |none=>z
theorem P6{α:Type}[DecidableEq α]{kd:K}{mk:α->V}(hk:∀a b,keq kd (mk a) (mk b)=some (decide (a=b)))(hi:∀a b,mk a=mk b->a=b){L:List MapEntry}{T:List (α×V)}(hT:(T.map (·.1)).Nodup)
 (h1:∀x∈L,∃y∈T,vOf x.key=mk y.1/\vOf x.val=y.2) (h2:∀y∈T,∃x∈L,vOf x.key=mk y.1) (a:α) (z:V) :
 rP kd (mk a) (L.map fun x=>vOf x.key) (L.map fun x=>vOf x.val) z false=(True,Ul z ((T.find? fun y=>decide (a=y.1)).map (·.2))):=by
 obtain⟨T',t1,t2,t3,t4⟩:=Ic h1;rw[t1,t2];unfold rP;rw[y7 hk];cases hf:(T'.map (·.1)).findIdx? fun b=>decide (a=b)with
 |some n =>
  obtain⟨hn,hp,_⟩:=List.findIdx?_eq_some_iff_getElem.1 hf;have hn':n<T'.length:=by simpa using hn
  have hp:a=T'[n].1:=by simpa using hp
  have hm:=t3 _ (zqu hn');have hff:(T.find? fun y=>decide (a=y.1))=some T'[n]:=by
   cases hq:T.find? fun y=>decide (a=y.1)with
   |none=>have:=List.find?_eq_none.1 hq _ hm;rw[hp]at this;simp at this
   |some y =>
    have e1:=List.find?_some hq;have e2:=List.mem_of_find?_eq_some hq;have e1:a=y.1:=by simpa using e1
    rw[y8 hT e2 hm (by rw[<-e1,<-hp])]
  rw[hff];dsimp only[Ul,zrw];have:(T'.map (·.2)).getD n .any=T'[n].2:=fP hn' _;rw[this];rfl
 |none =>
  have hff:(T.find? fun y=>decide (a=y.1))=none:=by
   rw[List.find?_eq_none];intro y hy e;have e:a=y.1:=by simpa using e
   obtain⟨x,hx,ex⟩:=h2 y hy;obtain⟨y',hy',ey⟩:=t4 x hx;have e3:=hi _ _ (ex.symm.trans ey);have:=List.findIdx?_eq_none_iff.1 hf y'.1 (zrh.2 ⟨y',hy',rfl⟩);rw[e,e3]at this;simp at this
  rw[hff];rfl
theorem Yt {W : World} {r : List (String × DataW Unit)} (h : laidMet Tryz.prog (("internal/strconv.uint64pow10", Rows.laid_internal_strconv_uint64pow10) :: r) W) : ∃ ty fz, W.heap[10]? = some (.cells (Lib.pow10Tab.map fun z => Value.int .u64 z).toArray ty fz) := by
 have e1 : Tryz.prog.globalNamed "internal/strconv.uint64pow10" = some 10 := by kernel_rfl
 have e2:(Tryz.prog.globals[10]?).map (·.type)=some 344:=by kernel_rfl
 have c1:Tryz.prog.cellsOf 313=1:=by kernel_rfl
 have c2:Tryz.prog.cellsOf 344=20:=by kernel_rfl
 have:=Lib.tabIs_of_head (zs:=Lib.pow10Tab) (k:= .u64) e1 e2 Tryz.underlying344 Tryz.underlying313 c1 c2 h;exact gJ e1 this
theorem VY {W : World} {r : List (String × DataW Unit)} (h : laidMet Tryz.prog (("patchbay/bench.words", Rows.laid_patchbay_bench_words) :: r) W) : ∃ ty fz, W.heap[1]? = some (.cells (dL.map fun z => Value.string ⟨z.toArray⟩).toArray ty fz) := by
 obtain ⟨ps, ⟨g', t', cs, fuel, p, q, hg', ht', hvar, hd, _, _⟩, _⟩ := h;have e1 : Tryz.prog.globalNamed "patchbay/bench.words" = some 1 := by kernel_rfl
 obtain rfl:=Option.some.inj (e1.symm.trans hg');have e2:(Tryz.prog.globals[1]?).map (·.type)=some 90:=by kernel_rfl
 obtain rfl:=Option.some.inj (e2.symm.trans ht');have c1:Tryz.prog.cellsOf 9=1:=by kernel_rfl
 have c2:Tryz.prog.cellsOf 90=10:=by kernel_rfl
 obtain⟨ty,fz,hh⟩:=gJ e1 hvar;have:=vV (zs:=dL) Tryz.underlying90 Tryz.underlying9 c1 c2 hd;have:cs=(dL.map fun z=>Value.string ⟨z.toArray⟩).toArray:=Array.toList_inj.1 (by rw[this]);exact⟨ty,fz,by rw[<-this];exact hh⟩
theorem VZ {W : World} {r : List (String × DataW Unit)} (h : laidMet Tryz.prog (("patchbay/bench.latches", Rows.laid_patchbay_bench_latches) :: r) W) : ∃ ty fz, W.heap[0]? = some (.cells (bM.map fun z => Value.string ⟨z.toArray⟩).toArray ty fz) := by
 obtain ⟨ps, ⟨g', t', cs, fuel, p, q, hg', ht', hvar, hd, _, _⟩, _⟩ := h;have e1 : Tryz.prog.globalNamed "patchbay/bench.latches" = some 0 := by kernel_rfl
 obtain rfl:=Option.some.inj (e1.symm.trans hg');have e2:(Tryz.prog.globals[0]?).map (·.type)=some 89:=by kernel_rfl
 obtain rfl:=Option.some.inj (e2.symm.trans ht');have c1:Tryz.prog.cellsOf 9=1:=by kernel_rfl
 have c2:Tryz.prog.cellsOf 89=3:=by kernel_rfl
 obtain⟨ty,fz,hh⟩:=gJ e1 hvar;have:=vV (zs:=bM) Tryz.underlying89 Tryz.underlying9 c1 c2 hd;have:cs=(bM.map fun z=>Value.string ⟨z.toArray⟩).toArray:=Array.toList_inj.1 (by rw[this]);exact⟨ty,fz,by rw[<-this];exact hh⟩
theorem P7{w:World}{g:Nat}{zs:List S}{ty:TypeId}{fz:Nat×Nat}(hz:zs≠[])(hl:∀z∈zs,z.length<=maxLen)(h:w.heap[g]? =some (.cells (zs.map fun z=>Value.string ⟨z.toArray⟩).toArray ty fz)):VRel (cw w) (.ip (.agg (zs.map V.str))) (.pointer (some ⟨g,0,none⟩)):=by
 have hv:∀zs:List S,(∀z∈zs,z.length<=maxLen)->VList (cw w).data (zs.map V.str) (zs.map fun z=>Value.string ⟨z.toArray⟩):=fun zs=>by
  induction zs with
  |nil=>intro _;simp only[List.map_nil,VList]
  |cons a l ih=>intro h;simp only[zrd,VList,VRel];exact⟨_,_,rfl,⟨_,rfl,by simp,h a (by simp)⟩,ih fun z hz=>h z (List.mem_cons_of_mem _ hz)⟩
 simp only[VRel];refine⟨g,0,.agg (zs.map fun z=>Value.string ⟨z.toArray⟩).toArray,rfl,fun j hj=>⟨⟨trivial,fun i hi=>by cases hi⟩,?_⟩,?_,_,rfl,hv zs hl⟩
 ·show w.cell? ⟨g,0+j,none⟩=_;unfold World.cell?;simp only[h,Nat.zero_add];rfl
 ·have:0<zs.length:=List.length_pos_iff.2 hz;simpa [Value.cells]using this
def TB:List (S×V):=Ld.map fun y=>(y.1,.int .i64 y.2)
def JA:List (Int×V):=pG.map fun y=>(y.1,.int .i64 y.2)
/-- What the condition gives the walks. -/
theorem laid_moN{W:World}(h:laidMetH Tryz.prog LLn W)(hsh:W.ShapedOpen Tryz.prog):∃mo:MO,(∀g v,(@TE mo).gl g=some v->VRel (cw W) (.ip v) (.pointer (some ⟨g,0,none⟩)))/\∀g p,(@TE mo).gx g=some p->∃cs ty fz,W.heap[g]? =some (.cells cs ty fz)/\p cs:=by
 have h3:=laidMet.tail (laidMet.tail (Ie h));have h5:=laidMet.tail (laidMet.tail h3);have h7:=laidMet.tail (laidMet.tail h5);have h8:=laidMet.tail h7;have h9:=laidMet.tail h8;have h10:=laidMet.tail h9;have h11:=laidMet.tail h10;obtain⟨b,es,clk,ty,fz,t1,t2,t3,t4,t5⟩:=VX h10;obtain⟨b',es',clk',ty',fz',i1,i2,i3,i4,i5⟩:=XM h7;obtain⟨b2,es2,clk2,ty2,fz2,o1,o2,o3,o4,o5⟩:=TA h11;obtain⟨sty,sfz,s1⟩:=Tz h5;obtain⟨dty,dfz,d1⟩:=Yt h3;obtain⟨wty,wfz,w1⟩:=VY h8;obtain⟨lty,lfz,l1⟩:=VZ h9;obtain⟨mty,mfz,m,m1⟩:=Yr hsh;have q1:∀x∈es.toList,∃y∈TB,vOf x.key=V.str y.1/\vOf x.val=y.2:=fun x hx=>by obtain⟨s,y,hy,e1,e2,_,e3⟩:=t4 x hx;exact⟨(y.1,.int .i64 y.2),zrh.2 ⟨y,hy,rfl⟩,by rw[e1,<-e2];rfl,by rw[e3];rfl⟩
 have q2:∀y∈TB,∃x∈es.toList,vOf x.key=V.str y.1:=fun y hy=>by obtain⟨y',hy',rfl⟩:=zrh.1 hy;obtain⟨x,hx,s,e1,e2⟩:=t5 y' hy';exact⟨x,hx,by rw[e1,<-e2];rfl⟩
 have q3:∀x∈es'.toList,∃y∈XL,vOf x.key=V.int .i64 y.1/\vOf x.val=y.2:=fun x hx=>by obtain⟨y,hy,e1,e3⟩:=i4 x hx;exact⟨(y.1,.agg [.int .i64 y.2.1,.int .i64 y.2.2]),zrh.2 ⟨y,hy,rfl⟩,by rw[e1];rfl,by rw[e3];rfl⟩
 have q4:∀y∈XL,∃x∈es'.toList,vOf x.key=V.int .i64 y.1:=fun y hy=>by obtain⟨y',hy',rfl⟩:=zrh.1 hy;obtain⟨x,hx,e1⟩:=i5 y' hy';exact⟨x,hx,by rw[e1];rfl⟩
 have q5:∀x∈es2.toList,∃y∈JA,vOf x.key=V.int .i64 y.1/\vOf x.val=y.2:=fun x hx=>by obtain⟨y,hy,e1,e3⟩:=o4 x hx;exact⟨(y.1,.int .i64 y.2),zrh.2 ⟨y,hy,rfl⟩,by rw[e1];rfl,by rw[e3];rfl⟩
 have q6:∀y∈JA,∃x∈es2.toList,vOf x.key=V.int .i64 y.1:=fun y hy=>by obtain⟨y',hy',rfl⟩:=zrh.1 hy;obtain⟨x,hx,e1⟩:=o5 y' hy';exact⟨x,hx,by rw[e1];rfl⟩
 have g1:=Jz VW (fun a b e=>by injection e) (T:=TB) (by decide) q1 q2;have g2:=Jz PZ (fun a b e=>by injection e) (T:=XL) (by decide) q3 q4;have g3:=P6 PZ (fun a b e=>by injection e) (T:=JA) (by decide) q5 q6;refine⟨{ik:=es'.toList.map fun x=>vOf x.key,iv:=es'.toList.map fun x=>vOf x.val,bk:=es.toList.map fun x=>vOf x.key,bv:=es.toList.map fun x=>vOf x.val,ok:=es2.toList.map fun x=>vOf x.key,ov:=es2.toList.map fun x=>vOf x.val,ins:=fun n z=> ?_,more:=fun s z=> ?_,other:=fun n z=> ?_},fun g v hg=> ?_,fun g p hg=> ?_⟩
 ·rw[g2];refine congrArg _ ?_;by_cases hn:0<=n/\n<=10
  ·rw[if_pos hn];have:n=0\/n=1\/n=2\/n=3\/n=4\/n=5\/n=6\/n=7\/n=8\/n=9\/n=10:=by omega
   rcases this with rfl|rfl|rfl|rfl|rfl|rfl|rfl|rfl|rfl|rfl|rfl<;>rfl
  ·rw[if_neg hn];have:(XL.find? fun y=>decide (n=y.1))=none:=by
    rw[List.find?_eq_none];intro y hy e;have e:n=y.1:=by simpa using e
    simp only[XL,Gh,zrd,List.map_nil,zrj,zrp,or_false]at hy;rcases hy with rfl|rfl|rfl|rfl|rfl|rfl|rfl|rfl|rfl|rfl|rfl<;>exact hn (by omega)
   rw[this];rfl
 ·rw[g1];refine congrArg _ ?_;unfold TB Ld;simp only[zrd,List.map_nil];by_cases h0:s=[66,85,70]
  ·rw[if_pos h0,List.find?_cons_of_pos (by simpa using h0)];rfl
  ·rw[if_neg h0,List.find?_cons_of_neg (by simpa using h0)];rfl
 ·rw[g3];refine congrArg _ ?_;unfold JA pG;simp only[zrd,List.map_nil];by_cases h0:n=0
  ·rw[if_pos h0,List.find?_cons_of_pos (by simpa using h0)];rfl
  rw[if_neg h0,List.find?_cons_of_neg (by simpa using h0)];by_cases h1:n=1
  ·rw[if_pos h1,List.find?_cons_of_pos (by simpa using h1)];rfl
  rw[if_neg h1,List.find?_cons_of_neg (by simpa using h1)];by_cases h2:n=2
  ·rw[if_pos h2,List.find?_cons_of_pos (by simpa using h2)];rfl
  rw[if_neg h2,List.find?_cons_of_neg (by simpa using h2)];by_cases h3:n=3
  ·rw[if_pos h3,List.find?_cons_of_pos (by simpa using h3)];rfl
  rw[if_neg h3,List.find?_cons_of_neg (by simpa using h3)];by_cases h4:n=4
  ·rw[if_pos h4,List.find?_cons_of_pos (by simpa using h4)];rfl
  rw[if_neg h4,List.find?_cons_of_neg (by simpa using h4)];by_cases h5:n=6
  ·rw[if_pos h5,List.find?_cons_of_pos (by simpa using h5)];rfl
  rw[if_neg h5,List.find?_cons_of_neg (by simpa using h5)];rfl
 ·match g,hg with
  |4,hg =>
   obtain rfl:=Option.some.inj hg;exact PY t1 t2 t3 (fun x hx=>by
    obtain⟨s,y,_,e1,_,e2,_⟩:=t4 x hx;rw[e1];simp only[vOf,VRel];exact⟨s,rfl,rfl,by simpa using e2⟩) (fun x hx=>by
    obtain⟨s,y,_,_,_,_,e3⟩:=t4 x hx;rw[e3];simp only[vOf,VRel])
  |2,hg =>
   obtain rfl:=Option.some.inj hg;exact PY o1 o2 o3 (fun x hx=>by
    obtain⟨y,_,e1,_⟩:=o4 x hx;rw[e1];simp only[vOf,VRel]) (fun x hx=>by
    obtain⟨y,_,_,e3⟩:=o4 x hx;rw[e3];simp only[vOf,VRel])
  |5,hg =>
   obtain rfl:=Option.some.inj hg;exact PY i1 i2 i3 (fun x hx=>by
    obtain⟨y,_,e1,_⟩:=i4 x hx;rw[e1];simp only[vOf,VRel]) (fun x hx=>by
    obtain⟨y,_,_,e3⟩:=i4 x hx;rw[e3];simp only[vOf,VRel];refine⟨_,rfl,?_⟩;simp only[zrd,List.map_nil,VList,VRel];exact⟨_,_,rfl,rfl,_,_,rfl,rfl,rfl⟩)
  |1,hg=>obtain rfl:=Option.some.inj hg;exact P7 (by decide) (by decide) w1
  |0,hg=>obtain rfl:=Option.some.inj hg;exact P7 (by decide) (by decide) l1
  |3,hg=>obtain rfl:=Option.some.inj hg;exact UH s1
 ·match g,hg with
  |3,hg=>have hp:(fun cs=>cs=#[Value.int .i64 1,Value.int .i64 1])=p:=Option.some.inj hg;subst hp;exact⟨_,sty,sfz,s1,rfl⟩
  |7,hg=>have hp:(fun cs=>∃m,cs=#[Value.int .i64 m])=p:=Option.some.inj hg;subst hp;exact⟨_,mty,mfz,m1,m,rfl⟩
  |10,hg=>have hp:(fun cs=>cs=(Lib.pow10Tab.map fun z=>Value.int .u64 z).toArray)=p:=Option.some.inj hg;subst hp;exact⟨_,dty,dfz,d1,rfl⟩
def plc:MemPlace->Nat
 | .cell b off=>b*256+off
 | .map b=>b*256
def AY:Nat->List MemPlace->Bool
 |_,[]=>true
 |acc,p::ps=> !acc.testBit (plc p)&&AY (acc ||| 1 <<< plc p) ps
theorem y9:∀(ps:List MemPlace)(acc:Nat),AY acc ps=true->ps.Nodup/\∀p∈ps,acc.testBit (plc p)=false
 |[],_,_=>⟨List.nodup_nil,fun p h=>by cases h⟩
 |p::ps,acc,h=>by
  rw[AY,zqf,Bool.not_eq_true']at h;obtain⟨h1,h2⟩:=h;obtain⟨k1,k2⟩:=y9 ps _ h2;have hb:∀q∈ps,acc.testBit (plc q)=false/\plc q≠plc p:=fun q hq=>by
   have:=k2 q hq;rw[Nat.testBit_or,Nat.shiftLeft_eq,Nat.one_mul,Nat.testBit_two_pow,zsf,zqd]at this;exact⟨this.1,fun e=>this.2 e.symm⟩
  refine⟨List.nodup_cons.2 ⟨fun hp=>(hb p hp).2 rfl,k1⟩,fun q hq=> ?_⟩;rcases zrj.1 hq with rfl|hq
  ·exact h1
  ·exact(hb q hq).1
noncomputable def F8 (os : Os) : World := (World.doorLaid Tryz.prog 1200 os).layVars Tryz.prog [("unicode/utf8.first", Rows.laid_unicode_utf8_first)]
theorem P8(os:Os)(args:Array Value):(DataW.laidRun Tryz.prog ((F8 os).forCall (fun _ _=>0) ⟨#[],args,[]⟩).memory 8 (LLn.map (·.1))).map (·.1)=some LLn:=by kernel_rfl
theorem P9(os:Os)(args:Array Value):(DataW.laidRun Tryz.prog ((F8 os).forCall (fun _ _=>0) ⟨#[],args,[]⟩).memory 8 (LLn.map (·.1))).map (fun x=>AY 0 x.2&&laidRowsB Tryz.prog ((F8 os).forCall (fun _ _=>0) ⟨#[],args,[]⟩).memory x.2)=some true:=by kernel_rfl
theorem Le{P:Program}{w:World}{l:List (String×DataW Unit)}(fuel:Nat)(h:(DataW.laidRun P w fuel (l.map (·.1))).map (·.1)=some l)
 (hr:(DataW.laidRun P w fuel (l.map (·.1))).map (fun x=>AY 0 x.2&&laidRowsB P w x.2)=some true):laidMet P l w:=by
 cases hx:DataW.laidRun P w fuel (l.map (·.1))with
 |none=>rw[hx]at h;cases h
 |some x=>obtain⟨l',ps⟩:=x;rw[hx]at h hr;have h:l'=l:=Option.some.inj h;have hr:(AY 0 ps&&laidRowsB P w ps)=true:=Option.some.inj hr;subst h;rw[zqf]at hr;exact laidMet_of_run fuel hx (decide_eq_true (y9 ps 0 hr.1).1) hr.2
theorem door_metN(os:Os)(args:Array Value):laidMetH Tryz.prog LLn ((F8 os).forCall (fun _ _=>0) ⟨#[],args,[]⟩).memory :=
 (Le 8 (P8 os args) (P9 os args):laidMet Tryz.prog LLn _)
section
variable{H:Type}{enc:TypeId×Value->H}
theorem rih_andS{a:Assume}{C:Checked}{os:Os}{f:FuncId}{fn:Func}{s:ChangeSpec}{conds:List PathCond}{apart fresh handsOn again:Bool}{X:World->Array Value->Prop}
 (hX:∀(w w':World)(args:Array Value),w.heap=w'.heap->X w args->X w' args)
 (own:ownKnob C.prog.godebug=none) (started:os.Started) (noInit:C.prog.inits.idxOf? f=none) (hfn:C.prog.funcs[f]? =some fn)
 (witness:∃(w:World)(tape:Tape)(i:Input),w.os=os/\(w.forCall tape i).Shaped C.prog/\i.vars=[]/\Input.okWide C.prog (w.forCall tape i) .any w.heap.size f i /\
  ((s.pre enc C.prog fn conds apart (w.forCall tape i).memory i.args/\X (w.forCall tape i).memory i.args)/\sizedMet enc C.prog fn (OpenSpec.ofChange s) apart (w.forCall tape i).memory i.args)/\a.holds C.prog (lone (Frame.enter C.prog f i.args .normal) [] (w.forCall tape i)))
 (contract:∀(W:World)(base:Nat)(args:Array Value)(ds gs:List (DataW H))(before:List MemPlace),
  (∀(j:Nat) t v,fn.params[j]? =some t->args[j]? =some v->Value.okWide C.prog W .any base t v) ->
  DataW.Whole enc C.prog fn.params.toList s.vars apart W args.toList ds gs before ->
  (DataW.weightsEach C.prog (fn.params.toList++s.plain.varTypes C.prog) (ds++gs)).all (·<=reachBytes)=true->X W args->W.ShapedOpen C.prog ->
  Calls C.prog f args W fun e W'=>∃v,e= .returned v/\s.post enc C.prog fn apart fresh handsOn again W args v W') :
 ReturnsInHanded a C os f .any (fun w args=>(s.pre enc C.prog fn conds apart w args/\X w args)/\sizedMet enc C.prog fn (OpenSpec.ofChange s) apart w args) (s.post enc C.prog fn apart fresh handsOn again):=by
 refine returnsInHanded_of_calls own started noInit witness ?_;intro w tape i _ hsh _ hok hpre hholds;obtain⟨_,_,_,fn',hfn',_,_,_,_,hval⟩:=hok;have e:fn'=fn:=Option.some.inj (hfn'.symm.trans hfn);subst e;obtain⟨⟨⟨ds,gs,before,hw,hc⟩,hx⟩,hz⟩:=hpre;have hw':=DataW.Whole.of_heap (w':=w.forCall tape i) (by rfl) hw;refine(contract (w.forCall tape i) w.heap.size i.args ds gs before hval hw' (hz.weights hw) (hX _ _ _ (by rfl) hx) hsh).mono fun e W' ⟨v,he,hp⟩=> ?_;subst he;exact ChangeSpec.post_blind hp
end
abbrev vW:Sh:= .slice .str
abbrev Yu:Sh:= .struct [.str,.int .i64,vW,vW,.bool]
theorem zf{R:Nat}{e:Sh}{α:Type}{F:α->V}(he:∀v,Sh.Sz R e v->∃a,v=F a):∀es:List V,(∀x∈es,Sh.Sz R e x)->∃l:List α,es=l.map F
 |[],_=>⟨[],rfl⟩
 |x::es,h=>by obtain⟨a,rfl⟩:=he x (h x (by simp));obtain⟨l,rfl⟩:=zf he es fun y hy=>h y (by simp[hy]);exact⟨a::l,rfl⟩
theorem Um{R:Nat}{v:V}(h:Sh.Sz R (.int .i64) v):∃n:Int,v=vi n:=by simp only[Sh.Sz]at h;obtain⟨n,rfl,hw⟩:=h;exact⟨n,rfl⟩
theorem F9{R:Nat}{v:V}(h:Sh.Sz R .str v):∃s:S,v= .str s:=by simp only[Sh.Sz]at h;obtain⟨s,rfl,_⟩:=h;exact⟨s,rfl⟩
theorem V3{R:Nat}{v:V}(h:Sh.Sz R .bool v):∃b:Bool,v= .bool b:=by simpa only[Sh.Sz]using h
theorem Ig{R:Nat}{v:V}(h:Sh.Sz R vW v):∃c:List S,v=aN c:=by unfold vW at h;rw[Sh.Sz]at h;obtain⟨es,rfl,hl,h⟩:=h;obtain⟨l,rfl⟩:=zf (F:=V.str) (fun v hv=>F9 hv) es h;exact⟨l,rfl⟩
theorem Yv{R:Nat}{v:V}(h:Sh.Sz R Yu v):∃g:Ga,v=g.v:=by unfold Yu at h;rw[Sh.Sz]at h;obtain⟨vs,rfl,h⟩:=h;simp only[Sh.Szs]at h;obtain⟨u0,us,rfl,h0,u1,us,rfl,h1,u2,us,rfl,h2,u3,us,rfl,h3,u4,us,rfl,h4,rfl⟩:=h;obtain⟨n,rfl⟩:=F9 h0;obtain⟨o,rfl⟩:=Um h1;obtain⟨i,rfl⟩:=Ig h2;obtain⟨r,rfl⟩:=Ig h3;obtain⟨b,rfl⟩:=V3 h4;exact⟨⟨n,o,i,r,b⟩,rfl⟩
theorem pf_laid:laidOutB Tryz.pinned.checked.prog=true:=by kernel_rfl
theorem pf_maps:mapsRowed Tryz.pinned.checked.prog=true:=by kernel_rfl
theorem pf_stops:(Tryz.pinned.checked.prog.stops==[])=true:=by kernel_rfl
theorem pf_knobs:(Tryz.pinned.checked.prog.stopKnobs==[])=true:=by kernel_rfl
theorem pf_heard:Tryz.pinned.checked.prog.stopsHeard=true:=by kernel_rfl
theorem pf_enter:Tryz.pinned.checked.prog.mayEnter=true:=by kernel_rfl
theorem pf_lifts:(Rows.benchBackRow.lifted==Tryz.pinned.checked.prog.liftsFinal)=true:=by kernel_rfl
theorem pf_plain:(Rows.benchBackRow.plainKeys==Tryz.pinned.checked.prog.plainKeys)=true:=by kernel_rfl
theorem pf_main : Tryz.pinned.checked.prog.mainIs = some (true, "277376348e67c6e4505156191ba0faf005bbeea4c685b33672f996eaf3e381ba".toList) := by kernel_rfl
theorem pf_looks:true=Tryz.pinned.checked.prog.looks []:=by kernel_rfl
abbrev Yw:Sh:= .struct [.str,.str,.int .i64]
abbrev shCi:Sh:= .struct [vW,vW,.slice Yw,.slice Yu]
theorem Yx{R:Nat}{v:V}(h:Sh.Sz R Yw v):∃g:La,v=g.v:=by unfold Yw at h;rw[Sh.Sz]at h;obtain⟨vs,rfl,h⟩:=h;simp only[Sh.Szs]at h;obtain⟨u0,us,rfl,h0,u1,us,rfl,h1,u2,us,rfl,h2,rfl⟩:=h;obtain⟨n,rfl⟩:=F9 h0;obtain⟨o,rfl⟩:=F9 h1;obtain⟨i,rfl⟩:=Um h2;exact⟨⟨n,o,i⟩,rfl⟩
theorem TC{R:Nat}{v:V}(h:Sh.Sz R vW v):∃c:List S,v=aN c/\c.length<=R:=by unfold vW at h;rw[Sh.Sz]at h;obtain⟨es,rfl,hl,h⟩:=h;obtain⟨l,rfl⟩:=zf (F:=V.str) (fun v hv=>F9 hv) es h;exact⟨l,rfl,by simpa using hl⟩
theorem sz_ci{R:Nat}(hR:R<=200000000000000){v:V}(h:Sh.Sz R shCi v):∃c:Ci,v=c.v/\Sum c:=by unfold shCi at h;rw[Sh.Sz]at h;obtain⟨vs,rfl,h⟩:=h;simp only[Sh.Szs]at h;obtain⟨u0,us,rfl,h0,u1,us,rfl,h1,u2,us,rfl,h2,u3,us,rfl,h3,rfl⟩:=h;obtain⟨a,rfl,ha⟩:=TC h0;obtain⟨b,rfl⟩:=Ig h1;rw[Sh.Sz]at h2 h3;obtain⟨es,rfl,hl,h2⟩:=h2;obtain⟨l,rfl⟩:=zf (F:=La.v) (fun v hv=>Yx hv) es h2;obtain⟨es,rfl,hl3,h3⟩:=h3;obtain⟨g,rfl⟩:=zf (F:=Ga.v) (fun v hv=>Yv hv) es h3;rw[zra]at hl hl3;exact⟨⟨a,b,l,g⟩,rfl,by show a.length+l.length+g.length<=_;omega⟩
end Go.Proofs.YthaijohbpdabfaaGreatDoor
