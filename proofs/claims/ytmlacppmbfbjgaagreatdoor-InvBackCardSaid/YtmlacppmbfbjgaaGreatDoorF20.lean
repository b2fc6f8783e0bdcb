/- Lemmas for this claim, part F20: each holds under what it names. -/
import Derived.Test.YtmlacppmbfbjgaaGreatDoorF19
import Derived.Test.YtmlacppmbfbjgaaGreatDoorA10
import Derived.Lay
import Derived.Stop.LaidErr
import Derived.MakeChecks
import Derived.Lib.LaidTab
import Derived.Test.YtmlacppmbfbjgaaGreatDoorRows
import Derived.Test.YtmlacppmbfbjgaaGreatDoorTie
set_option linter.unusedVariables false
set_option linter.unusedSimpArgs false
set_option linter.unnecessarySimpa false
set_option maxRecDepth 100000
namespace Go.Proofs.YtmlacppmbfbjgaaGreatDoor
open Go Go.Proofs Go.Abs Go.RowKit
theorem own:ownKnob Tryz.prog.godebug=none:=by kernel_rfl
theorem laid:laidOutB Tryz.prog=true:=by kernel_rfl
abbrev LL : List (String × DataW Unit) := [("unicode/utf8.acceptRanges", Rows.laid_unicode_utf8_acceptRanges), ("patchbay/spot.start", Rows.laid_patchbay_spot_start), ("unicode/utf8.first", Rows.laid_unicode_utf8_first)]
theorem NP (w:World):laidMetH Tryz.prog LL w=laidMet Tryz.prog LL w:=MakeChecks.laidMetH_plain _ _ _ (by kernel_rfl)
theorem door_met (os:Os) (args:Array Value):laidMetH Tryz.prog LL ((World.laidAll Tryz.prog os LL).forCall (fun _ _=>0) ⟨#[],args,[]⟩).memory:=by rw[NP];exact laidMet_laidAll _ (by kernel_rfl) (by kernel_rfl)
theorem Dn {P:Program} {w:World} {n:String} {g:Nat} {cs:Array Value} (hg:P.globalNamed n=some g) (h:w.var? P n=some cs):∃ty fz,w.heap[g]? =some (.cells cs ty fz):=by
 unfold World.var? at h;rw[hg,Option.bind_some]at h;split at h
 ·cases h;exact⟨_,_,by assumption⟩
 ·cases h
theorem wQ {H : Type} {enc : TypeId × Value → H} {P : Program} {w : World} {base : Nat} {sp : Nat → Bool} {b : Bool} {fuel : Nat} {t : TypeId} {k : IntKind} {n : Int} {cs : List Value} {p : List MemPlace}
 (ht:P.underlying t=some (.int k)) (h:DataW.trod enc P w base sp b fuel t cs=some (.lit (.int k n),p)):cs=[.int k n]:=by
 cases fuel with
 | zero=>simp[DataW.trod]at h
 | succ fuel =>
  simp only [DataW.trod,ht] at h;split at h <;> first
   | (cases h;done)
   | (split at h<;>simp_all;done)
   | simp_all
theorem Qm {W : World} {r : List (String × DataW Unit)} (h : laidMet Tryz.prog (("patchbay/spot.start", Rows.laid_patchbay_spot_start) :: r) W) : ∃ ty fz, W.heap[0]? = some (.cells #[.int .i64 1, .int .i64 1] ty fz) := by
 obtain ⟨ps, ⟨g', t', cs, fuel, p, q, hg', ht', hvar, hd, _, _⟩, _⟩ := h;have e1 : Tryz.prog.globalNamed "patchbay/spot.start" = some 0 := by kernel_rfl
 obtain rfl:=Option.some.inj (e1.symm.trans hg');have e2:(Tryz.prog.globals[0]?).map (·.type)=some 172:=by kernel_rfl
 obtain rfl:=Option.some.inj (e2.symm.trans ht');have c1:Tryz.prog.cellsOf 172=2:=by kernel_rfl
 have c2:Tryz.prog.cellsOf 3=1:=by kernel_rfl
 have u3:Tryz.prog.underlying 3=some (.int .i64):=by kernel_rfl
 obtain⟨ty,fz,hh⟩:=Dn e1 hvar;cases fuel with
 | zero=>simp[DataW.trod]at hd
 | succ fuel =>
  simp only[DataW.trod,Tryz.underlying172]at hd;split at hd
  ·rename_i hl;rw[Option.map_eq_some_iff]at hd;obtain⟨xs,hx,he⟩:=hd;rw[c1]at hl;rw[c2,show List.range 2=[0,1]from rfl]at hx;simp only[List.mapM_cons,List.mapM_nil,Option.bind_eq_bind,Option.pure_def,Option.bind_eq_some_iff,Option.some.injEq]at hx;obtain⟨⟨y1,y2⟩,hy,ys,⟨⟨z1,z2⟩,hz,zs,rfl,rfl⟩,rfl⟩:=hx;simp only[List.map_cons,List.map_nil,Prod.mk.injEq,Rows.laid_patchbay_spot_start,DataW.agg.injEq,List.cons.injEq,and_true]at he;obtain⟨⟨rfl,rfl⟩,_⟩:=he;have a1:=wQ u3 hy;have a2:=wQ u3 hz;have:cs=#[.int .i64 1,.int .i64 1]:=by
    apply Array.toList_inj.1
    match hcs:cs.toList,hl with
    | [a,b],_=>rw[hcs]at a1 a2;simp at a1 a2;rw[a1,a2]
   rw[this]at hh;exact⟨ty,fz,hh⟩
  ·cases hd
/-- What the condition gives the walks. -/
theorem of_laid {W:World} (h:laidMetH Tryz.prog LL W):∀g p,TE.gx g=some p→∃cs ty fz,W.heap[g]? =some (.cells cs ty fz)∧p cs:=by
 rw[NP]at h;have h6:=laidMet.tail h;intro g p hg
 match g,hg with
 | 0,hg=>have hp:(fun cs=>cs=#[Value.int .i64 1,Value.int .i64 1])=p:=Option.some.inj hg;subst hp;obtain⟨ty,fz,h1⟩:=Qm h6;exact⟨_,ty,fz,h1,rfl⟩
 | n+1,hg=>exact absurd hg (by intro h;cases h)
theorem gl_of_laid {W:World} (h:laidMetH Tryz.prog LL W):∀g v,TE.gl g=some v→VRel (cw W) (.ip v) (.pointer (some ⟨g,0,none⟩)):=by
 intro g v hg
 match g,hg with
 | 0,hg=>have hv:V.agg [.int .i64 1,.int .i64 1]=v:=Option.some.inj hg;subst hv;obtain⟨cs,ty,fz,h1,rfl⟩:=of_laid h 0 _ rfl;exact Rq h1
 | n+1,hg=>exact absurd hg (by intro h;cases h)
theorem reach_of' {H:Type} {P:Program} {fn:Func} {more:List TypeId} {ds gs:List (DataW H)} (h:(DataW.weightsEach P (fn.params.toList++more) (ds++gs)).all (·≤reachBytes)=true) :
 ∀(i:Nat) d t,ds[i]? =some d→fn.params.toList[i]? =some t→(reachM H P).L t d:=by
 intro i d t h1 h2 n hn;have h3:=List.all_eq_true.1 h n (jR _ _ i d t (by rw[List.getElem?_append_left (List.getElem?_eq_some_iff.1 h1).1];exact h1) (by rw[List.getElem?_append_left (List.getElem?_eq_some_iff.1 h2).1];exact h2) hn);simpa using h3
abbrev GR:Sh:= .slice .str
abbrev TQ:Sh:= .struct [.str,.bool]
abbrev NQ:Sh:= .slice TQ
abbrev shLss:Sh:= .slice NQ
abbrev shTab:Sh:= .struct [GR,GR]
theorem Aa {R : Nat} {e : Sh} {α : Type} {F : α → V} (he : ∀ v,Sh.Sz R e v → ∃ a,v = F a) : ∀ es : List V,(∀ x ∈ es,Sh.Sz R e x) → ∃ l : List α,es = l.map F
 | [],_=>⟨[],rfl⟩
 | x::es,h=>by obtain⟨a,rfl⟩:=he x (h x (by simp));obtain⟨l,rfl⟩:=Aa he es fun y hy=>h y (by simp[hy]);exact⟨a::l,rfl⟩
theorem sz_str {R:Nat} {v:V} (h:Sh.Sz R .str v):∃s:S,v= .str s∧s.length≤R:=by simpa only[Sh.Sz]using h
theorem NR {R:Nat} {v:V} (h:Sh.Sz R GR v):∃c:List S,v=dF c∧c.length≤R:=by unfold GR at h;rw[Sh.Sz]at h;obtain⟨es,rfl,hl,h⟩:=h;obtain⟨l,rfl⟩:=Aa (F:=V.str) (fun v hv=>by obtain⟨n,rfl,_⟩:=sz_str hv;exact⟨n,rfl⟩) es h;exact⟨l,rfl,by simpa using hl⟩
theorem TR {R:Nat} {v:V} (h:Sh.Sz R .bool v):∃b:Bool,v= .bool b:=by simpa only[Sh.Sz]using h
theorem VF {R:Nat} {v:V} (h:Sh.Sz R TQ v):∃p:Lt,v=Dw p:=by unfold TQ at h;rw[Sh.Sz]at h;obtain⟨vs,rfl,h⟩:=h;simp only[Sh.Szs]at h;obtain⟨u0,us,rfl,h0,u1,us,rfl,h1,rfl⟩:=h;obtain⟨s,rfl,_⟩:=sz_str h0;obtain⟨b,rfl⟩:=TR h1;exact⟨(s,b),rfl⟩
theorem TS {R:Nat} {v:V} (h:Sh.Sz R NQ v):∃c:List Lt,v=iI c:=by unfold NQ at h;rw[Sh.Sz]at h;obtain⟨es,rfl,hl,h⟩:=h;obtain⟨l,rfl⟩:=Aa (F:=Dw) (fun v hv=>VF hv) es h;exact⟨l,rfl⟩
theorem sz_lss {R:Nat} {v:V} (h:Sh.Sz R shLss v):∃l:List (List Lt),v=lss l∧l.length≤R:=by unfold shLss at h;rw[Sh.Sz]at h;obtain⟨es,rfl,hl,h⟩:=h;obtain⟨l,rfl⟩:=Aa (F:=fun c=>iI c) (fun v hv=>TS hv) es h;exact⟨l,rfl,by simpa using hl⟩
theorem sz_tab {R:Nat} {v:V} (h:Sh.Sz R shTab v):∃p:List S×List S,v=tab p.1 p.2∧p.1.length≤R:=by unfold shTab at h;rw[Sh.Sz]at h;obtain⟨vs,rfl,h⟩:=h;simp only[Sh.Szs]at h;obtain⟨u0,us,rfl,h0,u1,us,rfl,h1,rfl⟩:=h;obtain⟨a,rfl,ha⟩:=NR h0;obtain⟨b,rfl,_⟩:=NR h1;exact⟨(a,b),rfl,ha⟩
end Go.Proofs.YtmlacppmbfbjgaaGreatDoor
