/- Lemmas for this claim, part F17: each holds under what it names. -/
import Derived.Test.YtmlacppmbfbjgaaGreatDoorSF16
import Derived.Test.YtmlacppmbfbjgaaGreatDoorSA9
import Derived.Lay
import Derived.Stop.LaidErr
import Derived.MakeChecks
import Derived.Lib.LaidTab
import Derived.Test.YtmlacppmbfbjgaaGreatDoorRows
import Derived.Test.YtmlacppmbfbjgaaGreatDoorTie
set_option linter.unusedVariables false
set_option linter.unusedSimpArgs false
set_option linter.unnecessarySimpa false
set_option maxRecDepth 100000
namespace Go.Proofs.YtmlacppmbfbjgaaGreatDoor
open Go Go.Proofs Go.Abs Go.RowKit
theorem own:ownKnob Tryz.prog.godebug=none:=by kernel_rfl
theorem laid:laidOutB Tryz.prog=true:=by kernel_rfl
abbrev LL : List (String × DataW Unit) := [("unicode/utf8.acceptRanges", Rows.laid_unicode_utf8_acceptRanges), ("patchbay/spot.start", Rows.laid_patchbay_spot_start), ("unicode/utf8.first", Rows.laid_unicode_utf8_first)]
theorem Oj (w:World):laidMetH Tryz.prog LL w=laidMet Tryz.prog LL w:=MakeChecks.laidMetH_plain _ _ _ (by kernel_rfl)
theorem door_met (os:Os) (args:Array Value):laidMetH Tryz.prog LL ((World.laidAll Tryz.prog os LL).forCall (fun _ _=>0) ⟨#[],args,[]⟩).memory:=by rw[Oj];exact laidMet_laidAll _ (by kernel_rfl) (by kernel_rfl)
theorem DK {P:Program} {w:World} {n:String} {g:Nat} {cs:Array Value} (hg:P.globalNamed n=some g) (h:w.var? P n=some cs):∃ty fz,w.heap[g]? =some (.cells cs ty fz):=by
 unfold World.var? at h;rw[hg,Option.bind_some]at h;split at h
 ·cases h;exact⟨_,_,by assumption⟩
 ·cases h
theorem xg {H : Type} {enc : TypeId × Value → H} {P : Program} {w : World} {base : Nat} {sp : Nat → Bool} {b : Bool} {fuel : Nat} {t : TypeId} {k : IntKind} {n : Int} {cs : List Value} {p : List MemPlace}
 (ht:P.underlying t=some (.int k)) (h:DataW.trod enc P w base sp b fuel t cs=some (.lit (.int k n),p)):cs=[.int k n]:=by
 cases fuel with
 | zero=>simp[DataW.trod]at h
 | succ fuel =>
  simp only [DataW.trod,ht] at h;split at h <;> first
   | (cases h;done)
   | (split at h<;>simp_all;done)
   | simp_all
theorem QH {W : World} {r : List (String × DataW Unit)} (h : laidMet Tryz.prog (("patchbay/spot.start", Rows.laid_patchbay_spot_start) :: r) W) : ∃ ty fz, W.heap[0]? = some (.cells #[.int .i64 1, .int .i64 1] ty fz) := by
 obtain ⟨ps, ⟨g', t', cs, fuel, p, q, hg', ht', hvar, hd, _, _⟩, _⟩ := h;have e1 : Tryz.prog.globalNamed "patchbay/spot.start" = some 0 := by kernel_rfl
 obtain rfl:=Option.some.inj (e1.symm.trans hg');have e2:(Tryz.prog.globals[0]?).map (·.type)=some 172:=by kernel_rfl
 obtain rfl:=Option.some.inj (e2.symm.trans ht');have c1:Tryz.prog.cellsOf 172=2:=by kernel_rfl
 have c2:Tryz.prog.cellsOf 3=1:=by kernel_rfl
 have u3:Tryz.prog.underlying 3=some (.int .i64):=by kernel_rfl
 obtain⟨ty,fz,hh⟩:=DK e1 hvar;cases fuel with
 | zero=>simp[DataW.trod]at hd
 | succ fuel =>
  simp only[DataW.trod,Tryz.underlying172]at hd;split at hd
  ·rename_i hl;rw[Option.map_eq_some_iff]at hd;obtain⟨xs,hx,he⟩:=hd;rw[c1]at hl;rw[c2,show List.range 2=[0,1]from rfl]at hx;simp only[List.mapM_cons,List.mapM_nil,Option.bind_eq_bind,Option.pure_def,Option.bind_eq_some_iff,Option.some.injEq]at hx;obtain⟨⟨y1,y2⟩,hy,ys,⟨⟨z1,z2⟩,hz,zs,rfl,rfl⟩,rfl⟩:=hx;simp only[zrd,List.map_nil,Prod.mk.injEq,Rows.laid_patchbay_spot_start,DataW.agg.injEq,List.cons.injEq,and_true]at he;obtain⟨⟨rfl,rfl⟩,_⟩:=he;have a1:=xg u3 hy;have a2:=xg u3 hz;have:cs=#[.int .i64 1,.int .i64 1]:=by
    apply Array.toList_inj.1
    match hcs:cs.toList,hl with
    | [a,b],_=>rw[hcs]at a1 a2;simp at a1 a2;rw[a1,a2]
   rw[this]at hh;exact⟨ty,fz,hh⟩
  ·cases hd
/-- What the condition gives the walks. -/
theorem of_laid {W:World} (h:laidMetH Tryz.prog LL W):∀g p,TE.gx g=some p→∃cs ty fz,W.heap[g]? =some (.cells cs ty fz)∧p cs:=by
 rw[Oj]at h;have h6:=laidMet.tail h;intro g p hg
 match g,hg with
 | 0,hg=>have hp:(fun cs=>cs=#[Value.int .i64 1,Value.int .i64 1])=p:=Option.some.inj hg;subst hp;obtain⟨ty,fz,h1⟩:=QH h6;exact⟨_,ty,fz,h1,rfl⟩
 | n+1,hg=>exact absurd hg (by intro h;cases h)
theorem gl_of_laid {W:World} (h:laidMetH Tryz.prog LL W):∀g v,TE.gl g=some v→VRel (cw W) (.ip v) (.pointer (some ⟨g,0,none⟩)):=by
 intro g v hg
 match g,hg with
 | 0,hg=>have hv:V.agg [.int .i64 1,.int .i64 1]=v:=Option.some.inj hg;subst hv;obtain⟨cs,ty,fz,h1,rfl⟩:=of_laid h 0 _ rfl;exact Sj h1
 | n+1,hg=>exact absurd hg (by intro h;cases h)
theorem reach_of' {H:Type} {P:Program} {fn:Func} {more:List TypeId} {ds gs:List (DataW H)} (h:(DataW.weightsEach P (fn.params.toList++more) (ds++gs)).all (·≤reachBytes)=true) :
 ∀(i:Nat) d t,ds[i]? =some d→fn.params.toList[i]? =some t→(reachM H P).L t d:=by
 intro i d t h1 h2 n hn;have h3:=zrs.1 h n (jX _ _ i d t (by rw[zqj (zqe h1).1];exact h1) (by rw[zqj (zqe h2).1];exact h2) hn);simpa using h3
abbrev Ws:Sh:= .slice (.int .i64)
abbrev Xb:Sh:= .struct [.int .i64,.int .i64]
abbrev Us:Sh:= .slice Xb
abbrev DL:Sh:= .slice .str
abbrev Xi:Sh:= .struct [.int .i64,Ws,Ws,Us,Ws]
abbrev shMo:Sh:= .struct [Xi,DL,DL,DL]
abbrev Ut:Sh:= .struct [.str,.bool]
abbrev Ol:Sh:= .slice Ut
abbrev shLss:Sh:= .slice Ol
abbrev shBs:Sh:= .slice .bool
abbrev shRws:Sh:= .slice shBs
theorem oG {R : Nat} {e : Sh} {α : Type} {F : α → V} (he : ∀ v,Sh.Sz R e v → ∃ a,v = F a) : ∀ es : List V,(∀ x ∈ es,Sh.Sz R e x) → ∃ l : List α,es = l.map F
 | [],_=>⟨[],rfl⟩
 | x::es,h=>by obtain⟨a,rfl⟩:=he x (h x (by simp));obtain⟨l,rfl⟩:=oG he es fun y hy=>h y (by simp[hy]);exact⟨a::l,rfl⟩
theorem sz_int {R:Nat} {v:V} (h:Sh.Sz R (.int .i64) v):∃n:Int,v=vi n∧-9223372036854775808≤n∧n<9223372036854775808:=by simp only[Sh.Sz]at h;obtain⟨n,rfl,hw⟩:=h;refine⟨n,rfl,?_⟩;simp[Lit.wf,IntKind.min,IntKind.max,IntKind.signed,IntKind.bits]at hw;omega
theorem Ru {R:Nat} {v:V} (h:Sh.Sz R .str v):∃s:S,v= .str s∧s.length≤R:=by simpa only[Sh.Sz]using h
theorem Fh {R:Nat} {v:V} (h:Sh.Sz R Ws v):∃c:Cl,v=aF c∧c.length≤R:=by unfold Ws at h;rw[Sh.Sz]at h;obtain⟨es,rfl,hl,h⟩:=h;obtain⟨l,rfl⟩:=oG (F:=vi) (fun v hv=>by obtain⟨n,rfl,_⟩:=sz_int hv;exact⟨n,rfl⟩) es h;exact⟨l,rfl,by simpa using hl⟩
theorem Fj {R:Nat} {v:V} (h:Sh.Sz R DL v):∃c:List S,v=dE c∧c.length≤R:=by unfold DL at h;rw[Sh.Sz]at h;obtain⟨es,rfl,hl,h⟩:=h;obtain⟨l,rfl⟩:=oG (F:=V.str) (fun v hv=>by obtain⟨n,rfl,_⟩:=Ru hv;exact⟨n,rfl⟩) es h;exact⟨l,rfl,by simpa using hl⟩
theorem Xc {R:Nat} {v:V} (h:Sh.Sz R Xb v):∃p:Pq,v=prV p:=by unfold Xb at h;rw[Sh.Sz]at h;obtain⟨vs,rfl,h⟩:=h;simp only[Sh.Szs]at h;obtain⟨u0,us,rfl,h0,u1,us,rfl,h1,rfl⟩:=h;obtain⟨n,rfl,_⟩:=sz_int h0;obtain⟨k,rfl,_⟩:=sz_int h1;exact⟨(n,k),rfl⟩
theorem Wu {R:Nat} {v:V} (h:Sh.Sz R Us v):∃c:List Pq,v=prs c∧c.length≤R:=by unfold Us at h;rw[Sh.Sz]at h;obtain⟨es,rfl,hl,h⟩:=h;obtain⟨l,rfl⟩:=oG (F:=prV) (fun v hv=>Xc hv) es h;exact⟨l,rfl,by simpa using hl⟩
theorem sz_mo {R:Nat} (hR:R≤200000000000000) {v:V} (h:Sh.Sz R shMo v):∃m:Mo,v=m.v∧m.g.Sm:=by unfold shMo at h;rw[Sh.Sz]at h;obtain⟨vs,rfl,h⟩:=h;simp only[Sh.Szs]at h;obtain⟨u0,us,rfl,h0,u1,us,rfl,h1,u2,us,rfl,h2,u3,us,rfl,h3,rfl⟩:=h;unfold Xi at h0;rw[Sh.Sz]at h0;obtain⟨gs,rfl,h0⟩:=h0;simp only[Sh.Szs]at h0;obtain⟨g0,us,rfl,k0,g1,us,rfl,k1,g2,us,rfl,k2,g3,us,rfl,k3,g4,us,rfl,k4,rfl⟩:=h0;obtain⟨n,rfl,_⟩:=sz_int k0;obtain⟨a,rfl,ha⟩:=Fh k1;obtain⟨b,rfl,_⟩:=Fh k2;obtain⟨c,rfl,hc⟩:=Wu k3;obtain⟨d,rfl,_⟩:=Fh k4;obtain⟨x,rfl,_⟩:=Fj h1;obtain⟨y,rfl,_⟩:=Fj h2;obtain⟨z,rfl,_⟩:=Fj h3;exact⟨⟨⟨n,a,b,c,d⟩,x,y,z⟩,rfl,⟨by show a.length≤_;omega,by show c.length≤_;omega⟩⟩
theorem Om {R:Nat} {v:V} (h:Sh.Sz R .bool v):∃b:Bool,v= .bool b:=by simpa only[Sh.Sz]using h
theorem Wv {R:Nat} {v:V} (h:Sh.Sz R Ut v):∃p:Lt,v=DY p:=by unfold Ut at h;rw[Sh.Sz]at h;obtain⟨vs,rfl,h⟩:=h;simp only[Sh.Szs]at h;obtain⟨u0,us,rfl,h0,u1,us,rfl,h1,rfl⟩:=h;obtain⟨s,rfl,_⟩:=Ru h0;obtain⟨b,rfl⟩:=Om h1;exact⟨(s,b),rfl⟩
theorem Uu {R:Nat} {v:V} (h:Sh.Sz R Ol v):∃c:List Lt,v=iL c:=by unfold Ol at h;rw[Sh.Sz]at h;obtain⟨es,rfl,hl,h⟩:=h;obtain⟨l,rfl⟩:=oG (F:=DY) (fun v hv=>Wv hv) es h;exact⟨l,rfl⟩
theorem sz_lss {R:Nat} {v:V} (h:Sh.Sz R shLss v):∃l:List (List Lt),v=lss l∧l.length≤R:=by unfold shLss at h;rw[Sh.Sz]at h;obtain⟨es,rfl,hl,h⟩:=h;obtain⟨l,rfl⟩:=oG (F:=fun c=>iL c) (fun v hv=>Uu hv) es h;exact⟨l,rfl,by simpa using hl⟩
theorem sz_bs {R:Nat} {v:V} (h:Sh.Sz R shBs v):∃l:List Bool,v=aY l∧l.length≤R:=by unfold shBs at h;rw[Sh.Sz]at h;obtain⟨es,rfl,hl,h⟩:=h;obtain⟨l,rfl⟩:=oG (F:=V.bool) (fun v hv=>Om hv) es h;exact⟨l,rfl,by simpa using hl⟩
theorem sz_rws {R:Nat} {v:V} (h:Sh.Sz R shRws v):∃l:List (List Bool),v=rwI l∧l.length≤R:=by unfold shRws at h;rw[Sh.Sz]at h;obtain⟨es,rfl,hl,h⟩:=h;obtain⟨l,rfl⟩:=oG (F:=fun r=>aY r) (fun v hv=>by obtain⟨r,rfl,_⟩:=sz_bs hv;exact⟨r,rfl⟩) es h;exact⟨l,rfl,by simpa using hl⟩
end Go.Proofs.YtmlacppmbfbjgaaGreatDoor
