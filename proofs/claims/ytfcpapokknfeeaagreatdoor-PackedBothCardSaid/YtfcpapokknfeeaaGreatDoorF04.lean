/- Lemmas for this claim, part F04: each holds under what it names. -/
import Derived.Test.YtfcpapokknfeeaaGreatDoorF03
import Derived.Test.YtfcpapokknfeeaaGreatDoorA9
import Derived.LaidHandle
import Derived.LaidMore
import Derived.Stop.LaidErr
import Derived.Lib.LaidTab
import Derived.Test.YtfcpapokknfeeaaGreatDoorRows
import Derived.Test.YtfcpapokknfeeaaGreatDoorTie
set_option linter.unusedVariables false
set_option linter.unusedSimpArgs false
set_option linter.unnecessarySimpa false
set_option maxRecDepth 100000
namespace Go.Proofs.YtfcpapokknfeeaaGreatDoor
open Go Go.Proofs Go.Abs Go.RowKit
theorem own : ownKnob Tryz.prog.godebug = none := by kernel_rfl
theorem laid : laidOutB Tryz.prog = true := by kernel_rfl
abbrev LL : List (String × DataW Unit) := [("math/bits.deBruijn32tab", Rows.laid_math_bits_deBruijn32tab), ("math/bits.deBruijn64tab", Rows.laid_math_bits_deBruijn64tab), ("internal/strconv.uint64pow10", Rows.laid_internal_strconv_uint64pow10), ("errors.errorType", Rows.laid_errors_errorType), ("strconv.ErrRange", Rows.laid_strconv_ErrRange), ("strconv.ErrSyntax", Rows.laid_strconv_ErrSyntax), ("patchbay/spot.start", Rows.laid_patchbay_spot_start)]
/-- What the program's own start lays meets the condition. -/
theorem door_met (os : Os) (args : Array Value) : laidMetH Tryz.prog LL ((World.doorLaid Tryz.prog 400 os).forCall (fun _ _ => 0) ⟨#[],args,[]⟩).memory :=
 laidMetH_of_parts3 (fuel := 8) (laidMet_of_run' 8 (by kernel_rfl) (by kernel_rfl)) (by kernel_rfl) (by kernel_rfl)
theorem Bo {H : Type} {enc : TypeId × Value → H} {P : Program} {w : World} {base : Nat} {sp : Nat → Bool} {fuel : Nat} {t : TypeId} {ms : Array (String × TypeId)} {cs : List Value} {nm : String} {d : DataW H} {p : List MemPlace}
 (ht : P.underlying t = some (.interface ms)) (h : DataW.trod enc P w base sp false fuel t cs = some (.iface nm d,p)) : ∃ u v,cs = [.iface u v] := by
 cases fuel with
 | zero => simp [DataW.trod] at h
 | succ fuel => simp only [DataW.trod,ht] at h;split at h <;> first | exact ⟨_,_,rfl⟩ | simp_all
theorem kD {P : Program} {w : World} {n : String} {g : Nat} {cs : Array Value} (hg : P.globalNamed n = some g) (h : w.var? P n = some cs) : ∃ ty fz,w.heap[g]? = some (.cells cs ty fz) := by
 unfold World.var? at h;rw [hg,Option.bind_some] at h;split at h
 ·cases h;exact ⟨_,_,by assumption⟩
 ·cases h
theorem P6 {W : World} {n nm : String} {d : DataW Unit} {r : List (String × DataW Unit)} {g : Nat} {t : TypeId} {ms : Array (String × TypeId)}
 (h : laidMet Tryz.prog ((n,.iface nm d) :: r) W) (hg : Tryz.prog.globalNamed n = some g) (hty : (Tryz.prog.globals[g]?).map (·.type) = some t) (ht : Tryz.prog.underlying t = some (.interface ms)) :
 ∃ cs ty fz,W.heap[g]? = some (.cells cs ty fz) ∧ ∃ te pe,cs = #[.iface te pe] := by
 obtain ⟨ps,⟨g',t',cs,fuel,p,q,hg',ht',hvar,hd,_,_⟩,_⟩ := h;obtain rfl := Option.some.inj (hg.symm.trans hg');obtain rfl := Option.some.inj (hty.symm.trans ht');obtain ⟨u,v,hcs⟩ := Bo ht hd;obtain ⟨ty,fz,h1⟩ := kD hg hvar;exact ⟨cs,ty,fz,h1,u,v,Array.toList_inj.1 hcs⟩
theorem wu {H : Type} {enc : TypeId × Value → H} {P : Program} {w : World} {base : Nat} {sp : Nat → Bool} {b : Bool} {fuel : Nat} {t : TypeId} {k : IntKind} {n : Int} {cs : List Value} {p : List MemPlace}
 (ht : P.underlying t = some (.int k)) (h : DataW.trod enc P w base sp b fuel t cs = some (.lit (.int k n),p)) : cs = [.int k n] := by
 cases fuel with
 | zero => simp [DataW.trod] at h
 | succ fuel =>
  simp only [DataW.trod,ht] at h;split at h <;> first
   | (cases h;done)
   | (split at h <;> simp_all;done)
   | simp_all
theorem VA {W : World} {r : List (String × DataW Unit)} (h : laidMet Tryz.prog (("patchbay/spot.start", Rows.laid_patchbay_spot_start) :: r) W) : ∃ ty fz, W.heap[0]? = some (.cells #[.int .i64 1, .int .i64 1] ty fz) := by
 obtain ⟨ps, ⟨g', t', cs, fuel, p, q, hg', ht', hvar, hd, _, _⟩, _⟩ := h;have e1 : Tryz.prog.globalNamed "patchbay/spot.start" = some 0 := by kernel_rfl
 obtain rfl := Option.some.inj (e1.symm.trans hg');have e2 : (Tryz.prog.globals[0]?).map (·.type) = some 178 := by kernel_rfl
 obtain rfl := Option.some.inj (e2.symm.trans ht');have c1 : Tryz.prog.cellsOf 178 = 2 := by kernel_rfl
 have c2 : Tryz.prog.cellsOf 3 = 1 := by kernel_rfl
 have u3 : Tryz.prog.underlying 3 = some (.int .i64) := by kernel_rfl
 obtain ⟨ty,fz,hh⟩ := kD e1 hvar;cases fuel with
 | zero => simp [DataW.trod] at hd
 | succ fuel =>
  simp only [DataW.trod,Tryz.underlying178] at hd;split at hd
  ·rename_i hl;rw [Option.map_eq_some_iff] at hd;obtain ⟨xs,hx,he⟩ := hd;rw [c1] at hl;rw [c2,show List.range 2 = [0,1] from rfl] at hx;simp only [List.mapM_cons,List.mapM_nil,Option.bind_eq_bind,Option.pure_def,Option.bind_eq_some_iff,Option.some.injEq] at hx;obtain ⟨⟨y1,y2⟩,hy,ys,⟨⟨z1,z2⟩,hz,zs,rfl,rfl⟩,rfl⟩ := hx;simp only [List.map_cons,List.map_nil,Prod.mk.injEq,Rows.laid_patchbay_spot_start,DataW.agg.injEq,List.cons.injEq,and_true] at he;obtain ⟨⟨rfl,rfl⟩,_⟩ := he;have a1 := wu u3 hy;have a2 := wu u3 hz;have : cs = #[.int .i64 1,.int .i64 1] := by
    apply Array.toList_inj.1
    match hcs : cs.toList,hl with
    | [a,b],_ => rw [hcs] at a1 a2;simp at a1 a2;rw [a1,a2]
   rw [this] at hh;exact ⟨ty,fz,hh⟩
  ·cases hd
theorem VB : ((List.range Tryz.prog.types.size).filter fun t => Tryz.prog.rowNamed t [101,114,114,111,114]) = [61] := by kernel_rfl
theorem Yz : (Tryz.prog.cutTypes.find? (·.1 == "internal/reflectlite.rtype")).map (·.2) = some 237 := by kernel_rfl
theorem P7 : typeHandle Tryz.prog 61 = .pointer (some ⟨8,61,none⟩) := by kernel_rfl
/-- What the condition gives the walks. -/
theorem of_laid {W : World} (h : laidMetH Tryz.prog LL W) : ∀ g p,TE.gx g = some p → ∃ cs ty fz,W.heap[g]? = some (.cells cs ty fz) ∧ p cs := by
 have h' : laidMet Tryz.prog [("math/bits.deBruijn32tab", Rows.laid_math_bits_deBruijn32tab), ("math/bits.deBruijn64tab", Rows.laid_math_bits_deBruijn64tab), ("internal/strconv.uint64pow10", Rows.laid_internal_strconv_uint64pow10), ("strconv.ErrRange", Rows.laid_strconv_ErrRange), ("strconv.ErrSyntax", Rows.laid_strconv_ErrSyntax), ("patchbay/spot.start", Rows.laid_patchbay_spot_start)] W ∧ handlesMet Tryz.prog [("errors.errorType", Rows.laid_errors_errorType)] W := h
 have h3 := h'.1.tail.tail;have h4 := h3.tail;have h5 := h4.tail;have h6 := h5.tail;intro g p hg
 match g,hg with
 | 0,hg => have hp : (fun cs => cs = #[Value.int .i64 1,Value.int .i64 1]) = p := Option.some.inj hg;subst hp;obtain ⟨ty,fz,h1⟩ := VA h6;exact ⟨_,ty,fz,h1,rfl⟩
 | 2,hg => have hp : (fun cs => cs = #[.iface 237 (.agg #[.pointer (some ⟨8,61,none⟩)])]) = p := Option.some.inj hg;subst hp;obtain ⟨name,u,ty,e1,e2,e3,e4,e5⟩ := h'.2 _ (List.mem_singleton.2 rfl);have en : name = [101,114,114,111,114] := (Option.some.inj e1).symm;subst en;obtain rfl := Option.some.inj (Yz.symm.trans e2);have hm : ty ∈ (List.range Tryz.prog.types.size).filter fun t => Tryz.prog.rowNamed t [101,114,114,111,114] := List.mem_filter.2 ⟨List.mem_range.2 e3,e4⟩;rw [VB] at hm;obtain rfl := List.mem_singleton.1 hm;rw [P7] at e5;obtain ⟨ty,fz,h1⟩ := kD (g := 2) (by kernel_rfl) e5;exact ⟨_,ty,fz,h1,rfl⟩
 | 1,hg =>
  have hp : (fun cs => cs = (Lib.pow10Tab.map fun z => Value.int .u64 z).toArray) = p := Option.some.inj hg;subst hp;have ht := Lib.tabIs_of_head (P := Tryz.prog) (name := "internal/strconv.uint64pow10") (k := .u64) (zs := Lib.pow10Tab) (g := 1) (t := 214) (e := 198) (n := 20) (by kernel_rfl) (by kernel_rfl) (by kernel_rfl) (by kernel_rfl) (by kernel_rfl) (by kernel_rfl) h3
  obtain ⟨ty,fz,h1⟩ := kD (g := 1) (by kernel_rfl) ht;exact ⟨_,ty,fz,h1,rfl⟩
 | 3,hg => cases hg
 | 4,hg => cases hg
 | 5,hg => cases hg
 | 6,hg => have hp : (fun cs => ∃ te pe,cs = #[Value.iface te pe]) = p := Option.some.inj hg;subst hp;exact P6 h5 (by kernel_rfl) (t := 61) (by kernel_rfl) Tryz.underlying61
 | 7,hg => have hp : (fun cs => ∃ te pe,cs = #[Value.iface te pe]) = p := Option.some.inj hg;subst hp;exact P6 h4 (by kernel_rfl) (t := 61) (by kernel_rfl) Tryz.underlying61
 | n + 8,hg => exact absurd hg (by intro h;cases h)
theorem gl_of_laid {W : World} (h : laidMetH Tryz.prog LL W) : ∀ g v,TE.gl g = some v → VRel (cw W) (.ip v) (.pointer (some ⟨g,0,none⟩)) := by
 intro g v hg
 match g,hg with
 | 0,hg => have hv : V.agg [.int .i64 1,.int .i64 1] = v := Option.some.inj hg;subst hv;obtain ⟨cs,ty,fz,h1,rfl⟩ := of_laid h 0 _ rfl;exact Yc h1
 | n + 1,hg => exact absurd hg (by intro h;cases h)
theorem reach_of' {H : Type} {P : Program} {fn : Func} {more : List TypeId} {ds gs : List (DataW H)} (h : (DataW.weightsEach P (fn.params.toList ++ more) (ds ++ gs)).all (· ≤ reachBytes) = true) :
 ∀ (i : Nat) d t,ds[i]? = some d → fn.params.toList[i]? = some t → (reachM H P).L t d := by
 intro i d t h1 h2 n hn;have h3 := List.all_eq_true.1 h n (jH _ _ i d t (by rw [List.getElem?_append_left (List.getElem?_eq_some_iff.1 h1).1];exact h1) (by rw [List.getElem?_append_left (List.getElem?_eq_some_iff.1 h2).1];exact h2) hn);simpa using h3
abbrev zae : Sh := .slice (.int .i64)
abbrev zbb : Sh := .struct [.int .i64,.int .i64]
abbrev YA : Sh := .slice zbb
abbrev D7 : Sh := .slice .str
abbrev zbs : Sh := .struct [.int .i64,zae,zae,YA,zae]
abbrev shMo : Sh := .struct [zbs,D7,D7,D7]
theorem Bq {R : Nat} {e : Sh} {α : Type} {F : α → V} (he : ∀ v,Sh.Sz R e v → ∃ a,v = F a) : ∀ es : List V,(∀ x ∈ es,Sh.Sz R e x) → ∃ l : List α,es = l.map F
 | [],_ => ⟨[],rfl⟩
 | x :: es,h => by obtain ⟨a,rfl⟩ := he x (h x (by simp));obtain ⟨l,rfl⟩ := Bq he es fun y hy => h y (by simp [hy]);exact ⟨a :: l,rfl⟩
theorem IJ {R : Nat} {v : V} (h : Sh.Sz R (.int .i64) v) : ∃ n : Int,v = vi n ∧ -9223372036854775808 ≤ n ∧ n < 9223372036854775808 := by simp only [Sh.Sz] at h;obtain ⟨n,rfl,hw⟩ := h;refine ⟨n,rfl,?_⟩;simp [Lit.wf,IntKind.min,IntKind.max,IntKind.signed,IntKind.bits] at hw;omega
theorem zaf {R : Nat} {v : V} (h : Sh.Sz R .str v) : ∃ s : S,v = .str s ∧ s.length ≤ R := by simpa only [Sh.Sz] using h
theorem GY {R : Nat} {v : V} (h : Sh.Sz R zae v) : ∃ c : Cl,v = aH c ∧ c.length ≤ R := by unfold zae at h;rw [Sh.Sz] at h;obtain ⟨es,rfl,hl,h⟩ := h;obtain ⟨l,rfl⟩ := Bq (F := vi) (fun v hv => by obtain ⟨n,rfl,_⟩ := IJ hv;exact ⟨n,rfl⟩) es h;exact ⟨l,rfl,by simpa using hl⟩
theorem GZ {R : Nat} {v : V} (h : Sh.Sz R D7 v) : ∃ c : List S,v = aT c ∧ c.length ≤ R := by unfold D7 at h;rw [Sh.Sz] at h;obtain ⟨es,rfl,hl,h⟩ := h;obtain ⟨l,rfl⟩ := Bq (F := V.str) (fun v hv => by obtain ⟨n,rfl,_⟩ := zaf hv;exact ⟨n,rfl⟩) es h;exact ⟨l,rfl,by simpa using hl⟩
theorem zbc {R : Nat} {v : V} (h : Sh.Sz R zbb v) : ∃ p : Pr,v = prV p := by unfold zbb at h;rw [Sh.Sz] at h;obtain ⟨vs,rfl,h⟩ := h;simp only [Sh.Szs] at h;obtain ⟨u0,us,rfl,h0,u1,us,rfl,h1,rfl⟩ := h;obtain ⟨n,rfl,_⟩ := IJ h0;obtain ⟨k,rfl,_⟩ := IJ h1;exact ⟨(n,k),rfl⟩
theorem zag {R : Nat} {v : V} (h : Sh.Sz R YA v) : ∃ c : List Pr,v = prs c ∧ c.length ≤ R := by unfold YA at h;rw [Sh.Sz] at h;obtain ⟨es,rfl,hl,h⟩ := h;obtain ⟨l,rfl⟩ := Bq (F := prV) (fun v hv => zbc hv) es h;exact ⟨l,rfl,by simpa using hl⟩
theorem sz_mo {R : Nat} (hR : R ≤ 200000000000000) {v : V} (h : Sh.Sz R shMo v) : ∃ m : Mo,v = m.v ∧ m.g.Sm := by unfold shMo at h;rw [Sh.Sz] at h;obtain ⟨vs,rfl,h⟩ := h;simp only [Sh.Szs] at h;obtain ⟨u0,us,rfl,h0,u1,us,rfl,h1,u2,us,rfl,h2,u3,us,rfl,h3,rfl⟩ := h;unfold zbs at h0;rw [Sh.Sz] at h0;obtain ⟨gs,rfl,h0⟩ := h0;simp only [Sh.Szs] at h0;obtain ⟨g0,us,rfl,k0,g1,us,rfl,k1,g2,us,rfl,k2,g3,us,rfl,k3,g4,us,rfl,k4,rfl⟩ := h0;obtain ⟨n,rfl,_⟩ := IJ k0;obtain ⟨a,rfl,ha⟩ := GY k1;obtain ⟨b,rfl,_⟩ := GY k2;obtain ⟨c,rfl,hc⟩ := zag k3;obtain ⟨d,rfl,_⟩ := GY k4;obtain ⟨x,rfl,_⟩ := GZ h1;obtain ⟨y,rfl,_⟩ := GZ h2;obtain ⟨z,rfl,_⟩ := GZ h3;exact ⟨⟨⟨n,a,b,c,d⟩,x,y,z⟩,rfl,⟨by show a.length ≤ _;omega,by show c.length ≤ _;omega⟩⟩
end Go.Proofs.YtfcpapokknfeeaaGreatDoor
