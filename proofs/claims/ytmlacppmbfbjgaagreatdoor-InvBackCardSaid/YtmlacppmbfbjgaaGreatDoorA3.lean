/- Lemmas for this claim, part A3: each holds under what it names. -/
import Derived.Test.YtmlacppmbfbjgaaGreatDoorA2
import Derived.Laws.Tables
import Derived.RangeFuncCalls
set_option linter.unusedVariables false
set_option linter.unusedSimpArgs false
namespace Go.Abs
open Go.RowKit
def PV.and (p:Prop) (q:PV):PV:=(p∧q.1,q.2)
theorem aH.and {P:Program} {c:C} {s:Sem Value} {p:Prop} {q:PV} (h:p→aH P c s q):aH P c s (PV.and p q) :=
 fun⟨h1,h2⟩=>h h1 h2
def EO (c a b:V):PV :=
 match c.sv with
 | .bool t=>match a.sv,b.sv with
  | .bool x,.bool y=>(c.sc∧(t=true→a.sc)∧(t=false→b.sc),.bool (bif t then x else y))
  | .bool x,_=>(c.sc∧a.sc∧t=true,.bool x)
  | _,.bool y=>(c.sc∧b.sc∧t=false,.bool y)
  | _,_=>fF
 | _=>fF
theorem Ju {P:Program} {m:C} {c a b:V} {cv av bv:Value} (hc:VRel m c cv) (ha:VRel m a av) (hb:VRel m b bv) :
 aH P m (do pure (if ←asBool cv then av else bv)) (EO c a b):=by
 unfold EO;split
 ·rename_i t ht;have key : c.sc → cv = .bool t := fun h => by have := hc.sv h;rw [ht] at this;simpa only [VRel] using this
  split
  ·rename_i x y hx hy;rintro ⟨h1,h2,h3⟩;have := key h1;subst this;cases t
   ·have hb':=hb.sv (h3 rfl);rw[hy]at hb';exact⟨bv,by simp[asBool,Result.andThen],by simpa only[cond_false]using hb'⟩
   ·have ha':=ha.sv (h2 rfl);rw[hx]at ha';exact⟨av,by simp[asBool,Result.andThen],by simpa only[cond_true]using ha'⟩
  ·rename_i x hx _;rintro⟨h1,h2,rfl⟩;have:=key h1;subst this;have ha':=ha.sv h2;rw[hx]at ha';exact⟨av,by simp[asBool,Result.andThen],ha'⟩
  ·rename_i y hy _;rintro⟨h1,h2,rfl⟩;have:=key h1;subst this;have hb':=hb.sv h2;rw[hy]at hb';exact⟨bv,by simp[asBool,Result.andThen],hb'⟩
  ·exact aH.no
 ·exact aH.no
def gU : List V → Option (List UInt8)
 | []=>some []
 | .int .u8 n::vs=>(gU vs).map (UInt8.ofNat n.toNat::·)
 | _=>none
def uA (P:Program) (h:H) (src dst:TypeId) (x:V):PV :=
 match ti P src,ti P dst with
 | some rs,some rd=>match rd.kind,x with
  | .int k,.int _ n=>(True,.int k (k.wrap n))
  | .str,.str l=>(True,.str l)
  | .str,.nils=>match rs.kind with
   | .slice el=>match ti P el with
    | some re=>(re.kind= .int .u8,.str [])
    | none=>fF
   | _=>fF
  | .str,.is _ k es=>match rs.kind with
   | .slice el=>match ti P el,gU es with
    | some re,some l=>(re.kind= .int .u8∧k=1,.str l)
    | _,_=>fF
   | _=>fF
  | .str,.ls id k off len _=>match rs.kind with
   | .slice el=>match ti P el,gU (((bH h id).drop off).take len)with
    | some re,some l=>(re.kind= .int .u8∧k=1∧off+len≤(bH h id).length,.str l)
    | _,_=>fF
   | _=>fF
  | _,_=>fF
 | _,_=>fF
theorem oU {c : C} : ∀ {vs : List V} {xs : List Value} {l : List UInt8},VList c vs xs → gU vs = some l → ∃ ns : List Int,xs = ns.map (Value.int .u8) ∧ ns.map (fun n => UInt8.ofNat n.toNat) = l
 | [],xs,l,h,hb=>by simp only[VList]at h;simp only[gU]at hb;cases hb;subst h;exact⟨[],rfl,rfl⟩
 | .int .u8 n::vs,xs,l,h,hb=>by
  simp only[VList]at h;obtain⟨y,ys,rfl,h1,h2⟩:=h;simp only[gU]at hb;cases hv:gU vs with
  | none=>rw[hv]at hb;cases hb
  | some l'=>rw[hv]at hb;cases hb;obtain⟨ns,rfl,h4⟩:=oU h2 hv;simp only[VRel]at h1;subst h1;exact⟨n::ns,rfl,by simp[h4]⟩
 | .int .i8 _::_,_,_,_,hb | .int .i16 _::_,_,_,_,hb | .int .i32 _::_,_,_,_,hb | .int .i64 _::_,_,_,_,hb | .int .u16 _::_,_,_,_,hb
 | .int .u32 _::_,_,_,_,hb | .int .u64 _::_,_,_,_,hb=>by simp[gU]at hb
 | .any::_,_,_,_,hb | .bool _::_,_,_,_,hb | .str _::_,_,_,_,hb | .nilp::_,_,_,_,hb | .lp _ _::_,_,_,_,hb | .ip _::_,_,_,_,hb
 | .nils::_,_,_,_,hb | .ls _ _ _ _ _::_,_,_,_,hb | .is _ _ _::_,_,_,_,hb | .nilm::_,_,_,_,hb | .lm _::_,_,_,_,hb | .im _ _::_,_,_,_,hb
 | .fn _ _ _::_,_,_,_,hb | .yd _::_,_,_,_,hb | .nilf::_,_,_,_,hb | .iface _ _::_,_,_,_,hb | .nili::_,_,_,_,hb | .agg _::_,_,_,_,hb
 | .tup _::_,_,_,_,hb | .grd _ _::_,_,_,_,hb=>by simp[gU]at hb
theorem VElems.list {c:C} {b:Nat}:∀ {es:List V} {off:Nat},VElems c 1 es b off→(∀v∈es,v.one=true) →
 ∃xs:List Value,xs.length=es.length∧(∀j v,xs[j]? =some v→c.w.cell? ⟨b,off+j,none⟩=some v)∧VList c es xs
 | [],off,_,_=>⟨[],rfl,by simp,by simp only[VList]⟩
 | e::es,off,h,ho=>by
  simp only[VElems]at h;obtain⟨⟨ev,h1,h2,h3⟩,h4⟩:=h;obtain⟨xs,h5,h6,h7⟩:=VElems.list h4 (fun v hv=>ho v (by simp[hv]));have hone:=h3.one (ho e (by simp));refine⟨ev::xs,by simp[h5],fun j v hj=> ?_,by simp only[VList];exact⟨ev,xs,rfl,h3,h7⟩⟩;cases j with
  | zero=>simp at hj;subst hj;have:=(h2 0 (by rw[hone];simp)).2;rw[hone]at this;simpa using this
  | succ j =>
   have:=h6 j v (by simpa using hj)
   rwa [show off+1+j=off+(j+1) by omega]at this
theorem xx : ∀ {vs : List V} {l : List UInt8},gU vs = some l → ∀ v ∈ vs,v.one = true
 | [],_,_,_,hv=>by simp at hv
 | u::vs,l,h,v,hv=>by
  cases u<;>try(simp[gU]at h;done)
  rename_i k n;cases k<;>try(simp[gU]at h;done)
  simp only[gU]at h;cases hvs:gU vs with
  | none=>rw[hvs]at h;cases h
  | some l' =>
   rcases List.mem_cons.1 hv with rfl | hv
   ·rfl
   ·exact xx hvs v hv
theorem mg : ∀ {vs : List V} {l : List UInt8},gU vs = some l → l.length = vs.length
 | [],_,h=>by simp only[gU]at h;cases h;rfl
 | u::vs,l,h=>by
  cases u<;>try(simp[gU]at h;done)
  rename_i k n;cases k<;>try(simp[gU]at h;done)
  simp only[gU]at h;cases hvs:gU vs with
  | none=>rw[hvs]at h;cases h
  | some l'=>rw[hvs]at h;cases h;simp[mg hvs]
section
variable {P:Program} {c:C} {e:E} {ok:Nat→Prop} {pl:Nat→Option Nat} {w:World} {h:H}
theorem Jv (hs:HSim e ok pl h w) {src dst:TypeId} {x:V} {xv:Value} (hx:VRel (cx ok pl w) x xv):aH P (cx ok pl w) (convert src dst xv) (uA P h src dst x):=by
 unfold uA;split
 ·rename_i rs rd hrs hrd;obtain ⟨is,ds,zs,hS⟩ := aF hrs;obtain ⟨id,dd,zd,hD⟩ := aF hrd;split
  ·rename_i k k' n hk;simp only[VRel]at hx;subst hx;refine aH.int fun _=> ?_;have hd:=hD.int hk;subst hd;simp[convert,hS.run_und,hD.run_und,Conv.intToInt,Result.andThen]
  ·rename_i l hk;simp only[VRel]at hx;obtain⟨s,rfl,rfl,hl⟩:=hx;have hd:=hD.str hk;subst hd;intro _;refine⟨.string s,?_,by simp only[VRel];exact⟨s,rfl,rfl,hl⟩⟩;unfold convert;simp only[Sem.run_bind,hS.run_und,hD.run_und,Result.andThen];cases ds<;>rfl
  ·rename_i hk;split
   ·rename_i el hsl;have hds := hS.slice hsl;subst hds;have hd := hD.str hk;subst hd;split
    ·rename_i re hre;obtain⟨ie,de,ze,hE⟩:=aF hre;intro hu;have hde:=hE.int hu;subst hde;simp only[VRel]at hx;subst hx;refine⟨.string .empty,?_,by simp only[VRel];exact⟨.empty,rfl,rfl,by simp⟩⟩;unfold convert;simp only[Sem.run_bind,hS.run_und,hD.run_und,hE.run_und,Result.andThen];rfl
    ·exact aH.no
   ·exact aH.no
  ·rename_i ex k es hk;split
   ·rename_i el hsl;have hds := hS.slice hsl;subst hds;have hd := hD.str hk;subst hd;split
    ·rename_i re l hre hb;obtain ⟨ie,de,ze,hE⟩ := aF hre;rintro ⟨hu,rfl⟩;have hde := hE.int hu;subst hde;simp only [VRel] at hx;obtain ⟨a,cp,rfl,h1,h2,h3,h4⟩ := hx;have hll := mg hb;rcases h4 with rfl | ⟨b,off,rfl,hel⟩
     ·simp only [gU] at hb;cases hb;refine ⟨.string .empty,?_,by simp only [VRel];exact ⟨.empty,rfl,rfl,by simp⟩⟩;unfold convert;simp only [Sem.run_bind,hS.run_und,hD.run_und,hE.run_und,Result.andThen];cases a
      ·rfl
      ·rfl
     ·obtain ⟨xs,h5,h6,h7⟩ := hel.list (xx hb);obtain ⟨ns,rfl,h8⟩ := oU h7 hb;refine ⟨.string (strOfNums ns),?_,?_⟩
      ·refine run_convert_bytes_arg _ src el hS.und hE.und b off es.length cp ns (by simpa using h5) (fun i hi => ?_) dst hD.und;have hl' : i < ns.length := by simp at h5;omega
       refine h6 i _ ?_;simp[hl',List.getElem?_eq_getElem hl',List.getD_eq_getElem?_getD]
      ·simp only[VRel];exact⟨_,rfl,by rw[strOfNums_data,h8],by omega⟩
    ·exact aH.no
   ·exact aH.no
  ·rename_i id k off len cap hk;split
   ·rename_i el hsl;have hds := hS.slice hsl;subst hds;have hd := hD.str hk;subst hd;split
    ·rename_i re l hre hb;obtain ⟨ie,de,ze,hE⟩ := aF hre;rintro ⟨hu,rfl,hle⟩;have hde := hE.int hu;subst hde;simp only [VRel] at hx;obtain ⟨a,cp,rfl,h1,h2,h3,h4⟩ := hx;have hll := mg hb;have hlen : (((bH h id).drop off).take len).length = len := by rw [List.length_take,List.length_drop];omega
     rcases h4 with rfl | ⟨b,arr,el',fz,hpl,rfl,_⟩
     ·have hl0 : len = 0 := by omega
      subst hl0;have hl':l=[]:=List.length_eq_zero_iff.1 (by omega);subst hl';refine⟨.string .empty,?_,by simp only[VRel];exact⟨.empty,rfl,rfl,by simp⟩⟩;unfold convert;simp only[Sem.run_bind,hS.run_und,hD.run_und,hE.run_und,Result.andThen];cases a
      ·rfl
      ·rfl
     ·obtain ⟨xs,h5,h6,h7⟩ := hs.cellsTake hpl off len hle;obtain ⟨ns,rfl,h8⟩ := oU h7 hb;refine ⟨.string (strOfNums ns),?_,?_⟩
      ·refine run_convert_bytes_arg _ src el hS.und hE.und b off len cp ns (by simpa using h5) (fun i hi => ?_) dst hD.und;have hl' : i < ns.length := by simp at h5;omega
       refine h6 i _ ?_;simp[hl',List.getElem?_eq_getElem hl',List.getD_eq_getElem?_getD]
      ·simp only[VRel];exact⟨_,rfl,by rw[strOfNums_data,h8],by omega⟩
    ·exact aH.no
   ·exact aH.no
  ·exact aH.no
 ·exact aH.no
def V.vc : V → List V
 | .agg vs=>vs
 | v=>[v]
def V.fit (v:V):Bool:=v.one||(match v with | .agg _=>true | _=>false)
theorem VRel.vc {v:V} {x:Value} (h:VRel c v x) (hf:v.fit=true):VList c v.vc x.cells.toList:=by
 cases v <;> first
  | (rw[h.one (by simpa [V.fit]using hf)];simp only[V.vc,VList];exact⟨_,_,rfl,h,rfl⟩)
  | skip
 case agg vs=>simp only[VRel]at h;obtain⟨cs,rfl,hcs⟩:=h;exact hcs
def bT (cs:List V) (off:Nat) (vs:List V):List V:=cs.take off++vs++cs.drop (off+vs.length)
def yD (place : Nat → Option (Nat × Nat)) : List V → List (Nat × V) → Option (List V)
 | cs,[]=>some cs
 | cs,(i,v)::rest=>match place i with
  | none=>none
  | some (off,size)=>if v.fit=true∧v.vc.length=size∧off+size≤cs.length then yD place (bT cs off v.vc) rest else none
theorem uB (off:Nat):∀(ys:List Value) (k:Nat) (cs:Array Value),off+k+ys.length≤cs.size →
 ((ys.zipIdx k).foldl (fun cs (p:Value×Nat)=>cs.setIfInBounds (off+p.2) p.1) cs).toList=cs.toList.take (off+k)++ys++cs.toList.drop (off+k+ys.length)
 | [],k,cs,h=>by simp
 | y::ys,k,cs,h=>by
  simp only[List.zipIdx_cons,List.foldl_cons];rw[show off+k=off+k from rfl];have ih:=uB off ys (k+1) (cs.setIfInBounds (off+k) y) (by simp;simp at h;omega);rw[ih];simp only[List.length_cons]at h;have hlt:off+k<cs.toList.length:=by simp;omega
  have e1:(cs.setIfInBounds (off+k) y).toList=cs.toList.set (off+k) y:=by simp
  rw[e1];apply List.ext_getElem?;intro i;simp only[List.length_cons];simp only[List.getElem?_append,List.getElem?_take,List.getElem?_drop,List.length_append,List.length_take,List.length_set,List.getElem?_set,List.length_drop,List.getElem?_cons];have hsz:cs.toList.length=cs.size:=by simp
  repeat' split
  all_goals first
   | rfl
   | omega
   | (congr 1;omega)
   | (exfalso;omega)
   | (simp_all;(try omega);done)
   | (simp only[Array.getElem?_toList];congr 1;simp_all;omega)
theorem EP {place:Nat→Option (Nat×Nat)}:∀ {parts:List (Nat×V)} {xs:List (Nat×Value)} {cs:List V} {cells:Array Value} {r:List V},
 VList c cs cells.toList→xs.map (·.1)=parts.map (·.1)→VList c (parts.map (·.2)) (xs.map (·.2))→yD place cs parts=some r →
 ∃res,Instr.fill place cells xs=some res∧VList c r res.toList
 | [],xs,cs,cells,r,h1,h2,h3,h4=>by
  have:xs=[]:=by simpa using h2
  subst this;simp only[yD]at h4;cases h4;exact⟨cells,rfl,h1⟩
 | (i,v)::parts,[],cs,cells,r,h1,h2,h3,h4=>by simp at h2
 | (i,v)::parts,(j,y)::xs,cs,cells,r,h1,h2,h3,h4=>by
  simp only[List.map_cons,List.cons.injEq]at h2;obtain⟨rfl,h2⟩:=h2;simp only[List.map_cons,VList]at h3;obtain⟨_,_,he,h5,h6⟩:=h3;cases he;simp only[yD]at h4;cases hp:place j with
  | none=>rw[hp]at h4;cases h4
  | some q =>
   obtain⟨off,size⟩:=q;rw[hp]at h4;dsimp only at h4;split at h4
   ·rename_i hc;obtain ⟨hf,hl,hle⟩ := hc;have hvc := h5.vc hf;have hyl : y.cells.toList.length = size := by rw [hvc.length,hl]
    have hcl:=h1.length;have hfold:=uB off y.cells.toList 0 cells (by simp at hcl hyl ⊢;omega);have hlist:VList c (bT cs off v.vc) (cells.toList.take off++y.cells.toList++cells.toList.drop (off+y.cells.toList.length)):=by unfold bT;rw[←hvc.length];exact((h1.take off).append hvc).append (h1.dropN _)
    obtain⟨res,hr1,hr2⟩:=EP (cells:=(y.cells.zipIdx.foldl (fun cs (p:Value×Nat)=>cs.setIfInBounds (off+p.2) p.1) cells)) (by
     rw[←Array.foldl_toList,Array.toList_zipIdx,hfold];simpa using hlist) h2 h6 h4
    refine⟨res,?_,hr2⟩;simp only[Instr.fill,hp];have h7:¬(y.cells.size≠size∨off+y.cells.size>cells.size):=by simp at hyl hcl;omega
    simp only[ne_eq,Bool.or_eq_true,decide_eq_true_eq]at h7 ⊢;rw[if_neg h7];exact hr1
   ·cases h4
end
section
variable {P:Program} {c:C} {e:E} {ok:Nat→Prop} {pl:Nat→Option Nat} {w:World} {h:H}
def mi (P : Program) : List (Nat × Nat) → Option (List (Nat × Nat))
 | []=>some []
 | (off,ft)::fs=>match ti P ft,mi P fs with
  | some r,some l=>some ((off,r.size)::l)
  | _,_=>none
theorem uC:∀ {fs:List Field} {l:List (Nat×Nat)},mi P (fs.map fun f=>(f.offset,f.type))=some l →
 fs.mapM (fun f=>(P.info? f.type).map fun i=>(f.offset,i.size))=some l
 | [],l,h=>by simp only[List.map_nil,mi]at h;cases h;rfl
 | f::fs,l,h=>by
  simp only[List.map_cons,mi]at h;split at h
  ·rename_i r l' hr hl;cases h;obtain⟨i,d,z,hT⟩:=aF hr;have ih:=uC hl;simp[List.mapM_cons,hT.info,ih,hT.size]
  ·cases h
def yE (P:Program) (t:TypeId) (parts:List (Nat×V)):PV :=
 match ti P t with
 | some r=>match r.kind with
  | .struct fs=>match mi P fs with
   | some places=>match yD (fun i=>places[i]?) r.zero.vc parts with
    | some cs=>(r.zero.fit=true,.agg cs)
    | none=>fF
   | none=>fF
  | .arr _ el _=>match ti P el with
   | some re=>match yD (fun i=>some (i*re.size,re.size)) r.zero.vc parts with
    | some cs=>(r.zero.fit=true,.agg cs)
    | none=>fF
   | none=>fF
  | _=>fF
 | none=>fF
theorem G8 {t:TypeId} {parts:List (Nat×V)} {xs:Array (Nat×Value)} (h2:xs.toList.map (·.1)=parts.map (·.1)) (h3:VList c (parts.map (·.2)) (xs.toList.map (·.2))) :
 aH P c (Instr.build t xs) (yE P t parts):=by
 unfold yE;split
 ·rename_i r hr;obtain⟨i,d,z,hT⟩:=aF hr;have fin:∀(place:Nat→Option (Nat×Nat)) (cs:List V),r.zero.fit=true→yD place r.zero.vc parts=some cs→(∀cells,Instr.fill place z.cells xs.toList=some cells→P.built t xs.toList=some cells) →
   ∃x,(Instr.build t xs).run P c.w= .ok x c.w∧VRel c (.agg cs) x:=by
   intro place cs hfit hf hb;have hz:VList c r.zero.vc z.cells.toList:=by
    rw[hT.zv]at hfit ⊢;exact(cZ c z).vc hfit
   obtain⟨cells,h4,h5⟩:=EP hz h2 h3 hf;exact⟨.agg cells,run_build _ _ _ _ (hb cells h4),by simp only[VRel];exact⟨cells,rfl,h5⟩⟩
  split
  ·rename_i fs hk;obtain ⟨gs,rfl,hfs⟩ := hT.struct hk;split
   ·rename_i places hp;rw [hfs] at hp;have hp' := uC hp;split
    ·rename_i cs hcs;intro hft;refine fin _ cs hft hcs fun cells hc=> ?_;simp[Program.built,hT.info,hT.und,hT.zero,hp',hc]
    ·exact aH.no
   ·exact aH.no
  ·rename_i n el hk;have hd := hT.arr hk;subst hd;split
   ·rename_i re hre;obtain ⟨ie,de,ze,hE⟩ := aF hre;split
    ·rename_i cs hcs;intro hft;refine fin _ cs hft hcs fun cells hc=> ?_;rw[hE.size]at hc;simp[Program.built,hT.info,hT.und,hT.zero,hE.info,hc]
    ·exact aH.no
   ·exact aH.no
  ·exact aH.no
 ·exact aH.no
def dN (k : Nat) : List V → Bool
 | []=>true
 | v::vs=>v.fit&&v.dat&&(v.vc.length==k)&&dN k vs
def kQ (k : Nat) : List V → Bool
 | []=>true
 | v::vs=>v.fit&&(v.vc.length==k)&&kQ k vs
theorem dN.l {k : Nat} : ∀ {vs : List V},dN k vs = true → kQ k vs = true
 | [],_=>rfl
 | v::vs,h=>by simp only[dN,kQ,Bool.and_eq_true]at h ⊢;exact⟨⟨h.1.1.1,h.1.2⟩,dN.l h.2⟩
theorem nJ {k : Nat} {c : C} : ∀ {vs : List V} {xs : List Value},VList c vs xs → kQ k vs = true → ∀ x ∈ xs,x.cells.size = k
 | [],xs,h,_=>by simp only[VList]at h;subst h;simp
 | v::vs,xs,h,hf=>by
  simp only[VList]at h;obtain⟨y,ys,rfl,h1,h2⟩:=h;simp only[kQ,Bool.and_eq_true,beq_iff_eq]at hf;obtain⟨⟨f1,f3⟩,f4⟩:=hf;intro x hx;rcases List.mem_cons.1 hx with rfl | hx
  ·have:=(h1.vc f1).length;rw[f3]at this;simpa using this
  ·exact nJ h2 f4 x hx
def VH (P:Program) (t:TypeId) (len:Nat) (is:List Nat) (vs:List V):PV :=
 match ti P t with
 | some r=>match r.kind with
  | .slice el=>match ti P el with
   | some re => bif dN re.size vs then (is = List.range len ∧ len * re.size ≤ 2 ^ 24 ∧ (len = 0 ∨ 0 < re.size),.is true re.size vs)
    else(is=List.range len∧kQ re.size vs=true∧len*re.size≤2^24∧0<re.size,.row re.size vs)
   | none=>fF
  | _=>fF
 | none=>fF
theorem yF {k:Nat}:∀(xs:List Value) (i:Nat) (cells:Array Value),cells.size=(i+xs.length)*k→(∀x∈xs,x.cells.size=k) →
 ∃res,Instr.fill (fun j=>some (j*k,k)) cells ((List.range' i xs.length).zip xs)=some res∧res.toList=cells.toList.take (i*k)++xs.flatMap (·.cells.toList)
 | [],i,cells,hs,_=>by refine⟨cells,rfl,?_⟩;simp only[List.flatMap_nil,List.append_nil];rw[List.take_of_length_le];simp at hs ⊢;omega
 | x::xs,i,cells,hs,hx=>by
  have hxk:=hx x (by simp);have hlen:(x::xs).length=xs.length+1:=rfl;rw[hlen]at hs ⊢;have e1:(i+(xs.length+1))*k=i*k+k+xs.length*k:=by rw[Nat.add_mul,Nat.add_mul];omega
  have hyl:x.cells.toList.length=k:=by simpa using hxk
  have hfold:=uB (i*k) x.cells.toList 0 cells (by rw[hyl];omega);obtain⟨cells',hc'⟩:∃cells',x.cells.zipIdx.foldl (fun cs (p:Value×Nat)=>cs.setIfInBounds (i*k+p.2) p.1) cells=cells':=⟨_,rfl⟩;have hcl:cells'.toList=cells.toList.take (i*k)++x.cells.toList++cells.toList.drop (i*k+k):=by rw[←hc',←Array.foldl_toList,Array.toList_zipIdx,hfold,hyl];simp
  have hsz':cells'.size=((i+1)+xs.length)*k:=by
   have:cells'.toList.length=cells.toList.length:=by rw[hcl];simp only[List.length_append,List.length_take,List.length_drop,hyl,Array.length_toList];omega
   simp only[Array.length_toList]at this;rw[this,hs];congr 1;omega
  obtain⟨res,h1,h2⟩:=yF xs (i+1) cells' hsz' (fun y hy=>hx y (by simp[hy]));refine⟨res,?_,?_⟩
  ·rw[List.range'_succ,List.zip_cons_cons];simp only[Instr.fill];rw[if_neg (by simp only[ne_eq,Bool.or_eq_true,decide_eq_true_eq];omega)];rw[hc'];exact h1
  ·rw [h2,hcl];have e2 : (i + 1) * k = i * k + k := by rw [Nat.add_mul];omega
   rw[e2];have e3:(cells.toList.take (i*k)).length=i*k:=by rw[List.length_take,Array.length_toList];omega
   have e4:(cells.toList.take (i*k)++x.cells.toList).length=i*k+k:=by rw[List.length_append,e3,hyl]
   rw[List.take_append_of_le_length (by omega),List.take_of_length_le (by omega)];simp
theorem uD {k:Nat}:∀ {vs:List V} {xs:List Value},VList c vs xs→dN k vs=true →
 (∀x∈xs,x.cells.size=k)∧(∀(i:Nat) (v:V) (x:Value),vs[i]? =some v→xs[i]? =some x→VRel c.data v x)
 | [],xs,h,_=>by simp only[VList]at h;subst h;simp
 | v::vs,xs,h,hf=>by
  simp only[VList]at h;obtain⟨y,ys,rfl,h1,h2⟩:=h;simp only[dN,Bool.and_eq_true,beq_iff_eq]at hf;obtain⟨⟨⟨f1,f2⟩,f3⟩,f4⟩:=hf;obtain⟨g1,g2⟩:=uD h2 f4;refine⟨fun x hx=> ?_,fun i u x hu hx=> ?_⟩
  ·rcases List.mem_cons.1 hx with rfl | hx
   ·have:=(h1.vc f1).length;rw[f3]at this;simpa using this
   ·exact g1 x hx
  ·cases i with
   | zero=>simp at hu hx;subst hu;subst hx;exact h1.todata _ _ f2
   | succ i=>exact g2 i u x (by simpa using hu) (by simpa using hx)
theorem yG {k : Nat} : ∀ {xs : List Value} (i : Nat) {x : Value},(∀ x ∈ xs,x.cells.size = k) → xs[i]? = some x → ∀ j,j < k → (xs.flatMap (·.cells.toList))[i * k + j]? = x.cells[j]?
 | [],i,x,_,h,j,hj=>by simp at h
 | y::ys,i,x,hx,h,j,hj=>by
  have hy:=hx y (by simp);rw[List.flatMap_cons];cases i with
  | zero=>simp at h;subst h;rw[List.getElem?_append_left (by simp;omega)];simp
  | succ i=>rw[List.getElem?_append_right (by rw[Nat.add_mul];simp;omega)];have:=yG (xs:=ys) i (x:=x) (fun z hz=>hx z (by simp[hz])) (by simpa using h) j hj;rw[←this];congr 1;rw[Nat.add_mul];simp;omega
theorem VElems.fresh {k : Nat} {vs : List V} {xs : List Value} (hs : HSim e ok pl h w) (hv : VList (cx ok pl w) vs xs) (hf : dN k vs = true) {arr : Array Value} {el : TypeId} {fz : Nat × Nat} {b : Nat} {w' : World}
 (x:WExt w w') (hb:w.heap.size≤b) (ha:w'.heap[b]? =some (.cells arr el fz)) (hpre:∀i,i<(xs.flatMap (·.cells.toList)).length→arr[i]? =(xs.flatMap (·.cells.toList))[i]?) :
 VElems (cx ok pl w').data k vs b 0:=by
 obtain⟨g1,g2⟩:=uD hv hf;have hlen:=hv.length;refine iK fun i v hi=> ?_;have hlt:i<vs.length:=(List.getElem?_eq_some_iff.1 hi).1;obtain⟨y,hy⟩:∃y,xs[i]? =some y:=⟨_,List.getElem?_eq_getElem (by omega)⟩;have hyk:=g1 y (List.mem_of_getElem? hy);refine⟨y,hyk,fun j hj=> ?_,?_⟩
 ·have hflat := yG i g1 hy j (by omega);refine ⟨⟨hs.fresh b hb,fun q hq => by have := hs.lt q b hq;omega⟩,?_⟩;have hj' : y.cells[j]? = some y.cells[j] := by simp [hj]
  have hin:i*k+j<(xs.flatMap (·.cells.toList)).length:=by rw[hj']at hflat;exact(List.getElem?_eq_some_iff.1 hflat).1
  have:=hpre _ hin;rw[hflat]at this;show w'.cell? _=_;simp only[World.cell?,ha,Nat.zero_add];simpa using this
 ·have h1:=g2 i v y hi hy;exact VRel.mono ((x.keeps hs).cext.data) _ _ h1
theorem yH {k : Nat} {vs : List V} {xs : List Value} (hs : HSim e ok pl h w) (hv : VList (cx ok pl w) vs xs) (hf : kQ k vs = true) {arr : Array Value} {el : TypeId} {fz : Nat × Nat} {b : Nat} {w' : World}
 (x:WExt w w') (hb:w.heap.size≤b) (ha:w'.heap[b]? =some (.cells arr el fz)) (hpre:∀i,i<(xs.flatMap (·.cells.toList)).length→arr[i]? =(xs.flatMap (·.cells.toList))[i]?) :
 VElems (cx ok pl w') k vs b 0:=by
 have g1:=nJ hv hf;have hlen:=hv.length;refine iK fun i v hi=> ?_;have hlt:i<vs.length:=(List.getElem?_eq_some_iff.1 hi).1;obtain⟨y,hy,hrel⟩:=hv.get i v hi;have hyk:=g1 y (List.mem_of_getElem? hy);refine⟨y,hyk,fun j hj=> ?_,VRel.mono (x.keeps hs).cext _ _ hrel⟩;have hflat:=yG i g1 hy j (by omega);refine⟨⟨hs.fresh b hb,fun q hq=>by have:=hs.lt q b hq;omega⟩,?_⟩;have hj':y.cells[j]? =some y.cells[j]:=by simp[hj]
 have hin:i*k+j<(xs.flatMap (·.cells.toList)).length:=by rw[hj']at hflat;exact(List.getElem?_eq_some_iff.1 hflat).1
 have:=hpre _ hin;rw[hflat]at this;show w'.cell? _=_;simp only[World.cell?,ha,Nat.zero_add];simpa using this
end
def je : List V → Prop
 | []=>True
 | v::vs=>v.sc∧je vs
theorem VList.sv {c : C} : ∀ {vs : List V} {xs : List Value},VList c vs xs → je vs → VList c (vs.map V.sv) xs
 | [],_,h,_=>by simpa only[VList,List.map_nil]using h
 | v::vs,_,h,hc=>by simp only[VList]at h;obtain⟨y,ys,rfl,h1,h2⟩:=h;simp only[je]at hc;simp only[List.map_cons,VList];exact⟨y,ys,rfl,h1.sv hc.1,h2.sv hc.2⟩
theorem bZ {c : C} {ρ : Operand → V} {ev : Operand → Value} : ∀ (l : List Operand),(∀ x ∈ l,VRel c (ρ x) (ev x)) → VList c (l.map ρ) (l.map ev)
 | [],_=>by simp only[List.map_nil,VList]
 | x::l,h=>by simp only[List.map_cons,VList];exact⟨_,_,rfl,h x (by simp),bZ l fun y hy=>h y (by simp[hy])⟩
def uF : List V → Option (List (IntKind × Int))
 | []=>some []
 | .int k n::vs=>(uF vs).map ((k,n)::·)
 | _=>none
def Jw (P:Program) (t:TypeId) (ks:List IntKind):Prop:=P.eqGuardType P.depth t=false ∧
 ∀(w:World) (xs ys:List Int),xs.length=ks.length→ys.length=ks.length→(Op.equal t (.agg (List.zipWith Value.int ks xs).toArray) (.agg (List.zipWith Value.int ks ys).toArray)).run P w= .ok (xs==ys) w
def Jy (P:Program) (t:TypeId):Prop:=P.eqGuardType P.depth t=false ∧
 ∀(w:World) (a b:ByteArray) (p q:Bool),(Op.equal t (.agg #[.string a,.bool p]) (.agg #[.string b,.bool q])).run P w= .ok (a==b&&p==q) w
def Jz (P:Program) (op:BinOp) (t:TypeId) (xs ys:List V):PV :=
 match xs,ys with
 | [.str a,.bool p],[.str b,.bool q]=>match op with
  | .eql=>(Jy P t,.bool (a==b&&p==q))
  | .neq=>(Jy P t,.bool (!(a==b&&p==q)))
  | _=>fF
 | _,_=>fF
def QV (P:Program) (op:BinOp) (t:TypeId) (xs ys:List V):PV :=
 match uF xs,uF ys with
 | some l,some m=>match op with
  | .eql=>(l.map (·.1)=m.map (·.1)∧Jw P t (l.map (·.1)),.bool (l.map (·.2)==m.map (·.2)))
  | .neq=>(l.map (·.1)=m.map (·.1)∧Jw P t (l.map (·.1)),.bool (!(l.map (·.2)==m.map (·.2))))
  | _=>fF
 | _,_=>Jz P op t xs ys
def xy (P:Program) (op:BinOp) (t:TypeId) (x y:V):PV :=
 match x,y with
 | .agg xs,.agg ys=>QV P op t xs ys
 | x,y=>yx P op t x y
theorem G9 {P:Program} {op:BinOp} {t:TypeId} {x:V} {k:IntKind} {n:Int}:xy P op t x (.int k n)=yx P op t x (.int k n):=by cases x<;>rfl
theorem qX {c : C} : ∀ {vs : List V} {xs : List Value} {l : List (IntKind × Int)},VList c vs xs → uF vs = some l → xs = List.zipWith Value.int (l.map (·.1)) (l.map (·.2))
 | [],xs,l,h,hl=>by simp only[VList]at h;simp only[uF,Option.some.injEq]at hl;subst hl;subst h;rfl
 | v::vs,xs,l,h,hl=>by
  simp only[VList]at h;obtain⟨y,ys,rfl,h1,h2⟩:=h;cases v<;>simp only[uF]at hl<;>try(cases hl;done)
  rename_i k n;cases hvs:uF vs with
  | none=>rw[hvs]at hl;cases hl
  | some m=>rw[hvs]at hl;simp only[Option.map_some,Option.some.injEq]at hl;subst hl;simp only[VRel]at h1;subst h1;rw[qX h2 hvs];rfl
def sV (P:Program) (o:Oper) (ρ:Operand→V) (h:H):PV :=
 match o.op with
 | .move x | .assign x=>(True,ρ x)
 | .pick c a b=>EO (ρ c) (ρ a) (ρ b)
 | .unOp op _ x=>PV.and (ρ x).sc (VG op (ρ x).sv)
 | .binOp op t x (.const .nilIface) _=>PV.and ((ρ x).sc∧ρ (.const .nilIface)= .nili) (ay P op t (ρ x).sv)
 | .binOp op t x y _=>PV.and ((ρ x).sc∧(ρ y).sc) (xy P op t (ρ x).sv (ρ y).sv)
 | .convert src dst x=>PV.and (ρ x).sc (uA P h src dst (ρ x).sv)
 | .makeInterface t x=>match ti P t with
  | some r=>(r.kind≠ .iface,.iface t (ρ x))
  | none=>fF
 | .makeFunc fn first captured=>(True,.fn fn (first.toList.map ρ) (captured.toList.map ρ))
 | .extract x i=>match (ρ x).sv with
  | .tup vs=>((ρ x).sc∧i<vs.length,vs.getD i .any)
  | _=>fF
 | .fieldAddr t x f=>PV.and (ρ x).sc (l9 P t (ρ x).sv f)
 | .field t x f=>PV.and (ρ x).sc (yz P t (ρ x).sv f)
 | .indexAddr t x i=>PV.and ((ρ x).sc∧(ρ i).sc) (mf P t (ρ x).sv (ρ i).sv)
 | .index t x i=>PV.and ((ρ x).sc∧(ρ i).sc) (yA P t (ρ x).sv (ρ i).sv)
 | .load t x=>PV.and (ρ x).sc (uw P h t (ρ x).sv)
 | .slice t x lo hi mx=>PV.and ((ρ x).sc∧je (lo.toList.map ρ)∧je (hi.toList.map ρ)∧je (mx.toList.map ρ)) (yB P t (ρ x).sv (lo.map fun y=>(ρ y).sv) (hi.map fun y=>(ρ y).sv) (mx.map fun y=>(ρ y).sv))
 | .lookup t x k ok=>PV.and ((ρ x).sc∧(ρ k).sc) (tK P h t (ρ x).sv (ρ k).sv ok)
 | .build t parts=>PV.and (je (parts.toList.map fun p=>ρ p.2)) (yE P t (parts.toList.map fun p=>(p.1,(ρ p.2).sv)))
 | .buildSlice t len parts=>PV.and (je (parts.toList.map fun p=>ρ p.2)) (VH P t len (parts.toList.map (·.1)) (parts.toList.map fun p=>(ρ p.2).sv))
 | .call {callee:= .builtin b,args,argTypes}=>match b,args.toList,argTypes.toList with
  | .len,[x],t::_=>PV.and (ρ x).sc (N7 P h t (ρ x).sv)
  | .min,l,_=>PV.and (je (l.map ρ)) (Dy (l.map fun x=>(ρ x).sv))
  | .max,l,_=>PV.and (je (l.map ρ)) (uz (l.map fun x=>(ρ x).sv))
  | _,_,_=>fF
 | .nilCheck x=>match (ρ x).sv with
  | .lp id off=>((ρ x).sc,.lp id off)
  | .ip e=>((ρ x).sc,.ip e)
  | _=>fF
 | .typeAssert x _ t ok=>match ti P t,(ρ x).sv with
  | some r,.iface u e=>((ρ x).sc∧r.kind≠ .iface∧u=t,bif ok then .tup [e,.bool true]else e)
  | _,_=>fF
 | _=>fF
section
variable {e:E} {o:Oper} {ρ:Operand→V} {h:H}
theorem JA {v : V} {p : Prop} {s : (Operand → Value) → Sem Value} (ho : ∀ ev,execOp ev o = (do pure (Next.value (← s ev))))
 (hh:∀ok pl w (ev:Operand→Value),HSim e ok pl h w→(∀x∈o.op.operands,VRel (cx ok pl w) (ρ x) (ev x))→aH e.P (cx ok pl w) (s ev) (p,v)) (hp:p):AQ e o ρ h v:=by
 refine iT fun ok pl w ev hs hr=> ?_;obtain⟨x,h1,h2⟩:=hh ok pl w ev hs hr hp;refine⟨x,?_,h2⟩;rw[ho];exact fU h1
theorem uG {P:Program} (w:World) (a b:Value) (A B:Sem Unit):((b≠ .nilIface∧∀cs,b≠ .agg cs)∨∃u ev,a= .iface u ev)→((match a,b with
 | .nilIface,.nilIface=>A
 | .agg _,.agg _=>B
 | _,_=>pure ()):Sem Unit).run P w= .ok () w:=by
 intro hh;split
 ·rcases hh with ⟨h1,_⟩ | ⟨u,ev,h⟩
  ·exact absurd rfl h1
  ·cases h
 ·rcases hh with ⟨_,h1⟩ | ⟨u,ev,h⟩
  ·exact absurd rfl (h1 _)
  ·cases h
 ·rfl
theorem oV {P:Program} {op:BinOp} {t:TypeId} {x y:Operand} {a b:Value} (w:World) (hh:(b≠ .nilIface∧∀cs,b≠ .agg cs)∨∃u ev,a= .iface u ev) :
 (eqGuard op t x y a b).run P w= .ok () w:=by
 unfold eqGuard;split
 ·simp only[Bool.not_true,Bool.false_eq_true,if_false];exact uG w a b _ _ hh
 ·simp only[Bool.not_true,Bool.false_eq_true,if_false];exact uG w a b _ _ hh
 ·rfl
theorem QW {P:Program} {c:C} {op:BinOp} {t:TypeId} {x y:V} {xv yv:Value} (hx:VRel c x xv) (hy:VRel c y yv) (hp:(yx P op t x y).1) :
 (yv≠ .nilIface∧∀cs,yv≠ .agg cs)∨∃u ev,xv= .iface u ev:=by
 unfold yx at hp;split at hp
 ·simp only[VRel]at hy;subst hy;exact .inl ⟨by simp,by simp⟩
 ·simp only[VRel]at hy;obtain⟨s,rfl,_⟩:=hy;exact .inl ⟨by simp,by simp⟩
 ·simp only[VRel]at hy;subst hy;exact .inl ⟨by simp,by simp⟩
 ·split at hp
  ·simp only[VRel]at hy;subst hy;exact .inl ⟨by simp,by simp⟩
  ·simp only[VRel]at hy;subst hy;exact .inl ⟨by simp,by simp⟩
  ·simp only[VRel]at hy;subst hy;exact .inl ⟨by simp,by simp⟩
  ·simp only[VRel]at hy;subst hy;exact .inl ⟨by simp,by simp⟩
  ·split at hp
   ·simp only[VRel]at hx;obtain⟨ev,rfl,_⟩:=hx;exact .inr ⟨_,_,rfl⟩
   ·simp only[VRel]at hx;obtain⟨ev,rfl,_⟩:=hx;exact .inr ⟨_,_,rfl⟩
   ·exact hp.elim
  ·exact hp.elim
theorem bW {q : PV} {s : (Operand → Value) → Sem Value} (ho : ∀ ev,execOp ev o = (do pure (Next.value (← s ev))))
 (hh:∀ok pl w (ev:Operand→Value),HSim e ok pl h w→(∀x∈o.op.operands,VRel (cx ok pl w) (ρ x) (ev x))→aH e.P (cx ok pl w) (s ev) q):q.1→AQ e o ρ h q.2 :=
 fun hp=>JA (p:=q.1) ho hh hp
theorem JB {c:C} {ev:Operand→Value} {lo:Option Operand} (hlo:∀x∈lo,VRel c (ρ x) (ev x)) (hsc:je (lo.toList.map ρ)) :
 (∀v,(lo.map fun y=>(ρ y).sv)=some v→∃x,lo.map ev=some x∧VRel c v x)∧((lo.map fun y=>(ρ y).sv)=none→lo.map ev=none):=by
 cases lo with
 | none=>exact⟨fun v h=>(by cases h),fun _=>rfl⟩
 | some x=>simp only[Option.toList_some,List.map_cons,List.map_nil,je]at hsc;refine⟨fun v h=> ?_,fun h=>(by cases h)⟩;simp only[Option.map_some,Option.some.injEq]at h;subst h;exact⟨ev x,rfl,(hlo x rfl).sv hsc.1⟩
theorem Dz {lo:Option Operand} {x:Operand} (h:x∈lo):x∈lo.toArray:=by
 cases lo with
 | none=>cases h
 | some y=>cases h;simp
theorem JC (a b:ByteArray):(a==b)=(a.data.toList==b.data.toList):=by
 have h:(a==b)=(a.data==b.data):=by cases a;cases b;rfl
 rw[h,Bool.eq_iff_iff];simp
theorem Ob {P:Program} {c:C} (op:BinOp) (t:TypeId) (ox oy:Operand) {xs ys:List V} {cs ds:List Value} (h1:VList c xs cs) (h2:VList c ys ds) :
 aH P c (do eqGuard op t ox oy (.agg cs.toArray) (.agg ds.toArray);binOp op t (.agg cs.toArray) (.agg ds.toArray)) (Jz P op t xs ys):=by
 unfold Jz;split
 ·rename_i a p b q;simp only [VList,VRel] at h1 h2;obtain ⟨_,_,rfl,⟨s,rfl,hs,_⟩,_,_,rfl,rfl,rfl⟩ := h1;obtain ⟨_,_,rfl,⟨u,rfl,hu,_⟩,_,_,rfl,rfl,rfl⟩ := h2;subst hs;subst hu;split
  ·rintro⟨hg,he⟩;have he:=he c.w s u p q;refine⟨.bool (s.data.toList==u.data.toList&&p==q),?_,by simp only[VRel]⟩;rw[JC]at he;simp[eqGuard,binOp,hg,he,Result.andThen]
  ·rintro⟨hg,he⟩;have he:=he c.w s u p q;refine⟨.bool (!(s.data.toList==u.data.toList&&p==q)),?_,by simp only[VRel]⟩;rw[JC]at he;simp[eqGuard,binOp,hg,he,Result.andThen]
  ·exact aH.no
 ·exact aH.no
theorem JD {P:Program} {c:C} (op:BinOp) (t:TypeId) (ox oy:Operand) {x y:V} {xv yv:Value} (hx:VRel c x xv) (hy:VRel c y yv) :
 aH P c (do eqGuard op t ox oy xv yv;binOp op t xv yv) (xy P op t x y):=by
 unfold xy;split
 ·rename_i xs ys;simp only [VRel] at hx hy;obtain ⟨cs,rfl,h1⟩ := hx;obtain ⟨ds,rfl,h2⟩ := hy;unfold QV;split
  ·rename_i l m hl hm;have e1 := qX h1 hl;have e2 := qX h2 hm;have f1 : cs = (List.zipWith Value.int (l.map (·.1)) (l.map (·.2))).toArray := by rw [← e1]
   have f2:ds=(List.zipWith Value.int (m.map (·.1)) (m.map (·.2))).toArray:=by rw[←e2]
   split
   ·rintro⟨hk,hg,he⟩;have he:=he c.w (l.map (·.2)) (m.map (·.2)) (by simp) (by
     have:=congrArg List.length hk;simpa using this.symm)
    rw[f1,f2,←hk];refine⟨.bool (l.map (·.2)==m.map (·.2)),?_,by simp only[VRel]⟩;generalize (List.zipWith Value.int (l.map (·.1)) (l.map (·.2))).toArray=A at he ⊢;generalize (List.zipWith Value.int (l.map (·.1)) (m.map (·.2))).toArray=B at he ⊢;simp[eqGuard,binOp,hg,he,Result.andThen]
   ·rintro⟨hk,hg,he⟩;have he:=he c.w (l.map (·.2)) (m.map (·.2)) (by simp) (by
     have:=congrArg List.length hk;simpa using this.symm)
    rw[f1,f2,←hk];refine⟨.bool (!(l.map (·.2)==m.map (·.2))),?_,by simp only[VRel]⟩;generalize (List.zipWith Value.int (l.map (·.1)) (l.map (·.2))).toArray=A at he ⊢;generalize (List.zipWith Value.int (l.map (·.1)) (m.map (·.2))).toArray=B at he ⊢;simp[eqGuard,binOp,hg,he,Result.andThen]
   ·exact aH.no
  ·exact Ob op t ox oy h1 h2
 ·intro hp;obtain⟨z,h3,h4⟩:=NZ op t hx hy hp;refine⟨z,?_,h4⟩;simp[oV (x:=ox) (y:=oy) (op:=op) (t:=t) (P:=P) c.w (QW hx hy hp),Result.andThen,h3]
theorem nK:(sV e.P o ρ h).1→AQ e o ρ h (sV e.P o ρ h).2:=by
 unfold sV;split
 ·rename_i x hop;exact bW (s:=fun ev=>pure (ev x)) (fun ev=>by simp[execOp,hop]) fun ok pl w ev hs hr _=>⟨ev x,rfl,hr x (by simp[hop,Op.operands])⟩
 ·rename_i x hop;exact bW (s:=fun ev=>pure (ev x)) (fun ev=>by simp[execOp,hop]) fun ok pl w ev hs hr _=>⟨ev x,rfl,hr x (by simp[hop,Op.operands])⟩
 ·rename_i c a b hop;exact bW (s:=fun ev=>do pure (if ←asBool (ev c)then ev a else ev b)) (fun ev=>by simp[execOp,hop]) fun ok pl w ev hs hr =>
   Ju (hr c (by simp[hop,Op.operands])) (hr a (by simp[hop,Op.operands])) (hr b (by simp[hop,Op.operands]))
 ·rename_i op t x hop;exact bW (s:=fun ev=>Op.unary op (ev x)) (fun ev=>by simp[execOp,hop]) fun ok pl w ev hs hr =>
   aH.and fun hsc=>QT op ((hr x (by simp[hop,Op.operands])).sv hsc)
 ·rename_i op t x t2 hop;exact bW (s:=fun ev=>do eqGuard op t x (.const .nilIface) (ev x) (ev (.const .nilIface));binOp op t (ev x) (ev (.const .nilIface))) (fun ev=>by simp[execOp,hop]) fun ok pl w ev hs hr =>
   aH.and fun hsc=>by
    have hc:VRel (cx ok pl w) (ρ (.const .nilIface)) (ev (.const .nilIface)):=hr (.const .nilIface) (by simp[hop,Op.operands]);rw[hsc.2]at hc;simp only[VRel]at hc;rw[hc];exact Jo (P:=e.P) (c:=cx ok pl w) op t x ((hr x (by simp[hop,Op.operands])).sv hsc.1)
 ·rename_i op t x y t2 hnc hop;refine bW (s:=fun ev=>do eqGuard op t x y (ev x) (ev y);binOp op t (ev x) (ev y)) (fun ev=>by simp[execOp,hop]) fun ok pl w ev hs hr =>
   aH.and fun hsc=> ?_
  have h1:=(hr x (by simp[hop,Op.operands])).sv hsc.1;have h2:=(hr y (by simp[hop,Op.operands])).sv hsc.2;exact JD (P:=e.P) (c:=cx ok pl w) op t x y h1 h2
 ·rename_i src dst x hop;exact bW (s:=fun ev=>convert src dst (ev x)) (fun ev=>by simp[execOp,hop]) fun ok pl w ev hs hr =>
   aH.and fun hsc=>Jv hs ((hr x (by simp[hop,Op.operands])).sv hsc)
 ·rename_i t x hop;split
  ·rename_i r hr';obtain ⟨i,d,z,hT⟩ := aF hr';refine bW (s := fun ev => Instr.makeInterface t (ev x)) (fun ev => by simp [execOp,hop]) fun ok pl w ev hs hr hk => ?_;refine ⟨.iface t (ev x),?_,?_⟩
   ·refine run_makeInterface _ _ _ ?_;unfold Program.concrete;rw[hT.und];cases d<;>first | rfl | exact absurd (by rw[hT.kind];rfl) hk
   ·simp only[VRel];exact⟨_,rfl,hr x (by simp[hop,Op.operands])⟩
  ·exact fun hf=>hf.elim
 ·rename_i fn first captured hop
  refine bW (s:=fun ev=>Instr.makeFunc fn (first.map ev) (captured.map ev)) (fun ev=>by simp[execOp,hop]) fun ok pl w ev hs hr _=> ?_;refine⟨_,rfl,?_⟩;simp only[VRel];refine⟨_,_,rfl,?_,?_⟩
  ·rw[Array.toList_map];exact bZ _ fun x hx=>hr x (by simp only[hop,Op.operands,Array.mem_append];exact .inl (Array.mem_toList_iff.1 hx))
  ·rw[Array.toList_map];exact bZ _ fun x hx=>hr x (by simp only[hop,Op.operands,Array.mem_append];exact .inr (Array.mem_toList_iff.1 hx))
 ·rename_i x i hop;split
  ·rename_i vs hvs;refine bW (s := fun ev => Instr.extract (ev x) i) (fun ev => by simp [execOp,hop]) fun ok pl w ev hs hr => ?_;rintro ⟨hsc,hlt⟩;have h1 := (hr x (by simp [hop,Op.operands])).sv hsc;rw [hvs] at h1;simp only [VRel] at h1;obtain ⟨cs,h2,h3⟩ := h1;obtain ⟨v,hv⟩ : ∃ v,vs[i]? = some v := ⟨_,List.getElem?_eq_getElem hlt⟩;obtain ⟨y,hy,hrel⟩ := h3.get i v hv;refine ⟨y,?_,by simpa only [List.getD_eq_getElem?_getD,hv,Option.getD_some] using hrel⟩;have hy' : cs[i]? = some y := by simpa using hy
   simp[Instr.extract,h2,hy']
  ·exact fun hf=>hf.elim
 ·rename_i t x f hop;exact bW (s:=fun ev=>Instr.fieldAt t (ev x) f) (fun ev=>by simp[execOp,hop]) fun ok pl w ev hs hr =>
   aH.and fun hsc=>oM ((hr x (by simp[hop,Op.operands])).sv hsc)
 ·rename_i t x f hop;exact bW (s:=fun ev=>Instr.field t (ev x) f) (fun ev=>by simp[execOp,hop]) fun ok pl w ev hs hr =>
   aH.and fun hsc=>GY ((hr x (by simp[hop,Op.operands])).sv hsc)
 ·rename_i t x i hop;exact bW (s:=fun ev=>Instr.indexAt t (ev x) (ev i)) (fun ev=>by simp[execOp,hop]) fun ok pl w ev hs hr =>
   aH.and fun hsc=>wR ((hr x (by simp[hop,Op.operands])).sv hsc.1) ((hr i (by simp[hop,Op.operands])).sv hsc.2)
 ·rename_i t x i hop;exact bW (s:=fun ev=>Instr.index t (ev x) (ev i)) (fun ev=>by simp[execOp,hop]) fun ok pl w ev hs hr =>
   aH.and fun hsc=>GZ ((hr x (by simp[hop,Op.operands])).sv hsc.1) ((hr i (by simp[hop,Op.operands])).sv hsc.2)
 ·rename_i t x hop;exact bW (s:=fun ev=>Instr.loadAt t (ev x)) (fun ev=>by simp[execOp,hop]) fun ok pl w ev hs hr =>
   aH.and fun hsc=>uy hs ((hr x (by simp[hop,Op.operands])).sv hsc)
 ·rename_i t x lo hi mx hop;exact bW (s:=fun ev=>Instr.sliceAt t (ev x) (lo.map ev) (hi.map ev) (mx.map ev)) (fun ev=>by simp[execOp,hop]) fun ok pl w ev hs hr =>
   aH.and fun hsc => G5 ((hr x (by simp [hop,Op.operands])).sv hsc.1)
    (JB (fun y hy=>hr y (by simp only[hop,Op.operands,Array.mem_append];exact .inl (.inl (.inr (Dz hy))))) hsc.2.1)
    (JB (fun y hy=>hr y (by simp only[hop,Op.operands,Array.mem_append];exact .inl (.inr (Dz hy)))) hsc.2.2.1)
    (JB (fun y hy=>hr y (by simp only[hop,Op.operands,Array.mem_append];exact .inr (Dz hy))) hsc.2.2.2)
 ·rename_i t x k ok' hop;exact bW (s:=fun ev=>Instr.lookup t (ev x) (ev k) ok') (fun ev=>by simp[execOp,hop]) fun ok pl w ev hs hr =>
   aH.and fun hsc=>Dx hs ((hr x (by simp[hop,Op.operands])).sv hsc.1) ((hr k (by simp[hop,Op.operands])).sv hsc.2)
 ·rename_i t parts hop;refine bW (s:=fun ev=>Instr.build t (parts.map fun(i,x)=>(i,ev x))) (fun ev=>by simp[execOp,hop]) fun ok pl w ev hs hr =>
   aH.and fun hsc=> ?_
  have hl:VList (cx ok pl w) (parts.toList.map fun p=>ρ p.2) (parts.toList.map fun p=>ev p.2):=by
   have:=bZ (c:=cx ok pl w) (ρ:=ρ) (ev:=ev) (parts.toList.map (·.2)) fun x hx=>hr x (by
    simp only[hop,Op.operands];simpa using hx)
   simpa [List.map_map,Function.comp_def]using this
  refine G8 (by simp[List.map_map,Function.comp_def]) ?_;have:=hl.sv hsc;simpa [List.map_map,Function.comp_def]using this
 ·rename_i t len parts hop;rintro ⟨hsc,hp⟩;show AQ e o ρ h (VH e.P t len _ _).2;unfold VH at hp ⊢;split at hp
  ·rename_i r hr';obtain ⟨i,d,z,hT⟩ := aF hr';split at hp
   ·rename_i el hk;have hd := hT.slice hk;subst hd;split at hp
    ·rename_i re hre;obtain⟨ie,de,ze,hE⟩:=aF hre;have hp2:(parts.toList.map (·.1))=List.range len∧kQ re.size (parts.toList.map fun p=>(ρ p.2).sv)=true∧len*re.size≤2^24∧(len=0∨0<re.size):=by
      cases hfa:dN re.size (parts.toList.map fun p=>(ρ p.2).sv)with
      | true=>rw[hfa]at hp;exact⟨hp.1,dN.l hfa,hp.2.1,hp.2.2⟩
      | false=>rw[hfa]at hp;exact⟨hp.1,hp.2.1,hp.2.2.1,.inr hp.2.2.2⟩
     obtain⟨his,hfit,hbig,hpos⟩:=hp2;intro ok pl w ev hs hr;have hl:VList (cx ok pl w) (parts.toList.map fun p=>(ρ p.2).sv) (parts.toList.map fun p=>ev p.2):=by
      have:=bZ (c:=cx ok pl w) (ρ:=ρ) (ev:=ev) (parts.toList.map (·.2)) fun x hx=>hr x (by
       simp only[hop,Op.operands];simpa using hx)
      have hl:VList (cx ok pl w) (parts.toList.map fun p=>ρ p.2) (parts.toList.map fun p=>ev p.2):=by simpa [List.map_map,Function.comp_def]using this
      have:=hl.sv hsc;simpa [List.map_map,Function.comp_def]using this
     obtain⟨xs,hxs⟩:∃xs,parts.toList.map (fun p=>ev p.2)=xs:=⟨_,rfl⟩;rw[hxs]at hl;have g1:=nJ hl hfit;have hlenp:parts.toList.length=len:=by have:=congrArg List.length his;simpa using this
     have hxlen:xs.length=len:=by rw[←hxs,List.length_map,hlenp]
     have hparts:(parts.map fun p=>(p.1,ev p.2)).toList=(List.range' 0 xs.length).zip xs:=by
      rw[Array.toList_map,hxlen,←List.range_eq_range',←his,←hxs];rw[List.zip_map];have:∀l:List (Nat×Operand),l.zip l=l.map fun p=>(p,p):=fun l=>by induction l<;>simp_all
      rw[this];simp[List.map_map,Function.comp_def,Prod.map]
     obtain⟨cells0,hc0⟩:∃cells0,(if len*re.size=0 then #[]else ze.cells)=cells0:=⟨_,rfl⟩;obtain⟨res,hr1,hr2⟩:=yF (k:=re.size) xs 0 ((Array.range (len*re.size)).map (cells0[·%cells0.size]!)) (by simp[hxlen]) g1;have hrun:(execOp ev o).run e.P w= .ok (.value (.slice (some ⟨w.heap.size,0,none⟩) len len)) (w.alloc (.cells res el)):=by
      have h1:(Instr.buildSlice t len (parts.map fun(i,x)=>(i,ev x))).run e.P w= .ok (.slice (some ⟨w.heap.size,0,none⟩) len len) (w.alloc (.cells res el)):=by
       unfold Instr.buildSlice;simp only[Sem.run_bind,hT.run_und,Result.andThen,hE.run_size];rw[if_neg (by omega)];have h2:Instr.fill (fun i=>some (i*re.size,re.size)) ((Array.range (len*re.size)).map (cells0[·%cells0.size]!)) (parts.map fun(i,x)=>(i,ev x)).toList=some res:=by
        rw[hparts];exact hr1
       by_cases h0:len*re.size=0
       ·rw[if_pos h0]at hc0;subst hc0;rw[if_pos h0];simp only[Sem.run_bind,Sem.run_pure,Result.andThen];rw[h2];rfl
       ·rw[if_neg h0]at hc0;subst hc0;rw[if_neg h0];simp only[Sem.run_bind,hE.run_zero,Sem.run_pure,Result.andThen];rw[h2];rfl
      have:execOp ev o=(do pure (Next.value (←Instr.buildSlice t len (parts.map fun(i,x)=>(i,ev x))))):=by simp[execOp,hop]
      rw[this];exact fU h1
     rw[hrun];refine⟨WExt.alloc _ _,?_⟩;have hx:=WExt.alloc w (.cells res el);have hvl:(parts.toList.map fun p=>(ρ p.2).sv).length=len:=by rw[List.length_map,hlenp]
     have hbd:len≤maxLen:=by
      rcases hpos with rfl | hpos
      ·simp[maxLen]
      ·have:len≤len*re.size:=Nat.le_mul_of_pos_right _ hpos;simp only[maxLen];omega
     have hflat:∀i,i<(xs.flatMap (·.cells.toList)).length→res[i]? =(xs.flatMap (·.cells.toList))[i]? :=fun i hi=>by
      have:res.toList[i]? =(xs.flatMap (·.cells.toList))[i]? :=by rw[hr2];simp
      simpa using this
     cases hfa:dN re.size (parts.toList.map fun p=>(ρ p.2).sv)with
     | true =>
      simp only[cond_true,VRel];refine⟨_,len,by rw[hvl],by omega,hbd,fun _=>by rw[hvl],?_⟩;by_cases h0:(parts.toList.map fun p=>(ρ p.2).sv)=[]
      ·exact .inl h0
      ·exact .inr ⟨w.heap.size,0,rfl,VElems.fresh hs hl hfa hx (Nat.le_refl _) (arr:=res) (el:=el) (fz:=(0,0)) (by rw[World.alloc];simp) hflat⟩
     | false=>simp only[cond_false,VRel];exact⟨w.heap.size,by rw[hvl],by rw[hvl];exact hbd,yH hs hl hfit hx (Nat.le_refl _) (arr:=res) (el:=el) (fz:=(0,0)) (by rw[World.alloc];simp) hflat⟩
    ·exact hp.elim
   ·exact hp.elim
  ·exact hp.elim
 ·rename_i b args ts hop;have hb : ∀ ev,execOp ev o = (do
   let d ←resolve ev {callee:= .builtin b,args:=args,argTypes:=ts} o.type
   invoke d.target d.args):=fun ev=>by simp[execOp,hop]
  split
  ·rename_i x t rest hargs hts;have ha : args = #[x] := by rw [← hargs]
   subst ha;have ht:ts[0]? =some t:=by
    have:=congrArg (·[0]?) hts;simpa using this
   refine bW (s:=fun ev=>Builtin.len_ ts o.type #[ev x]) (fun ev=>by rw[hb];simp[resolve,invoke,builtin]) fun ok pl w ev hs hr =>
    aH.and fun hsc=>N8 hs ht ((hr x (by simp[hop,Op.operands,Call.operands])).sv hsc)
  ·refine bW (s:=fun ev=>Builtin.min_ ts o.type (args.map ev)) (fun ev=>by rw[hb];rfl) fun ok pl w ev hs hr =>
    aH.and fun hsc=> ?_
   have:=(bZ (c:=cx ok pl w) (ρ:=ρ) (ev:=ev) args.toList fun x hx=>hr x (by simp[hop,Op.operands,Call.operands];exact Array.mem_toList_iff.1 hx)).sv hsc;have h2:=N9 (P:=e.P) (ts:=ts) (ty:=o.type) this;rw[List.map_map]at h2;have e1:(args.toList.map ev).toArray=args.map ev:=by rw[←Array.toList_map,Array.toArray_toList]
   rw[e1]at h2;exact h2
  ·refine bW (s:=fun ev=>Builtin.max_ ts o.type (args.map ev)) (fun ev=>by rw[hb];rfl) fun ok pl w ev hs hr =>
    aH.and fun hsc=> ?_
   have:=(bZ (c:=cx ok pl w) (ρ:=ρ) (ev:=ev) args.toList fun x hx=>hr x (by simp[hop,Op.operands,Call.operands];exact Array.mem_toList_iff.1 hx)).sv hsc;have h2:=Oa (P:=e.P) (ts:=ts) (ty:=o.type) this;rw[List.map_map]at h2;have e1:(args.toList.map ev).toArray=args.map ev:=by rw[←Array.toList_map,Array.toArray_toList]
   rw[e1]at h2;exact h2
  ·exact fun hf=>hf.elim
 ·rename_i x hop;split
  ·rename_i id off hx;intro hsc;refine iT fun ok pl w ev hs hr=> ?_;have h1:=(hr x (by simp[hop,Op.operands])).sv hsc;rw[hx]at h1;have h2:=h1;simp only[VRel]at h1;obtain⟨b,h3,h4⟩:=h1;refine⟨ev x,?_,h2⟩;simp[execOp,hop,h4]
  ·rename_i ee hx;intro hsc;refine iT fun ok pl w ev hs hr=> ?_;have h1:=(hr x (by simp[hop,Op.operands])).sv hsc;rw[hx]at h1;have h2:=h1;simp only[VRel]at h1;obtain⟨b,off,ev2,h3,_⟩:=h1;refine⟨ev x,?_,h2⟩;simp[execOp,hop,h3]
  ·exact fun hf=>hf.elim
 ·rename_i x xt t okb hop;split
  ·rename_i r u ee hr' hx;rintro⟨hsc,hk,rfl⟩;obtain⟨i,d,z,hT⟩:=aF hr';refine iT fun ok pl w ev hs hr=> ?_;have h1:=(hr x (by simp[hop,Op.operands])).sv hsc;rw[hx]at h1;simp only[VRel]at h1;obtain⟨y,h3,h4⟩:=h1;have hrun:(Instr.typeAssert (ev x) xt u okb).run e.P w= .ok (if okb then .tuple #[y,.bool true]else y) w:=by
    unfold Instr.typeAssert;simp only[Sem.run_bind,hT.run_und,Result.andThen,h3];have hni:∀ms,d≠ .interface ms:=fun ms hd=>hk (by rw[hT.kind,hd];rfl);cases d<;>first | exact absurd rfl (hni _) | (simp only[if_true];rfl)
   refine⟨_,by
    have h5:execOp ev o=(do pure (Next.value (←Instr.typeAssert (ev x) xt u okb))):=by simp[execOp,hop]
    rw[h5];exact fU hrun,?_⟩
   cases okb with
   | true=>simp only[cond_true,if_true,VRel,VList];exact⟨_,rfl,_,_,rfl,h4,_,_,rfl,rfl,rfl⟩
   | false=>simpa using h4
  ·exact fun hf=>hf.elim
 ·exact fun hf=>hf.elim
end
def RF : Option Nat → Fence
 | none=>Fence.wide
 | some l=>Fence.wide.inRound l
theorem ig (r:Option Nat) (f:FuncId):(RF r).fn f:=by cases r<;>trivial
theorem dO (r:Option Nat):(RF r).round=r:=by cases r<;>rfl
theorem jc (r:Option Nat):(RF r).depth=none:=by cases r<;>rfl
theorem cu {r:Option Nat} {n:Nat} {P:Program} {f:FuncId} {args:Array Value} {w:World} {R:Ending→World→Prop} (h:Calls P f args w R):CallsIn (RF r) n P f args w R:=by
 cases r with
 | none=>exact callsIn_wide.2 h
 | some l=>exact CallsIn.inRound l (callsIn_wide.2 h)
theorem nM {r:Option Nat} {n:Nat} {P:Program} {f:FuncId} {args:Array Value} {w:World} {R:Ending→World→Prop} (h:CallsIn (RF r) n P f args w R):Calls P f args w R:=by
 cases r with
 | none=>exact callsIn_wide.1 h
 | some l=>exact callsIn_wide.1 (CallsIn.outOfRound h)
inductive XE where
 | normal
 | exit (id:Nat)
 | goto (l:Nat)
 | ret
 | pan (v:V)
def Wu (c : C) : XE → Exit → Prop
 | .normal,.normal=>True
 | .exit i,.exit j=>i=j
 | .goto i,.goto j=>i=j
 | .ret,.ret=>True
 | .pan v,.panic ch=>∃x,ch=[{v:=x,recovered:=false}]∧VRel c v x
 | _,_=>False
def gJ (e:E) (n:Nat) (ok:Nat→Prop) (pl0:Nat→Option Nat) (w0:World) (Q:XE→Fr→H→Prop):Exit→Act→World→Prop :=
 fun ex a' w'=>∃pl' f' h' xe,SSim e n ok pl0 w0 f' h' pl' w' a'∧Wu (cx ok pl' w') xe ex∧Q xe f' h'
def JE (e:E) (n:Nat) (ok:Nat→Prop) (pl0:Nat→Option Nat) (w0:World) (K:Fr→H→Prop):Act→World→Prop :=
 fun a' w'=>∃pl' f' h',SSim e n ok pl0 w0 f' h' pl' w' a'∧K f' h'
def Eff (e:E) (n:Nat) (r:Option Nat) (o:Oper) (f:Fr) (h:H) (K:Fr→H→Prop) (Q:XE→Fr→H→Prop):Prop :=
 ∀ok pl0 w0 pl w a,SSim e n ok pl0 w0 f h pl w a→jh n o.dst=true→o.wpIn (RF r) 0 e.P a w (JE e n ok pl0 w0 K) (gJ e n ok pl0 w0 Q)
section
variable {e:E} {n:Nat} {r:Option Nat} {o:Oper} {f:Fr} {h:H} {K:Fr→H→Prop} {Q:XE→Fr→H→Prop}
theorem SSim.evs {ok:Nat→Prop} {pl0 pl:Nat→Option Nat} {w0 w:World} {a:Act} (s:SSim e n ok pl0 w0 f h pl w a):∀x∈o.op.operands,VRel (cx ok pl w) (f.ev e x) (a.eval x):=fun x _=>s.ev x
theorem lu {v:V} (hq:AQ e o (f.ev e) h v) (hk:K (f.put o.dst v) h):Eff e n r o f h K Q:=by
 intro ok pl0 w0 pl w a s hd;have:=hq ok pl w a.eval s.hs s.evs;refine⟨fun g _=>ig r g,?_⟩;have hnd:o.semAt (RF r).round a.eval=execOp a.eval o:=by
  rw[dO];refine Oper.semAt_eq r a.eval o fun c hc=> ?_;unfold execOp at this;rw[hc]at this;simp only[Sem.run_bind]at this
  revert this
  cases(resolve a.eval c o.type).run e.P w<;>simp[jv,Result.andThen]
 rw[hnd]
 revert this
 cases(execOp a.eval o).run e.P w with
 | halt x w'=>simp[jv]
 | ok nx w' =>
  cases nx<;>simp only[jv,Oper.uponIn]<;>try(intro hf;exact hf.elim)
  case value x =>
   rintro⟨hx,hv⟩;have hs':=s.hs.wext hx;have k:=hx.keeps s.hs;exact⟨pl,_,h,(s.next0 hs' k).put hd hv,hk⟩
  case skip =>
   rintro⟨hx,hv⟩;have hs':=s.hs.wext hx;have k:=hx.keeps s.hs;exact⟨pl,_,h,(s.next0 hs' k).put hd hv,hk⟩
  case enter g args =>
   intro hc;refine⟨fun hd'=>(by rw[jc]at hd';cases hd'),cu (hc.mono ?_)⟩;rintro en w'' ⟨x,rfl,hx,hv⟩;have hs':=s.hs.wext hx;have k:=hx.keeps s.hs;exact⟨pl,_,h,(s.next0 hs' k).put hd hv,hk⟩
def Wv (e:E) (o:Oper) (ρ:Operand→V) (h:H) (S:(Nat→Bool)→V→H→Prop):Prop :=
 ∀ok pl w (ev:Operand→Value),HSim e ok pl h w→(∀x∈o.op.operands,VRel (cx ok pl w) (ρ x) (ev x)) →
  ∃p v h' pl' w' x,((execOp ev o).run e.P w= .ok (.value x) w'∨((execOp ev o).run e.P w= .ok .skip w'∧x=undef)) ∧
   HSim e ok pl' h' w'∧Keeps p pl w pl' w'∧VRel (cx ok pl' w') v x∧S p v h'
theorem aN (hq:Wv e o (f.ev e) h (fun p v h'=>(∀i∈f.d,p i=false)∧K ((f.drop p).put o.dst v) h')) (hnd:∀c,o.op≠ .defer c):Eff e n r o f h K Q:=by
 intro ok pl0 w0 pl w a s hd;obtain⟨p,v,h',pl',w',x,hrun,hs',k,hv,hp,hk⟩:=hq ok pl w a.eval s.hs s.evs;refine⟨fun g _=>ig r g,?_⟩;rw[dO,Oper.semAt_eq r a.eval o hnd];have fin:JE e n ok pl0 w0 K (a.put o.dst x) w':=⟨pl',_,h',(s.next hs' k hp).put hd hv,hk⟩;rcases hrun with hrun | ⟨hrun,rfl⟩
 ·rw[hrun];exact fin
 ·rw[hrun];exact fin
abbrev jL:V:= .tup []
theorem pW (c:C):VRel c jL undef:=by simp only[VRel,VList];exact⟨#[],rfl,rfl⟩
theorem uH {ok:Nat→Prop} {pl:Nat→Option Nat} {w:World} (hs:HSim e ok pl h w) {cs:List V} {arr:Array Value} (hc:VList (cx ok pl w) cs arr.toList) (el:TypeId) {w1:World} (x:WExt w w1) :
 HSim e ok (bC pl h.length w1.heap.size) (h++[.cells cs]) (w1.alloc (.cells arr el))∧Keeps (fun _=>false) pl w (bC pl h.length w1.heap.size) (w1.alloc (.cells arr el)):=by
 have x2:=x.trans (WExt.alloc w1 (.cells arr el));have hl:=hc.length;have hb:(w1.alloc (.cells arr el)).heap[w1.heap.size]? =some (.cells arr el):=by rw[World.alloc];simp
 have key:∀(c':C),CExt (fun _=>false) (cx ok pl w) c'→c'.w=w1.alloc (.cells arr el)→OAt c' w1.heap.size (.cells cs):=by intro c' hx hw;refine⟨arr,el,(0,0),by rw[hw];exact hb,fun j _=>by simp,by simp at hl;omega,?_⟩;have:=VList.mono hx cs _ hc;rw[List.take_of_length_le (by omega)];exact this
 have hfr:∀i,pl i≠some w1.heap.size:=fun i hi=>by have:=hs.lt i _ hi;have:=x.size;omega
 have k:CExt (fun _=>false) (cx ok pl w) (cx ok (bC pl h.length w1.heap.size) (w1.alloc (.cells arr el))):=by
  refine⟨fun b hb' hok=>⟨⟨hok.1,fun i hi=> ?_⟩,x2.same b hb'⟩,fun i b _ hi=> ?_,fun b arr' el' fz hb'=>⟨arr',fz,(x2.same b (aP hb')).trans hb',rfl⟩⟩
  ·simp only [bC] at hi;split at hi
   ·cases hi;have:=x.size;simp only[cx]at hb';omega
   ·exact hok.2 i hi
  ·have:=hs.pl_lt hi;simp only[cx,bC];rw[if_neg (by omega)];exact hi
 exact hs.new x2 (.cells arr el) (.cells cs) x.size (by simp) (key _ k rfl)
theorem JF {t : TypeId} (hop : o.op = .alloc t) {q : TI} (hq : ti e.P t = some q) (hf : q.zero.fit = true)
 (hk:K (f.put o.dst (.lp h.length 0)) (h++[.cells q.zero.vc])):Eff e n r o f h K Q:=by
 refine aN ?_ (fun c=>by rw[hop];exact fun h=>by cases h);intro ok pl w ev hs _;obtain⟨i,d,z,hT⟩:=aF hq;have hz:VList (cx ok pl w) q.zero.vc z.cells.toList:=by
  rw[hT.zv]at hf ⊢;exact(cZ _ z).vc hf
 obtain⟨h1,h2⟩:=uH hs hz t (WExt.refl w);refine⟨fun _=>false,.lp h.length 0,_,_,_,.pointer (some ⟨w.heap.size,0,none⟩),.inl ?_,h1,h2,?_,fun _ _=>rfl,by simpa using hk⟩
 ·have : (Instr.alloc t true (.tuple #[])).run e.P w = .ok (.pointer (some ⟨w.heap.size,0,none⟩)) (w.alloc (.cells z.cells t)) := by unfold Instr.alloc;simp only [Sem.run_bind,hT.run_zero,Result.andThen];rfl
  have h3:execOp ev o=(do pure (Next.value (←Instr.alloc t true (.tuple #[])))):=by simp[execOp,hop]
  rw[h3];exact fU this
 ·simp only[VRel];exact⟨w.heap.size,by simp[cx,bC],rfl⟩
theorem QX {t : TypeId} {x : Operand} (hop : o.op = .box t x) (hsc : (f.ev e x).sc) (hf : (f.ev e x).sv.fit = true)
 (hk:K (f.put o.dst (.lp h.length 0)) (h++[.cells (f.ev e x).sv.vc])):Eff e n r o f h K Q:=by
 refine aN ?_ (fun c=>by rw[hop];exact fun h=>by cases h);intro ok pl w ev hs hr;have h0:=((hr x (by simp[hop,Op.operands])).sv hsc).vc hf;obtain⟨h1,h2⟩:=uH hs h0 t (WExt.refl w);refine⟨fun _=>false,.lp h.length 0,_,_,_,.pointer (some ⟨w.heap.size,0,none⟩),.inl ?_,h1,h2,?_,fun _ _=>rfl,by simpa using hk⟩
 ·have h3 : execOp ev o = (do pure (Next.value (← Instr.box t (ev x)))) := by simp [execOp,hop]
  rw[h3];exact fU rfl
 ·simp only[VRel];exact⟨w.heap.size,by simp[cx,bC],rfl⟩
theorem DC {t : TypeId} (hop : o.op = .makeMap t none)
 (hk:K (f.put o.dst (.lm h.length)) (h++[.map [] []])):Eff e n r o f h K Q:=by
 refine aN ?_ (fun c=>by rw[hop];exact fun h=>by cases h);intro ok pl w ev hs hr;have hb:(w.alloc (.map #[] 0)).heap[w.heap.size]? =some (.map #[] 0):=by rw[World.alloc];simp
 obtain⟨h1,h2⟩:=hs.new (WExt.alloc w (.map #[] 0)) (.map #[] 0) (.map [] []) (Nat.le_refl _) (by simp) ⟨#[],0,hb,by simp[VList],by simp[VList],by simp,by simp⟩;refine⟨fun _=>false,.lm h.length,_,_,_,.map (some w.heap.size),.inl ?_,h1,h2,?_,fun _ _=>rfl,by simpa using hk⟩
 ·have h3 : execOp ev o = (do pure (Next.value (← Instr.makeMap t none))) := by simp [execOp,hop]
  rw[h3];exact fU rfl
 ·simp only[VRel];exact⟨w.heap.size,by simp[cx,bC],rfl⟩
end
end Go.Abs
