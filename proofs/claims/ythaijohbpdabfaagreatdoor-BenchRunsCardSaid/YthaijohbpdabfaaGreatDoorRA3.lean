/- Lemmas for this claim, part A3: each holds under what it names. -/
import Derived.Test.YthaijohbpdabfaaGreatDoorRA2
import Derived.RangeFuncCalls
import Derived.Laws.IdiomCopy
set_option linter.all false
namespace Go.Abs
open Go.RowKit
open List renaming length → aa, replicate → ao
open Bool renaming true → ab, false → ac
open Option renaming some → al, none → aq
open Decidable renaming decide → ar
open Go.IntKind renaming wrap → aD
open Go.Result renaming andThen → aM
section
variable{P:Program}{c:C}{e:E}{ok:Nat->Prop}{pl:Nat->Option Nat}{w:World}{h:H}
def nU(P:Program):List (Nat×Nat)->Option (List (Nat×Nat))
 |[]=>al []
 |(off,ft)::fs=>match ti P ft,nU P fs with
  |some r,al l=>al ((off,r.size)::l)
  |_,_=>aq
theorem yE:∀ {fs:List Field} {l:List (Nat×Nat)},nU P (fs.map λf=>(f.offset,f.type))=al l ->
 fs.mapM (λf=>(P.info? f.type).map λi=>(f.offset,i.size))=al l
 |[],l,h=>by simp only[List.map_nil,nU]at h;cases h;rfl
 |f::fs,l,h=>by
  simp only[zrd,nU]at h;split at h
  ·rename_i r l' hr hl;cases h;obtain⟨i,d,z,hT⟩:=aG hr;have ih:=yE hl;simp[List.mapM_cons,hT.info,ih,hT.size]
  ·cases h
def CV(P:Program)(t:TypeId)(parts:List (Nat×V)):PV :=
 match ti P t with
 |some r=>match r.kind with
  | .struct fs=>match nU P fs with
   |some places=>match CU (λi=>places[i]?) r.zero.vc parts with
    |some cs=>(r.zero.fit=ab,.agg cs)
    |none=>fJ
   |none=>fJ
  | .arr _ el _=>match ti P el with
   |some re=>match CU (λi=>al (i*re.size,re.size)) r.zero.vc parts with
    |some cs=>(r.zero.fit=ab,.agg cs)
    |none=>fJ
   |none=>fJ
  |_=>fJ
 |none=>fJ
theorem LZ{t:TypeId}{parts:List (Nat×V)}{xs:Array (Nat×Value)}(h2:xs.toList.map (·.1)=parts.map (·.1))(h3:VList c (parts.map (·.2)) (xs.toList.map (·.2))) :
 aH P c (Instr.build t xs) (CV P t parts):=by
 unfold CV;split
 ·rename_i r hr;obtain⟨i,d,z,hT⟩:=aG hr;have fin:∀(place:Nat->Option (Nat×Nat))(cs:List V),r.zero.fit=ab->CU place r.zero.vc parts=al cs->(∀cells,Instr.fill place z.cells xs.toList=al cells->P.built t xs.toList=al cells) ->
   ∃x,(Instr.build t xs).run P c.w= .ok x c.w/\VRel c (.agg cs) x:=by
   intro place cs hfit hf hb;have hz:VList c r.zero.vc z.cells.toList:=by
    rw[hT.zv]at hfit ⊢;exact(dA c z).vc hfit
   obtain⟨cells,h4,h5⟩:=JE hz h2 h3 hf;exact⟨.agg cells,run_build _ _ _ _ (hb cells h4),by simp only[VRel];exact⟨cells,rfl,h5⟩⟩
  split
  ·rename_i fs hk;obtain⟨gs,rfl,hfs⟩:=hT.struct hk;split
   ·rename_i places hp;rw[hfs]at hp;have hp':=yE hp;split
    ·rename_i cs hcs;intro hft;refine fin _ cs hft hcs λcells hc=> ?_;simp[Program.built,hT.info,hT.und,hT.zero,hp',hc]
    ·exact aH.no
   ·exact aH.no
  ·rename_i n el hk;have hd:=hT.arr hk;subst hd;split
   ·rename_i re hre;obtain⟨ie,de,ze,hE⟩:=aG hre;split
    ·rename_i cs hcs;intro hft;refine fin _ cs hft hcs λcells hc=> ?_;rw[hE.size]at hc;simp[Program.built,hT.info,hT.und,hT.zero,hE.info,hc]
    ·exact aH.no
   ·exact aH.no
  ·exact aH.no
 ·exact aH.no
def bV(k:Nat):List V->Bool
 |[]=>ab
 |v::vs=>v.fit&&v.dat&&(aa v.vc==k)&&bV k vs
def nV(k:Nat):List V->Bool
 |[]=>ab
 |v::vs=>v.fit&&(aa v.vc==k)&&nV k vs
theorem bV.l{k:Nat}:∀ {vs:List V},bV k vs=ab->nV k vs=ab
 |[],_=>rfl
 |v::vs,h=>by simp only[bV,nV,zqf]at h ⊢;exact⟨⟨h.1.1.1,h.1.2⟩,bV.l h.2⟩
theorem pq{k:Nat}{c:C}:∀ {vs:List V} {xs:List Value},VList c vs xs->nV k vs=ab->∀x∈xs,x.cells.size=k
 |[],xs,h,_=>by simp only[VList]at h;subst h;simp
 |v::vs,xs,h,hf=>by
  simp only[VList]at h;obtain⟨y,ys,rfl,h1,h2⟩:=h;simp only[nV,zqf,beq_iff_eq]at hf;obtain⟨⟨f1,f3⟩,f4⟩:=hf;intro x hx;rcases zrj.1 hx with rfl|hx
  ·have:=(h1.vc f1).length;rw[f3]at this;simpa using this
  ·exact pq h2 f4 x hx
def ZZ(P:Program)(t:TypeId)(len:Nat)(is:List Nat)(vs:List V):PV :=
 match ti P t with
 |some r=>match r.kind with
  | .slice el=>match ti P el with
   | some re => bif bV re.size vs then (is = List.range len /\ len * re.size <= 2 ^ 24 /\ (len = 0 \/ 0 < re.size),.is ab re.size vs)
    else(is=List.range len/\nV re.size vs=ab/\len*re.size<=2^24/\0<re.size,.row re.size vs)
   |none=>fJ
  |_=>fJ
 |none=>fJ
theorem CW{k:Nat}:∀(xs:List Value)(i:Nat)(cells:Array Value),cells.size=(i+aa xs)*k->(∀x∈xs,x.cells.size=k) ->
 ∃res,Instr.fill (λj=>al (j*k,k)) cells ((List.range' i (aa xs)).zip xs)=al res/\res.toList=cells.toList.take (i*k)++xs.flatMap (·.cells.toList)
 |[],i,cells,hs,_=>by refine⟨cells,rfl,?_⟩;simp only[List.flatMap_nil,zqp];rw[zqh];simp at hs ⊢;omega
 |x::xs,i,cells,hs,hx=>by
  have hxk:=hx x (by simp);have hlen:aa (x::xs)=aa xs+1:=rfl;rw[hlen]at hs ⊢;have e1:(i+(aa xs+1))*k=i*k+k+aa xs*k:=by rw[Nat.add_mul,Nat.add_mul];omega
  have hyl:aa x.cells.toList=k:=by simpa using hxk
  have hfold:=yD (i*k) x.cells.toList 0 cells (by rw[hyl];omega);obtain⟨cells',hc'⟩:∃cells',x.cells.zipIdx.foldl (λcs (p:Value×Nat)=>cs.setIfInBounds (i*k+p.2) p.1) cells=cells':=⟨_,rfl⟩;have hcl:cells'.toList=cells.toList.take (i*k)++x.cells.toList++cells.toList.drop (i*k+k):=by rw[<-hc',<-Array.foldl_toList,Array.toList_zipIdx,hfold,hyl];simp
  have hsz':cells'.size=((i+1)+aa xs)*k:=by
   have:aa cells'.toList=aa cells.toList:=by rw[hcl];simp only[zqa,zrl,List.length_drop,hyl,Array.length_toList];omega
   simp only[Array.length_toList]at this;rw[this,hs];congr 1;omega
  obtain⟨res,h1,h2⟩:=CW xs (i+1) cells' hsz' (λy hy=>hx y (by simp[hy]));refine⟨res,?_,?_⟩
  ·rw[List.range'_succ,List.zip_cons_cons];simp only[Instr.fill];rw[if_neg (by simp only[ne_eq,Bool.or_eq_true,zqb];omega)];rw[hc'];exact h1
  ·rw[h2,hcl];have e2:(i+1)*k=i*k+k:=by rw[Nat.add_mul];omega
   rw[e2];have e3:aa (cells.toList.take (i*k))=i*k:=by rw[zrl,Array.length_toList];omega
   have e4:aa (cells.toList.take (i*k)++x.cells.toList)=i*k+k:=by rw[zqa,e3,hyl]
   rw[List.take_append_of_le_length (by omega),zqh (by omega)];simp
theorem yF{k:Nat}:∀ {vs:List V} {xs:List Value},VList c vs xs->bV k vs=ab ->
 (∀x∈xs,x.cells.size=k)/\(∀(i:Nat)(v:V)(x:Value),vs[i]? =al v->xs[i]? =al x->VRel c.data v x)
 |[],xs,h,_=>by simp only[VList]at h;subst h;simp
 |v::vs,xs,h,hf=>by
  simp only[VList]at h;obtain⟨y,ys,rfl,h1,h2⟩:=h;simp only[bV,zqf,beq_iff_eq]at hf;obtain⟨⟨⟨f1,f2⟩,f3⟩,f4⟩:=hf;obtain⟨g1,g2⟩:=yF h2 f4;refine⟨λx hx=> ?_,λi u x hu hx=> ?_⟩
  ·rcases zrj.1 hx with rfl|hx
   ·have:=(h1.vc f1).length;rw[f3]at this;simpa using this
   ·exact g1 x hx
  ·cases i with
   |zero=>simp at hu hx;subst hu;subst hx;exact h1.todata _ _ f2
   |succ i=>exact g2 i u x (by simpa using hu) (by simpa using hx)
theorem CX{k:Nat}:∀ {xs:List Value} (i:Nat) {x:Value},(∀x∈xs,x.cells.size=k)->xs[i]? =al x->∀j,j<k->(xs.flatMap (·.cells.toList))[i*k+j]? =x.cells[j]?
 |[],i,x,_,h,j,hj=>by simp at h
 |y::ys,i,x,hx,h,j,hj=>by
  have hy:=hx y (by simp);rw[List.flatMap_cons];cases i with
  |zero=>simp at h;subst h;rw[zqj (by simp;omega)];simp
  |succ i=>rw[zsb (by rw[Nat.add_mul];simp;omega)];have:=CX (xs:=ys) i (x:=x) (λz hz=>hx z (by simp[hz])) (by simpa using h) j hj;rw[<-this];congr 1;rw[Nat.add_mul];simp;omega
theorem VElems.fresh{k:Nat}{vs:List V}{xs:List Value}(hs:HSim e ok pl h w)(hv:VList (cx ok pl w) vs xs)(hf:bV k vs=ab){arr:Array Value}{el:TypeId}{fz:Nat×Nat}{b:Nat}{w':World}
 (x:WExt w w') (hb:w.heap.size<=b) (ha:w'.heap[b]? =al (.cells arr el fz)) (hpre:∀i,i<aa (xs.flatMap (·.cells.toList))->arr[i]? =(xs.flatMap (·.cells.toList))[i]?) :
 VElems (cx ok pl w').data k vs b 0:=by
 obtain⟨g1,g2⟩:=yF hv hf;have hlen:=hv.length;refine jf λi v hi=> ?_;have hlt:i<aa vs:=(zqe hi).1;obtain⟨y,hy⟩:∃y,xs[i]? =al y:=⟨_,zqk (by omega)⟩;have hyk:=g1 y (List.mem_of_getElem? hy);refine⟨y,hyk,λj hj=> ?_,?_⟩
 ·have hflat:=CX i g1 hy j (by omega);refine⟨⟨hs.fresh b hb,λq hq=>by have:=hs.lt q b hq;omega⟩,?_⟩;have hj':y.cells[j]? =al y.cells[j]:=by simp[hj]
  have hin:i*k+j<aa (xs.flatMap (·.cells.toList)):=by rw[hj']at hflat;exact(zqe hflat).1
  have:=hpre _ hin;rw[hflat]at this;show w'.cell? _=_;simp only[World.cell?,ha,Nat.zero_add];simpa using this
 ·have h1:=g2 i v y hi hy;exact VRel.mono ((x.keeps hs).cext.data) _ _ h1
theorem CY{k:Nat}{vs:List V}{xs:List Value}(hs:HSim e ok pl h w)(hv:VList (cx ok pl w) vs xs)(hf:nV k vs=ab){arr:Array Value}{el:TypeId}{fz:Nat×Nat}{b:Nat}{w':World}
 (x:WExt w w') (hb:w.heap.size<=b) (ha:w'.heap[b]? =al (.cells arr el fz)) (hpre:∀i,i<aa (xs.flatMap (·.cells.toList))->arr[i]? =(xs.flatMap (·.cells.toList))[i]?) :
 VElems (cx ok pl w') k vs b 0:=by
 have g1:=pq hv hf;have hlen:=hv.length;refine jf λi v hi=> ?_;have hlt:i<aa vs:=(zqe hi).1;obtain⟨y,hy,hrel⟩:=hv.get i v hi;have hyk:=g1 y (List.mem_of_getElem? hy);refine⟨y,hyk,λj hj=> ?_,VRel.mono (x.keeps hs).cext _ _ hrel⟩;have hflat:=CX i g1 hy j (by omega);refine⟨⟨hs.fresh b hb,λq hq=>by have:=hs.lt q b hq;omega⟩,?_⟩;have hj':y.cells[j]? =al y.cells[j]:=by simp[hj]
 have hin:i*k+j<aa (xs.flatMap (·.cells.toList)):=by rw[hj']at hflat;exact(zqe hflat).1
 have:=hpre _ hin;rw[hflat]at this;show w'.cell? _=_;simp only[World.cell?,ha,Nat.zero_add];simpa using this
end
def jo:List V->Prop
 |[]=>True
 |v::vs=>v.sc/\jo vs
theorem VList.sv{c:C}:∀ {vs:List V} {xs:List Value},VList c vs xs->jo vs->VList c (vs.map V.sv) xs
 |[],_,h,_=>by simpa only[VList,List.map_nil]using h
 |v::vs,_,h,hc=>by simp only[VList]at h;obtain⟨y,ys,rfl,h1,h2⟩:=h;simp only[jo]at hc;simp only[zrd,VList];exact⟨y,ys,rfl,h1.sv hc.1,h2.sv hc.2⟩
theorem dP{c:C}{ρ:Operand->V}{ev:Operand->Value}:∀(l:List Operand),(∀x∈l,VRel c (ρ x) (ev x))->VList c (l.map ρ) (l.map ev)
 |[],_=>by simp only[List.map_nil,VList]
 |x::l,h=>by simp only[zrd,VList];exact⟨_,_,rfl,h x (by simp),dP l λy hy=>h y (by simp[hy])⟩
def yG:List V->Option (List (IntKind×Int))
 |[]=>al []
 | .int k n::vs=>(yG vs).map ((k,n)::·)
 |_=>aq
def JF(P:Program)(t:TypeId)(ks:List IntKind):Prop:=P.eqGuardType P.depth t=ac /\
 ∀(w:World)(xs ys:List Int),aa xs=aa ks->aa ys=aa ks->(Op.equal t (.agg (List.zipWith Value.int ks xs).toArray) (.agg (List.zipWith Value.int ks ys).toArray)).run P w= .ok (xs==ys) w
def VR(P:Program)(t:TypeId):Prop:=P.eqGuardType P.depth t=ac /\
 ∀(w:World)(a b:ByteArray)(p q:Bool),(Op.equal t (.agg #[.string a,.bool p]) (.agg #[.string b,.bool q])).run P w= .ok (a==b&&p==q) w
def VS(P:Program)(t:TypeId):Prop:=P.eqGuardType P.depth t=ac /\
 ∀(w:World)(a b c d:ByteArray)(m n:Int),(Op.equal t (.agg #[.string a,.string c,.int .i64 m]) (.agg #[.string b,.string d,.int .i64 n])).run P w= .ok (a==b&&c==d&&m==n) w
def TC(P:Program)(op:BinOp)(t:TypeId)(xs ys:List V):PV :=
 match xs,ys with
 |[.str a,.str c,.int .i64 m],[.str b,.str d,.int .i64 n]=>match op with
  | .eql=>(VS P t,.bool (a==b&&c==d&&m==n))
  | .neq=>(VS P t,.bool (!(a==b&&c==d&&m==n)))
  |_=>fJ
 |[.str a,.bool p],[.str b,.bool q]=>match op with
  | .eql=>(VR P t,.bool (a==b&&p==q))
  | .neq=>(VR P t,.bool (!(a==b&&p==q)))
  |_=>fJ
 |_,_=>fJ
def WJ(P:Program)(op:BinOp)(t:TypeId)(xs ys:List V):PV :=
 match yG xs,yG ys with
 |some l,al m=>match op with
  | .eql=>(l.map (·.1)=m.map (·.1)/\JF P t (l.map (·.1)),.bool (l.map (·.2)==m.map (·.2)))
  | .neq=>(l.map (·.1)=m.map (·.1)/\JF P t (l.map (·.1)),.bool (!(l.map (·.2)==m.map (·.2))))
  |_=>fJ
 |_,_=>TC P op t xs ys
def Bg(P:Program)(op:BinOp)(t:TypeId)(x y:V):PV :=
 match x,y with
 | .agg xs,.agg ys=>WJ P op t xs ys
 |x,y=>CG P op t x y
theorem L6{P:Program}{op:BinOp}{t:TypeId}{x:V}{k:IntKind}{n:Int}:Bg P op t x (.int k n)=CG P op t x (.int k n):=by cases x<;>rfl
theorem vO{c:C}:∀ {vs:List V} {xs:List Value} {l:List (IntKind×Int)},VList c vs xs->yG vs=al l->xs=List.zipWith Value.int (l.map (·.1)) (l.map (·.2))
 |[],xs,l,h,hl=>by simp only[VList]at h;simp only[yG,Option.some.injEq]at hl;subst hl;subst h;rfl
 |v::vs,xs,l,h,hl=>by
  simp only[VList]at h;obtain⟨y,ys,rfl,h1,h2⟩:=h;cases v<;>simp only[yG]at hl<;>try(cases hl;done)
  rename_i k n;cases hvs:yG vs with
  |none=>rw[hvs]at hl;cases hl
  |some m=>rw[hvs]at hl;simp only[zrw,Option.some.injEq]at hl;subst hl;simp only[VRel]at h1;subst h1;rw[vO h2 hvs];rfl
def xX(P:Program)(o:Oper)(ρ:Operand->V)(h:H):PV :=
 match o.op with
 | .move x | .assign x=>(True,ρ x)
 | .pick c a b=>JD (ρ c) (ρ a) (ρ b)
 | .unOp op _ x=>PV.and (ρ x).sc (ZY op (ρ x).sv)
 | .binOp op t x (.const .nilIface) _=>PV.and ((ρ x).sc/\ρ (.const .nilIface)= .nili) (ay P op t (ρ x).sv)
 | .binOp op t x y _=>PV.and ((ρ x).sc/\(ρ y).sc) (Bg P op t (ρ x).sv (ρ y).sv)
 | .convert src dst x=>PV.and (ρ x).sc (jq P h src dst (ρ x).sv)
 | .makeInterface t x=>match ti P t with
  |some r=>(r.kind≠ .iface,.iface t (ρ x))
  |none=>fJ
 | .makeFunc fn first captured=>(True,.fn fn (first.toList.map ρ) (captured.toList.map ρ))
 | .extract x i=>match (ρ x).sv with
  | .tup vs=>((ρ x).sc/\i<aa vs,vs.getD i .any)
  |_=>fJ
 | .fieldAddr t x f=>PV.and (ρ x).sc (nR P t (ρ x).sv f)
 | .field t x f=>PV.and (ρ x).sc (CJ P t (ρ x).sv f)
 | .indexAddr t x i=>PV.and ((ρ x).sc/\(ρ i).sc) (nS P t (ρ x).sv (ρ i).sv)
 | .index t x i=>PV.and ((ρ x).sc/\(ρ i).sc) (CO P t (ρ x).sv (ρ i).sv)
 | .load t x=>PV.and (ρ x).sc (yB P h t (ρ x).sv)
 | .slice t x lo hi mx=>PV.and ((ρ x).sc/\jo (lo.toList.map ρ)/\jo (hi.toList.map ρ)/\jo (mx.toList.map ρ)) (CP P t (ρ x).sv (lo.map λy=>(ρ y).sv) (hi.map λy=>(ρ y).sv) (mx.map λy=>(ρ y).sv))
 | .lookup t x k ok=>PV.and ((ρ x).sc/\(ρ k).sc) (xW P h t (ρ x).sv (ρ k).sv ok)
 | .build t parts=>PV.and (jo (parts.toList.map λp=>ρ p.2)) (CV P t (parts.toList.map λp=>(p.1,(ρ p.2).sv)))
 | .buildSlice t len parts=>PV.and (jo (parts.toList.map λp=>ρ p.2)) (ZZ P t len (parts.toList.map (·.1)) (parts.toList.map λp=>(ρ p.2).sv))
 | .call {callee:= .builtin b,args,argTypes}=>match b,args.toList,argTypes.toList with
  | .len,[x],t::_=>PV.and (ρ x).sc (Tv P h t (ρ x).sv)
  | .min,l,_=>PV.and (jo (l.map ρ)) (LY (l.map λx=>(ρ x).sv))
  | .max,l,_=>PV.and (jo (l.map ρ)) (Oh (l.map λx=>(ρ x).sv))
  |_,_,_=>fJ
 | .nilCheck x=>match (ρ x).sv with
  | .lp id off=>((ρ x).sc,.lp id off)
  | .ip e=>((ρ x).sc,.ip e)
  |_=>fJ
 | .typeAssert x _ t ok=>match ti P t,(ρ x).sv with
  |some r,.iface u e=>((ρ x).sc/\r.kind≠ .iface/\u=t,bif ok then .tup [e,.bool ab]else e)
  |_,_=>fJ
 |_=>fJ
section
variable{e:E}{o:Oper}{ρ:Operand->V}{h:H}
theorem Ol{v:V}{p:Prop}{s:(Operand->Value)->Sem Value}(ho:∀ev,execOp ev o=(do pure (Next.value (<-s ev))))
 (hh:∀ok pl w (ev:Operand->Value),HSim e ok pl h w->(∀x∈o.op.operands,VRel (cx ok pl w) (ρ x) (ev x))->aH e.P (cx ok pl w) (s ev) (p,v)) (hp:p):AQ e o ρ h v:=by
 refine iV λok pl w ev hs hr=> ?_;obtain⟨x,h1,h2⟩:=hh ok pl w ev hs hr hp;refine⟨x,?_,h2⟩;rw[ho];exact gJ h1
theorem yH{P:Program}(w:World)(a b:Value)(A B:Sem Unit):((b≠ .nilIface/\∀cs,b≠ .agg cs)\/∃u ev,a= .iface u ev)->((match a,b with
 | .nilIface,.nilIface=>A
 | .agg _,.agg _=>B
 |_,_=>pure ()):Sem Unit).run P w= .ok () w:=by
 intro hh;split
 ·rcases hh with⟨h1,_⟩|⟨u,ev,h⟩
  ·exact absurd rfl h1
  ·cases h
 ·rcases hh with⟨_,h1⟩|⟨u,ev,h⟩
  ·exact absurd rfl (h1 _)
  ·cases h
 ·rfl
theorem rW{P:Program}{op:BinOp}{t:TypeId}{x y:Operand}{a b:Value}(w:World)(hh:(b≠ .nilIface/\∀cs,b≠ .agg cs)\/∃u ev,a= .iface u ev) :
 (eqGuard op t x y a b).run P w= .ok () w:=by
 unfold eqGuard;split
 ·simp only[Bool.not_true,zrm,if_false];exact yH w a b _ _ hh
 ·simp only[Bool.not_true,zrm,if_false];exact yH w a b _ _ hh
 ·rfl
theorem WL{P:Program}{c:C}{op:BinOp}{t:TypeId}{x y:V}{xv yv:Value}(hx:VRel c x xv)(hy:VRel c y yv)(hp:(CG P op t x y).1) :
 (yv≠ .nilIface/\∀cs,yv≠ .agg cs)\/∃u ev,xv= .iface u ev:=by
 unfold CG at hp;split at hp
 ·simp only[VRel]at hy;subst hy;exact .inl ⟨by simp,by simp⟩
 ·simp only[VRel]at hy;obtain⟨s,rfl,_⟩:=hy;exact .inl ⟨by simp,by simp⟩
 ·simp only[VRel]at hy;subst hy;exact .inl ⟨by simp,by simp⟩
 ·split at hp
  ·simp only[VRel]at hy;subst hy;exact .inl ⟨by simp,by simp⟩
  ·simp only[VRel]at hy;subst hy;exact .inl ⟨by simp,by simp⟩
  ·simp only[VRel]at hy;subst hy;exact .inl ⟨by simp,by simp⟩
  ·simp only[VRel]at hy;subst hy;exact .inl ⟨by simp,by simp⟩
  ·split at hp
   ·simp only[VRel]at hx;obtain⟨ev,rfl,_⟩:=hx;exact .inr ⟨_,_,rfl⟩
   ·simp only[VRel]at hx;obtain⟨ev,rfl,_⟩:=hx;exact .inr ⟨_,_,rfl⟩
   ·exact hp.elim
  ·exact hp.elim
theorem bY{q:PV}{s:(Operand->Value)->Sem Value}(ho:∀ev,execOp ev o=(do pure (Next.value (<-s ev))))
 (hh:∀ok pl w (ev:Operand->Value),HSim e ok pl h w->(∀x∈o.op.operands,VRel (cx ok pl w) (ρ x) (ev x))->aH e.P (cx ok pl w) (s ev) q):q.1->AQ e o ρ h q.2 :=
 λhp=>Ol (p:=q.1) ho hh hp
theorem Om{c:C}{ev:Operand->Value}{lo:Option Operand}(hlo:∀x∈lo,VRel c (ρ x) (ev x))(hsc:jo (lo.toList.map ρ)) :
 (∀v,(lo.map λy=>(ρ y).sv)=al v->∃x,lo.map ev=al x/\VRel c v x)/\((lo.map λy=>(ρ y).sv)=aq->lo.map ev=aq):=by
 cases lo with
 |none=>exact⟨λv h=>(by cases h),λ_=>rfl⟩
 |some x=>simp only[Option.toList_some,zrd,List.map_nil,jo]at hsc;refine⟨λv h=> ?_,λh=>(by cases h)⟩;simp only[zrw,Option.some.injEq]at h;subst h;exact⟨ev x,rfl,(hlo x rfl).sv hsc.1⟩
theorem Ip{lo:Option Operand}{x:Operand}(h:x∈lo):x∈lo.toArray:=by
 cases lo with
 |none=>cases h
 |some y=>cases h;simp
theorem vP(a b:ByteArray):(a==b)=(a.data.toList==b.data.toList):=by
 have h:(a==b)=(a.data==b.data):=by cases a;cases b;rfl
 rw[h,Bool.eq_iff_iff];simp
theorem TD{P:Program}{c:C}(op:BinOp)(t:TypeId)(ox oy:Operand){xs ys:List V}{cs ds:List Value}(h1:VList c xs cs)(h2:VList c ys ds) :
 aH P c (do eqGuard op t ox oy (.agg cs.toArray) (.agg ds.toArray);binOp op t (.agg cs.toArray) (.agg ds.toArray)) (TC P op t xs ys):=by
 unfold TC;split
 ·rename_i a c m b d n;simp only[VList,VRel]at h1 h2;obtain⟨_,_,rfl,⟨s,rfl,hs,_⟩,_,_,rfl,⟨s2,rfl,hs2,_⟩,_,_,rfl,rfl,rfl⟩:=h1;obtain⟨_,_,rfl,⟨u,rfl,hu,_⟩,_,_,rfl,⟨u2,rfl,hu2,_⟩,_,_,rfl,rfl,rfl⟩:=h2;subst hs;subst hu;subst hs2;subst hu2;split
  ·rintro⟨hg,he⟩;have he:=he ‹C›.w s u s2 u2 m n;refine⟨.bool (s.data.toList==u.data.toList&&s2.data.toList==u2.data.toList&&m==n),?_,by simp only[VRel]⟩;rw[vP,vP]at he;simp[eqGuard,binOp,hg,he,aM]
  ·rintro⟨hg,he⟩;have he:=he ‹C›.w s u s2 u2 m n;refine⟨.bool (!(s.data.toList==u.data.toList&&s2.data.toList==u2.data.toList&&m==n)),?_,by simp only[VRel]⟩;rw[vP,vP]at he;simp[eqGuard,binOp,hg,he,aM]
  ·exact aH.no
 ·rename_i a p b q;simp only[VList,VRel]at h1 h2;obtain⟨_,_,rfl,⟨s,rfl,hs,_⟩,_,_,rfl,rfl,rfl⟩:=h1;obtain⟨_,_,rfl,⟨u,rfl,hu,_⟩,_,_,rfl,rfl,rfl⟩:=h2;subst hs;subst hu;split
  ·rintro⟨hg,he⟩;have he:=he c.w s u p q;refine⟨.bool (s.data.toList==u.data.toList&&p==q),?_,by simp only[VRel]⟩;rw[vP]at he;simp[eqGuard,binOp,hg,he,aM]
  ·rintro⟨hg,he⟩;have he:=he c.w s u p q;refine⟨.bool (!(s.data.toList==u.data.toList&&p==q)),?_,by simp only[VRel]⟩;rw[vP]at he;simp[eqGuard,binOp,hg,he,aM]
  ·exact aH.no
 ·exact aH.no
theorem Oo{P:Program}{c:C}(op:BinOp)(t:TypeId)(ox oy:Operand){x y:V}{xv yv:Value}(hx:VRel c x xv)(hy:VRel c y yv) :
 aH P c (do eqGuard op t ox oy xv yv;binOp op t xv yv) (Bg P op t x y):=by
 unfold Bg;split
 ·rename_i xs ys;simp only[VRel]at hx hy;obtain⟨cs,rfl,h1⟩:=hx;obtain⟨ds,rfl,h2⟩:=hy;unfold WJ;split
  ·rename_i l m hl hm;have e1:=vO h1 hl;have e2:=vO h2 hm;have f1:cs=(List.zipWith Value.int (l.map (·.1)) (l.map (·.2))).toArray:=by rw[<-e1]
   have f2:ds=(List.zipWith Value.int (m.map (·.1)) (m.map (·.2))).toArray:=by rw[<-e2]
   split
   ·rintro⟨hk,hg,he⟩;have he:=he c.w (l.map (·.2)) (m.map (·.2)) (by simp) (by
     have:=congrArg List.length hk;simpa using this.symm)
    rw[f1,f2,<-hk];refine⟨.bool (l.map (·.2)==m.map (·.2)),?_,by simp only[VRel]⟩;generalize (List.zipWith Value.int (l.map (·.1)) (l.map (·.2))).toArray=A at he ⊢;generalize (List.zipWith Value.int (l.map (·.1)) (m.map (·.2))).toArray=B at he ⊢;simp[eqGuard,binOp,hg,he,aM]
   ·rintro⟨hk,hg,he⟩;have he:=he c.w (l.map (·.2)) (m.map (·.2)) (by simp) (by
     have:=congrArg List.length hk;simpa using this.symm)
    rw[f1,f2,<-hk];refine⟨.bool (!(l.map (·.2)==m.map (·.2))),?_,by simp only[VRel]⟩;generalize (List.zipWith Value.int (l.map (·.1)) (l.map (·.2))).toArray=A at he ⊢;generalize (List.zipWith Value.int (l.map (·.1)) (m.map (·.2))).toArray=B at he ⊢;simp[eqGuard,binOp,hg,he,aM]
   ·exact aH.no
  ·exact TD op t ox oy h1 h2
 ·intro hp;obtain⟨z,h3,h4⟩:=Tu op t hx hy hp;refine⟨z,?_,h4⟩;simp[rW (x:=ox) (y:=oy) (op:=op) (t:=t) (P:=P) c.w (WL hx hy hp),aM,h3]
theorem pz:(xX e.P o ρ h).1->AQ e o ρ h (xX e.P o ρ h).2:=by
 unfold xX;split
 ·rename_i x hop;exact bY (s:=λev=>pure (ev x)) (λev=>by simp[execOp,hop]) λok pl w ev hs hr _=>⟨ev x,rfl,hr x (by simp[hop,Op.operands])⟩
 ·rename_i x hop;exact bY (s:=λev=>pure (ev x)) (λev=>by simp[execOp,hop]) λok pl w ev hs hr _=>⟨ev x,rfl,hr x (by simp[hop,Op.operands])⟩
 ·rename_i c a b hop;exact bY (s:=λev=>do pure (if <-asBool (ev c)then ev a else ev b)) (λev=>by simp[execOp,hop]) λok pl w ev hs hr =>
   Oi (hr c (by simp[hop,Op.operands])) (hr a (by simp[hop,Op.operands])) (hr b (by simp[hop,Op.operands]))
 ·rename_i op t x hop;exact bY (s:=λev=>Op.unary op (ev x)) (λev=>by simp[execOp,hop]) λok pl w ev hs hr =>
   aH.and λhsc=>WH op ((hr x (by simp[hop,Op.operands])).sv hsc)
 ·rename_i op t x t2 hop;exact bY (s:=λev=>do eqGuard op t x (.const .nilIface) (ev x) (ev (.const .nilIface));binOp op t (ev x) (ev (.const .nilIface))) (λev=>by simp[execOp,hop]) λok pl w ev hs hr =>
   aH.and λhsc=>by
    have hc:VRel (cx ok pl w) (ρ (.const .nilIface)) (ev (.const .nilIface)):=hr (.const .nilIface) (by simp[hop,Op.operands]);rw[hsc.2]at hc;simp only[VRel]at hc;rw[hc];exact N9 (P:=e.P) (c:=cx ok pl w) op t x ((hr x (by simp[hop,Op.operands])).sv hsc.1)
 ·rename_i op t x y t2 hnc hop;refine bY (s:=λev=>do eqGuard op t x y (ev x) (ev y);binOp op t (ev x) (ev y)) (λev=>by simp[execOp,hop]) λok pl w ev hs hr =>
   aH.and λhsc=> ?_
  have h1:=(hr x (by simp[hop,Op.operands])).sv hsc.1;have h2:=(hr y (by simp[hop,Op.operands])).sv hsc.2;exact Oo (P:=e.P) (c:=cx ok pl w) op t x y h1 h2
 ·rename_i src dst x hop;exact bY (s:=λev=>convert src dst (ev x)) (λev=>by simp[execOp,hop]) λok pl w ev hs hr =>
   aH.and λhsc=>Oj hs ((hr x (by simp[hop,Op.operands])).sv hsc)
 ·rename_i t x hop;split
  ·rename_i r hr';obtain⟨i,d,z,hT⟩:=aG hr';refine bY (s:=λev=>Instr.makeInterface t (ev x)) (λev=>by simp[execOp,hop]) λok pl w ev hs hr hk=> ?_;refine⟨.iface t (ev x),?_,?_⟩
   ·refine run_makeInterface _ _ _ ?_;unfold Program.concrete;rw[hT.und];cases d<;>first|rfl|exact absurd (by rw[hT.kind];rfl) hk
   ·simp only[VRel];exact⟨_,rfl,hr x (by simp[hop,Op.operands])⟩
  ·exact λhf=>hf.elim
 ·rename_i fn first captured hop
  refine bY (s:=λev=>Instr.makeFunc fn (first.map ev) (captured.map ev)) (λev=>by simp[execOp,hop]) λok pl w ev hs hr _=> ?_;refine⟨_,rfl,?_⟩;simp only[VRel];refine⟨_,_,rfl,?_,?_⟩
  ·rw[Array.toList_map];exact dP _ λx hx=>hr x (by simp only[hop,Op.operands,Array.mem_append];exact .inl (Array.mem_toList_iff.1 hx))
  ·rw[Array.toList_map];exact dP _ λx hx=>hr x (by simp only[hop,Op.operands,Array.mem_append];exact .inr (Array.mem_toList_iff.1 hx))
 ·rename_i x i hop;split
  ·rename_i vs hvs;refine bY (s:=λev=>Instr.extract (ev x) i) (λev=>by simp[execOp,hop]) λok pl w ev hs hr=> ?_;rintro⟨hsc,hlt⟩;have h1:=(hr x (by simp[hop,Op.operands])).sv hsc;rw[hvs]at h1;simp only[VRel]at h1;obtain⟨cs,h2,h3⟩:=h1;obtain⟨v,hv⟩:∃v,vs[i]? =al v:=⟨_,zqk hlt⟩;obtain⟨y,hy,hrel⟩:=h3.get i v hv;refine⟨y,?_,by simpa only[zqg,hv,Option.getD_some]using hrel⟩;have hy':cs[i]? =al y:=by simpa using hy
   simp[Instr.extract,h2,hy']
  ·exact λhf=>hf.elim
 ·rename_i t x f hop;exact bY (s:=λev=>Instr.fieldAt t (ev x) f) (λev=>by simp[execOp,hop]) λok pl w ev hs hr =>
   aH.and λhsc=>rM ((hr x (by simp[hop,Op.operands])).sv hsc)
 ·rename_i t x f hop;exact bY (s:=λev=>Instr.field t (ev x) f) (λev=>by simp[execOp,hop]) λok pl w ev hs hr =>
   aH.and λhsc=>LQ ((hr x (by simp[hop,Op.operands])).sv hsc)
 ·rename_i t x i hop;exact bY (s:=λev=>Instr.indexAt t (ev x) (ev i)) (λev=>by simp[execOp,hop]) λok pl w ev hs hr =>
   aH.and λhsc=>AB ((hr x (by simp[hop,Op.operands])).sv hsc.1) ((hr i (by simp[hop,Op.operands])).sv hsc.2)
 ·rename_i t x i hop;exact bY (s:=λev=>Instr.index t (ev x) (ev i)) (λev=>by simp[execOp,hop]) λok pl w ev hs hr =>
   aH.and λhsc=>LU ((hr x (by simp[hop,Op.operands])).sv hsc.1) ((hr i (by simp[hop,Op.operands])).sv hsc.2)
 ·rename_i t x hop;exact bY (s:=λev=>Instr.loadAt t (ev x)) (λev=>by simp[execOp,hop]) λok pl w ev hs hr =>
   aH.and λhsc=>yC hs ((hr x (by simp[hop,Op.operands])).sv hsc)
 ·rename_i t x lo hi mx hop;exact bY (s:=λev=>Instr.sliceAt t (ev x) (lo.map ev) (hi.map ev) (mx.map ev)) (λev=>by simp[execOp,hop]) λok pl w ev hs hr =>
   aH.and λhsc => LV ((hr x (by simp [hop,Op.operands])).sv hsc.1)
    (Om (λy hy=>hr y (by simp only[hop,Op.operands,Array.mem_append];exact .inl (.inl (.inr (Ip hy))))) hsc.2.1)
    (Om (λy hy=>hr y (by simp only[hop,Op.operands,Array.mem_append];exact .inl (.inr (Ip hy)))) hsc.2.2.1)
    (Om (λy hy=>hr y (by simp only[hop,Op.operands,Array.mem_append];exact .inr (Ip hy))) hsc.2.2.2)
 ·rename_i t x k ok' hop;exact bY (s:=λev=>Instr.lookup t (ev x) (ev k) ok') (λev=>by simp[execOp,hop]) λok pl w ev hs hr =>
   aH.and λhsc=>Io hs ((hr x (by simp[hop,Op.operands])).sv hsc.1) ((hr k (by simp[hop,Op.operands])).sv hsc.2)
 ·rename_i t parts hop;refine bY (s:=λev=>Instr.build t (parts.map λ(i,x)=>(i,ev x))) (λev=>by simp[execOp,hop]) λok pl w ev hs hr =>
   aH.and λhsc=> ?_
  have hl:VList (cx ok pl w) (parts.toList.map λp=>ρ p.2) (parts.toList.map λp=>ev p.2):=by
   have:=dP (c:=cx ok pl w) (ρ:=ρ) (ev:=ev) (parts.toList.map (·.2)) λx hx=>hr x (by
    simp only[hop,Op.operands];simpa using hx)
   simpa [List.map_map,Function.comp_def]using this
  refine LZ (by simp[List.map_map,Function.comp_def]) ?_;have:=hl.sv hsc;simpa [List.map_map,Function.comp_def]using this
 ·rename_i t len parts hop;rintro⟨hsc,hp⟩;show AQ e o ρ h (ZZ e.P t len _ _).2;unfold ZZ at hp ⊢;split at hp
  ·rename_i r hr';obtain⟨i,d,z,hT⟩:=aG hr';split at hp
   ·rename_i el hk;have hd:=hT.slice hk;subst hd;split at hp
    ·rename_i re hre;obtain⟨ie,de,ze,hE⟩:=aG hre;have hp2:(parts.toList.map (·.1))=List.range len/\nV re.size (parts.toList.map λp=>(ρ p.2).sv)=ab/\len*re.size<=2^24/\(len=0\/0<re.size):=by
      cases hfa:bV re.size (parts.toList.map λp=>(ρ p.2).sv)with
      |true=>rw[hfa]at hp;exact⟨hp.1,bV.l hfa,hp.2.1,hp.2.2⟩
      |false=>rw[hfa]at hp;exact⟨hp.1,hp.2.1,hp.2.2.1,.inr hp.2.2.2⟩
     obtain⟨his,hfit,hbig,hpos⟩:=hp2;intro ok pl w ev hs hr;have hl:VList (cx ok pl w) (parts.toList.map λp=>(ρ p.2).sv) (parts.toList.map λp=>ev p.2):=by
      have:=dP (c:=cx ok pl w) (ρ:=ρ) (ev:=ev) (parts.toList.map (·.2)) λx hx=>hr x (by
       simp only[hop,Op.operands];simpa using hx)
      have hl:VList (cx ok pl w) (parts.toList.map λp=>ρ p.2) (parts.toList.map λp=>ev p.2):=by simpa [List.map_map,Function.comp_def]using this
      have:=hl.sv hsc;simpa [List.map_map,Function.comp_def]using this
     obtain⟨xs,hxs⟩:∃xs,parts.toList.map (λp=>ev p.2)=xs:=⟨_,rfl⟩;rw[hxs]at hl;have g1:=pq hl hfit;have hlenp:aa parts.toList=len:=by have:=congrArg List.length his;simpa using this
     have hxlen:aa xs=len:=by rw[<-hxs,zra,hlenp]
     have hparts:(parts.map λp=>(p.1,ev p.2)).toList=(List.range' 0 (aa xs)).zip xs:=by
      rw[Array.toList_map,hxlen,<-List.range_eq_range',<-his,<-hxs];rw[List.zip_map];have:∀l:List (Nat×Operand),l.zip l=l.map λp=>(p,p):=λl=>by induction l<;>simp_all
      rw[this];simp[List.map_map,Function.comp_def,Prod.map]
     obtain⟨cells0,hc0⟩:∃cells0,(if len*re.size=0 then #[]else ze.cells)=cells0:=⟨_,rfl⟩;obtain⟨res,hr1,hr2⟩:=CW (k:=re.size) xs 0 ((Array.range (len*re.size)).map (cells0[·%cells0.size]!)) (by simp[hxlen]) g1;have hrun:(execOp ev o).run e.P w= .ok (.value (.slice (al ⟨w.heap.size,0,aq⟩) len len)) (w.alloc (.cells res el)):=by
      have h1:(Instr.buildSlice t len (parts.map λ(i,x)=>(i,ev x))).run e.P w= .ok (.slice (al ⟨w.heap.size,0,aq⟩) len len) (w.alloc (.cells res el)):=by
       unfold Instr.buildSlice;simp only[Sem.run_bind,hT.run_und,aM,hE.run_size];rw[if_neg (by omega)];have h2:Instr.fill (λi=>al (i*re.size,re.size)) ((Array.range (len*re.size)).map (cells0[·%cells0.size]!)) (parts.map λ(i,x)=>(i,ev x)).toList=al res:=by
        rw[hparts];exact hr1
       by_cases h0:len*re.size=0
       ·rw[if_pos h0]at hc0;subst hc0;rw[if_pos h0];simp only[Sem.run_bind,Sem.run_pure,aM];rw[h2];rfl
       ·rw[if_neg h0]at hc0;subst hc0;rw[if_neg h0];simp only[Sem.run_bind,hE.run_zero,Sem.run_pure,aM];rw[h2];rfl
      have:execOp ev o=(do pure (Next.value (<-Instr.buildSlice t len (parts.map λ(i,x)=>(i,ev x))))):=by simp[execOp,hop]
      rw[this];exact gJ h1
     rw[hrun];refine⟨WExt.alloc _ _,?_⟩;have hx:=WExt.alloc w (.cells res el);have hvl:aa (parts.toList.map λp=>(ρ p.2).sv)=len:=by rw[zra,hlenp]
     have hbd:len<=maxLen:=by
      rcases hpos with rfl|hpos
      ·simp[maxLen]
      ·have:len<=len*re.size:=Nat.le_mul_of_pos_right _ hpos;simp only[maxLen];omega
     have hflat:∀i,i<aa (xs.flatMap (·.cells.toList))->res[i]? =(xs.flatMap (·.cells.toList))[i]? :=λi hi=>by
      have:res.toList[i]? =(xs.flatMap (·.cells.toList))[i]? :=by rw[hr2];simp
      simpa using this
     cases hfa:bV re.size (parts.toList.map λp=>(ρ p.2).sv)with
     |true =>
      simp only[cond_true,VRel];refine⟨_,len,by rw[hvl],by omega,hbd,λ_=>by rw[hvl],?_⟩;by_cases h0:(parts.toList.map λp=>(ρ p.2).sv)=[]
      ·exact .inl h0
      ·exact .inr ⟨w.heap.size,0,rfl,VElems.fresh hs hl hfa hx (zrb _) (arr:=res) (el:=el) (fz:=(0,0)) (by rw[World.alloc];simp) hflat⟩
     |false=>simp only[cond_false,VRel];exact⟨w.heap.size,by rw[hvl],by rw[hvl];exact hbd,CY hs hl hfit hx (zrb _) (arr:=res) (el:=el) (fz:=(0,0)) (by rw[World.alloc];simp) hflat⟩
    ·exact hp.elim
   ·exact hp.elim
  ·exact hp.elim
 ·rename_i b args ts hop;have hb : ∀ ev,execOp ev o = (do
   let d <-resolve ev {callee:= .builtin b,args:=args,argTypes:=ts} o.type
   invoke d.target d.args):=λev=>by simp[execOp,hop]
  split
  ·rename_i x t rest hargs hts;have ha:args=#[x]:=by rw[<-hargs]
   subst ha;have ht:ts[0]? =al t:=by
    have:=congrArg (·[0]?) hts;simpa using this
   refine bY (s:=λev=>Builtin.len_ ts o.type #[ev x]) (λev=>by rw[hb];simp[resolve,invoke,builtin]) λok pl w ev hs hr =>
    aH.and λhsc=>Tz hs ht ((hr x (by simp[hop,Op.operands,Call.operands])).sv hsc)
  ·refine bY (s:=λev=>Builtin.min_ ts o.type (args.map ev)) (λev=>by rw[hb];rfl) λok pl w ev hs hr =>
    aH.and λhsc=> ?_
   have:=(dP (c:=cx ok pl w) (ρ:=ρ) (ev:=ev) args.toList λx hx=>hr x (by simp[hop,Op.operands,Call.operands];exact Array.mem_toList_iff.1 hx)).sv hsc;have h2:=TA (P:=e.P) (ts:=ts) (ty:=o.type) this;rw[List.map_map]at h2;have e1:(args.toList.map ev).toArray=args.map ev:=by rw[<-Array.toList_map,Array.toArray_toList]
   rw[e1]at h2;exact h2
  ·refine bY (s:=λev=>Builtin.max_ ts o.type (args.map ev)) (λev=>by rw[hb];rfl) λok pl w ev hs hr =>
    aH.and λhsc=> ?_
   have:=(dP (c:=cx ok pl w) (ρ:=ρ) (ev:=ev) args.toList λx hx=>hr x (by simp[hop,Op.operands,Call.operands];exact Array.mem_toList_iff.1 hx)).sv hsc;have h2:=TB (P:=e.P) (ts:=ts) (ty:=o.type) this;rw[List.map_map]at h2;have e1:(args.toList.map ev).toArray=args.map ev:=by rw[<-Array.toList_map,Array.toArray_toList]
   rw[e1]at h2;exact h2
  ·exact λhf=>hf.elim
 ·rename_i x hop;split
  ·rename_i id off hx;intro hsc;refine iV λok pl w ev hs hr=> ?_;have h1:=(hr x (by simp[hop,Op.operands])).sv hsc;rw[hx]at h1;have h2:=h1;simp only[VRel]at h1;obtain⟨b,h3,h4⟩:=h1;refine⟨ev x,?_,h2⟩;simp[execOp,hop,h4]
  ·rename_i ee hx;intro hsc;refine iV λok pl w ev hs hr=> ?_;have h1:=(hr x (by simp[hop,Op.operands])).sv hsc;rw[hx]at h1;have h2:=h1;simp only[VRel]at h1;obtain⟨b,off,ev2,h3,_⟩:=h1;refine⟨ev x,?_,h2⟩;simp[execOp,hop,h3]
  ·exact λhf=>hf.elim
 ·rename_i x xt t okb hop;split
  ·rename_i r u ee hr' hx;rintro⟨hsc,hk,rfl⟩;obtain⟨i,d,z,hT⟩:=aG hr';refine iV λok pl w ev hs hr=> ?_;have h1:=(hr x (by simp[hop,Op.operands])).sv hsc;rw[hx]at h1;simp only[VRel]at h1;obtain⟨y,h3,h4⟩:=h1;have hrun:(Instr.typeAssert (ev x) xt u okb).run e.P w= .ok (if okb then .tuple #[y,.bool ab]else y) w:=by
    unfold Instr.typeAssert;simp only[Sem.run_bind,hT.run_und,aM,h3];have hni:∀ms,d≠ .interface ms:=λms hd=>hk (by rw[hT.kind,hd];rfl);cases d<;>first|exact absurd rfl (hni _)|(simp only[if_true];rfl)
   refine⟨_,by
    have h5:execOp ev o=(do pure (Next.value (<-Instr.typeAssert (ev x) xt u okb))):=by simp[execOp,hop]
    rw[h5];exact gJ hrun,?_⟩
   cases okb with
   |true=>simp only[cond_true,if_true,VRel,VList];exact⟨_,rfl,_,_,rfl,h4,_,_,rfl,rfl,rfl⟩
   |false=>simpa using h4
  ·exact λhf=>hf.elim
 ·exact λhf=>hf.elim
end
def RF:Option Nat->Fence
 |none=>Fence.wide
 |some l=>Fence.wide.inRound l
theorem iD(r:Option Nat)(f:FuncId):(RF r).fn f:=by cases r<;>trivial
theorem eP(r:Option Nat):(RF r).round=r:=by cases r<;>rfl
theorem lS(r:Option Nat):(RF r).depth=aq:=by cases r<;>rfl
theorem fH{r:Option Nat}{n:Nat}{P:Program}{f:FuncId}{args:Array Value}{w:World}{R:Ending->World->Prop}(h:Calls P f args w R):CallsIn (RF r) n P f args w R:=by
 cases r with
 |none=>exact callsIn_wide.2 h
 |some l=>exact CallsIn.inRound l (callsIn_wide.2 h)
theorem pF{r:Option Nat}{n:Nat}{P:Program}{f:FuncId}{args:Array Value}{w:World}{R:Ending->World->Prop}(h:CallsIn (RF r) n P f args w R):Calls P f args w R:=by
 cases r with
 |none=>exact callsIn_wide.1 h
 |some l=>exact callsIn_wide.1 (CallsIn.outOfRound h)
inductive XE where
 |normal
 |exit (id:Nat)
 |goto (l:Nat)
 |ret
 |pan (v:V)
def zaO(c:C):XE->Exit->Prop
 | .normal,.normal=>True
 | .exit i,.exit j=>i=j
 | .goto i,.goto j=>i=j
 | .ret,.ret=>True
 | .pan v,.panic ch=>∃x,ch=[{v:=x,recovered:=ac}]/\VRel c v x
 |_,_=>False
def iM(e:E)(n:Nat)(ok:Nat->Prop)(pl0:Nat->Option Nat)(w0:World)(Q:XE->Fr->H->Prop):Exit->Act->World->Prop :=
 λex a' w'=>∃pl' f' h' xe,SSim e n ok pl0 w0 f' h' pl' w' a'/\zaO (cx ok pl' w') xe ex/\Q xe f' h'
def Oq(e:E)(n:Nat)(ok:Nat->Prop)(pl0:Nat->Option Nat)(w0:World)(K:Fr->H->Prop):Act->World->Prop :=
 λa' w'=>∃pl' f' h',SSim e n ok pl0 w0 f' h' pl' w' a'/\K f' h'
def Eff(e:E)(n:Nat)(r:Option Nat)(o:Oper)(f:Fr)(h:H)(K:Fr->H->Prop)(Q:XE->Fr->H->Prop):Prop :=
 ∀ok pl0 w0 pl w a,SSim e n ok pl0 w0 f h pl w a->jF n o.dst=ab->o.wpIn (RF r) 0 e.P a w (Oq e n ok pl0 w0 K) (iM e n ok pl0 w0 Q)
section
variable{e:E}{n:Nat}{r:Option Nat}{o:Oper}{f:Fr}{h:H}{K:Fr->H->Prop}{Q:XE->Fr->H->Prop}
theorem SSim.evs{ok:Nat->Prop}{pl0 pl:Nat->Option Nat}{w0 w:World}{a:Act}(s:SSim e n ok pl0 w0 f h pl w a):∀x∈o.op.operands,VRel (cx ok pl w) (f.ev e x) (a.eval x):=λx _=>s.ev x
theorem kG{v:V}(hq:AQ e o (f.ev e) h v)(hk:K (f.put o.dst v) h):Eff e n r o f h K Q:=by
 intro ok pl0 w0 pl w a s hd;have:=hq ok pl w a.eval s.hs s.evs;refine⟨λg _=>iD r g,?_⟩;have hnd:o.semAt (RF r).round a.eval=execOp a.eval o:=by
  rw[eP];refine Oper.semAt_eq r a.eval o λc hc=> ?_;unfold execOp at this;rw[hc]at this;simp only[Sem.run_bind]at this
  revert this
  cases(resolve a.eval c o.type).run e.P w<;>simp[lL,aM]
 rw[hnd]
 revert this
 cases(execOp a.eval o).run e.P w with
 |halt x w'=>simp[lL]
 |ok nx w' =>
  cases nx<;>simp only[lL,Oper.uponIn]<;>try(intro hf;exact hf.elim)
  case value x =>
   rintro⟨hx,hv⟩;have hs':=s.hs.wext hx;have k:=hx.keeps s.hs;exact⟨pl,_,h,(s.next0 hs' k).put hd hv,hk⟩
  case skip =>
   rintro⟨hx,hv⟩;have hs':=s.hs.wext hx;have k:=hx.keeps s.hs;exact⟨pl,_,h,(s.next0 hs' k).put hd hv,hk⟩
  case enter g args =>
   intro hc;refine⟨λhd'=>(by rw[lS]at hd';cases hd'),fH (hc.mono ?_)⟩;rintro en w'' ⟨x,rfl,hx,hv⟩;have hs':=s.hs.wext hx;have k:=hx.keeps s.hs;exact⟨pl,_,h,(s.next0 hs' k).put hd hv,hk⟩
def zaP(e:E)(o:Oper)(ρ:Operand->V)(h:H)(S:(Nat->Bool)->V->H->Prop):Prop :=
 ∀ok pl w (ev:Operand->Value),HSim e ok pl h w->(∀x∈o.op.operands,VRel (cx ok pl w) (ρ x) (ev x)) ->
  ∃p v h' pl' w' x,((execOp ev o).run e.P w= .ok (.value x) w'\/((execOp ev o).run e.P w= .ok .skip w'/\x=undef)) /\
   HSim e ok pl' h' w'/\Keeps p pl w pl' w'/\VRel (cx ok pl' w') v x/\S p v h'
theorem aV(hq:zaP e o (f.ev e) h (λp v h'=>(∀i∈f.d,p i=ac)/\K ((f.drop p).put o.dst v) h'))(hnd:∀c,o.op≠ .defer c):Eff e n r o f h K Q:=by
 intro ok pl0 w0 pl w a s hd;obtain⟨p,v,h',pl',w',x,hrun,hs',k,hv,hp,hk⟩:=hq ok pl w a.eval s.hs s.evs;refine⟨λg _=>iD r g,?_⟩;rw[eP,Oper.semAt_eq r a.eval o hnd];have fin:Oq e n ok pl0 w0 K (a.put o.dst x) w':=⟨pl',_,h',(s.next hs' k hp).put hd hv,hk⟩;rcases hrun with hrun|⟨hrun,rfl⟩
 ·rw[hrun];exact fin
 ·rw[hrun];exact fin
abbrev jR:V:= .tup []
theorem pG(c:C):VRel c jR undef:=by simp only[VRel,VList];exact⟨#[],rfl,rfl⟩
theorem yI{ok:Nat->Prop}{pl:Nat->Option Nat}{w:World}(hs:HSim e ok pl h w){cs:List V}{arr:Array Value}(hc:VList (cx ok pl w) cs arr.toList)(el:TypeId){w1:World}(x:WExt w w1) :
 HSim e ok (bz pl (aa h) w1.heap.size) (h++[.cells cs]) (w1.alloc (.cells arr el))/\Keeps (λ_=>ac) pl w (bz pl (aa h) w1.heap.size) (w1.alloc (.cells arr el)):=by
 have x2:=x.trans (WExt.alloc w1 (.cells arr el));have hl:=hc.length;have hb:(w1.alloc (.cells arr el)).heap[w1.heap.size]? =al (.cells arr el):=by rw[World.alloc];simp
 have key:∀(c':C),CExt (λ_=>ac) (cx ok pl w) c'->c'.w=w1.alloc (.cells arr el)->OAt c' w1.heap.size (.cells cs):=by intro c' hx hw;refine⟨arr,el,(0,0),by rw[hw];exact hb,λj _=>by simp,by simp at hl;omega,?_⟩;have:=VList.mono hx cs _ hc;rw[zqh (by omega)];exact this
 have hfr:∀i,pl i≠al w1.heap.size:=λi hi=>by have:=hs.lt i _ hi;have:=x.size;omega
 have k:CExt (λ_=>ac) (cx ok pl w) (cx ok (bz pl (aa h) w1.heap.size) (w1.alloc (.cells arr el))):=by
  refine⟨λb hb' hok=>⟨⟨hok.1,λi hi=> ?_⟩,x2.same b hb'⟩,λi b _ hi=> ?_,λb arr' el' fz hb'=>⟨arr',fz,(x2.same b (aW hb')).trans hb',rfl⟩⟩
  ·simp only[bz]at hi;split at hi
   ·cases hi;have:=x.size;simp only[cx]at hb';omega
   ·exact hok.2 i hi
  ·have:=hs.pl_lt hi;simp only[cx,bz];rw[if_neg (by omega)];exact hi
 exact hs.new x2 (.cells arr el) (.cells cs) x.size (by simp) (key _ k rfl)
theorem Ot{t:TypeId}(hop:o.op= .alloc t){q:TI}(hq:ti e.P t=al q)(hf:q.zero.fit=ab)
 (hk:K (f.put o.dst (.lp (aa h) 0)) (h++[.cells q.zero.vc])):Eff e n r o f h K Q:=by
 refine aV ?_ (λc=>by rw[hop];exact λh=>by cases h);intro ok pl w ev hs _;obtain⟨i,d,z,hT⟩:=aG hq;have hz:VList (cx ok pl w) q.zero.vc z.cells.toList:=by
  rw[hT.zv]at hf ⊢;exact(dA _ z).vc hf
 obtain⟨h1,h2⟩:=yI hs hz t (WExt.refl w);refine⟨λ_=>ac,.lp (aa h) 0,_,_,_,.pointer (al ⟨w.heap.size,0,aq⟩),.inl ?_,h1,h2,?_,λ_ _=>rfl,by simpa using hk⟩
 ·have:(Instr.alloc t ab (.tuple #[])).run e.P w= .ok (.pointer (al ⟨w.heap.size,0,aq⟩)) (w.alloc (.cells z.cells t)):=by unfold Instr.alloc;simp only[Sem.run_bind,hT.run_zero,aM];rfl
  have h3:execOp ev o=(do pure (Next.value (<-Instr.alloc t ab (.tuple #[])))):=by simp[execOp,hop]
  rw[h3];exact gJ this
 ·simp only[VRel];exact⟨w.heap.size,by simp[cx,bz],rfl⟩
theorem WM{t:TypeId}{x:Operand}(hop:o.op= .box t x)(hsc:(f.ev e x).sc)(hf:(f.ev e x).sv.fit=ab)
 (hk:K (f.put o.dst (.lp (aa h) 0)) (h++[.cells (f.ev e x).sv.vc])):Eff e n r o f h K Q:=by
 refine aV ?_ (λc=>by rw[hop];exact λh=>by cases h);intro ok pl w ev hs hr;have h0:=((hr x (by simp[hop,Op.operands])).sv hsc).vc hf;obtain⟨h1,h2⟩:=yI hs h0 t (WExt.refl w);refine⟨λ_=>ac,.lp (aa h) 0,_,_,_,.pointer (al ⟨w.heap.size,0,aq⟩),.inl ?_,h1,h2,?_,λ_ _=>rfl,by simpa using hk⟩
 ·have h3:execOp ev o=(do pure (Next.value (<-Instr.box t (ev x)))):=by simp[execOp,hop]
  rw[h3];exact gJ rfl
 ·simp only[VRel];exact⟨w.heap.size,by simp[cx,bz],rfl⟩
theorem Iq{t:TypeId}(hop:o.op= .makeMap t aq)
 (hk:K (f.put o.dst (.lm (aa h))) (h++[.map [] []])):Eff e n r o f h K Q:=by
 refine aV ?_ (λc=>by rw[hop];exact λh=>by cases h);intro ok pl w ev hs hr;have hb:(w.alloc (.map #[] 0)).heap[w.heap.size]? =al (.map #[] 0):=by rw[World.alloc];simp
 obtain⟨h1,h2⟩:=hs.new (WExt.alloc w (.map #[] 0)) (.map #[] 0) (.map [] []) (zrb _) (by simp) ⟨#[],0,hb,by simp[VList],by simp[VList],by simp,by simp⟩;refine⟨λ_=>ac,.lm (aa h),_,_,_,.map (al w.heap.size),.inl ?_,h1,h2,?_,λ_ _=>rfl,by simpa using hk⟩
 ·have h3:execOp ev o=(do pure (Next.value (<-Instr.makeMap t aq))):=by simp[execOp,hop]
  rw[h3];exact gJ rfl
 ·simp only[VRel];exact⟨w.heap.size,by simp[cx,bz],rfl⟩
end
structure Wrote(w:World)(b:Nat)(arr':Array Value)(el:TypeId)(fz:Nat×Nat)(w':World):Prop where
 os:w'.os=w.os
 tape:w'.tape=w.tape
 output:w'.output=w.output
 size:w'.heap.size=w.heap.size
 same:∀i,i≠b->w'.heap[i]? =w.heap[i]?
 here:w'.heap[b]? =al (.cells arr' el fz)
theorem iO{b:Nat}{el:TypeId}{fz:Nat×Nat}:∀(vs:List Value)(o:Nat)(arr:Array Value)(w:World),w.heap[b]? =al (.cells arr el fz)->o+aa vs<=arr.size ->
 Wrote w b (arr.toList.take o++vs++arr.toList.drop (o+aa vs)).toArray el fz (w.setCells b o vs)
 |[],o,arr,w,hb,_=>⟨rfl,rfl,rfl,rfl,λ_ _=>rfl,by simpa [World.setCells]using hb⟩
 |v::vs,o,arr,w,hb,hl=>by
  simp only[zrt]at hl;have hlt:=aW hb;have h1:(w.setCell ⟨b,o,aq⟩ v).heap[b]? =al (.cells (arr.setIfInBounds o v) el fz):=by
   simp only[World.setCell];rw[Array.getElem?_modify];simp[hb]
  have h2:∀i,i≠b->(w.setCell ⟨b,o,aq⟩ v).heap[i]? =w.heap[i]? :=λi hi=>by simp only[World.setCell];rw[Array.getElem?_modify];simp[Ne.symm hi]
  have ih:=iO vs (o+1) (arr.setIfInBounds o v) (w.setCell ⟨b,o,aq⟩ v) h1 (by simp;omega);refine⟨ih.os,ih.tape,ih.output,ih.size.trans (by simp[World.setCell]),λi hi=>(ih.same i hi).trans (h2 i hi),?_⟩;have h3:=ih.here;simp only[World.setCells]at h3 ⊢;rw[h3]
  congr 2
  simp only[Array.toList_setIfInBounds];apply Array.ext';simp only[zrt];apply List.ext_getElem?;intro i;have hsz:aa arr.toList=arr.size:=by simp
  simp only[List.getElem?_append,List.getElem?_take,List.getElem?_drop,zqa,zrl,zrn,List.getElem?_set,List.length_drop,List.getElem?_cons,zrt]
  repeat' split
  all_goals first
   |rfl
   |omega
   |(congr 1;omega)
   |(exfalso;omega)
   |(simp_all;(try omega);done)
   |(simp only[Array.getElem?_toList];congr 1;simp_all;omega)
theorem gW{P:Program}{w:World}{b o:Nat}{vs:List Value}{arr:Array Value}{el:TypeId}{fz:Nat×Nat}(hb:w.heap[b]? =al (.cells arr el fz))
 (hz:∀j,j<arr.size->¬(fz.1<=j/\j<fz.2)) (hl:o+aa vs<=arr.size) (h1:∀v∈vs,v.oneCell'=ab) :
 (storeCells ⟨b,o,aq⟩ vs).run P w= .ok () (w.setCells b o vs):=by
 have:=run_storeCells_cells (P:=P) b o vs 0 w (λj hj=>by
  have:o+j<arr.size:=by omega
  simp[World.cell?,hb,this]) (λj hj=>by
  have h2:=hz (o+0+j) (by omega);obtain⟨lo,hi⟩:=fz;simp only[World.frozen?,hb];simp only[Bool.and_eq_false_iff,zqd];simp only at h2;by_cases h3:lo<=o+0+j
  ·exact .inr λh4=>h2 ⟨h3,h4⟩
  ·exact .inl h3) h1
 simpa using this
theorem VRel.oneCell{c:C}{v:V}{x:Value}(h:VRel c v x)(ho:v.one=ab):x.oneCell'=ab:=by
 cases v<;>simp only[V.one,zrm]at ho<;>simp only[VRel]at h
 case bool=>subst h;rfl
 case int=>subst h;rfl
 case str=>obtain⟨s,rfl,_⟩:=h;rfl
 case nilp=>subst h;rfl
 case lp=>obtain⟨b,_,rfl⟩:=h;rfl
 case ip=>obtain⟨b,off,ev,rfl,_⟩:=h;rfl
 case nils=>subst h;rfl
 case ls=>obtain⟨a,cp,rfl,_⟩:=h;rfl
 case is=>obtain⟨a,cp,rfl,_⟩:=h;rfl
 case nilm=>subst h;rfl
 case lm=>obtain⟨b,_,rfl⟩:=h;rfl
 case im=>obtain⟨r,es,clk,rfl,_⟩:=h;rfl
 case fn=>obtain⟨fs,cs,rfl,_⟩:=h;rfl
 case yd=>obtain⟨b,_,rfl⟩:=h;rfl
 case nilf=>subst h;rfl
 case iface=>obtain⟨ev,rfl,_⟩:=h;rfl
 case nili=>subst h;rfl
 case row=>obtain⟨b,rfl,_⟩:=h;rfl
def dB:List V->Bool
 |[]=>ab
 |v::vs=>v.one&&dB vs
theorem VList.oneCells{c:C}:∀ {vs:List V} {xs:List Value},VList c vs xs->dB vs=ab->∀x∈xs,x.oneCell'=ab
 |[],_,h,_=>by simp only[VList]at h;subst h;simp
 |v::vs,_,h,ho=>by
  simp only[VList]at h;obtain⟨y,ys,rfl,h1,h2⟩:=h;simp only[dB,zqf]at ho;intro x hx;rcases zrj.1 hx with rfl|hx
  ·exact h1.oneCell ho.1
  ·exact h2.oneCells ho.2 x hx
section
variable{e:E}{n:Nat}{r:Option Nat}{o:Oper}{f:Fr}{h:H}{Kn:Fr->H->Prop}{Q:XE->Fr->H->Prop}
variable{ok:Nat->Prop}{pl:Nat->Option Nat}{w:World}
theorem rX(hs:HSim e ok pl h w){id b:Nat}(hb:pl id=al b){off:Nat}{vs:List V}{xs:List Value}(hv:VList (cx ok pl w) vs xs)(ho:dB vs=ab)
 {cs:List V} (hc:h[id]? =al (.cells cs)) (hl:off+aa vs<=aa cs) :
 ∃w',(storeCells ⟨b,off,aq⟩ xs).run e.P w= .ok () w'/\HSim e ok pl (h.set id (.cells (di cs off vs))) w'/\Keeps (λ_=>ac) pl w pl w':=by
 obtain⟨ob,h1,hat⟩:=hs.obj id b hb;rw[hc]at h1;cases h1;obtain⟨arr,el,fz,h2,h3,h4,h5⟩:=hat;have hxl:=hv.length;simp only[cx]at h2;have hrun:=gW (P:=e.P) (o:=off) h2 h3 (by omega) (hv.oneCells ho);have hw:=iO (b:=b) xs off arr w h2 (by omega);refine⟨_,hrun,hs.upd hb _ hw.os hw.tape hw.output hw.size hw.same (λarr' el' fz' ha=> ?_) λk=> ?_⟩
 ·rw[h2]at ha;cases ha;refine⟨_,_,hw.here,?_⟩;simp;omega
 ·have hsz:(arr.toList.take off++xs++arr.toList.drop (off+aa xs)).toArray.size=arr.size:=by simp;omega
  refine⟨_,el,fz,hw.here,λj hj=>h3 j (by omega),?_,?_⟩
  ·have:aa (di cs off vs)=aa cs:=by unfold di;simp;omega
   rw[this,hsz];exact h4
  ·have hlen:aa (di cs off vs)=aa cs:=by unfold di;simp;omega
   rw[hlen];have e1:(arr.toList.take off++xs++arr.toList.drop (off+aa xs)).toArray.toList.take (aa cs)=(arr.toList.take (aa cs)).take off++xs++(arr.toList.take (aa cs)).drop (off+aa xs):=by
    apply List.ext_getElem?;intro i;have hsz:aa arr.toList=arr.size:=by simp
    simp only[List.getElem?_append,List.getElem?_take,List.getElem?_drop,zqa,zrl,List.length_drop]
    repeat' split
    all_goals first
     |rfl
     |omega
     |(congr 1;omega)
     |(exfalso;omega)
     |(simp_all;(try omega);done)
     |(rw[zsj];simp;omega)
     |(symm;rw[zsj];simp;omega)
   rw[e1];unfold di;rw[<-hxl];have h5':=VList.mono k cs _ h5;exact((h5'.take off).append (VList.mono k vs _ hv)).append (h5'.dropN _)
theorem Ou{t:TypeId}{x y:Operand}(hop:o.op= .store t x y){id off:Nat}(hx:(f.ev e x).sv= .lp id off)(hxc:(f.ev e x).sc)(hyc:(f.ev e y).sc)
 {q:TI} (hq:ti e.P t=al q) (hf:(f.ev e y).sv.fit=ab) (h1:dB (f.ev e y).sv.vc=ab) (hsz:(f.ev e y).sv.vc.length=q.size)
 {cs:List V} (hc:h[id]? =al (.cells cs)) (hl:off+(f.ev e y).sv.vc.length<=aa cs)
 (hk:Kn (f.put o.dst jR) (h.set id (.cells (di cs off (f.ev e y).sv.vc)))):Eff e n r o f h Kn Q:=by
 refine aV ?_ (λc=>by rw[hop];exact λh=>by cases h);intro ok pl w ev hs hr;obtain⟨i,d,z,hT⟩:=aG hq;have hxv:=(hr x (by simp[hop,Op.operands])).sv hxc;rw[hx]at hxv;simp only[VRel]at hxv;obtain⟨b,hb,hxb⟩:=hxv;have hyv:=(hr y (by simp[hop,Op.operands])).sv hyc;have hvc:=hyv.vc hf;obtain⟨w',hrun,hs',k⟩:=rX hs hb hvc h1 hc hl;refine⟨λ_=>ac,jR,_,pl,w',undef,.inr ⟨?_,rfl⟩,hs',k,pG _,λ_ _=>rfl,by simpa using hk⟩;have hlen:=hvc.length;have h3:execOp ev o=(do Instr.storeAt t (ev x) (ev y);pure .skip):=by simp[execOp,hop]
 rw[h3];have:¬(ev y).cells.size≠q.size:=by
  simp only[Array.length_toList]at hlen;omega
 simp only[Sem.run_bind,Instr.storeAt,hxb,Instr.sureAddr,Sem.run_pure,aM,storeVar,hT.run_size];rw[if_neg this];simp only[hrun]
def Ov(kd:K)(key val:V)(ks vs:List V):Option (List V×List V) :=
 match jm kd key ks with
 |some (al n)=>al (ks.set n key,vs.set n val)
 |some aq=>al (ks++[key],vs++[val])
 |none=>aq
theorem CZ{kd:K}{key k:V}{kv kv':Value}{c:C}(hk:VRel c key kv)(hk':VRel c k kv')(hq:keq kd key k=al ab):Instr.sameBits 10000 kv' kv=ab:=by
 unfold keq at hq;split at hq
 ·simp only[VRel]at hk hk';subst hk;subst hk';split at hq
  ·rename_i he;simp only[Option.some.injEq,beq_iff_eq]at hq;subst he;subst hq;simp[Instr.sameBits]
  ·cases hq
 ·simp only[VRel]at hk hk';obtain⟨s,rfl,rfl,_⟩:=hk;obtain⟨u,rfl,rfl,_⟩:=hk';simp only[Option.some.injEq]at hq;simp only[Instr.sameBits,beq_toListBytes,ByteArray.toList_eq];simp only[beq_iff_eq]at hq ⊢;exact hq.symm
 ·simp only[VRel]at hk hk';subst hk;subst hk';simp only[Option.some.injEq,beq_iff_eq]at hq;subst hq;simp[Instr.sameBits]
 ·split at hq
  ·rename_i hc;obtain⟨_,hk1,hk2,hl1,hl2⟩:=hc;simp only[Option.some.injEq,zqf,beq_iff_eq]at hq;obtain⟨hq1,hq2⟩:=hq;simp only[VRel,VList]at hk hk';obtain⟨cs,rfl,_,_,hcs,rfl,_,_,rfl,rfl,rfl⟩:=hk;obtain⟨ds,rfl,_,_,hds,rfl,_,_,rfl,rfl,rfl⟩:=hk';have e1:cs=#[_,_]:=Array.toList_inj.1 hcs;have e2:ds=#[_,_]:=Array.toList_inj.1 hds;rw[e1,e2,hk1,hk2,hl1,hl2,hq1,hq2];simp[Instr.sameBits]
  ·cases hq
 ·cases hq
theorem EM{kd:K}{key:V}:∀ {ks:List V} {n:Nat},jm kd key ks=al (al n)->∃k,ks[n]? =al k/\keq kd key k=al ab
 |[],n,h=>by simp[jm]at h
 |k::ks,n,h=>by
  simp only[jm]at h;split at h
  ·rename_i hq;cases h;exact⟨k,rfl,hq⟩
  ·split at h
   ·rename_i m hm;cases h;obtain⟨k',h1,h2⟩:=EM hm;exact⟨k',by simpa using h1,h2⟩
   ·rename_i q hq;exact absurd h (hq n)
  ·cases h
theorem C9{t:TypeId}{m k x:Operand}(hop:o.op= .mapUpdate t m k x){id:Nat}(hm:(f.ev e m).sv= .lm id)(hmc:(f.ev e m).sc)(hkc:(f.ev e k).sc)(hxc:(f.ev e x).sc)
 {q:TI} (hq:ti e.P t=al q) {kt et:TypeId} (hkd:q.kind= .map kt et) {rk:TI} (hrk:ti e.P kt=al rk) (hko:rk.kind.keyOk (f.ev e k).sv=ab)
 {ks vs:List V} (hc:h[id]? =al (.map ks vs)) {ks' vs':List V} (hp:Ov rk.kind (f.ev e k).sv (f.ev e x).sv ks vs=al (ks',vs'))
 (hK:Kn (f.put o.dst jR) (h.set id (.map ks' vs'))):Eff e n r o f h Kn Q:=by
 refine aV ?_ (λc=>by rw[hop];exact λh=>by cases h);intro ok pl w ev hs hr;obtain⟨i,d,z,hT⟩:=aG hq;obtain⟨ik,dk,zk,hKT⟩:=aG hrk;have hd:=hT.map hkd;subst hd;have hmv:=(hr m (by simp[hop,Op.operands])).sv hmc;rw[hm]at hmv;simp only[VRel]at hmv;obtain⟨b,hb,hmb⟩:=hmv;have hkv:=(hr k (by simp[hop,Op.operands])).sv hkc;have hxv:=(hr x (by simp[hop,Op.operands])).sv hxc;obtain⟨ob,ho',hat⟩:=hs.obj id b hb;rw[hc]at ho';cases ho';obtain⟨es,clk,h2,h3,h4,hmo⟩:=hat;simp only[cx]at h2;have fin:∀(es':Array MapEntry)(clk':Nat) ,(Instr.mapUpdate t (ev m) (ev k) (ev x)).run e.P w= .ok () {w with heap:=w.heap.setIfInBounds b (.map es' clk')} ->
  VList (cx ok pl w) ks' (es'.toList.map (·.key))->VList (cx ok pl w) vs' (es'.toList.map (·.val))->yz es' clk' ->
  ∃p v h' pl' w' x,((execOp ev o).run e.P w= .ok (.value x) w'\/((execOp ev o).run e.P w= .ok .skip w'/\x=undef)) /\
   HSim e ok pl' h' w'/\Keeps p pl w pl' w'/\VRel (cx ok pl' w') v x/\(∀i∈f.d,p i=ac)/\Kn ((f.drop p).put o.dst v) h':=by
  intro es' clk' hrun g1 g2 g3;have hlt:=aW h2;have hh:({w with heap:=w.heap.setIfInBounds b (.map es' clk')}:World).heap[b]? =al (.map es' clk'):=by simp[hlt]
  obtain ⟨hs',kk⟩ := hs.upd hb (.map ks' vs') (w' := { w with heap := w.heap.setIfInBounds b (.map es' clk') }) rfl rfl rfl (by simp) (λi hi => by simp [Ne.symm hi]) (λarr el fz ha => by rw [h2] at ha;cases ha)
   (λkx=>⟨es',clk',hh,VList.mono kx _ _ g1,VList.mono kx _ _ g2,g3⟩)
  refine⟨λ_=>ac,jR,_,pl,_,undef,.inr ⟨?_,rfl⟩,hs',kk,pG _,λ_ _=>rfl,by simpa using hK⟩;have h5:execOp ev o=(do Instr.mapUpdate t (ev m) (ev k) (ev x);pure .skip):=by simp[execOp,hop]
  rw[h5];simp[hrun,aM]
 have hck:=mZ hKT hkv hko ac w;unfold Ov at hp;split at hp
 ·rename_i j hj;cases hp;obtain⟨a,h5,en,h6,rfl⟩:=qH (w:=w) hKT hkv ks es.toList _ h3 hj;obtain⟨k0,hk0,hkeq⟩:=EM hj;obtain⟨y,hy,hyr⟩:=h3.get j k0 hk0;rw[zqo,h6]at hy;simp at hy;subst hy;have hsame:=CZ hkv hyr hkeq;have hje:es[j]? =al en:=by simpa using h6
  refine fin (es.modify j λe=>{e with key:=ev k,val:=ev x}) clk ?_ ?_ ?_ ?_
  ·simp only[Instr.mapUpdate,Sem.run_bind,hT.run_und,aM,hmb,MapKept.run_getObj_map h2,hck,h5,Nat.zero_add];simp only[Instr.keyThatStays,hje,zrw,Option.getD_some,hsame,if_true,Sem.run_pure];exact MapKept.run_setObj_map _ h2
  ·have:(es.modify j λe=>{e with key:=ev k,val:=ev x}).toList.map (·.key)=(es.toList.map (·.key)).set j (ev k):=by
    rw[Array.toList_modify];apply List.ext_getElem?;intro i;simp only[zqo,List.getElem?_modify,List.getElem?_set,zra];by_cases hij:j=i
    ·subst hij;have:=(zqe h6).1;simp at this;simp[hje,this]
    ·simp[hij]
   rw[this];exact h3.set j hkv
  ·have:(es.modify j λe=>{e with key:=ev k,val:=ev x}).toList.map (·.val)=(es.toList.map (·.val)).set j (ev x):=by
    rw[Array.toList_modify];apply List.ext_getElem?;intro i;simp only[zqo,List.getElem?_modify,List.getElem?_set,zra];by_cases hij:j=i
    ·subst hij;have:=(zqe h6).1;simp at this;simp[hje,this]
    ·simp[hij]
   rw[this];exact h4.set j hxv
  ·have hborn:(es.modify j λe=>{e with key:=ev k,val:=ev x}).toList.map (·.born)=es.toList.map (·.born):=by
    rw[Array.toList_modify];apply List.ext_getElem?;intro i;simp only[zqo,List.getElem?_modify];by_cases hij:j=i
    ·subst hij;simp[hje]
    ·simp[hij]
   refine⟨λy hy=> ?_,by rw[hborn];exact hmo.2⟩;have:y.born∈es.toList.map (·.born):=by rw[<-hborn];exact zrh.2 ⟨y,hy,rfl⟩
   obtain⟨z,hz,hz2⟩:=zrh.1 this;rw[<-hz2];exact hmo.1 z hz
 ·rename_i hj;cases hp;obtain⟨a,h5,rfl⟩:=qH (w:=w) hKT hkv ks es.toList _ h3 hj;refine fin (es.push {key:=ev k,val:=ev x,born:=clk}) (clk+1) ?_ ?_ ?_ ?_
  ·simp only[Instr.mapUpdate,Sem.run_bind,hT.run_und,aM,hmb,MapKept.run_getObj_map h2,hck,h5];exact MapKept.run_setObj_map _ h2
  ·simp only[Array.toList_push,zql,zrd,List.map_nil];exact h3.append (by simp only[VList];exact⟨_,_,rfl,hkv,rfl⟩)
  ·simp only[Array.toList_push,zql,zrd,List.map_nil];exact h4.append (by simp only[VList];exact⟨_,_,rfl,hxv,rfl⟩)
  ·refine⟨λy hy=> ?_,?_⟩
   ·simp only[Array.toList_push,zrf,zrc]at hy;rcases hy with hy|rfl
    ·have:=hmo.1 y hy;omega
    ·exact Nat.lt_succ_self _
   ·simp only[Array.toList_push,zql,zrd,List.map_nil];rw[List.nodup_append];refine⟨hmo.2,by simp,?_⟩;intro y hy z hz hyz;simp only[zrc]at hz;subst hz;subst hyz;obtain⟨u,hu,hu2⟩:=zrh.1 hy;have:=hmo.1 u hu;omega
 ·cases hp
end
section
variable{P:Program}{w:World}
theorem iR{ts:Array TypeId}{t xt ty el:TypeId}{r re rx:TI}{i ie ix:TypeInfo}{de dx:TypeDesc}{z ze zx:Value}(h0:ts[0]? =al t)(h1:ts[1]? =al xt)
 (hT:TIs P t r i (.slice el) z) (hE:TIs P el re ie de ze) (hX:TIs P xt rx ix dx zx) (hx:∀k,dx≠ .int k)
 (base:Option Addr) (sLen sCap n:Nat) (xv:Value) (olds news:Array Value) (hn:∀w,(Builtin.lenOf xv).run P w= .ok n w)
 (ho:(Builtin.firstCells re.size sLen (.slice base sLen sCap)).run P w.drew= .ok olds w.drew) (hw:(Builtin.firstCells re.size n xv).run P w.drew= .ok news w.drew)
 (hg:sCap<sLen+n) (h63:sLen+n<=maxLen) (hb:(sLen+n)*re.bytes<=140737488355328) :
 (Builtin.append_ ts ty #[.slice base sLen sCap,xv]).run P w =
  .ok (.slice (al ⟨w.heap.size,0,aq⟩) (sLen + n) (grownCap w (sLen + n) sCap el))
   (w.drew.alloc (.cells (olds++news++Builtin.zeroCells ze.cells (grownCap w (sLen+n) sCap el-(sLen+n))) el)):=by
 have hn':¬(sLen+n<=sCap):=by omega
 have h63':¬(9223372036854775807<((sLen:Int)+(n:Int))):=by simp only[maxLen]at h63;omega
 have h48':¬(281474976710656<Builtin.nextslicecap (sLen+n) sCap*re.bytes):=by have:=growslice_fits hg hb;omega
 have hz:(match dx with | .int _=>ab|_=>ac)=ac:=by cases dx<;>first|rfl|exact absurd rfl (hx _)
 unfold Builtin.append_;simp only[h0,h1,List.getElem?_toArray,List.getElem?_cons_zero,List.getElem?_cons_succ,Sem.run_bind,hT.run_und,aM,hE.run_size,hX.run_und,Sem.run_pure];simp only[hz,zrm,if_false,hn,Sem.run_bind,aM];rw[if_neg hn'];have hbytes:(typeInfo el).run P w= .ok ie w:=by simp[typeInfo,hE.info]
 have h63'':¬(((sLen+n:Nat):Int)>IntKind.i64.max/\(False\/ie.bytes=0)):=by have h1:IntKind.i64.max=9223372036854775807:=rfl;rw[h1];simp only[maxLen]at h63;omega
 simp[hbytes,aM,h63',hE.bytes▸h48',Question.forced,ho,hw,hE.run_zero,newRow,grownCap,typeInfo,hE.info]
theorem eX{ts:Array TypeId}{t xt ty el:TypeId}{r re rx:TI}{i ie ix:TypeInfo}{de dx:TypeDesc}{z ze zx:Value}(h0:ts[0]? =al t)(h1:ts[1]? =al xt)
 (hT:TIs P t r i (.slice el) z) (hE:TIs P el re ie de ze) (hX:TIs P xt rx ix dx zx) (hx:∀k,dx≠ .int k)
 (base:Option Addr) (sLen sCap n:Nat) (xv:Value) (news:Array Value) (hn:∀w,(Builtin.lenOf xv).run P w= .ok n w)
 (hw:(Builtin.firstCells re.size n xv).run P w= .ok news w) (hg:sLen+n<=sCap) {w':World}
 (hs:(base=aq/\w'=w)\/∃a,base=al a/\(storeCells (a.add (sLen*re.size)) news.toList).run P w= .ok () w') :
 (Builtin.append_ ts ty #[.slice base sLen sCap,xv]).run P w= .ok (.slice base (sLen+n) sCap) w':=by
 have hz:(match dx with | .int _=>ab|_=>ac)=ac:=by cases dx<;>first|rfl|exact absurd rfl (hx _)
 unfold Builtin.append_;simp only[h0,h1,List.getElem?_toArray,List.getElem?_cons_zero,List.getElem?_cons_succ,Sem.run_bind,hT.run_und,aM,hE.run_size,hX.run_und,Sem.run_pure];simp only[hz,zrm,if_false,hn,Sem.run_bind,aM];rw[if_pos hg];rcases hs with⟨rfl,rfl⟩|⟨a,rfl,hs⟩
 ·simp[hw,aM]
 ·simp[hw,aM,hs]
end
def jS(h:H)(k:Nat):V->Option (Nat×List V)
 | .nils=>al (0,[])
 | .is _ k' es=>if k'=k then(if k=1 then al (aa es,es)else al (aa es,es.flatMap V.vc))else aq
 | .ls id k' off len _=>if k'=k/\off+len*k<=aa (fA h id)then al (len,((fA h id).drop off).take (len*k))else aq
 | .str l=>if k=1 then al (aa l,l.map λb=> .int .u8 b.toNat)else aq
 | .row k' es=>if k'=k/\k=1 then al (aa es,es)else aq
 |_=>aq
theorem rY:∀ {es:List V},dB es=ab->es.flatMap V.vc=es
 |[],_=>rfl
 |v::vs,h=>by
  simp only[dB,zqf]at h;rw[List.flatMap_cons,rY h.2];have:v.vc=[v]:=by cases v<;>first|rfl|(simp[V.one]at h)
  rw[this];rfl
def kH:List V->Bool
 |[]=>ab
 |v::vs=>v.fit&&kH vs
theorem mg:∀ {es:List V},dB es=ab->kH es=ab
 |[],_=>rfl
 |v::vs,h=>by simp only[dB,zqf]at h;simp only[kH,zqf];exact⟨by simp[V.fit,h.1],mg h.2⟩
theorem VElems.flat{c:C}{b k:Nat}:∀ {es:List V} {off:Nat},VElems c k es b off->kH es=ab ->
 ∃xs:List Value,aa xs=aa es*k/\(∀j v,xs[j]? =al v->c.w.cell? ⟨b,off+j,aq⟩=al v)/\VList c (es.flatMap V.vc) xs
 |[],off,_,_=>⟨[],by simp,by simp,by simp[VList]⟩
 |e::es,off,h,ho=>by
  simp only[VElems]at h;obtain⟨⟨ev,h1,h2,h3⟩,h4⟩:=h;simp only[kH,zqf]at ho;obtain⟨xs,h5,h6,h7⟩:=VElems.flat h4 ho.2;refine⟨ev.cells.toList++xs,by simp[h1,h5,Nat.add_mul];omega,λj v hj=> ?_,by rw[List.flatMap_cons];exact(h3.vc ho.1).append h7⟩;by_cases hjk:j<k
  ·rw[zqj (by simp;omega)]at hj;rw[(h2 j (by omega)).2];simpa using hj
  ·rw[zsb (by simp;omega)]at hj;simp only[Array.length_toList,h1]at hj;have:=h6 (j-k) v hj
   rwa [show off+k+(j-k)=off+j by omega]at this
def Dc(P:Program)(xt el:TypeId):V->Bool
 | .str _=>match ti P xt,ti P el with|some rx,al re=>rx.kind= .str&&re.kind= .int .u8|_,_=>ac
 |_=>match ti P xt with|some rx=>rx.kind.isSlice|none=>ac
def oP(k:Nat):V->Bool
 | .is _ _ es=>if k=1 then dB es else kH es
 | .row _ es=>dB es
 |_=>ab
theorem mi{e:E}{ok:Nat->Prop}{pl:Nat->Option Nat}{w:World}{h:H}(hs:HSim e ok pl h w){k n:Nat}{s:V}{xv:Value}{cs:List V}(hv:VRel (cx ok pl w) s xv)
 (he:jS h k s=al (n,cs)) (hf:oP k s=ab) :
 ∃news:Array Value,(∀w',(Builtin.lenOf xv).run e.P w'= .ok n w')/\(∀w',(∀a,w'.cell? a=w.cell? a)->(Builtin.firstCells k n xv).run e.P w'= .ok news w')/\VList (cx ok pl w) cs news.toList/\aa cs=n*k:=by
 have rd:∀(b off m:Nat)(len cp:Nat)(xs:List Value),aa xs=m*k->(∀j v,xs[j]? =al v->w.cell? ⟨b,off+j,aq⟩=al v)->∀w',(∀a,w'.cell? a=w.cell? a) ->
  (Builtin.firstCells k m (.slice (al ⟨b,off,aq⟩) len cp)).run e.P w'= .ok xs.toArray w':=by
  intro b off m len cp xs h1 h2 w' hw';have:=run_loadCells_list (P:=e.P) w' ⟨b,off,aq⟩ xs (λj v hj=>by rw[dI,hw'];exact h2 j v hj);rw[h1]at this;exact this
 have rd0:∀(a:Option Addr)(len cp:Nat)(w':World),(Builtin.firstCells k 0 (.slice a len cp)).run e.P w'= .ok #[] w':=by
  intro a len cp w';cases a with
  |none=>rfl
  |some a=>simp only[Builtin.firstCells,Nat.zero_mul];rfl
 unfold jS at he;split at he
 ·cases he;simp only[VRel]at hv;subst hv;exact⟨#[],λ_=>rfl,λw' _=>rd0 _ _ _ _,by simp[VList],by simp⟩
 ·rename_i ex k' es;split at he
  ·rename_i hk;subst hk;simp only[VRel]at hv;obtain⟨a,cp,rfl,h1,h2,h3,h4⟩:=hv;have hcs:n=aa es/\cs=es.flatMap V.vc/\kH es=ab:=by
    simp only[oP]at hf;split at he
    ·rename_i h1k;cases he;rw[if_pos h1k]at hf;exact⟨rfl,(rY hf).symm,mg hf⟩
    ·rename_i h1k;cases he;rw[if_neg h1k]at hf;exact⟨rfl,rfl,hf⟩
   obtain⟨rfl,rfl,hfit⟩:=hcs;rcases h4 with rfl|⟨b,off,rfl,hel⟩
   ·exact⟨#[],λ_=>rfl,λw' _=>rd0 _ _ _ _,by simp[VList],by simp⟩
   ·obtain⟨xs,h5,h6,h7⟩:=hel.flat hfit;exact⟨xs.toArray,λ_=>rfl,λw' hw'=>rd b off _ _ _ xs h5 h6 w' hw',by simpa using VList.ofdata _ _ h7,by rw[<-h5,h7.length]⟩
  ·cases he
 ·rename_i id k' off len cap;split at he
  ·rename_i hk;obtain⟨rfl,hle⟩:=hk;cases he;simp only[VRel]at hv;obtain⟨a,cp,rfl,h1,h2,h3,h4⟩:=hv;rcases h4 with rfl|⟨b,arr,el,fz,hb,rfl,_⟩
   ·have:n=0:=by omega
    subst this;exact⟨#[],λ_=>rfl,λw' _=>rd0 _ _ _ _,by simp[VList],by simp⟩
   ·obtain⟨xs,h5,h6,h7⟩:=hs.cellsTake hb off (n*k') hle;refine⟨xs.toArray,λ_=>rfl,λw' hw'=>rd b off _ _ _ xs h5 h6 w' hw',by simpa using h7,?_⟩;rw[zrl,List.length_drop];omega
  ·cases he
 ·rename_i l;split at he
  ·rename_i hk;subst hk;cases he;simp only[VRel]at hv;obtain⟨u,rfl,rfl,hl⟩:=hv;refine⟨(u.extract 0 u.size).data.map λb=> .int .u8 b.toNat,λ_=>by rw[<-iL];rfl,λw' _=>by rw[<-iL];rfl,?_,by simp⟩;have:(u.extract 0 u.size).data.toList=u.data.toList:=by
    rw[Lib.extract_data];simp only[List.drop_zero,Nat.sub_zero];rw[zqh];rw[iL];exact zrb _
   simp only[Array.toList_map,this];refine o9 (by simp) λi v x hv hx=> ?_;rw[zqo]at hv hx;cases hq:u.data.toList[i]? with
   |none=>rw[hq]at hv;cases hv
   |some q=>rw[hq]at hv hx;cases hv;cases hx;simp only[VRel]
  ·cases he
 ·rename_i k' es;split at he
  ·rename_i hk;obtain⟨rfl,rfl⟩:=hk;cases he;simp only[VRel]at hv;obtain⟨b,rfl,h1,h2⟩:=hv;have hf:dB cs=ab:=hf;obtain⟨xs,h5,h6,h7⟩:=h2.flat (mg hf);rw[rY hf]at h7;exact⟨xs.toArray,λ_=>rfl,λw' hw'=>rd b 0 _ _ _ xs h5 h6 w' hw',by simpa using h7,by omega⟩
  ·cases he
 ·cases he
end Go.Abs
