/- Lemmas for this claim, part A7: each holds under what it names. -/
import Derived.Test.YthdidjjecjhenaaGreatAA6
import Derived.ProofKit
import Derived.SizedLaws
import Derived.JoinedCond
set_option linter.all false
namespace Go.Abs
open Go.RowKit
open List renaming length → aa, replicate → aD
open Bool renaming true → ab, false → am
open Option renaming some → ar, none → aL
open Decidable renaming decide → aM
open Go.IntKind renaming wrap → a5
open Go.Result renaming andThen → a8
open Go.Abs.V renaming drops → aE, dat → a6, dats → a7
inductive Sh where
 |str
 |bool
 |int (k:IntKind)
 |slice (e:Sh)
 |struct (fs:List Sh)
mutual
def Sh.size:Sh->Nat
 | .str | .bool | .int _ | .slice _=>1
 | .struct fs=>Sh.sizes fs
def Sh.sizes:List Sh->Nat
 |[]=>0
 |s::ss=>s.size+Sh.sizes ss
end
def Y3 (P : Program) (e : TypeId) (i : Nat) : Field := { name := "", type := e, offset := i * P.cellsOf e, embedded := false, tag := "", pkgPath := "", byteOffset := 0 }
def nD(P:Program)(t:TypeId):Option (List Field):=match P.underlying t with
 |some (.struct gs)=>ar gs.toList
 |some (.array n e)=>ar ((List.range n).map (Y3 P e))
 |_=>aL
mutual
/-- Is a type of this shape? -/
def Sh.ok(P:Program):Sh->TypeId->Bool
 | .str,t=>match P.underlying t with|some .string=>ab|_=>am
 | .bool,t=>match P.underlying t with|some .bool=>ab|_=>am
 | .int k,t=>match P.underlying t with|some (.int k')=>k'==k|_=>am
 | .slice e,t=>match P.underlying t with|some (.slice u)=>P.cellsOf u==e.size&&aM (0<e.size)&&e.ok P u|_=>am
 | .struct fs,t=>match nD P t with|some gs=>P.cellsOf t==Sh.sizes fs&&Sh.oks P fs gs 0|none=>am
def Sh.oks(P:Program):List Sh->List Field->Nat->Bool
 |[],[],_=>ab
 |s::ss,g::gs,off=>g.offset==off&&P.cellsOf g.type==s.size&&s.ok P g.type&&Sh.oks P ss gs (off+s.size)
 |_,_,_=>am
end
mutual
def Sh.Is:Sh->V->Prop
 | .str,v=>∃s,v= .str s
 | .bool,v=>∃b,v= .bool b
 | .int k,v=>∃n,v= .int k n/\(Lit.int k n).wf=ab
 | .slice e,v=>∃es,v= .is am e.size es/\∀x∈es,Sh.Is e x
 | .struct fs,v=>∃vs,v= .agg (vs.flatMap V.vc)/\Sh.Iss fs vs
def Sh.Iss:List Sh->List V->Prop
 |[],vs=>vs=[]
 |s::ss,vs=>∃u us,vs=u::us/\Sh.Is s u/\Sh.Iss ss us
end
theorem tK{α β:Type}{f:α->Option β}:∀ {l:List α} {r:List β},l.mapM f=ar r->aa r=aa l/\∀(i:Nat) x,l[i]? =ar x->∃y,f x=ar y/\r[i]? =ar y
 |[],r,h=>by simp at h;subst h;simp
 |a::l,r,h=>by
  rw[List.mapM_cons]at h;simp only[Option.bind_eq_bind,Option.bind_eq_some_iff,Option.pure_def,Option.some.injEq]at h;obtain⟨y,h1,ys,h2,rfl⟩:=h;obtain⟨h3,h4⟩:=tK h2;refine⟨by simp[h3],λi x hx=> ?_⟩;cases i with
  |zero=>simp at hx;subst hx;exact⟨y,h1,rfl⟩
  |succ i=>simpa using h4 i x (by simpa using hx)
abbrev cw(w:World):C:=cx (λ_=>True) (λ_=>aL) w
structure Took(c:C)(sh:Sh)(v:V)(cs:List Value):Prop where
 is:sh.Is v
 fit:v.fit=ab
 dat:v.dat=ab
 len:aa v.vc=sh.size
 rel:VList c v.vc cs
variable{sh:Sh}
theorem Took.one{c:C}{v:V}{x:Value}(h1:sh.Is v)(h2:v.one=ab)(hd:v.dat=ab)(hs:sh.size=1)(hr:VRel c v x):Took c sh v [x]:=by
 have hv:v.vc=[v]:=by cases v<;>first|rfl|simp[V.one]at h2
 refine⟨h1,by simp[V.fit,h2],hd,by rw[hv,hs];rfl,?_⟩;rw[hv];simp only[VList];exact⟨x,[],rfl,hr,rfl⟩
theorem EI:∀ {vs:List V},(∀v∈vs,a7 v.vc=ab)->a7 (vs.flatMap V.vc)=ab
 |[],_=>rfl
 |v::vs,h=>by
  have app:∀(a b:List V),a7 (a++b)=(a7 a&&a7 b):=by
   intro a b
   induction a with
   |nil=>rfl
   |cons x a ih=>simp only[List.cons_append,a7,ih,Bool.and_assoc]
  rw[List.flatMap_cons,app,h v (by simp),EI λu hu=>h u (by simp[hu])];rfl
theorem Xn{v:V}(h:v.dat=ab):a7 v.vc=ab:=by cases v<;>first|(simp only[V.vc,a7,h,zre];done)|(simp only[a6]at h;exact h)
section
variable{H:Type}{enc:TypeId×Value->H}{P:Program}{w:World}
theorem yH{c:C}{cs:List Value}{F:TypeId->List Value->Option (DataW H×List MemPlace)}
 (IH:∀(sh:Sh)(t:TypeId)(cs:List Value) x,sh.ok P t=ab->aa cs=sh.size->F t cs=ar x->∃v,Took c sh v cs) :
 ∀(fs:List Sh)(gs:List Field)(off:Nat)(xs:List (DataW H×List MemPlace)),Sh.oks P fs gs off=ab->off+Sh.sizes fs=aa cs ->
  (gs.mapM λf=>F f.type ((cs.drop f.offset).take (P.cellsOf f.type)))=ar xs ->
  ∃vs,Sh.Iss fs vs/\(∀v∈vs,v.dat=ab)/\aa (vs.flatMap V.vc)=Sh.sizes fs/\VList c (vs.flatMap V.vc) (cs.drop off)
 |[],[],off,xs,_,hl,_=>by refine⟨[],rfl,by simp,rfl,?_⟩;simp only[Sh.sizes]at hl;rw[List.drop_of_length_le (by omega)];simp only[List.flatMap_nil,VList]
 |[],_::_,_,_,h,_,_=>by simp[Sh.oks]at h
 |_::_,[],_,_,h,_,_=>by simp[Sh.oks]at h
 |s::ss,g::gs,off,xs,hok,hl,hm=>by
  simp only[Sh.oks,zqf,beq_iff_eq]at hok;obtain⟨⟨⟨h1,h2⟩,h3⟩,h4⟩:=hok;simp only[Sh.sizes]at hl;rw[List.mapM_cons]at hm;simp only[Option.bind_eq_bind,Option.bind_eq_some_iff,Option.pure_def,Option.some.injEq]at hm;obtain⟨y,hy,ys,hys,rfl⟩:=hm;rw[h1,h2]at hy;obtain⟨v,hv⟩:=IH s g.type _ y h3 (by rw[zrl,List.length_drop];omega) hy;obtain⟨vs,k1,k2,k3,k4⟩:=yH IH ss gs (off+s.size) ys h4 (by omega) hys;refine⟨v::vs,⟨v,vs,rfl,hv.is,k1⟩,?_,?_,?_⟩
  ·intro u hu;rcases zrj.1 hu with rfl|hu
   ·exact hv.dat
   ·exact k2 u hu
  ·rw[List.flatMap_cons,zqa,hv.len,k3];rfl
  ·rw[List.flatMap_cons];have:cs.drop off=(cs.drop off).take s.size++cs.drop (off+s.size):=by
    rw[<-List.drop_drop,List.take_append_drop]
   rw[this];exact hv.rel.append k4
theorem H6{fuel:Nat}{t:TypeId}{gs:List Field}{cs:List Value}{d:DataW H}{ps:List MemPlace}(hu:nD P t=ar gs)(h:DataW.trod enc P w 0 (λ_=>ab) ab (fuel+1) t cs=ar (d,ps)) :
 aa cs=P.cellsOf t/\∃xs,(gs.mapM λf=>DataW.trod enc P w 0 (λ_=>ab) ab fuel f.type ((cs.drop f.offset).take (P.cellsOf f.type)))=ar xs/\d= .agg (xs.map (·.1)):=by
 unfold nD at hu;unfold DataW.trod at h;split at hu
 ·rename_i gs' hu';cases hu;rw[hu']at h;dsimp only at h;split at h
  ·rename_i hlen2;rw[Option.map_eq_some_iff]at h;obtain⟨xs,hxs,hd⟩:=h;exact⟨hlen2,xs,hxs,by cases hd;rfl⟩
  ·cases h
 ·rename_i n e hu';cases hu;rw[hu']at h;dsimp only at h;split at h
  ·rename_i hlen2;rw[Option.map_eq_some_iff]at h;obtain⟨xs,hxs,hd⟩:=h;refine⟨hlen2,xs,?_,by cases hd;rfl⟩;rw[List.mapM_map];exact hxs
  ·cases h
 ·cases hu
theorem yI:∀(fuel:Nat)(sh:Sh)(t:TypeId)(cs:List Value)(d:DataW H)(ps:List MemPlace),sh.ok P t=ab->aa cs=sh.size ->
 DataW.trod enc P w 0 (λ_=>ab) ab fuel t cs=ar (d,ps)->∃v,Took (cw w) sh v cs
 |0,_,_,_,_,_,_,_,h=>by simp[DataW.trod]at h
 |fuel+1,.str,t,[x],d,ps,hok,hlen,h=>by
  simp only[Sh.ok]at hok;split at hok
  ·rename_i hu;cases x<;>simp only[DataW.trod,hu,reduceCtorEq]at h
   case string s =>
    split at h
    ·rename_i hs;refine⟨.str s.data.toList,Took.one ⟨_,rfl⟩ rfl rfl rfl ?_⟩;simp only[VRel];exact⟨s,rfl,rfl,by rw[Array.length_toList];exact hs⟩
    ·cases h
  ·cases hok
 |fuel+1,.bool,t,[x],d,ps,hok,hlen,h=>by
  simp only[Sh.ok]at hok;split at hok
  ·rename_i hu;cases x<;>simp only[DataW.trod,hu,reduceCtorEq]at h
   case bool b=>exact⟨.bool b,Took.one ⟨_,rfl⟩ rfl rfl rfl (by simp only[VRel])⟩
  ·cases hok
 |fuel+1,.int k,t,[x],d,ps,hok,hlen,h=>by
  simp only[Sh.ok]at hok;split at hok
  ·rename_i k' hu;have hk:k'=k:=by simpa using hok
   subst hk;cases x<;>simp only[DataW.trod,hu,reduceCtorEq]at h
   case int k2 n =>
    split at h
    ·rename_i hs;obtain⟨rfl,hw⟩:=hs;exact⟨.int k2 n,Took.one ⟨_,rfl,hw⟩ rfl rfl rfl (by simp only[VRel])⟩
    ·cases h
  ·cases hok
 |fuel+1,.slice e,t,[x],d,ps,hok,hlen,h=>by
  simp only[Sh.ok]at hok;split at hok
  ·rename_i u hu;simp only[zqf,beq_iff_eq,zqb]at hok;obtain⟨⟨hsz,hpos⟩,hok⟩:=hok;cases x<;>simp only[DataW.trod,hu,reduceCtorEq]at h
   case slice a len cap =>
    cases a with
    |none =>
     have hz:len=0/\cap=0:=by cases len<;>cases cap<;>simp[DataW.trod,hu]at h ⊢
     obtain⟨rfl,rfl⟩:=hz;refine⟨.is am e.size [],Took.one ⟨[],rfl,by simp⟩ rfl rfl rfl ?_⟩;simp only[VRel];exact⟨aL,0,rfl,zrb _,Nat.zero_le _,λhf=>(by cases hf),.inl trivial⟩
    |some a =>
     simp only[DataW.trod,hu]at h;split at h
     ·rename_i hcond;rw[Option.bind_eq_some_iff]at h;obtain⟨elems,hel,_⟩:=h;have hm:=tK hel;have key:∀i:Fin len,∃v cells,w.cells? 0 (a.add (i.1*e.size)) e.size=ar cells/\Took (cw w) e v cells:=by
       intro i;obtain⟨y,hy,_⟩:=hm.2 i.1 i.1 (by simp);rw[Option.bind_eq_some_iff]at hy;obtain⟨cells,hc,ht⟩:=hy;rw[hsz]at hc;have hcl:aa cells=e.size:=by
        unfold World.cells? at hc;split at hc
        ·have:=(tK hc).1;simpa using this
        ·cases hc
       obtain⟨v,hv⟩:=yI fuel e u cells y.1 y.2 hok hcl ht;exact⟨v,cells,hc,hv⟩
      let es:List V:=List.ofFn λi=>(key i).choose
      have hlen2:aa es=len:=by simp[es]
      have hget:∀(i:Nat)(v:V),es[i]? =ar v->∃cells,w.cells? 0 (a.add (i*e.size)) e.size=ar cells/\Took (cw w) e v cells:=by
       intro i v hi;have hi2:i<len:=by have:=(zqe hi).1;omega
       have:es[i]? =ar (key ⟨i,hi2⟩).choose:=by simp[es,hi2]
       rw[this]at hi;cases hi;exact(key ⟨i,hi2⟩).choose_spec
      refine⟨.is am e.size es,Took.one ⟨es,rfl,?_⟩ rfl rfl rfl ?_⟩
      ·intro x hx;obtain⟨i,hi,rfl⟩:=List.mem_iff_getElem.1 hx;obtain⟨cells,_,ht⟩:=hget i es[i] (by simp[hi]);exact ht.is
      ·simp only[VRel];refine⟨ar a,cap,by rw[hlen2],by rw[hlen2];exact hcond.2.1,hcond.2.2,λhf=>(by cases hf),?_⟩;have cell:∀(i:Nat)(cells:List Value),w.cells? 0 (a.add (i*e.size)) e.size=ar cells->aa cells=e.size/\∀j,j<e.size->w.cell? ((a.add (i*e.size)).add j)=cells[j]? :=by
        intro i cells hc;unfold World.cells? at hc;split at hc
        ·have hm2:=tK hc;refine⟨by simpa using hm2.1,λj hj=> ?_⟩;obtain⟨y,hy1,hy2⟩:=hm2.2 j j (by simp[hj]);rw[hy1,hy2]
        ·cases hc
       by_cases h0:len=0
       ·left;exact zse (by omega)
       ·right;obtain⟨b,off,spot⟩:=a;have hs:spot=aL:=by
         obtain⟨v,cells,hc,_⟩:=key ⟨0,by omega⟩;obtain⟨h1,h2⟩:=cell 0 cells hc;have h3:=h2 0 hpos;have h4:cells[0]? =ar (cells[0]'(by omega)):=by simp
         rw[h4]at h3;simpa [Addr.add]using World.cell?_spot h3
        subst hs;refine⟨b,off,rfl,jE λi v hi=> ?_⟩;obtain⟨cells,hc,ht⟩:=hget i v hi;obtain⟨h1,h2⟩:=cell i cells hc;obtain⟨ev,h3,h4⟩:=ve ht.fit ht.rel;have hsize:ev.cells.size=e.size:=by rw[<-h1,<-h3];simp
        refine⟨ev,hsize,λj hj=>⟨⟨trivial,λi hi=>(by cases hi)⟩,?_⟩,h4⟩;have:=h2 j (by omega);rw[fQ,fQ,<-h3]at this;show w.cell? _=_;simpa using this
     ·cases h
  ·cases hok
 |fuel+1,.struct fs,t,cs,d,ps,hok,hlen,h=>by
  simp only[Sh.ok]at hok;split at hok
  ·rename_i gs hu;simp only[zqf,beq_iff_eq]at hok;obtain⟨hsz,hok⟩:=hok;obtain⟨hlen2,xs,hxs,_⟩:=H6 hu h;obtain⟨vs,k1,k2,k3,k4⟩:=yH (c:=cw w) (P:=P) (F:=DataW.trod enc P w 0 (λ_=>ab) ab fuel) (λsh t cs x h1 h2 h3=>yI fuel sh t cs x.1 x.2 h1 h2 h3) fs gs 0 xs hok (by rw[hlen2,hsz];omega) hxs;refine⟨.agg (vs.flatMap V.vc),⟨vs,rfl,k1⟩,rfl,?_,k3,by simpa [V.vc]using k4⟩;simp only[a6];exact EI λv hv=>Xn (k2 v hv)
  ·cases hok
end
open Go.ChangeShapes
variable{w w':World}
theorem WExt.below(x:WExt w w'):Below w.heap.size w w':=⟨x.os,x.tape,x.output,x.size,x.same⟩
section
variable{H:Type}{enc:TypeId×Value->H}{P:Program}
def Yv:Sh->Value->Prop
 | .struct fs,v=>∃cs,v= .agg cs/\cs.size=Sh.sizes fs
 |_,v=>v.cells=#[v]
variable{v:Value}
theorem Ar{r:Reach}{base:Nat}{t:TypeId}(hok:sh.ok P t=ab)(h:Value.okWide P w r base t v):Yv sh v:=by
 unfold Value.okWide at h;cases sh with
 |struct fs =>
  simp only[Sh.ok]at hok;split at hok
  ·rename_i gs hu;unfold nD at hu;simp only[zqf,beq_iff_eq]at hok;split at hu
   ·rename_i hu';rw[hu']at h;obtain⟨cs,h1,h2,_⟩:=h;exact⟨cs,h1,h2.trans hok.1⟩
   ·rename_i hu';rw[hu']at h;obtain⟨cs,h1,h2,_⟩:=h;exact⟨cs,h1,h2.trans hok.1⟩
   ·cases hu
  ·cases hok
 |str =>
  simp only[Sh.ok]at hok;split at hok
  ·rename_i hu;rw[hu]at h;cases v<;>simp only[Cell.okWide,Cell.ok,hu]at h<;>first|exact h.elim|rfl
  ·cases hok
 |bool =>
  simp only[Sh.ok]at hok;split at hok
  ·rename_i hu;rw[hu]at h;cases v<;>simp only[Cell.okWide,Cell.ok,hu]at h<;>first|exact h.elim|rfl
  ·cases hok
 |int k =>
  simp only[Sh.ok]at hok;split at hok
  ·rename_i k' hu;rw[hu]at h;cases v<;>simp only[Cell.okWide,Cell.ok,hu]at h<;>first|exact h.elim|rfl
  ·cases hok
 |slice e =>
  simp only[Sh.ok]at hok;split at hok
  ·rename_i u hu;rw[hu]at h;cases v<;>simp only[Cell.okWide,Cell.ok,hu]at h<;>first|exact h.elim|rfl
  ·cases hok
theorem Si{c:C}{u:V}(hf:Yv sh v)(ht:Took c sh u v.cells.toList):VRel c u v:=by
 have one:v.cells=#[v]->u.vc=[u]->VRel c u v:=by intro h1 h2;have:=ht.rel;rw[h1,h2]at this;simp only[VList]at this;obtain⟨y,ys,h3,h4,_⟩:=this;simp only[List.cons.injEq]at h3;rw[h3.1];exact h4
 cases sh with
 |struct fs=>obtain⟨cs,rfl,_⟩:=hf;have hi:=ht.is;simp only[Sh.Is]at hi;obtain⟨vs,rfl,_⟩:=hi;simp only[VRel];exact⟨cs,rfl,ht.rel⟩
 |str=>obtain⟨s,rfl⟩:=ht.is;exact one hf rfl
 |bool=>obtain⟨s,rfl⟩:=ht.is;exact one hf rfl
 |int k=>obtain⟨s,rfl,_⟩:=ht.is;exact one hf rfl
 |slice e=>have hi:=ht.is;simp only[Sh.Is]at hi;obtain⟨s,rfl,_⟩:=hi;exact one hf rfl
theorem OD(hf:Yv sh v):v.cells.size=sh.size:=by
 cases sh with
 |struct fs=>obtain⟨cs,rfl,h⟩:=hf;exact h
 |str=>rw[show v.cells=#[v]from hf];rfl
 |bool=>rw[show v.cells=#[v]from hf];rfl
 |int k=>rw[show v.cells=#[v]from hf];rfl
 |slice e=>rw[show v.cells=#[v]from hf];rfl
theorem wK{w:World}:∀(shs:List Sh)(ts:List TypeId)(vs:List Value)(ds:List (DataW H))(ps:List MemPlace),aa shs=aa ts ->
 (∀(i:Nat) sh t,shs[i]? =ar sh->ts[i]? =ar t->sh.ok P t=ab)->(∀(i:Nat) sh v,shs[i]? =ar sh->vs[i]? =ar v->Yv sh v) ->
 DataW.TrodAll enc P w 0 (λ_=>ab) ab ts vs ds ps->∃us,Sh.Iss shs us/\VList (cw w) us vs
 |[],[],vs,ds,ps,_,_,_,h=>by obtain⟨rfl,_,_⟩:=trodAll_nil h;exact⟨[],rfl,by simp only[VList]⟩
 |[],_::_,_,_,_,hl,_,_,_=>by simp at hl
 |_::_,[],_,_,_,hl,_,_,_=>by simp at hl
 |sh::shs,t::ts,vs,ds,ps,hl,hok,hsz,h=>by obtain⟨v,vs',d,ds',p,q,rfl,rfl,rfl,h1,h2⟩:=trodAll_cons h;obtain⟨fuel,hf⟩:=h1;have hfl:=hsz 0 sh v rfl rfl;obtain⟨u,hu⟩:=yI fuel sh t _ d p (hok 0 sh t rfl rfl) (by simpa using OD hfl) hf;obtain⟨us,k1,k2⟩:=wK shs ts vs' ds' q (by simpa using hl) (λi sh t h1 h2=>hok (i+1) sh t (by simpa using h1) (by simpa using h2)) (λi sh v h1 h2=>hsz (i+1) sh v (by simpa using h1) (by simpa using h2)) h2;refine⟨u::us,⟨u,us,rfl,hu.is,k1⟩,?_⟩;simp only[VList];exact⟨v,vs',rfl,Si hfl hu,k2⟩
theorem tN{W W':World}(hl:laidOutB P=ab)(hb:Below W.heap.size W W'):∀(ts:List TypeId)(vs:List Value)(ds:List (DataW H))(ps:List MemPlace),
 (ts.all λt=>P.readableRec t&&aM (t<P.types.size))=ab->(∀x∈ps,x.block<W.heap.size)->DataW.TrodAll enc P W 0 (λ_=>ab) ab ts vs ds ps ->
 DataW.TrodAll enc P W' 0 (λb=>aM (b<W.heap.size)) ab ts vs ds ps
 |[],vs,ds,ps,_,_,h=>by obtain⟨rfl,rfl,rfl⟩:=trodAll_nil h;exact trodAll_mk0
 |t::ts,vs,ds,ps,ht,hlt,h=>by obtain⟨v,vs',d,ds',p,q,rfl,rfl,rfl,h1,h2⟩:=trodAll_cons h;simp only[List.all_cons,zqf,zqb]at ht;exact⟨p,q,Below.trod hl ht.1.1 ht.1.2 h1 hb (λx hx=>hlt x (by simp[hx])),tN hl hb ts vs' ds' q (by simpa using ht.2) (λx hx=>hlt x (by simp[hx])) h2,rfl⟩
theorem Je{w:World}{base:Nat}{sp:Nat->Bool}{held:Bool}:∀ {ts:List TypeId} {vs:List Value} {ds:List (DataW H)} {ps:List MemPlace},DataW.TrodAll enc P w base sp held ts vs ds ps->aa ds=aa ts
 |[],_,_,_,h=>by obtain⟨_,rfl,_⟩:=trodAll_nil h;rfl
 |t::ts,vs,ds,ps,h=>by obtain⟨v,vs',d,ds',p,q,rfl,rfl,rfl,_,h2⟩:=trodAll_cons h;simp[Je h2]
theorem law_contract{fn:Func}{f:FuncId}{s:ChangeSpec}{shs:List Sh}(hl:laidOutB P=ab)(hlen:aa shs=fn.params.size)
 (hok:∀(i:Nat) sh t,shs[i]? =ar sh->fn.params[i]? =ar t->sh.ok P t=ab) (hread:(fn.params.toList.all λt=>P.readableRec t&&aM (t<P.types.size))=ab)
 (hres:∃tb,fn.resultTypes=#[tb]/\P.underlying tb=ar .bool) (hvars:s.vars=[])
 (hspec:∀ds:List (DataW H),aa ds=aa shs->(s.fn H (ds++[])).results=[.lit (.bool ab)]/\(s.fn H (ds++[])).args=ds/\(s.fn H (ds++[])).vars=[])
 (hev:∀us,Sh.Iss shs us->Ev {P:=P} f us (.bool ab))
 (W:World) (base:Nat) (args:Array Value) (ds gs:List (DataW H)) (before:List MemPlace)
 (hval:∀(j:Nat) t v,fn.params[j]? =ar t->args[j]? =ar v->Value.okWide P W .any base t v)
 (hW:DataW.Whole enc P fn.params.toList s.vars am W args.toList ds gs before) :
 Calls P f args W λe W'=>∃v,e= .returned v/\s.post enc P fn am ab am am W args v W':=by
 have hW':=hW;obtain⟨p,q,hA,hV,rfl,hfz,hnd⟩:=hW;rw[hvars]at hV;obtain⟨rfl,rfl⟩:=trodVars_none hV;obtain⟨us,k1,k2⟩:=wK shs fn.params.toList args.toList ds p (by simpa using hlen) (λi sh t h1 h2=>hok i sh t h1 (by simpa using h2)) (λi sh v h1 h2=>by
  have hi:i<fn.params.size:=by have:=(zqe h1).1;omega
  exact Ar (hok i sh fn.params[i] h1 (by simp[hi])) (hval i fn.params[i] v (by simp[hi]) (by simpa using h2))) hA
 have hs:HSim {P:=P} (λ_=>True) (λ_=>aL) [] W:=⟨λ_ _=>trivial,λi b hi=>(by cases hi),λi b hi=>(by cases hi),λi j b hi=>(by cases hi),λi b hi=>(by cases hi),λi o ho=>(by simp at ho),λg v hg=>(by cases hg),λg v hg=>(by cases hg)⟩;have hc:=hev us k1 _ W args.toList hs k2;rw[show args.toList.toArray=args from Array.toArray_toList]at hc;refine hc.mono ?_;rintro en W' ⟨x,rfl,hx,hv⟩;simp only[VRel]at hv;subst hv;obtain⟨tb,hr1,hr2⟩:=hres;have hdl:aa ds=aa shs:=by rw[Je hA,hlen];simp
 obtain⟨e1,e2,e3⟩:=hspec ds hdl;refine⟨_,rfl,ds,[],p++[],[],p,[],hW',?_,?_,?_,hx.below.frame _,λh=>(by cases h)⟩
 ·rw[e1,hr1];exact trodAll_mk1 ⟨1,by simp[DataW.trod,Value.cells,hr2]⟩
 ·rw[e2];exact tN hl hx.below fn.params.toList args.toList ds p hread (λy hy=>hA.lt y hy) hA
 ·rw[e3,hvars];rfl
end
open Go
theorem Sj(b:Bool):a6 (.bool b)=ab:=by simp only[a6]
theorem Vq(k:IntKind)(n:Int):a6 (.int k n)=ab:=by simp only[a6]
theorem Vr(s:List UInt8):a6 (.str s)=ab:=by simp only[a6]
theorem Sl:a6 (.nilp)=ab:=by simp only[a6]
theorem Xo(e:V):a6 (.ip e)=ab:=by simp only[a6]
theorem Sr:a6 (.nils)=ab:=by simp only[a6]
theorem Xp(x:Bool)(k:Nat)(es:List V):a6 (.is x k es)=ab:=by simp only[a6]
theorem Su:a6 (.nilm)=ab:=by simp only[a6]
theorem Xq(ks vs:List V):a6 (.im ks vs)=ab:=by simp only[a6]
theorem Sv:a6 (.nilf)=ab:=by simp only[a6]
theorem SA:a6 (.nili)=ab:=by simp only[a6]
theorem Xr(i o:Nat):a6 (.lp i o)=am:=by simp only[a6]
theorem Xt(i k o l c:Nat):a6 (.ls i k o l c)=am:=by simp only[a6]
theorem Xu(i:Nat):a6 (.lm i)=am:=by simp only[a6]
theorem Vs(k:Nat)(es:List V):a6 (.row k es)=am:=by simp only[a6]
theorem Vt(vs:List V):a6 (.agg vs)=a7 vs:=by simp only[a6]
theorem OE(t:TypeId)(e:V):a6 (.iface t e)=e.dat:=by simp only[a6]
theorem SB:a7 []=ab:=by simp only[a7]
theorem OG(v:V)(vs:List V):a7 (v::vs)=(v.dat&&a7 vs):=by simp only[a7]
def sa0 :=
 PLift.up <|
 zsa (@Go.Abs.Xd) <|
 zsa (@Go.Abs.Ls) <|
 zsa (@Go.Abs.tkZ.eq_1) <|
 zsa (@Go.Abs.tkZ.eq_2) <|
 zsa (@Go.Abs.onZ.eq_1) <|
 zsa (@Go.Abs.onZ.eq_2) <|
 zsa (@Go.Abs.H5) <|
 zsa (@Go.Abs.Lt) <|
 zsa (@Go.Abs.Lu) <|
 zsa (@Go.Abs.OB) <|
 zsa (@Go.Abs.Oq) <|
 zsa (@Go.Abs.RS) <|
 zsa (@List.all_cons.{0}) <|
 zsa (@List.all_nil.{0}) <|
 zsa (@Go.Abs.Xc) <|
 zsa (@Go.Abs.Vh) <|
 zsa (@Go.Abs.RQ) <|
 zsa (@Go.Abs.Vj) <|
 zsa (@Go.Abs.Vl) <|
 zsa (@Go.Abs.EG) <|
 zsa (@Go.Abs.Vk) <|
 zsa (@Go.Abs.Ll) <|
 zsa (@Go.Abs.Ov) <|
 zsa (@Go.Abs.Ou) <|
 zsa (@Go.Abs.EC) <|
 zsa (@Go.Abs.Hr) <|
 zsa (@Go.Abs.Ht) <|
 zsa (@Go.Abs.RV) <|
 zsa (@Go.Abs.Oy) <|
 zsa (@Go.Abs.Vo) <|
 zsa (@Go.Abs.Oz) <|
 zsa (@Go.Abs.Lm) <|
 zsa (@Go.Abs.Xe) <|
 @Go.Abs.YE
def sa1 :=
 PLift.up <|
 zsa (@Go.Abs.ED) <|
 zsa (@Go.Abs.RY) <|
 zsa (@Go.Abs.Vp) <|
 zsa (@Go.Abs.Xf) <|
 zsa (@Go.Abs.Xg) <|
 zsa (@Go.Abs.Lh) <|
 zsa (@Go.Abs.Vm) <|
 zsa (@Go.Abs.RU) <|
 zsa (@Go.Abs.Ez) <|
 zsa (@Go.Abs.Lj) <|
 zsa (@Go.Abs.Ot) <|
 zsa (@Go.Abs.RX) <|
 zsa (@Go.Abs.Oo) <|
 zsa (@Go.Abs.La) <|
 zsa (@Go.Abs.Hf) <|
 zsa (@Go.Abs.NW) <|
 zsa (@Go.Abs.RI) <|
 zsa (@Go.Abs.N7) <|
 zsa (@decide_true) <|
 zsa (@decide_false) <|
 zsa (@true_and) <|
 zsa (@and_true) <|
 zsa (@and_self) <|
 zsa (@imp_self) <|
 zsa (@implies_true.{0}) <|
 zsa (@forall_const.{0}) <|
 zsa (@forall_const.{1}) <|
 zsa (@List.getD_cons_zero.{0}) <|
 zsa (@List.getD_cons_succ.{0}) <|
 @List.length_nil.{0}
def sa2 :=
 PLift.up <|
 zsa (@Bool.or_true) <|
 zsa (@Bool.false_or) <|
 zsa (@Bool.true_or) <|
 zsa (@Bool.or_false) <|
 zsa (@Bool.and_true) <|
 zsa (@Bool.true_and) <|
 zsa (@Bool.and_false) <|
 zsa (@Bool.false_and) <|
 zsa (@Bool.not_true) <|
 zsa (@Bool.not_false) <|
 zsa (@List.length_map.{0,0}) <|
 zsa (@List.nil_append.{0}) <|
 zsa (@List.cons_append.{0}) <|
 zsa (@List.length_cons.{0}) <|
 zsa (@List.getElem?_cons_zero.{0}) <|
 zsa (@List.getElem?_cons_succ.{0}) <|
 zsa (@cond_true.{1}) <|
 zsa (@cond_false.{1}) <|
 zsa (@Bool.cond_false_right) <|
 zsa (@Bool.cond_true_right) <|
 zsa (@Bool.cond_true_left) <|
 zsa (@Bool.cond_false_left) <|
 zsa (@List.map_cons.{0,0}) <|
 zsa (@List.map_nil.{0,0}) <|
 zsa (@List.append_nil.{0}) <|
 zsa (@List.zip_cons_cons.{0,0}) <|
 zsa (@beq_self_eq_true.{0}) <|
 zsa (@Option.bind_some.{0,0}) <|
 zsa (@List.append_eq.{0}) <|
 @List.forall_mem_cons.{0}
def sa3 :=
 PLift.up <|
 zsa (@List.not_mem_nil.{0}) <|
 zsa (@Go.Abs.Xj) <|
 zsa (@Go.Abs.YF) <|
 zsa (@Go.Abs.Xk) <|
 zsa (@beq_true) <|
 zsa (@beq_false) <|
 zsa (@Bool.false_eq_true) <|
 zsa (@true_or) <|
 zsa (@or_true) <|
 zsa (@Go.Abs.Xh) <|
 zsa (@Go.Abs.Xi) <|
 zsa (@Go.Abs.aZ) <|
 zsa (@Go.Abs.kU) <|
 zsa (@Go.Abs.Hy) <|
 zsa (@Go.Abs.EE) <|
 zsa (@Go.Abs.Hz) <|
 zsa (@Go.Abs.Lr) <|
 zsa (@Go.Abs.rC) <|
 zsa (@false_imp_iff) <|
 zsa (@List.take_zero.{0}) <|
 zsa (@List.take_succ_cons.{0}) <|
 zsa (@List.take_nil.{0}) <|
 zsa (@List.drop_succ_cons.{0}) <|
 zsa (@List.drop_nil.{0}) <|
 zsa (@List.set_cons_zero.{0}) <|
 zsa (@List.set_cons_succ.{0}) <|
 zsa (@List.length_append.{0}) <|
 zsa (@List.map_append.{0,0}) <|
 zsa (@Bool.not_eq_true') <|
 zsa (@Bool.not_eq_false') <|
 @Nat.le_refl
def sa4 :=
 PLift.up <|
 zsa (@Nat.zero_add) <|
 zsa (@Nat.add_zero) <|
 zsa (@Option.toList_some.{0}) <|
 zsa (@Option.toList_none.{0}) <|
 zsa (@Option.map_some.{0,0}) <|
 zsa (@Option.map_none.{0,0}) <|
 zsa (@Int.toNat_natCast) <|
 zsa (@Int.toNat_zero) <|
 zsa (@Nat.sub_zero) <|
 zsa (@List.drop_zero.{0}) <|
 zsa (@Go.Abs.Ox) <|
 zsa (@Go.Abs.Ej) <|
 zsa (@Go.Abs.KY) <|
 zsa (@Go.Abs.KZ) <|
 zsa (@Go.Abs.Em) <|
 zsa (@Go.Abs.CS) <|
 zsa (@Go.Abs.CU) <|
 zsa (@Go.Abs.CQ) <|
 @List.getElem?_toArray.{0}
def sb0 :=
 PLift.up <|
 zsa (@Go.Abs.nC.eq_def) <|
 zsa (@Go.Abs.CO.eq_def) <|
 zsa (@Go.Abs.RP.eq_def) <|
 zsa (@Go.Abs.kG.eq_def) <|
 zsa (@Go.Abs.En.eq_def) <|
 zsa (@Go.Abs.wG.eq_def) <|
 zsa (@Go.Abs.ku.eq_def) <|
 zsa (@Go.Abs.I8.eq_def) <|
 zsa (@Go.Abs.N8.eq_def) <|
 zsa (@Go.Abs.xF.eq_def) <|
 zsa (@Go.Abs.mf.eq_def) <|
 zsa (@Go.Abs.fK.eq_def) <|
 zsa (@Go.Abs.kz.eq_1) <|
 zsa (@Go.Abs.kz.eq_2) <|
 zsa (@Go.Abs.V.sv.eq_1) <|
 zsa (@Go.Abs.V.sv.eq_2) <|
 zsa (@Go.Abs.V.sc.eq_1) <|
 zsa (@Go.Abs.V.sc.eq_2) <|
 zsa (@Go.Abs.V.fit.eq_def) <|
 zsa (@Go.Abs.V.vc.eq_def) <|
 zsa (@Go.Abs.V.one.eq_def) <|
 zsa (@Go.Abs.V.sub.eq_def) <|
 zsa (@Go.Abs.Ed.eq_def) <|
 zsa (@Go.Abs.og.eq_def) <|
 zsa (@Go.Abs.BP.eq_def) <|
 zsa (@Go.Abs.yc.eq_def) <|
 zsa (@Go.Abs.WM.eq_def) <|
 zsa (@Go.Abs.dZ.eq_def) <|
 zsa (@Go.Abs.Yt.eq_def) <|
 zsa (@Go.Abs.Bd.eq_def) <|
 zsa (@Go.Abs.Ve.eq_def) <|
 zsa (@Go.Abs.Ce.eq_1) <|
 zsa (@Go.Abs.Ce.eq_2) <|
 @Go.Abs.BO.eq_def
def sb1 :=
 PLift.up <|
 zsa (@Go.Abs.Rl.eq_def) <|
 zsa (@Go.Abs.Rt.eq_def) <|
 zsa (@Go.Abs.IX.eq_def) <|
 zsa (@Go.Abs.Ee.eq_def) <|
 zsa (@Go.Abs.BX.eq_def) <|
 zsa (@Go.Abs.Rx.eq_def) <|
 zsa (@Go.Abs.oh.eq_def) <|
 zsa (@Go.Abs.BQ.eq_def) <|
 zsa (@Go.Abs.BR.eq_def) <|
 zsa (@Go.Abs.K.isSlice.eq_def) <|
 zsa (@Go.Abs.K.isMap.eq_def) <|
 zsa (@Go.Abs.TI.agg.eq_def) <|
 zsa (@Go.Abs.jo.eq_1) <|
 zsa (@Go.Abs.jo.eq_2) <|
 zsa (@Go.Abs.xE.eq_def) <|
 zsa (@Go.Abs.K.keyOk.eq_def) <|
 zsa (@Go.Abs.V.dats.eq_1) <|
 zsa (@Go.Abs.V.dats.eq_2) <|
 zsa (@Go.Abs.V.dat.eq_1) <|
 zsa (@Go.Abs.V.dat.eq_2) <|
 zsa (@Go.Abs.V.dat.eq_3) <|
 zsa (@Go.Abs.V.dat.eq_4) <|
 zsa (@Go.Abs.V.dat.eq_5) <|
 zsa (@Go.Abs.V.dat.eq_6) <|
 zsa (@Go.Abs.V.dat.eq_7) <|
 zsa (@Go.Abs.V.dat.eq_8) <|
 zsa (@Go.Abs.V.dat.eq_9) <|
 zsa (@Go.Abs.V.dat.eq_10) <|
 zsa (@Go.Abs.V.drop.eq_1) <|
 @Go.Abs.V.drop.eq_2
def sb2 :=
 PLift.up <|
 zsa (@Go.Abs.V.drop.eq_3) <|
 zsa (@Go.Abs.V.drop.eq_4) <|
 zsa (@Go.Abs.V.drop.eq_5) <|
 zsa (@Go.Abs.V.drop.eq_6) <|
 zsa (@Go.Abs.V.drop.eq_7) <|
 zsa (@Go.Abs.V.drop.eq_8) <|
 zsa (@Go.Abs.V.drop.eq_9) <|
 zsa (@Go.Abs.V.drop.eq_10) <|
 zsa (@Go.Abs.V.drop.eq_11) <|
 zsa (@Go.Abs.V.drops.eq_1) <|
 zsa (@Go.Abs.V.drops.eq_2) <|
 zsa (@Go.Abs.oz.eq_1) <|
 zsa (@Go.Abs.oz.eq_2) <|
 zsa (@Go.Abs.BV.eq_1) <|
 zsa (@Go.Abs.BV.eq_2) <|
 zsa (@Go.Abs.iI.eq_def) <|
 zsa (@Go.Abs.dD.eq_1) <|
 zsa (@Go.Abs.dD.eq_2) <|
 zsa (@Go.Abs.Ei.eq_def) <|
 zsa (@Go.Abs.pK.eq_def) <|
 zsa (@Go.Abs.lu.eq_def) <|
 zsa (@Go.Abs.yB.eq_def) <|
 zsa (@Nat.lt_irrefl) <|
 zsa (@Go.Abs.Sj) <|
 zsa (@Go.Abs.Vq) <|
 zsa (@Go.Abs.Vr) <|
 zsa (@Go.Abs.Sl) <|
 zsa (@Go.Abs.Xo) <|
 zsa (@Go.Abs.Sr) <|
 zsa (@Go.Abs.Xp) <|
 zsa (@Go.Abs.Su) <|
 zsa (@Go.Abs.Xq) <|
 zsa (@Go.Abs.Sv) <|
 zsa (@Go.Abs.SA) <|
 zsa (@Go.Abs.Xr) <|
 zsa (@Go.Abs.Xt) <|
 zsa (@Go.Abs.Xu) <|
 zsa (@Go.Abs.Vs) <|
 zsa (@Go.Abs.Vt) <|
 zsa (@Go.Abs.OE) <|
 zsa (@Go.Abs.SB) <|
 zsa (@Go.Abs.OG) <|
 zsa (@Go.Abs.mJ.eq_def) <|
 zsa (@Go.Abs.Yu.eq_def) <|
 zsa (@Go.Abs.fH.eq_1) <|
 zsa (@Go.Abs.fH.eq_2) <|
 zsa (@Go.Abs.Oe.eq_def) <|
 zsa (@Go.Abs.gd.eq_def) <|
 zsa (@Go.Abs.Cj.eq_1) <|
 zsa (@Go.Abs.Cj.eq_2) <|
 zsa (@Go.Abs.Cj.eq_3) <|
 @Go.Abs.Cj.eq_4
def sb3 :=
 PLift.up <|
 zsa (@Go.Abs.Cj.eq_5) <|
 zsa (@Go.Abs.Cj.eq_6) <|
 zsa (@Go.Abs.wJ.eq_def) <|
 zsa (@Go.Abs.Jc.eq_def) <|
 zsa (@Go.Abs.xh.eq_def) <|
 zsa (@Go.Abs.Xb.eq_def) <|
 zsa (@Go.Abs.jK.eq_1) <|
 zsa (@Go.Abs.jK.eq_2) <|
 zsa (@Go.Abs.CP.eq_def) <|
 zsa (@Go.Abs.yF.eq_def) <|
 zsa (@Go.Abs.lD.eq_1) <|
 @Go.Abs.lD.eq_2
def sz :=
 PLift.up <|
 zsa sa0.down <|
 zsa sa1.down <|
 zsa sa2.down <|
 zsa sa3.down <|
 zsa sa4.down <|
 zsa sb0.down <|
 zsa sb1.down <|
 zsa sb2.down <|
 sb3.down
section
variable{e:E}{n:Nat}{f:Fr}{h:H}{Q:XE->Fr->H->Prop}
def yJ(id:Nat)(L:(Nat->V)->LoopState->Option Code->O)(S:Option Code->H->(Nat->Bool)->Prop)(xe:XE)(f2:Fr)(h2:H):Prop :=
 match xe.jump with
 |some j=>f2.k id=am/\∃t st,h2[id]? =ar (L t st aL)/\S j (h2.set id (L t (if j.isNone then .ready else .done) j)) f2.k
 |none=>False
def Jf(e:E)(n l id:Nat)(body:Code)(L:(Nat->V)->LoopState->Option Code->O)(S:Option Code->H->(Nat->Bool)->Prop)(f1:Fr)(h1:H):Prop :=
 f1.k id=am/\∃t,h1[id]? =ar (L t .ready aL)/\awp e n (ar l) body (yJ id L S) f1 (h1.set id (L t .busy aL))
def Xv(id:Nat)(L:(Nat->V)->LoopState->Option Code->O)(Q:XE->Fr->H->Prop)(f1:Fr)(ae:AEnd)(h2:H)(p:Nat->Bool):Prop :=
 (∀i∈f1.d,p i=am)/\match ae with
  | .ret _=>p id=am/\∃t st c,st≠ .busy/\h2[id]? =ar (L t st c)/\Et Q c (f1.drop p) (h2.set id (L t .exhausted c))
  | .pan v=>Q (.pan v) (f1.drop p) h2
theorem vk{g:Operand}{ps:Array Tmp}{asg body:Code}{q:FuncId}{first captured:List V}(hsc:(f.ev e g).sc)(hg:(f.ev e g).sv= .fn (.func q) first captured)(hen:au e.P q=ab)
 (hps:(ps.toList.all λp=>aM (p<n))=ab)
 (main:∀L:(Nat->V)->LoopState->Option Code->O,(∀p t st c,(L t st c).drop p=L (λi=>(t i).drop p) st c) ->
  (∀h' vs S t,h'[aa h+1]? =ar (L t .ready aL)->aa vs=ps.size ->
   (∀lb,awp e n (ar lb) asg (XE.seq (Jf e n lb (aa h+1) body L S) (λ_ _ _=>False)) (jo {t:=t} ps.toList vs) h')->Xl e (aa h+1) vs h' S) ->
  ag e q (first++[.yd (aa h+1)]++captured) (h++[.misc .dfd]++[L f.t .ready aL]) (Xv (aa h+1) L Q {f with d:=h.length::f.d})) :
 awp e n aL (.rangeFunc g ps asg body) Q f h:=by
 refine oD hsc hg hen ?_;refine ag.mono (main (λt st c=> .loop t n ps asg body st c) (λ_ _ _ _=>rfl) ?_) ?_
 ·intro h' vs S t hc hsz hw;refine⟨t,n,ps,asg,body,aL,hc,hsz,hps,λlb=>dh ?_ (hw lb)⟩;intro xe f1 h1 hq;cases xe<;>try exact hq
  obtain⟨h1k,t1,hc1,hb⟩:=hq;unfold XE.seq EH;dsimp only;rw[hc1];refine⟨h1k,dh ?_ hb⟩;intro xe f2 h2 hq2;unfold yJ at hq2;unfold Jd;split at hq2
  ·rename_i j hj;obtain⟨h2k,t2,st2,hc2,hS⟩:=hq2;simp only[hj,hc2];exact⟨h2k,hS⟩
  ·exact hq2.elim
 ·rintro ae h' p ⟨hd,hr⟩;refine⟨hd,?_⟩;cases ae with
  |pan v=>exact hr
  |ret v=>obtain⟨hp,t,st,c,hst,hc,hQ⟩:=hr;dsimp only;rw[hc];exact⟨⟨hp,hst⟩,hQ⟩
end
section
variable{e:E}{g:FuncId}{args:List V}{h:H}{R:AEnd->H->(Nat->Bool)->Prop}
def EvR(e:E)(g:FuncId)(args:List V)(S:V->Prop):Prop :=
 ∀ok w vs,HSim e ok (λ_=>aL) [] w->VList (cx ok (λ_=>aL) w) args vs ->
  Calls e.P g vs.toArray w λen w'=>∃x r,S r/\en= .returned x/\WExt w w'/\VRel (cx ok (λ_=>aL) w') r x
variable{S:V->Prop}
theorem EvR.of_calls(hv:ag e g args [] λae h _=>match ae with | .ret v=>∃r,S r/\aH e h v r | .pan _=>False):EvR e g args S:=by
 intro ok w vs hs hl;refine(hv ok _ w vs hs hl).mono ?_;rintro en w' ⟨p,pl',h',ae,hs',k,he,hr⟩;cases ae with
 |pan v=>exact hr.elim
 |ret v =>
  obtain⟨r,hS,hr⟩:=hr;cases en with
  |returned x=>exact⟨x,r,hS,rfl,⟨k.os,k.tape,k.output,k.size,λb hb=>k.same b hb (λi hi=>by cases hi)⟩,hr ok pl' w' x hs' he⟩
  |panicked ch=>exact he.elim
  |outgrown=>exact he.elim
theorem EvR.run(hv:EvR e g args S)(hd:a7 args=ab){ok:Nat->Prop}{pl:Nat->Option Nat}{h:H}{w:World}{vs:List Value}
 (hs:HSim e ok pl h w) (hl:VList (cx ok pl w) args vs):Calls e.P g vs.toArray w λen w'=>∃x r,S r/\en= .returned x/\WExt w w'/\VRel (cx ok pl w') r x :=
 (hv _ w vs hs.toData (VList.mono (pR ok pl w) _ _ (VList.todata _ _ hd hl))).mono λen w' ⟨x,r,h0,h1,h2,h3⟩ =>
  ⟨x,r,h0,h1,h2,VRel.mono (Be ok pl w') _ _ h3⟩
theorem jL(hv:EvR e g args S)(hd:a7 args=ab)(hr:∀r,S r->R (.ret r) h (λ_=>am)):ag e g args h R :=
 λok pl w vs hs hl=>(hv.run hd hs hl).mono λen w' ⟨x,r,h0,h1,h2,h3⟩=>⟨λ_=>am,pl,h,.ret r,hs.wext h2,h2.keeps hs,by rw[h1];exact h3,hr r h0⟩
def vw(p:Nat->Bool):Nat->H->H
 |_,[]=>[]
 |i,o::h=>(if p i=ab then o.drop (λj=> !p j)else .dead)::vw p (i+1) h
def rq(p:Nat->Bool):Nat->H->H
 |_,[]=>[]
 |i,o::h=>(if p i=ab then .dead else o.drop p)::rq p (i+1) h
theorem tV{p:Nat->Bool}:∀ {h:H} {k i:Nat},(vw p k h)[i]? =(h[i]?).map λo=>if p (k+i)=ab then o.drop (λj=> !p j)else .dead
 |[],k,i=>by simp[vw]
 |o::h,k,0=>by simp[vw]
 |o::h,k,i+1=>by rw[vw,List.getElem?_cons_succ,tV,List.getElem?_cons_succ,show k+1+i=k+(i+1) by omega]
theorem yK{p:Nat->Bool}:∀ {h:H} {k i:Nat},(rq p k h)[i]? =(h[i]?).map λo=>if p (k+i)=ab then .dead else o.drop p
 |[],k,i=>by simp[rq]
 |o::h,k,0=>by simp[rq]
 |o::h,k,i+1=>by rw[rq,List.getElem?_cons_succ,yK,List.getElem?_cons_succ,show k+1+i=k+(i+1) by omega]
variable{p:Nat->Bool}
theorem yL{o:O}(h:o= .dead\/o= .cells []):o.drop p= .dead\/o.drop p= .cells []:=by
 rcases h with rfl|rfl
 ·exact .inl rfl
 ·exact .inr (by simp[O.drop,aE])
theorem qI(p:Nat->Bool)(ok:Nat->Prop)(pl:Nat->Option Nat)(w:World) :
 CExt (λj=> !p j) (cx ok pl w) (cx (λb=>ok b/\∀i,p i=am->pl i≠ar b) (λi=>if p i=ab then pl i else aL) w) :=
 ⟨λb hb hok=>⟨⟨⟨hok.1,λi _=>hok.2 i⟩,λi hi=>by
  try dsimp only at hi
  split at hi
  ·exact hok.2 i hi
  ·cases hi⟩,rfl⟩,
  λi b hp hi=>by
   have hp:p i=ab:=by simpa using hp
   simp only[cx,hp,if_true];exact hi,
  λb arr el fz hb=>⟨arr,fz,hb,rfl⟩⟩
variable{ok:Nat->Prop}{pl:Nat->Option Nat}
theorem HSim.sub(hs:HSim e ok pl h w)(p:Nat->Bool) :
 HSim e (λb=>ok b/\∀i,p i=am->pl i≠ar b) (λi=>if p i=ab then pl i else aL) (vw p 0 h) w where
 fresh b hb:=⟨hs.fresh b hb,λi _ hi=>by have:=hs.lt i b hi;omega⟩
 lt i b hi:=by
  try dsimp only at hi
  split at hi
  ·exact hs.lt i b hi
  ·cases hi
 okl i b hi:=by
  try dsimp only at hi
  split at hi
  ·rename_i hp;refine⟨hs.okl i b hi,λj hj hj2=> ?_⟩;have:=hs.inj i j b hi hj2;subst this;rw[hp]at hj;cases hj
  ·cases hi
 inj i j b hi hj:=by
  try dsimp only at hi
  split at hi
  ·try dsimp only at hj
   split at hj
   ·exact hs.inj i j b hi hj
   ·cases hj
  ·cases hi
 obj i b hi:=by
  try dsimp only at hi
  split at hi
  ·rename_i hp;obtain⟨o,ho,hat⟩:=hs.obj i b hi;exact⟨o.drop (λj=> !p j),by rw[tV,ho];simp[hp],sW (qI p ok pl w) rfl hat⟩
  ·cases hi
 bare i o ho hi:=by
  rw[tV]at ho;cases hh:h[i]? with
  |none=>rw[hh]at ho;cases ho
  |some o1 =>
   rw[hh]at ho;simp only[zrw,Nat.zero_add,Option.some.injEq]at ho;subst ho;split
   ·rename_i hp;rw[if_pos hp]at hi;exact yL (hs.bare i o1 hh hi)
   ·exact .inl rfl
 glob g v hg:=(hs.glob g v hg).glob_next (qI p ok pl w)
 exa g cs hg:=(hs.exa g cs hg).next (qI p ok pl w)
theorem yM(hs:HSim e ok pl h w)(x:WExt w w') :
 HSim e ok (λi=>if p i=ab then aL else pl i) (rq p 0 h) w'/\Keeps p pl w (λi=>if p i=ab then aL else pl i) w':=by
 have k:Keeps p pl w (λi=>if p i=ab then aL else pl i) w' :=
  ⟨x.os,x.tape,x.output,x.size,λb hb _=>x.same b hb,λi b hi=>by
   try dsimp only at hi
   split at hi
   ·cases hi
   ·exact .inl ⟨i,hi⟩,
   λi b hp hi=>by rw[if_neg (by simp[hp])];exact hi,
   λb arr el fz hb=>⟨arr,fz,(x.same b (bH hb)).trans hb,rfl⟩⟩
 refine⟨hs.next k (λi b hi=> ?_) (λi j b hi hj=> ?_) (λi b hi=> ?_) (λi o ho hi=> ?_),k⟩
 ·try dsimp only at hi
  try dsimp only at hi
  split at hi
  ·cases hi
  ·exact Nat.lt_of_lt_of_le (hs.lt i b hi) x.size
 ·try dsimp only at hi hj
  try dsimp only at hi
  split at hi
  ·cases hi
  ·try dsimp only at hj
   split at hj
   ·cases hj
   ·exact hs.inj i j b hi hj
 ·try dsimp only at hi
  try dsimp only at hi
  split at hi
  ·cases hi
  ·rename_i hp;refine .inl ⟨hi,x.same b (hs.lt i b hi),?_⟩;rw[yK];simp[hp]
 ·rw[yK]at ho;cases hh:h[i]? with
  |none=>rw[hh]at ho;cases ho
  |some o1 =>
   rw[hh]at ho;simp only[zrw,Nat.zero_add,Option.some.injEq]at ho;subst ho;split
   ·exact .inl rfl
   ·rename_i hp;rw[if_neg hp]at hi;exact yL (hs.bare i o1 hh hi)
variable{n:Nat}{r:Option Nat}{c:Code}{Q:XE->Fr->H->Prop}{f:Fr}
theorem CV(p:Nat->Bool)(t:Nat->V)(ht:∀i,t i=(f.t i).drop p\/((f.t i).drop (λj=> !p j)=f.t i/\aH e (vw p 0 h) (f.t i) (t i)))
 (hd:∀i∈f.d,p i=am) (hw:awp e n r c Q {f with t:=t,k:=λi=>f.k i||p i} (rq p 0 h)):awp e n r c Q f h:=by
 intro ok pl0 w0 pl w a s;obtain⟨k1,k2⟩:=yM (p:=p) s.hs (WExt.refl w);refine hw ok pl0 w0 (λi=>if p i=ab then aL else pl i) w a ⟨k1,s.kp.trans k2,s.size,λi=> ?_,?_⟩
 ·rcases ht i with h1|⟨h1,h2⟩
  ·show VRel _ (t i) _;rw[h1];exact VRel.mdrop k2.cext _ _ (s.val i)
  ·have h3:=VRel.mdrop (qI p ok pl w) _ _ (s.val i);rw[h1]at h3;have h4:=h2 _ _ w _ (s.hs.sub p) h3;refine VRel.mono (c:=cx (λb=>ok b/\∀i,p i=am->pl i≠ar b) (λ_=>aL) w) ?_ _ _ h4;refine⟨λb hb hok=>⟨⟨hok.1.1,λi hi=> ?_⟩,rfl⟩,λi b _ hi=>(by cases hi),λb arr el fz hb=>⟨arr,fz,hb,rfl⟩⟩
   try dsimp only at hi
   split at hi
   ·cases hi
   ·rename_i hp;exact hok.1.2 i (by simpa using hp) hi
 ·have:∀(is:List Nat)(l:List Deferred),(∀i∈is,p i=am)->G8 (cx ok pl w) e.tl is l->G8 (cx ok (λi=>if p i=ab then aL else pl i) w) e.tl is l:=by
   intro is
   induction is with
   |nil=>intro l _ hl;exact hl
   |cons i is ih=>rintro l hi ⟨b,rest,h1,h2,h3⟩;exact⟨b,rest,h1,k2.keep _ _ (hi i (by simp)) h2,ih rest (λj hj=>hi j (by simp[hj])) h3⟩
  exact this f.d _ hd s.dfr
end
section
variable{e:E}{h:H}
end
section
variable{e:E}{h:H}
def GV(e:E)(p:Nat->Bool)(h:H)(v v':V):Prop:=v'=v.drop p\/(v.drop (λj=> !p j)=v/\aH e (vw p 0 h) v v')
def GVs(e:E)(p:Nat->Bool)(h:H):List V->List V->Prop
 |[],[]=>True
 |v::vs,v'::vs'=>GV e p h v v'/\GVs e p h vs vs'
 |_,_=>False
variable{p:Nat->Bool}{ok:Nat->Prop}{pl:Nat->Option Nat}
theorem GV.rel(hs:HSim e ok pl h w){v v':V}{x:Value}(hg:GV e p h v v')(hx:VRel (cx ok pl w) v x) :
 VRel (cx ok (λi=>if p i=ab then aL else pl i) w) v' x:=by
 obtain⟨k1,k2⟩:=yM (p:=p) hs (WExt.refl w);rcases hg with h1|⟨h1,h2⟩
 ·rw[h1];exact VRel.mdrop k2.cext _ _ hx
 ·have h3:=VRel.mdrop (qI p ok pl w) _ _ hx;rw[h1]at h3;have h4:=h2 _ _ w _ (hs.sub p) h3;refine VRel.mono (c:=cx (λb=>ok b/\∀i,p i=am->pl i≠ar b) (λ_=>aL) w) ?_ _ _ h4;refine⟨λb hb hok=>⟨⟨hok.1.1,λi hi=> ?_⟩,rfl⟩,λi b _ hi=>(by cases hi),λb arr el fz hb=>⟨arr,fz,hb,rfl⟩⟩
  try dsimp only at hi
  split at hi
  ·cases hi
  ·rename_i hp;exact hok.1.2 i (by simpa using hp) hi
theorem GVs.rel{p:Nat->Bool}{ok:Nat->Prop}{pl:Nat->Option Nat}{w:World}(hs:HSim e ok pl h w):∀ {vs vs':List V} {xs:List Value},GVs e p h vs vs'->VList (cx ok pl w) vs xs ->
 VList (cx ok (λi=>if p i=ab then aL else pl i) w) vs' xs
 |[],[],xs,_,hx=>by simp only[VList]at hx ⊢;exact hx
 |v::vs,v'::vs',xs,hg,hx=>by simp only[VList]at hx ⊢;obtain⟨y,ys,h1,h2,h3⟩:=hx;exact⟨y,ys,h1,hg.1.rel hs h2,GVs.rel hs hg.2 h3⟩
 |[],v'::vs',_,hg,_=>hg.elim
 |v::vs,[],_,hg,_=>hg.elim
theorem GVs.length{p:Nat->Bool}:∀ {vs vs':List V},GVs e p h vs vs'->aa vs'=aa vs
 |[],[],_=>rfl
 |v::vs,v'::vs',hg=>by simp[GVs.length hg.2]
 |[],v'::vs',hg=>hg.elim
 |v::vs,[],hg=>hg.elim
variable{n:Nat}{r:Option Nat}{c:Code}{Q:XE->Fr->H->Prop}{f:Fr}
theorem EJ(p:Nat->Bool)(h':H)
 (hh:∀i,p i=am->h'[i]? =(h[i]?).map (O.drop p)\/∃cs cs',h[i]? =ar (.cells cs)/\h'[i]? =ar (.cells cs')/\GVs e p h cs cs')
 (hb:∀i o,p i=ab->h'[i]? =ar o->o= .dead)
 (hd:∀i∈f.d,p i=am) (hw:awp e n r c Q {f with t:=λi=>(f.t i).drop p,k:=λi=>f.k i||p i} h'):awp e n r c Q f h:=by
 intro ok pl0 w0 pl w a s;obtain⟨k1,k2⟩:=yM (p:=p) s.hs (WExt.refl w);have hs':HSim e ok (λi=>if p i=ab then aL else pl i) h' w:=by
  refine s.hs.next k2 k1.lt k1.inj (λi b hi=> ?_) (λi o ho hi=> ?_)
  ·try dsimp only at hi
   split at hi
   ·cases hi
   ·rename_i hp;have hp:p i=am:=by simpa using hp
    rcases hh i hp with h1|⟨cs,cs',h1,h2,h3⟩
    ·exact .inl ⟨hi,rfl,h1⟩
    ·obtain⟨o,h4,h5⟩:=s.hs.obj i b hi;rw[h1]at h4;cases h4;obtain⟨arr,el,fz,g1,g2,g3,g4⟩:=h5;refine .inr ⟨_,h2,arr,el,fz,g1,g2,by rw[h3.length];exact g3,?_⟩;rw[h3.length];exact h3.rel s.hs g4
  ·by_cases hp:p i=ab
   ·exact .inl (hb i o hp ho)
   ·have hp:p i=am:=by simpa using hp
    have hi2:pl i=aL:=by
     try dsimp only at hi
     rw[if_neg (by simp[hp])]at hi;exact hi
    rcases hh i hp with h1|⟨cs,cs',h1,h2,h3⟩
    ·rw[h1]at ho;cases h4:h[i]? with
     |none=>rw[h4]at ho;cases ho
     |some o1=>rw[h4]at ho;simp only[zrw,Option.some.injEq]at ho;subst ho;exact yL (s.hs.bare i o1 h4 hi2)
    ·rw[h2]at ho;cases ho;rcases s.hs.bare i _ h1 hi2 with h4|h4
     ·cases h4
     ·simp only[O.cells.injEq]at h4;subst h4;cases cs' with
      |nil=>exact .inr rfl
      |cons v vs=>exact h3.elim
 refine hw ok pl0 w0 (λi=>if p i=ab then aL else pl i) w a ⟨hs',s.kp.trans k2,s.size,λi=>VRel.mdrop k2.cext _ _ (s.val i),?_⟩;have:∀(is:List Nat)(l:List Deferred),(∀i∈is,p i=am)->G8 (cx ok pl w) e.tl is l->G8 (cx ok (λi=>if p i=ab then aL else pl i) w) e.tl is l:=by
  intro is
  induction is with
  |nil=>intro l _ hl;exact hl
  |cons i is ih=>rintro l hi ⟨b,rest,h1,h2,h3⟩;exact⟨b,rest,h1,k2.keep _ _ (hi i (by simp)) h2,ih rest (λj hj=>hi j (by simp[hj])) h3⟩
 exact this f.d _ hd s.dfr
end
section
variable{e:E}{h:H}
end
section
variable{H:Type}{enc:TypeId×Value->H}{P:Program}
end
section
variable{e:E}{n:Nat}{o:Oper}{f:Fr}{h:H}{Kn:Fr->H->Prop}{Q:XE->Fr->H->Prop}
def Yw(e:E)(h:H)(t:TypeId)(v:V)(name:String)(g:FuncId)(v':V):Prop :=
 ∀ok pl w x,HSim e ok pl h w->VRel (cx ok pl w) v x->∃y,(Go.method (e.P.types.size+Made.depth) t x name).run e.P w= .ok (g,y) w/\VRel (cx ok pl w) v' y
theorem eG{x:Operand}{name:String}{args:Array Operand}{ts:Array TypeId}(hop:o.op= .call {callee:= .invoke x name,args:=args,argTypes:=ts})
 {t:TypeId} {v v':V} {g:FuncId} (hx:(f.ev e x).sv= .iface t v) (hsc:fK (f.ev e) x args) (hm:Yw e h t v name g v') (hen:au e.P g=ab)
 (hc:ag e g (v'::args.toList.map λy=>(f.ev e y).sv) h (Ld o.dst Kn Q f)):∀r,Eff e n r o f h Kn Q:=by
 intro r ok pl0 w0 pl w a s hd;have hr:=s.evs (o:=o);have h1:=(hr x (by simp[hop,Op.operands,Call.operands])).sv hsc.1;rw[hx]at h1;simp only[VRel]at h1;obtain⟨ev,h2,h3⟩:=h1;obtain⟨y,hrun,hy⟩:=hm ok pl w ev s.hs h3;have h5:=(dP (c:=cx ok pl w) (ρ:=f.ev e) (ev:=a.eval) args.toList λz hz=>hr z (by simp[hop,Op.operands,Call.operands];exact .inr (Array.mem_toList_iff.1 hz))).sv hsc.2;rw[List.map_map]at h5;have hexec:(execOp a.eval o).run e.P w= .ok (.enter g (y::args.toList.map a.eval).toArray) w:=by
  have e1:execOp a.eval o=(do let d <-resolve a.eval {callee:= .invoke x name,args:=args,argTypes:=ts} o.type;invoke d.target d.args):=by simp[execOp,hop]
  rw[e1];have h6:(resolve a.eval {callee:= .invoke x name,args:=args,argTypes:=ts} o.type).run e.P w= .ok {target:= .fn (.method name) #[],args:=#[.iface t ev]++args.map a.eval} w:=by
   simp[resolve,h2]
  simp only[Sem.run_bind,h6,a8,invoke];have h7:(#[Value.iface t ev]++args.map a.eval)[0]? =ar (Value.iface t ev):=by rw[Array.getElem?_append_left (by simp)];rfl
  simp only[h7];unfold callMethod;simp only[Sem.run_bind,run_program,a8,hrun];rw[qH hen]
  congr 2
  apply Array.ext';simp only[List.size_toArray,Array.size_append,Array.size_map,Array.toList_append,Array.toList_extract,Array.toList_map,zrt,List.length_nil];simp[List.extract];rw[zqh (by simp)]
 refine⟨λg _=>jg r g,?_⟩;rw[fO,Oper.semAt_eq r a.eval o (λc=>by rw[hop];exact λh=>by cases h),hexec];refine⟨λhd'=>(by rw[jV]at hd';cases hd'),dQ ((hc ok pl w (y::args.toList.map a.eval) s.hs (by simp only[VList];exact⟨_,_,rfl,hy,h5⟩)).mono ?_)⟩;rintro en w' ⟨p,pl',h',ae,hs',k,hend,hk⟩;cases ae with
 |ret v =>
  cases en with
  |returned x=>exact⟨pl',_,h',(s.next hs' k hk.1).put hd hend,hk.2⟩
  |panicked ch=>exact hend.elim
  |outgrown=>exact hend.elim
 |pan v =>
  cases en with
  |returned x=>exact hend.elim
  |panicked ch=>exact⟨pl',_,h',.pan v,s.next hs' k hk.1,hend,hk.2⟩
  |outgrown=>exact hend.elim
end
def OLe(o o':O):Prop:=(∀c b,OAt c b o->OAt c b o')/\((o= .dead\/o= .cells [])->(o'= .dead\/o'= .cells []))
theorem OLe.refl(o:O):OLe o o:=⟨λ_ _ h=>h,λh=>h⟩
theorem OLe.cells{cs cs':List V}(hl:aa cs'<=aa cs)(hv:fD (cs.take (aa cs')) cs'):OLe (.cells cs) (.cells cs'):=by
 refine⟨λc b ho=> ?_,λh=> ?_⟩
 ·obtain⟨arr,el,fz,h1,h2,h3,h4⟩:=ho;refine⟨arr,el,fz,h1,h2,by omega,?_⟩;have:=hv c _ (h4.take (aa cs'))
  rwa [List.take_take,Nat.min_eq_left hl]at this
 ·rcases h with h|h
  ·cases h
  ·cases h;exact .inr (by rw[zse (Nat.le_zero.1 hl)])
theorem OLe.take(cs:List V)(m:Nat):OLe (.cells cs) (.cells (cs.take m)):=OLe.cells (by simp;omega) (by
 rw[zrl,show List.take (min m (aa cs)) cs=List.take m cs by
  rcases Nat.le_total m (aa cs)with h|h
  ·rw[Nat.min_eq_left h]
  ·rw[Nat.min_eq_right h,zqh (zrb _),zqh h]]
 exact fD.refl _)
variable{id off:Nat}
theorem VLe.cap{k len cap cap':Nat}(hc:cap'<=cap):VLe (.ls id k off len cap) (.ls id k off len cap'):=λc x h=>by simp only[VRel]at h ⊢;obtain⟨a,cp,h1,h2,h3⟩:=h;exact⟨a,cp,h1,by omega,h3⟩
theorem dH{k:Nat}:VLe .nils (.ls id k off 0 0):=λc x h=>by simp only[VRel]at h ⊢;exact⟨aL,0,h,zrb _,zrb _,Nat.zero_le _,.inl rfl⟩
theorem VLe.any(v:V):VLe v .any:=λc x h=>by simp only[VRel]
theorem fD.set{vs:List V}{i:Nat}{v v':V}(hi:vs[i]? =ar v)(h:VLe v v'):fD vs (vs.set i v'):=by
 induction vs generalizing i with
 |nil=>simp at hi
 |cons u vs ih =>
  cases i with
  |zero=>simp only[List.getElem?_cons_zero,Option.some.injEq]at hi;subst hi;exact fD.cons h (fD.refl _)
  |succ i=>exact fD.cons (VLe.refl _) (ih (by simpa using hi))
def HLe(h h':H):Prop:=h'.length=aa h/\∀(i:Nat)(o':O),h'[i]? =ar o'->∃o:O,h[i]? =ar o/\OLe o o'
theorem HLe.refl(h:H):HLe h h:=⟨rfl,λi o ho=>⟨o,ho,OLe.refl o⟩⟩
theorem HLe.trans{a b c:H}(h:HLe a b)(k:HLe b c):HLe a c:=⟨k.1.trans h.1,λi o ho=>by
 obtain⟨o1,h1,h2⟩:=k.2 i o ho;obtain⟨o2,h3,h4⟩:=h.2 i o1 h1;exact⟨o2,h3,λc b x=>h2.1 c b (h4.1 c b x),λx=>h2.2 (h4.2 x)⟩⟩
variable{h:H}
theorem HLe.set{i:Nat}{o o':O}(hi:h[i]? =ar o)(hl:OLe o o'):HLe h (h.set i o'):=by
 have hlt:=(zqe hi).1;refine⟨zrn,λj q hq=> ?_⟩;by_cases hj:i=j
 ·subst hj;rw[zqt hlt]at hq;cases hq;exact⟨o,hi,hl⟩
 ·rw[zqn hj]at hq;exact⟨q,hq,OLe.refl q⟩
variable{e:E}{ok:Nat->Prop}{pl:Nat->Option Nat}{h':H}
theorem HSim.le(hs:HSim e ok pl h w)(k:HLe h h'):HSim e ok pl h' w where
 fresh:=hs.fresh
 lt:=hs.lt
 okl:=hs.okl
 inj:=hs.inj
 obj i b hi:=by
  obtain⟨o,h1,h2⟩:=hs.obj i b hi;have hlt:i<aa h':=by have:=(zqe h1).1;rw[k.1];exact this
  obtain⟨o1,h3,h4⟩:=k.2 i _ (zqk hlt);rw[h1]at h3;cases h3;exact⟨_,zqk hlt,h4.1 _ _ h2⟩
 bare i o ho hp:=by
  obtain⟨o1,h3,h4⟩:=k.2 i o ho;exact h4.2 (hs.bare i o1 h3 hp)
 glob:=hs.glob
 exa:=hs.exa
structure FLe(f f':Fr):Prop where
 t:∀i,VLe (f.t i) (f'.t i)
 d:f'.d=f.d
 k:f'.k=f.k
variable{n:Nat}{r:Option Nat}{c:Code}{Q:XE->Fr->H->Prop}{f:Fr}
theorem wL{f':Fr}(hf:FLe f f')(hh:HLe h h')(hw:awp e n r c Q f' h'):awp e n r c Q f h:=by intro ok pl0 w0 pl w a s;refine hw ok pl0 w0 pl w a ⟨s.hs.le hh,by rw[hf.k];exact s.kp,s.size,λi=>hf.t i _ _ (s.val i),by rw[hf.d];exact s.dfr⟩
theorem lF(hh:HLe h h')(hw:awp e n r c Q f h'):awp e n r c Q f h :=
 wL ⟨λ_=>VLe.refl _,rfl,rfl⟩ hh hw
variable{g:FuncId}{args:List V}{R:AEnd->H->(Nat->Bool)->Prop}
theorem vz(hc:ag e g args h λae h1 p=>∃h2,HLe h1 h2/\R ae h2 p):ag e g args h R :=
 λok pl w vs hs hv=>(hc ok pl w vs hs hv).mono λen w' ⟨p,pl',h',ae,h1,h2,h3,h2',h4,h5⟩=>⟨p,pl',h2',ae,h1.le h4,h2,h3,h5⟩
theorem EK{args':List V}(ha:fD args args')(hh:HLe h h')(hc:ag e g args' h' R):ag e g args h R :=
 λok pl w vs hs hv=>hc ok pl w vs (hs.le hh) (ha _ _ hv)
theorem SC(hm:e.P.follows .mixedOrders=ab){x y z:Code}(M:Fr->H->Prop)
 (h1:vc e n r x (XE.seq (vc e n r y (λxe f h=>xe= .normal/\M f h)) (λxe f h=>xe= .normal/\False)) f h) (h2:∀f h,M f h->awp e n r z Q f h):awp e n r (.seq x (.seq y z)) Q f h:=by
 refine ak (dh ?_ (qZ hm _ _ _ _ h1));intro xe f h hq;cases xe with
 |normal=>exact ak (dh (λxe f h hq=>by
  obtain⟨rfl,hq⟩:=hq;exact h2 f h hq) (qZ hm _ _ _ _ hq))
 |_=>exact absurd hq.2 id
theorem gz(hw:awp e n r c Q f (h++[.cells []])):awp e n r c Q f h:=by intro ok pl0 w0 pl w a s;exact hw ok pl0 w0 pl w a ⟨qG s.hs,s.kp,s.size,s.val,s.dfr⟩
theorem FLe.one(i:Nat){v:V}(h:VLe (f.t i) v):FLe f {f with t:=λj=>if j=i then v else f.t j}:=by
 refine⟨λj=> ?_,rfl,rfl⟩;show VLe (f.t j) (if j=i then v else f.t j);by_cases he:j=i
 ·rw[if_pos he,he];exact h
 ·rw[if_neg he];exact VLe.refl _
section
variable{e:E}{n:Nat}{o:Oper}{Kn:Fr->H->Prop}{Q:XE->Fr->H->Prop}{f:Fr}{h:H}
theorem vC{t:TypeId}{x:Operand}(hop:o.op= .buildSlice t 1 #[(0,x)]){q re:TI}(hq:ti e.P t=ar q){el:TypeId}(hk0:q.kind= .slice el)(hre:ti e.P el=ar re)
 (hz1:re.size=1) (hxc:(f.ev e x).sc) {kk:IntKind} {m:Int} (hx:(f.ev e x).sv= .int kk m)
 (hk:Kn (f.put o.dst (.ls (aa h) 1 0 1 1)) (h++[.cells [.int kk m]])):Eff e n r o f h Kn Q:=by
 refine bI ?_ (λc=>by rw[hop];exact λh=>by cases h);intro ok pl w ev hs hr;obtain⟨i,d,z,hT⟩:=aW hq;have hd:=hT.slice hk0;subst hd;obtain⟨ie,de,ze,hE⟩:=aW hre;have h1:=(hr x (by simp[hop,Op.operands])).sv hxc;rw[hx]at h1;simp only[VRel]at h1;obtain⟨res,hr1,hr2⟩:=BZ (k:=1) [Value.int kk m] 0 ((Array.range (1*1)).map (ze.cells[·%ze.cells.size]!)) (by simp) (by simp[Value.cells]);have hres:res.toList=[.int kk m]:=by rw[hr2];simp[Value.cells]
 have hsz:res.size=1:=by rw[<-Array.length_toList,hres];rfl
 have hrun:(execOp ev o).run e.P w= .ok (.value (.slice (ar ⟨w.heap.size,0,aL⟩) 1 1)) (w.alloc (.cells res el)):=by
  have h2:(Instr.buildSlice t 1 #[(0,ev x)]).run e.P w= .ok (.slice (ar ⟨w.heap.size,0,aL⟩) 1 1) (w.alloc (.cells res el)):=by
   unfold Instr.buildSlice;simp only[Sem.run_bind,hT.run_und,a8,hE.run_size];rw[hz1,if_neg (by decide),if_neg (by decide)];simp only[Sem.run_bind,hE.run_zero,Sem.run_pure,a8];have h3:Instr.fill (λi=>ar (i*1,1)) ((Array.range (1*1)).map (ze.cells[·%ze.cells.size]!)) [(0,ev x)]=ar res:=by
    rw[h1];exact hr1
   simp only[h3];rfl
  have h4:execOp ev o=(do pure (Next.value (<-Instr.buildSlice t 1 #[(0,ev x)]))):=by simp[execOp,hop]
  rw[h4];exact iT h2
 obtain⟨h1',h2'⟩:=ny hs (cs:=[.int kk m]) (arr:=res) (by simp[hsz]) (by rw[hres];simp[VList,VRel]) el (WExt.refl w);refine⟨λ_=>am,.ls (aa h) 1 0 1 1,_,_,_,.slice (ar ⟨w.heap.size,0,aL⟩) 1 1,.inl hrun,h1',h2',?_,λ_ _=>rfl,by simpa using hk⟩;simp only[VRel];exact⟨_,1,rfl,zrb _,zrb _,by decide,.inr ⟨w.heap.size,res,el,(0,0),by simp[cx,dI],rfl,World.alloc_heap_new w _,by omega⟩⟩
theorem Jg{rest:List Oper}(hg:o.guard=aL)(hd:ku n o.dst=ab)(he:Eff e n r o f h (pW e n (o::rest).toArray Q rest) Q):awp e n r (.region id (o::rest).toArray am) Q f h :=
 λok pl0 w0 pl w a s=>wpIn_region_list (by
  show wpListIn (RF r) 0 e.P (o::rest).toArray (iR e n ok pl0 w0 Q) (o::rest) a w;have hgd:gd (o::rest).toArray f o=ar ab:=by unfold gd;rw[hg]
  have hw:=uZ s.val hgd;unfold wpListIn;rw[if_pos hw];exact Oper.wpIn_mono (λa' w' ⟨pl',f',h',s',hk⟩=>tC rest f' h' hk pl' w' a' s') (he ok pl0 w0 pl w a s hd))
end
end Go.Abs
