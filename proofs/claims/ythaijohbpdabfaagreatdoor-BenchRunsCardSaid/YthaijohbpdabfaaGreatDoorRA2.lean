/- Lemmas for this claim, part A2: each holds under what it names. -/
import Derived.Test.YthaijohbpdabfaaGreatDoorRA1
import Derived.Lib.Strings
import Derived.WideKeyRuns
import Derived.Laws.Tables
set_option linter.all false
namespace Go.Abs
open Go.RowKit
open List renaming length → aa, replicate → ao
open Bool renaming true → ab, false → ac
open Option renaming some → al, none → aq
open Decidable renaming decide → ar
open Go.IntKind renaming wrap → aD
open Go.Result renaming andThen → aM
section
variable{P:Program}{c:C}
def EI(P:Program)(ft:TypeId)(off:Nat)(vs:List V):PV :=
 match ti P ft with
 |some r=>(off+r.size<=aa vs/\0<r.size/\(r.agg=ac->r.size=1/\(vs.getD off .any).one=ab),V.sub vs off r.size r.agg)
 |none=>fJ
theorem EJ{ft:TypeId}{off:Nat}{vs:List V}{cs:Array Value}(h:VList c vs cs.toList):aH P c (part ft cs off) (EI P ft off vs):=by
 unfold EI;split
 ·rename_i r hr;obtain⟨i,d,z,hT⟩:=aG hr;rintro⟨h1,h2,h3⟩;have hl:=h.length;unfold part;simp only[Sem.run_bind,hT.agg,aM];cases ha:r.agg with
  |true=>refine⟨.agg (cs.extract off (off+r.size)),by simp[hT.run_size,aM],?_⟩;simp only[V.sub,cond_true,VRel];refine⟨_,rfl,?_⟩;have:=(h.dropN off).take r.size;rw[show(cs.extract off (off+r.size)).toList=(cs.toList.drop off).take r.size by simp];exact this
  |false =>
   obtain⟨v,hv⟩:∃v,vs[off]? =al v:=⟨_,zqk (show off<aa vs by omega)⟩;obtain⟨x,hx,hrel⟩:=h.get off v hv;have hx':cs[off]? =al x:=by simpa using hx
   refine⟨x,by simp[hx'],?_⟩;simp only[V.sub,cond_false,zqg,hv,Option.getD_some];exact hrel
 ·exact aH.no
def CJ(P:Program)(t:TypeId)(x:V)(f:Nat):PV :=
 match ti P t,x with
 |some r,.agg vs=>match r.kind with
  | .struct fs=>match fs[f]? with
   |some (off,ft)=>EI P ft off vs
   |none=>fJ
  |_=>fJ
 |_,_=>fJ
theorem LQ{t:TypeId}{x:V}{xv:Value}{f:Nat}(h:VRel c x xv):aH P c (Instr.field t xv f) (CJ P t x f):=by
 unfold CJ;split
 ·rename_i r vs hr;obtain⟨i,d,z,hT⟩:=aG hr;split
  ·rename_i fs hk;obtain⟨gs,rfl,hfs⟩:=hT.struct hk;split
   ·rename_i off ft hf;rw[hfs,zqo]at hf;cases hg:gs.toList[f]? with
    |none=>rw[hg]at hf;cases hf
    |some g =>
     rw[hg]at hf;simp at hf;obtain⟨rfl,rfl⟩:=hf;simp only[VRel]at h;obtain⟨cs,rfl,hcs⟩:=h;intro hp;obtain⟨y,hy1,hy2⟩:=EJ (P:=P) (c:=c) hcs hp;refine⟨y,?_,hy2⟩;have hg':gs[f]? =al g:=by simpa using hg
     simp[Instr.field,hT.run_und,aM,hg',asAgg,hy1]
   ·exact aH.no
  ·exact aH.no
 ·exact aH.no
def YB(P:Program)(ft:TypeId)(off:Nat)(x:V):PV :=
 match ti P ft with
 |some r=>match x with
  | .lp id o=>(0<r.size,.lp id (o+off))
  | .ip (.agg vs)=>(off+r.size<=aa vs/\0<r.size/\(r.agg=ac->r.size=1/\(vs.getD off .any).one=ab),.ip (V.sub vs off r.size r.agg))
  |_=>fJ
 |none=>fJ
theorem Oa{b o off:Nat}{cs:Array Value}(h:rq c b o (.agg cs)){n:Nat}(hn:off+n<=cs.size) :
 rq c b (o+off) (.agg (cs.extract off (off+n))):=by
 intro j hj;simp only[Value.cells]at hj;have hj':j<n:=by simp at hj;omega
 obtain⟨h1,h2⟩:=h (off+j) (by simp only[Value.cells];omega);refine⟨h1,?_⟩;rw[show o+off+j=o+(off+j) by omega,h2];simp only[Value.cells];rw[Array.getElem?_extract];simp;omega
theorem Ob{b o off:Nat}{cs:Array Value}(h:rq c b o (.agg cs)){x:Value}(hx:cs[off]? =al x)(h1:x.cells=#[x]) :
 rq c b (o+off) x:=by
 intro j hj;rw[h1]at hj ⊢;have hj0:j=0:=by simpa using hj
 subst hj0;have hlt:off<cs.size:=(Array.getElem?_eq_some_iff.1 hx).1;obtain⟨h2,h3⟩:=h off (by simpa only[Value.cells]using hlt);refine⟨h2,?_⟩;rw[Nat.add_zero,h3];simp only[Value.cells];rw[hx];rfl
theorem Oc{ft:TypeId}{off:Nat}{x:V}{xv:Value}(h:VRel c x xv)(hp:(YB P ft off x).1) :
 ∃b o,xv= .pointer (al ⟨b,o,aq⟩)/\VRel c (YB P ft off x).2 (.pointer (al ⟨b,o+off,aq⟩))/\∃r,ti P ft=al r/\0<r.size:=by
 unfold YB at hp ⊢;split at hp
 ·rename_i r hr;split at hp
  ·simp only[VRel]at h ⊢;obtain⟨b,h1,rfl⟩:=h;exact⟨b,_,rfl,⟨b,h1,rfl⟩,r,hr,hp⟩
  ·rename_i vs;simp only[VRel]at h;obtain⟨b,o,ev,rfl,h2,h3,h4⟩:=h;obtain⟨cs,rfl,hcs⟩:=h4;obtain⟨p1,p2,p3⟩:=hp;have hl:=hcs.length;refine⟨b,o,rfl,?_,r,hr,p2⟩;simp only[VRel];cases ha:r.agg with
   |true =>
    refine⟨b,o+off,.agg (cs.extract off (off+r.size)),rfl,Oa h2 (by simp at hl;omega),?_,?_⟩
    ·simp only[Value.cells,Array.size_extract];simp at hl;omega
    ·simp only[V.sub,cond_true,VRel];refine⟨_,rfl,?_⟩;rw[show(cs.extract off (off+r.size)).toList=(cs.toList.drop off).take r.size by simp];exact(hcs.dropN off).take r.size
   |false=>obtain⟨p4,p5⟩:=p3 ha;obtain⟨v,hv⟩:∃v,vs[off]? =al v:=⟨_,zqk (show off<aa vs by omega)⟩;obtain⟨x,hx,hrel⟩:=hcs.get off v hv;rw[zqg,hv]at p5;have hone:=hrel.one p5;refine⟨b,o+off,x,rfl,Ob h2 (by simpa using hx) hone,by simp[hone],?_⟩;simp only[V.sub,cond_false,zqg,hv,Option.getD_some];exact hrel
  ·exact hp.elim
 ·exact hp.elim
def nR(P:Program)(t:TypeId)(x:V)(f:Nat):PV :=
 match ti P t with
 |some r=>match r.kind with
  | .struct fs=>match fs[f]? with
   |some (off,ft)=>YB P ft off x
   |none=>fJ
  |_=>fJ
 |none=>fJ
theorem rM{t:TypeId}{x:V}{xv:Value}{f:Nat}(h:VRel c x xv):aH P c (Instr.fieldAt t xv f) (nR P t x f):=by
 unfold nR;split
 ·rename_i r hr;obtain⟨i,d,z,hT⟩:=aG hr;split
  ·rename_i fs hk;obtain⟨gs,rfl,hfs⟩:=hT.struct hk;split
   ·rename_i off ft hf;rw[hfs,zqo]at hf;cases hg:gs.toList[f]? with
    |none=>rw[hg]at hf;cases hf
    |some g =>
     rw[hg]at hf;simp at hf;obtain⟨rfl,rfl⟩:=hf;intro hp;obtain⟨b,o,rfl,h1,r',hr',hs⟩:=Oc h hp;obtain⟨i',d',z',hT'⟩:=aG hr';have hg':gs[f]? =al g:=by simpa using hg
     refine⟨_,?_,h1⟩;have hne:¬r'.size=0:=by omega
     simp[Instr.fieldAt,hT.run_und,aM,hg',Instr.sureAddr,fieldPlace,hT'.run_size,hne,dI]
   ·exact aH.no
  ·exact aH.no
 ·exact aH.no
def nS(P:Program)(t:TypeId)(x i:V):PV :=
 match ti P t,i with
 |some r,.int _ n=>match r.kind with
  | .slice el=>match ti P el with
   |some re=>match x with
    | .ls id k off len _=>(0<=n/\n<len/\re.size=k,.lp id (off+n.toNat*k))
    | .is _ k es=>(0<=n/\n<aa es/\re.size=k/\0<k,.ip (es.getD n.toNat .any))
    |_=>fJ
   |none=>fJ
  | .arr m el _=>match ti P el with
   |some re=>let q:=YB P el (n.toNat*re.size) x;(0<=n/\n<m/\q.1,q.2)
   |none=>fJ
  |_=>fJ
 |_,_=>fJ
theorem AB{t:TypeId}{x i:V}{xv iv:Value}(hx:VRel c x xv)(hi:VRel c i iv):aH P c (Instr.indexAt t xv iv) (nS P t x i):=by
 unfold nS;split
 ·rename_i r k n hr;obtain⟨i,d,z,hT⟩:=aG hr;simp only[VRel]at hi;subst hi;split
  ·rename_i el hk;have hd:=hT.slice hk;subst hd;split
   ·rename_i re hre;obtain⟨i',d',z',hT'⟩:=aG hre;split
    ·rename_i id k' off len cap;rintro⟨h0,h1,h2⟩;simp only[VRel]at hx;obtain⟨a,cp,rfl,hcap,hlen,hmax,hh⟩:=hx;have hcp:cp≠0:=by omega
     rcases hh with hh|⟨b,arr,el',fz,hb,rfl,_⟩
     ·exact absurd hh hcp
     refine⟨.pointer (al ⟨b,off+n.toNat*k',aq⟩),?_,?_⟩
     ·simp[Instr.indexAt,asIntOf,hT.run_und,aM,h0,h1,hT'.run_size,h2,dI]
     ·simp only[VRel];exact⟨b,hb,rfl⟩
    ·rename_i ex k' es;rintro⟨h0,h1,h2,h3⟩;simp only[VRel]at hx;obtain⟨a,cp,rfl,hlen,hmax,hex,hh⟩:=hx;rcases hh with rfl|⟨b,off,rfl,hel⟩
     ·simp at h1;omega
     have hlt:n.toNat<aa es:=by omega
     obtain⟨v,hv⟩:∃v,es[n.toNat]? =al v:=⟨_,zqk hlt⟩;obtain⟨ev,he1,he2,he3⟩:=hel.get n.toNat hv;refine⟨.pointer (al ⟨b,off+n.toNat*k',aq⟩),?_,?_⟩
     ·simp[Instr.indexAt,asIntOf,hT.run_und,aM,h0,h1,hT'.run_size,h2,dI]
     ·simp only[VRel,zqg,hv,Option.getD_some];exact⟨b,_,ev,rfl,he2,by omega,he3⟩
    ·exact aH.no
   ·exact aH.no
  ·rename_i m el hk;have hd:=hT.arr hk;subst hd;split
   ·rename_i re hre;obtain⟨i',d',z',hT'⟩:=aG hre;rintro⟨h0,h1,hq⟩;obtain⟨b,o,rfl,h2,_⟩:=Oc hx hq;refine⟨_,?_,h2⟩;simp[Instr.indexAt,asIntOf,hT.run_und,aM,h0,h1,hT'.run_size,dI,Instr.sureAddr]
   ·exact aH.no
  ·exact aH.no
 ·exact aH.no
def CO(P:Program)(t:TypeId)(x i:V):PV :=
 match ti P t,x,i with
 |some r,.str l,.int _ n=>(r.kind= .str/\0<=n/\n<aa l,.int .u8 (l.getD n.toNat 0).toNat)
 |some r,.agg vs,.int _ n=>match r.kind with
  | .arr m el _=>match ti P el with
   |some re=>let q:=EI P el (n.toNat*re.size) vs;(0<=n/\n<m/\q.1,q.2)
   |none=>fJ
  |_=>fJ
 |_,_,_=>fJ
theorem LU{t:TypeId}{x i:V}{xv iv:Value}(hx:VRel c x xv)(hi:VRel c i iv):aH P c (Instr.index t xv iv) (CO P t x i):=by
 unfold CO;split
 ·rename_i r l k n hr;obtain⟨i,d,z,hT⟩:=aG hr;simp only[VRel]at hi hx;subst hi;obtain⟨s,rfl,rfl,hs⟩:=hx;rintro⟨hk,h0,h1⟩;have hd:=hT.str hk;subst hd;have hlt:n.toNat<s.size:=by rw[iL];omega
  refine⟨.int .u8 (s[n.toNat]'hlt).toNat,?_,?_⟩
  ·simp[Instr.index,asIntOf,hT.run_und,aM,h0,hlt]
  ·simp only[VRel]
   congr 2
   have hlt':n.toNat<s.data.size:=hlt;simp only[zqg,Array.getElem?_toList,Array.getElem?_eq_getElem hlt',Option.getD_some];rfl
 ·rename_i r vs k n hr;obtain⟨i,d,z,hT⟩:=aG hr;simp only[VRel]at hi hx;subst hi;obtain⟨cs,rfl,hcs⟩:=hx;split
  ·rename_i m el hk;have hd:=hT.arr hk;subst hd;split
   ·rename_i re hre;obtain⟨i',d',z',hT'⟩:=aG hre;rintro⟨h0,h1,hq⟩;obtain⟨y,hy1,hy2⟩:=EJ (P:=P) (c:=c) hcs hq;refine⟨y,?_,hy2⟩;simp[Instr.index,asIntOf,hT.run_und,aM,h0,h1,hT'.run_size,hy1]
   ·exact aH.no
  ·exact aH.no
 ·exact aH.no
end
def fA(h:H)(id:Nat):List V:=match h[id]? with|some (.cells cs)=>cs|some (.typed _ cs)=>cs|_=>[]
section
variable{P:Program}{c:C}{e:E}{ok:Nat->Prop}{pl:Nat->Option Nat}{w:World}{h:H}
theorem HSim.cellsAt(hs:HSim e ok pl h w){id b:Nat}(hb:pl id=al b){j:Nat}{v:V}(hv:(fA h id)[j]? =al v) :
 ∃x,w.cell? ⟨b,j,aq⟩=al x/\VRel (cx ok pl w) v x:=by
 obtain⟨o,ho,hat⟩:=hs.obj id b hb;simp only[fA,ho]at hv;cases o with
 |cells cs=>dsimp only at hv;obtain⟨arr,el,fz,h1,h2,h3,h4⟩:=hat;obtain⟨x,hx,hr⟩:=h4.get j v hv;have hj:j<aa cs:=(zqe hv).1;refine⟨x,?_,hr⟩;simp only[cx]at h1;rw[List.getElem?_take_of_lt hj]at hx;simp[World.cell?,h1];simpa using hx
 |typed T cs=>dsimp only at hv;obtain⟨arr,fz,h1,h2,h3,h4⟩:=hat;obtain⟨x,hx,hr⟩:=h4.get j v hv;have hj:j<aa cs:=(zqe hv).1;refine⟨x,?_,hr⟩;simp only[cx]at h1;rw[List.getElem?_take_of_lt hj]at hx;simp[World.cell?,h1];simpa using hx
 |dead=>simp at hv
 |map _ _=>simp at hv
 |loop _ _ _ _ _ _ _=>simp at hv
 |misc _=>simp at hv
theorem HSim.cellsTake(hs:HSim e ok pl h w){id b:Nat}(hb:pl id=al b)(off:Nat):∀(n:Nat),off+n<=aa (fA h id) ->
 ∃xs:List Value,aa xs=n/\(∀j v,xs[j]? =al v->w.cell? ⟨b,off+j,aq⟩=al v)/\VList (cx ok pl w) (((fA h id).drop off).take n) xs
 |0,_=>⟨[],rfl,by simp,by simp[VList]⟩
 |n+1,hn=>by
  obtain⟨xs,h1,h2,h3⟩:=HSim.cellsTake hs hb off n (by omega);obtain⟨v,hv⟩:∃v,(fA h id)[off+n]? =al v:=⟨_,zqk (by omega)⟩;obtain⟨x,hx1,hx2⟩:=hs.cellsAt hb hv;refine⟨xs++[x],by simp[h1],λj u hj=> ?_,?_⟩
  ·by_cases hjn:j<n
   ·rw[zqj (by omega)]at hj;exact h2 j u hj
   ·have:j=n:=by have:=(zqe hj).1;simp[h1]at this;omega
    subst this;rw[zsb (by omega)]at hj;simp[h1]at hj;subst hj;exact hx1
  ·have:((fA h id).drop off).take (n+1)=((fA h id).drop off).take n++[v]:=by
    rw[List.take_succ_eq_append_getElem (by simp;omega)]
    congr 1
    simp only[List.getElem_drop];have:=(zqe hv).2;rw[this]
   rw[this];refine h3.append ?_;simp only[VList];exact⟨x,[],rfl,hx2,rfl⟩
def yB(P:Program)(h:H)(t:TypeId)(x:V):PV :=
 match ti P t with
 |some r=>match x with
  | .lp id off=>(off+r.size<=aa (fA h id)/\(r.agg=ac->r.size=1),V.sub (fA h id) off r.size r.agg)
  | .ip (.agg vs)=>(r.agg=ab/\r.size=aa vs,.agg vs)
  | .ip e=>(r.agg=ac/\e.one=ab,e)
  |_=>fJ
 |none=>fJ
theorem yC(hs:HSim e ok pl h w){t:TypeId}{x:V}{xv:Value}(hx:VRel (cx ok pl w) x xv):aH P (cx ok pl w) (Instr.loadAt t xv) (yB P h t x):=by
 unfold yB;split
 ·rename_i r hr;obtain⟨i,d,z,hT⟩:=aG hr;split
  ·rename_i id off;rintro⟨h1,h2⟩;simp only[VRel]at hx;obtain⟨b,hb,rfl⟩:=hx;have hb':pl id=al b:=hb;cases ha:r.agg with
   |true =>
    obtain⟨xs,h3,h4,h5⟩:=hs.cellsTake hb' off r.size h1;refine⟨.agg xs.toArray,?_,?_⟩
    ·have:=run_loadCells_list (P:=P) w ⟨b,off,aq⟩ xs (λj v hj=>by rw[dI];exact h4 j v hj);rw[h3]at this;simp[Instr.loadAt,Instr.sureAddr,loadVar,hT.agg,ha,aM,hT.run_size,cx,this]
    ·simp only[V.sub,cond_true,VRel];exact⟨_,rfl,by simpa using h5⟩
   |false =>
    have hsz:=h2 ha;obtain⟨v,hv⟩:∃v,(fA h id)[off]? =al v:=⟨_,zqk (by omega)⟩;obtain⟨y,hy1,hy2⟩:=hs.cellsAt hb' hv;refine⟨y,?_,?_⟩
    ·simp[Instr.loadAt,Instr.sureAddr,loadVar,hT.agg,ha,aM,cx,hy1]
    ·simp only[V.sub,cond_false,zqg,hv,Option.getD_some];exact hy2
  ·rename_i vs;rintro⟨ha,h2⟩;simp only[VRel]at hx;obtain⟨b,o,ev,rfl,h3,h4,cs,rfl,hcs⟩:=hx;have hl:=hcs.length;refine⟨.agg cs,?_,?_⟩
   ·have:=run_loadCells_list (P:=P) w ⟨b,o,aq⟩ cs.toList (λj v hj=>by
     have hlt:j<cs.size:=by simpa using(zqe hj).1
     rw[dI];exact((h3 j hlt).2).trans (by simpa [Value.cells]using hj))
    rw[hl,<-h2]at this;simp[Instr.loadAt,Instr.sureAddr,loadVar,hT.agg,ha,aM,hT.run_size,cx,this]
   ·simp only[VRel];exact⟨cs,rfl,VList.ofdata _ _ hcs⟩
  ·rename_i e' _;rintro⟨ha,h2⟩;simp only[VRel]at hx;obtain⟨b,o,ev,rfl,h3,h4,h5⟩:=hx;have h1:=h5.one h2;refine⟨ev,?_,VRel.ofdata _ _ h5⟩;have:=(h3 0 h4).2;rw[h1]at this;have hc:w.cell? ⟨b,o,aq⟩=al ev:=by simpa [cx]using this
   simp[Instr.loadAt,Instr.sureAddr,loadVar,hT.agg,ha,aM,cx,hc]
  ·exact aH.no
 ·exact aH.no
theorem EK{c:C}{b:Nat}:∀ {vs:List V} {off:Nat} {xs:List Value},(∀j v,xs[j]? =al v->c.ok b/\c.w.cell? ⟨b,off+j,aq⟩=al v)->VList c vs xs->(vs.all V.one)=ab->VElems c 1 vs b off
 |[],off,xs,_,_,_=>by simp only[VElems]
 |v::vs,off,xs,h,hl,ho=>by
  simp only[VList]at hl;obtain⟨y,ys,rfl,h1,h2⟩:=hl;simp only[List.all_cons,zqf]at ho;have hone:=h1.one ho.1;have h0:=h 0 y (by simp);simp only[VElems];refine⟨⟨y,by rw[hone];rfl,λj hj=> ?_,h1⟩,EK (λj v hj=> ?_) h2 ho.2⟩
  ·rw[hone]at hj ⊢;have hj0:j=0:=by simpa using hj
   subst hj0;exact⟨h0.1,by rw[h0.2];rfl⟩
  ·have:=h (j+1) v (by simpa using hj)
   rwa [show off+1+j=off+(j+1) by omega]
def CP(P:Program)(t:TypeId)(x:V)(lo hi mx:Option V):PV :=
 let l:Option Int:=match lo with|none=>al 0|some (.int _ n)=>al n|_=>aq
 match ti P t,l with
 |some r,al l=>match x with
  | .str s=>match hi,mx with
   |none,aq=>(r.kind= .str/\0<=l/\l<=aa s,.str (s.drop l.toNat))
   |some (.int _ n),aq=>(r.kind= .str/\0<=l/\l<=n/\n<=aa s,.str ((s.drop l.toNat).take (n.toNat-l.toNat)))
   |_,_=>fJ
  | .is ex k es=>match r.kind with
   | .slice el=>match ti P el with
    |some re=>match hi,mx with
     |none,aq=>(re.size=k/\0<=l/\l<=aa es,.is ex k (es.drop l.toNat))
     |some (.int _ n),aq=>(re.size=k/\0<=l/\l<=n/\n<=aa es,.is ac k ((es.drop l.toNat).take (n.toNat-l.toNat)))
     |some (.int _ n),al (.int _ m)=>(re.size=k/\0<=l/\l<=n/\n<=aa es/\m=n,.is ab k ((es.drop l.toNat).take (n.toNat-l.toNat)))
     |_,_=>fJ
    |none=>fJ
   |_=>fJ
  | .ls id k off len cap=>match r.kind with
   | .slice el=>match ti P el with
    |some re=>match hi,mx with
     |none,aq=>(re.size=k/\0<=l/\l<=len,.ls id k (off+l.toNat*k) (len-l.toNat) (cap-l.toNat))
     |some (.int _ n),aq=>(re.size=k/\0<=l/\l<=n/\(n<=len\/n<=cap),.ls id k (off+l.toNat*k) (n.toNat-l.toNat) (cap-l.toNat))
     |_,_=>fJ
    |none=>fJ
   |_=>fJ
  | .ip (.agg vs)=>match r.kind with
   | .arr m el _=>match ti P el with
    |some re=>match lo,hi,mx with
     |none,aq,aq=>(aa vs=m/\re.size=1/\m<=maxLen/\(vs.all V.one)=ab,.is ac 1 vs)
     |_,_,_=>fJ
    |none=>fJ
   |_=>fJ
  |_=>fJ
 |_,_=>fJ
theorem iC{P:Program}{w:World}(isSlice:Bool)(len cap:Nat)(kl:IntKind)(lo:Option V)(hi mx:Option V)(lov hiv mxv:Option Value)(l n m:Int)
 (hl:(lov=aq/\l=0)\/∃k,lov=al (.int k l)) (hh:(hiv=aq/\mxv=aq/\n=len)\/∃k,hiv=al (.int k n)) (hm:(mxv=aq/\m=cap)\/∃k,mxv=al (.int k m))
 (h0:0<=l) (h1:l<=n) (h2:n<=m) (h3:m<=cap):(Instr.sliceBounds isSlice len cap lov hiv mxv).run P w= .ok (l.toNat,n.toNat,m.toNat) w:=by
 have hb:∀(k:IntKind)(i:Int)(y:Nat)(code:BoundsCode),0<=i->i<=y->(Instr.sliceBound (.int k i) y code).run P w= .ok i.toNat w:=by intro k i y code h4 h5;simp[Instr.sliceBound,asIntOf,aM,h4,h5]
 have h5:0<=n:=by omega
 have h6:0<=m:=by omega
 have q1:n<=(m.toNat:Int):=by omega
 have q2:l<=(n.toNat:Int):=by omega
 have q3:(cap:Int).toNat=cap:=by omega
 unfold Instr.sliceBounds;rcases hm with⟨rfl,rfl⟩|⟨km,rfl⟩<;>rcases hh with⟨rfl,h7,rfl⟩|⟨kh,rfl⟩<;>rcases hl with⟨rfl,rfl⟩|⟨kl',rfl⟩<;>first|(cases h7;done)|skip
 all_goals simp_all [aM]
theorem YH {c : C} {lo : Option V} {lov : Option Value} {l : Int} (h : (match lo with | none => al 0 | some (.int _ n) => al n | _ => aq) = al l)
 (hr:∀v,lo=al v->∃x,lov=al x/\VRel c v x) (hn:lo=aq->lov=aq):(lov=aq/\l=0)\/∃k,lov=al (.int k l):=by
 split at h
 ·exact .inl ⟨hn rfl,by cases h;rfl⟩
 ·rename_i k n;obtain⟨x,h1,h2⟩:=hr _ rfl;simp only[VRel]at h2;cases h;subst h2;exact .inr ⟨k,h1⟩
 ·cases h
theorem LV{t:TypeId}{x:V}{xv:Value}{lo hi mx:Option V}{lov hiv mxv:Option Value}(hx:VRel c x xv)
 (hlo:(∀v,lo=al v->∃x,lov=al x/\VRel c v x)/\(lo=aq->lov=aq))
 (hhi:(∀v,hi=al v->∃x,hiv=al x/\VRel c v x)/\(hi=aq->hiv=aq))
 (hmx:(∀v,mx=al v->∃x,mxv=al x/\VRel c v x)/\(mx=aq->mxv=aq)) :
 aH P c (Instr.sliceAt t xv lov hiv mxv) (CP P t x lo hi mx):=by
 unfold CP;dsimp only;split
 ·rename_i r l hr hl;obtain⟨i,d,z,hT⟩:=aG hr;have hl':=YH hl hlo.1 hlo.2;split
  ·rename_i s;simp only[VRel]at hx;obtain⟨u,rfl,rfl,hu⟩:=hx;split
   ·rintro⟨hk,h0,h1⟩;have hd:=hT.str hk;subst hd;have hh:=hhi.2 rfl;have hm:=hmx.2 rfl;subst hh;subst hm;have hb:=iC (P:=P) (w:=c.w) ac u.size u.size .i64 lo aq aq lov aq aq l u.size u.size hl' (.inl ⟨rfl,rfl,rfl⟩) (.inl ⟨rfl,rfl⟩) h0 (by rw[iL];exact h1) (by omega) (by omega);refine⟨.string (u.extract l.toNat u.size),?_,?_⟩
    ·simp[Instr.sliceAt,hT.run_und,aM,Instr.slice,hb]
    ·simp only[VRel];refine⟨_,rfl,?_,by rw[List.length_drop];omega⟩;rw[Lib.extract_data,zqh];rw[List.length_drop,iL];omega
   ·rename_i k n;rintro⟨hk,h0,h1,h2⟩;have hd:=hT.str hk;subst hd;obtain⟨hv,hh1,hh2⟩:=hhi.1 _ rfl;simp only[VRel]at hh2;have hm:=hmx.2 rfl;subst hh1;subst hh2;subst hm;have hb:=iC (P:=P) (w:=c.w) ac u.size u.size .i64 lo (al (.int k n)) aq lov (al (.int k n)) aq l n u.size hl' (.inr ⟨k,rfl⟩) (.inl ⟨rfl,rfl⟩) h0 h1 (by rw[iL];exact h2) (by omega);refine⟨.string (u.extract l.toNat n.toNat),?_,?_⟩
    ·simp[Instr.sliceAt,hT.run_und,aM,Instr.slice,hb]
    ·simp only[VRel];refine⟨_,rfl,by rw[Lib.extract_data],?_⟩;rw[zrl,List.length_drop];omega
   ·exact aH.no
  ·rename_i ex k es;simp only[VRel]at hx;obtain⟨a,cp,rfl,hlen,hmax,hex,hh⟩:=hx;split
   ·rename_i el hk;have hd:=hT.slice hk;subst hd;split
    ·rename_i re hre;obtain⟨i',d',z',hT'⟩:=aG hre;have sub:∀(lo n:Nat)(a':Option Addr)(cp':Nat)(ex':Bool),lo<=n->n<=aa es->n-lo<=cp'->cp'<=maxLen->(ex'=ab->cp'=n-lo) ->
      (es≠[]->lo<n->a'=a.map (·.add (lo*k))) ->
      VRel c (.is ex' k ((es.drop lo).take (n-lo))) (.slice a' (n-lo) cp'):=by
      intro lo n a' cp' ex' h1 h2 h3 h4 h5 h6;have hl:aa ((es.drop lo).take (n-lo))=n-lo:=by rw[zrl,List.length_drop];omega
      simp only[VRel];refine⟨a',cp',by rw[hl],by rw[hl];exact h3,h4,by rw[hl];exact h5,?_⟩;rcases hh with rfl|⟨b,off,rfl,hel⟩
      ·left;simp
      ·by_cases hln:lo<n
       ·right;have hne:es≠[]:=by rintro rfl;simp at h2;omega
        refine⟨b,off+lo*k,?_,hel.sub lo (n-lo)⟩;rw[h6 hne hln];simp[dI]
       ·left;exact zse (by rw[hl];omega)
     split
     ·rintro⟨hs,h0,h1⟩;have hh1:=hhi.2 rfl;have hm:=hmx.2 rfl;subst hh1;subst hm;have hb:=iC (P:=P) (w:=c.w) ab (aa es) cp .i64 lo aq aq lov aq aq l (aa es) cp hl' (.inl ⟨rfl,rfl,rfl⟩) (.inl ⟨rfl,rfl⟩) h0 (by omega) (by omega) (by omega);have e1:es.drop l.toNat=(es.drop l.toNat).take (aa es-l.toNat):=by rw[zqh];simp
      refine⟨.slice (if cp=l.toNat then a else a.map (·.add (l.toNat*k))) (aa es-l.toNat) (cp-l.toNat),?_,?_⟩
      ·simp[Instr.sliceAt,hT.run_und,aM,Instr.slice,hb,hT'.run_size,hs]
      ·rw[e1];refine sub l.toNat (aa es) _ _ ex (by omega) (by omega) (by omega) (by omega) (λhx=>by have:=hex hx;omega) (λ_ hlt=> ?_);rw[if_neg (by omega)]
     ·rename_i kk n;rintro⟨hs,h0,h1,h2⟩;obtain⟨hv,hh1,hh2⟩:=hhi.1 _ rfl;simp only[VRel]at hh2;have hm:=hmx.2 rfl;subst hh1;subst hh2;subst hm;have hb:=iC (P:=P) (w:=c.w) ab (aa es) cp .i64 lo (al (.int kk n)) aq lov (al (.int kk n)) aq l n cp hl' (.inr ⟨kk,rfl⟩) (.inl ⟨rfl,rfl⟩) h0 h1 (by omega) (by omega);refine⟨.slice (if cp=l.toNat then a else a.map (·.add (l.toNat*k))) (n.toNat-l.toNat) (cp-l.toNat),?_,?_⟩
      ·simp[Instr.sliceAt,hT.run_und,aM,Instr.slice,hb,hT'.run_size,hs]
      ·refine sub l.toNat n.toNat _ _ ac (by omega) (by omega) (by omega) (by omega) (λhx=>by cases hx) (λ_ hlt=> ?_);rw[if_neg (by omega)]
     ·rename_i kk n km m;rintro⟨hs,h0,h1,h2,h3⟩;obtain⟨hv,hh1,hh2⟩:=hhi.1 _ rfl;obtain⟨mv,hm1,hm2⟩:=hmx.1 _ rfl;simp only[VRel]at hh2 hm2;subst hh1;subst hh2;subst hm1;subst hm2;have hb:=iC (P:=P) (w:=c.w) ab (aa es) cp .i64 lo (al (.int kk n)) (al (.int km m)) lov (al (.int kk n)) (al (.int km m)) l n m hl' (.inr ⟨kk,rfl⟩) (.inr ⟨km,rfl⟩) h0 h1 (by omega) (by omega);refine⟨.slice (if m.toNat=l.toNat then a else a.map (·.add (l.toNat*k))) (n.toNat-l.toNat) (m.toNat-l.toNat),?_,?_⟩
      ·simp[Instr.sliceAt,hT.run_und,aM,Instr.slice,hb,hT'.run_size,hs]
      ·refine sub l.toNat n.toNat _ _ ab (by omega) (by omega) (by omega) (by omega) (λhx=>by omega) (λ_ hlt=> ?_);rw[if_neg (by omega)]
     ·exact aH.no
    ·exact aH.no
   ·exact aH.no
  ·rename_i id k off len cap;simp only[VRel]at hx;obtain⟨a,cp,rfl,hcap,hlen,hmax,hh⟩:=hx;split
   ·rename_i el hk;have hd:=hT.slice hk;subst hd;split
    ·rename_i re hre;obtain⟨i',d',z',hT'⟩:=aG hre;have sub:∀(lo n:Nat),lo<=n->n<=cp ->
      VRel c (.ls id k (off+lo*k) (n-lo) (cap-lo)) (.slice (if cp=lo then a else a.map (·.add (lo*k))) (n-lo) (cp-lo)):=by
      intro lo n h1 h2;simp only[VRel];refine⟨_,_,rfl,by omega,by omega,by omega,?_⟩;by_cases hc:cp-lo=0
      ·exact .inl hc
      ·rcases hh with hh|⟨b,arr,el',fz,hb,rfl,h3,h4⟩
       ·omega
       ·refine .inr ⟨b,arr,el',fz,hb,?_,h3,?_⟩
        ·rw[if_neg (by omega)];simp[dI]
        ·have:off+lo*k+(cp-lo)*k=off+cp*k:=by rw[Nat.add_assoc,<-Nat.add_mul];congr 2;omega
         omega
     split
     ·rintro⟨hs,h0,h1⟩;have hh1:=hhi.2 rfl;have hm:=hmx.2 rfl;subst hh1;subst hm;have hb:=iC (P:=P) (w:=c.w) ab len cp .i64 lo aq aq lov aq aq l len cp hl' (.inl ⟨rfl,rfl,rfl⟩) (.inl ⟨rfl,rfl⟩) h0 (by omega) (by omega) (by omega);refine⟨.slice (if cp=l.toNat then a else a.map (·.add (l.toNat*k))) (len-l.toNat) (cp-l.toNat),?_,sub l.toNat len (by omega) (by omega)⟩;simp[Instr.sliceAt,hT.run_und,aM,Instr.slice,hb,hT'.run_size,hs]
     ·rename_i kk n;rintro⟨hs,h0,h1,h2⟩;obtain⟨hv,hh1,hh2⟩:=hhi.1 _ rfl;simp only[VRel]at hh2;have hm:=hmx.2 rfl;subst hh1;subst hh2;subst hm;have hb:=iC (P:=P) (w:=c.w) ab len cp .i64 lo (al (.int kk n)) aq lov (al (.int kk n)) aq l n cp hl' (.inr ⟨kk,rfl⟩) (.inl ⟨rfl,rfl⟩) h0 h1 (by omega) (by omega);refine⟨.slice (if cp=l.toNat then a else a.map (·.add (l.toNat*k))) (n.toNat-l.toNat) (cp-l.toNat),?_,sub l.toNat n.toNat (by omega) (by omega)⟩;simp[Instr.sliceAt,hT.run_und,aM,Instr.slice,hb,hT'.run_size,hs]
     ·exact aH.no
    ·exact aH.no
   ·exact aH.no
  ·rename_i vs;simp only[VRel]at hx;obtain⟨b,off,ev,rfl,hrd,hpos,cs,rfl,hcs⟩:=hx;split
   ·rename_i m el q hk;have hd:=hT.arr hk;subst hd;split
    ·rename_i re hre;obtain⟨i',d',z',hT'⟩:=aG hre;split
     ·rintro⟨hm,hs,hM,ho⟩;have hl1:=hlo.2 rfl;have hh1:=hhi.2 rfl;have hm1:=hmx.2 rfl;subst hl1;subst hh1;subst hm1;have hl0:l=0:=by simpa using hl.symm
      subst hl0;have hb:=iC (P:=P) (w:=c.w) ac m m .i64 aq aq aq aq aq aq 0 m m (.inl ⟨rfl,rfl⟩) (.inl ⟨rfl,rfl,rfl⟩) (.inl ⟨rfl,rfl⟩) (by omega) (by omega) (by omega) (by omega);refine⟨.slice (al ⟨b,off,aq⟩) m m,?_,?_⟩
      ·simp[Instr.sliceAt,Instr.sureAddr,hT.run_und,aM,hb,hT'.run_size,hs,dI]
      ·simp only[VRel];refine⟨al ⟨b,off,aq⟩,m,by rw[hm],by omega,hM,(λh=>by cases h),.inr ⟨b,off,rfl,EK (xs:=cs.toList) (λj v hj=> ?_) hcs ho⟩⟩;have hj':cs[j]? =al v:=by simpa using hj
       have hlt:j<cs.size:=(Array.getElem?_eq_some_iff.1 hj').1;obtain⟨r1,r2⟩:=hrd j (by simpa only[Value.cells]using hlt);exact⟨r1,by rw[<-hj'];exact r2⟩
     ·exact aH.no
    ·exact aH.no
   ·exact aH.no
  ·exact aH.no
 ·exact aH.no
end
section
variable{P:Program}{w:World}
theorem jU{e:TypeId}{q:IntKind}(he:P.underlying e=al (.int q)){xs:Array Value}{i:Nat}{a:Value}(h:xs[i]? =al a):(part e xs i).run P w= .ok a w :=
 run_part_plain w (by simp[Program.plainKey,he]) h
theorem Oe{e:TypeId}{q:IntKind}(he:P.underlying e=al (.int q))(em:Bool)(n:Nat)(a:Value):(Instr.checkKey em (n+1) e a).run P w= .ok () w:=by simp[Instr.checkKey,run_underlying he]
theorem LX{k e:TypeId}{q:IntKind}(hk:P.underlying k=al (.array 2 e))(he:P.underlying e=al (.int q))(em:Bool)(n:Nat)(a b:Value)(hs:(sizeOf e).run P w= .ok 1 w) :
 (Instr.checkKey em (n+2) k (.agg #[a,b])).run P w= .ok () w:=by
 have h0:(part e #[a,b] (0*1)).run P w= .ok a w:=jU he (by simp);have h1:(part e #[a,b] (1*1)).run P w= .ok b w:=jU he (by simp);rw[Instr.checkKey];simp[run_underlying hk,Std.Legacy.Range.forIn_eq_forIn_range',List.range',hs,h0,h1,Oe he,Sem.run_bind,aM]
theorem pg{e:TypeId}{q:IntKind}(he:P.underlying e=al (.int q))(n:Nat)(a b:Int):(Op.equalIn (n+1) e (.int q a) (.int q b)).run P w= .ok (a==b) w:=by simp[Op.equalIn,run_underlying he]
theorem Be{k e:TypeId}{q:IntKind}(hk:P.underlying k=al (.array 2 e))(he:P.underlying e=al (.int q))(n:Nat)(a b c d:Int)(hs:(sizeOf e).run P w= .ok 1 w) :
 (Op.equalIn (n+2) k (.agg #[.int q a,.int q b]) (.agg #[.int q c,.int q d])).run P w= .ok ((a==c)&&(b==d)) w:=by
 have h0:(part e #[.int q a,.int q b] (0*1)).run P w= .ok (.int q a) w:=jU he (by simp);have h1:(part e #[.int q a,.int q b] (1*1)).run P w= .ok (.int q b) w:=jU he (by simp);have g0:(part e #[.int q c,.int q d] (0*1)).run P w= .ok (.int q c) w:=jU he (by simp);have g1:(part e #[.int q c,.int q d] (1*1)).run P w= .ok (.int q d) w:=jU he (by simp);rw[Op.equalIn];simp[run_underlying hk,Std.Legacy.Range.forIn_eq_forIn_range',List.range',hs,pg he,h0,h1,g0,g1,Sem.run_bind,aM];simp only[Nat.one_mul]at h1 g1;have e1:∀x y:Int,(x==y)=ar (x=y):=λx y=>rfl;by_cases ha:a=c
 ·subst ha;by_cases hb:b=d
  ·subst hb;simp[h1,g1,pg he,Sem.run_bind,aM]
  ·have hb':(b==d)=ac:=by simpa using hb
   simp[h1,g1,pg he,Sem.run_bind,aM,hb']
 ·simp[ha,Sem.run_bind,aM]
end
def keq:K->V->V->Option Bool
 | .int _,.int k a,.int k' b=>if k=k' then al (a==b)else aq
 | .str,.str a,.str b=>al (a==b)
 | .bool,.bool a,.bool b=>al (a==b)
 | .arr n _ (al q),.agg [.int k a,.int k' b],.agg [.int l c,.int l' d]=>if n=2/\k=q/\k'=q/\l=q/\l'=q then al ((a==c)&&(b==d))else aq
 |_,_,_=>aq
def jm(kd:K)(key:V):List V->Option (Option Nat)
 |[]=>al aq
 |k::ks=>match keq kd key k with
  |some ab=>al (al 0)
  |some ac=>match jm kd key ks with
   |some (al i)=>al (al (i+1))
   |r=>r
  |none=>aq
section
variable{P:Program}{c:C}{e:E}{ok:Nat->Prop}{pl:Nat->Option Nat}{w:World}{h:H}
theorem Og{t:TypeId}{r:TI}{i:TypeInfo}{d:TypeDesc}{z:Value}(hT:TIs P t r i d z){a b:V}{av bv:Value}{q:Bool}(ha:VRel c a av)(hb:VRel c b bv)
 (hna:∀n e' q,r.kind≠ .arr n e' q) (hq:keq r.kind a b=al q):Instr.sameNow d av bv=al q:=by
 unfold keq at hq;split at hq
 ·rename_i hk;rw[hT.int hk];simp only[VRel]at ha hb;subst ha;subst hb;simpa [Instr.sameNow]using hq
 ·rename_i hk;rw[hT.str hk];simp only[VRel]at ha hb;obtain⟨s,rfl,rfl,_⟩:=ha;obtain⟨u,rfl,rfl,_⟩:=hb;rw[<-hq];simp only[Instr.sameNow,beq_toListBytes,ByteArray.toList_eq]
 ·rename_i hk;rw[hT.bool hk];simp only[VRel]at ha hb;subst ha;subst hb;simpa [Instr.sameNow]using hq
 ·rename_i hk;exact absurd hk (hna _ _ _)
 ·cases hq
theorem EL{t:TypeId}{r:TI}{i:TypeInfo}{d:TypeDesc}{z:Value}(hT:TIs P t r i d z)(hna:∀n e' q,r.kind≠ .arr n e' q){key:V}{kv:Value}(hk:VRel c key kv) :
 ∀(ks:List V)(es:List MapEntry)(j:Nat)(q:Option Nat),VList c ks (es.map (·.key))->jm r.kind key ks=al q ->
  ∃a,Instr.findNow d kv es j=al a/\(match q with
   |none=>a=aq
   |some n=>∃en,es[n]? =al en/\a=al (j+n,en.val))
 |[],es,j,q,hr,hq=>by
  simp only[VList]at hr;have:es=[]:=by simpa using hr
  subst this;simp only[jm]at hq;cases hq;exact⟨aq,rfl,rfl⟩
 |k::ks,es,j,q,hr,hq=>by
  simp only[VList]at hr;obtain⟨y,ys,h1,h2,h3⟩:=hr;cases es with
  |nil=>cases h1
  |cons en es =>
   simp only[zrd,List.cons.injEq]at h1;obtain⟨rfl,rfl⟩:=h1;simp only[jm]at hq;split at hq
   ·rename_i hb;cases hq;exact⟨al (j,en.val),by simp[Instr.findNow,Og hT hk h2 hna hb],en,rfl,by simp⟩
   ·rename_i hb;have hf:∀(q':Option Nat),jm r.kind key ks=al q'->∃a,Instr.findNow d kv es (j+1)=al a/\(match q' with
     |none=>a=aq
     |some n=>∃en,es[n]? =al en/\a=al (j+1+n,en.val)):=λq' hq'=>EL hT hna hk ks es (j+1) q' h3 hq'
    split at hq
    ·rename_i n hn;cases hq;obtain⟨a,h4,en',h5,h6⟩:=hf _ hn;refine⟨a,by simp[Instr.findNow,Og hT hk h2 hna hb,h4],en',by simpa using h5,?_⟩;rw[h6];congr 2;omega
    ·rename_i r' hr';cases hm:jm r.kind key ks with
     |none=>rw[hm]at hq;cases hq
     |some q' =>
      cases q' with
      |some n=>exact absurd hm (hr' n)
      |none=>rw[hm]at hq;cases hq;obtain⟨a,h4,h5⟩:=hf aq hm;exact⟨a,by simp[Instr.findNow,Og hT hk h2 hna hb,h4],h5⟩
   ·cases hq
theorem wV{t:TypeId}{r:TI}{i:TypeInfo}{d:TypeDesc}{z:Value}(hT:TIs P t r i d z){n e':Nat}{q0:Option IntKind}(hka:r.kind= .arr n e' q0){key:V}{kv:Value}(hk:VRel c key kv) :
 ∀(ks:List V)(es:List MapEntry)(j:Nat)(q:Option Nat),VList c ks (es.map (·.key))->jm r.kind key ks=al q ->
  ∃a,(Instr.findAsking t kv es j).run P w= .ok a w/\(match q with
   |none=>a=aq
   |some n=>∃en,es[n]? =al en/\a=al (j+n,en.val))
 |[],es,j,q,hr,hq=>by
  simp only[VList]at hr;have:es=[]:=by simpa using hr
  subst this;simp only[jm]at hq;cases hq;exact⟨aq,rfl,rfl⟩
 |k::ks,es,j,q,hr,hq=>by
  simp only[VList]at hr;obtain⟨y,ys,h1,h2,h3⟩:=hr;cases es with
  |nil=>cases h1
  |cons en es =>
   simp only[zrd,List.cons.injEq]at h1;obtain⟨rfl,rfl⟩:=h1;have heq:∀b,keq r.kind key k=al b->(Op.equal t kv en.key).run P w= .ok b w:=by
    intro b hb;rw[hka]at hb;unfold keq at hb;split at hb<;>first|(cases ‹K.arr _ _ _=_›;done)|skip
    ·rename_i q1 k1 a1 k2 b1 l1 c1 l2 d1 hk1;cases hk1;split at hb
     ·rename_i hc;obtain⟨hn2,hk1,hk2,hl1,hl2⟩:=hc;subst hn2;cases hb;obtain⟨hd,he,i',hi,hc1⟩:=hT.arrQ hka;subst hd;simp only[VRel,VList]at hk h2;obtain⟨cs,rfl,_,_,hcs,rfl,_,_,rfl,rfl,rfl⟩:=hk;obtain⟨ds,hds,_,_,hds2,rfl,_,_,rfl,rfl,rfl⟩:=h2;rw[hds];have e1:cs=#[.int k1 a1,.int k2 b1]:=Array.toList_inj.1 hcs;have e2:ds=#[.int l1 c1,.int l2 d1]:=Array.toList_inj.1 hds2;rw[e1,e2,hk1,hk2,hl1,hl2];exact Be hT.und he 9998 _ _ _ _ (by rw[run_sizeOf w hi,hc1])
     ·cases hb
    ·cases hb
   simp only[jm]at hq;split at hq
   ·rename_i hb;cases hq;exact⟨al (j,en.val),by simp[Instr.findAsking,heq _ hb,aM],en,rfl,by simp⟩
   ·rename_i hb;have hf:∀(q':Option Nat),jm r.kind key ks=al q'->∃a,(Instr.findAsking t kv es (j+1)).run P w= .ok a w/\(match q' with
     |none=>a=aq
     |some n=>∃en,es[n]? =al en/\a=al (j+1+n,en.val)):=λq' hq'=>wV hT hka hk ks es (j+1) q' h3 hq'
    split at hq
    ·rename_i n hn;cases hq;obtain⟨a,h4,en',h5,h6⟩:=hf _ hn;refine⟨a,by simp[Instr.findAsking,heq _ hb,h4,aM],en',by simpa using h5,?_⟩;rw[h6];congr 2;omega
    ·rename_i r' hr';cases hm:jm r.kind key ks with
     |none=>rw[hm]at hq;cases hq
     |some q' =>
      cases q' with
      |some n=>exact absurd hm (hr' n)
      |none=>rw[hm]at hq;cases hq;obtain⟨a,h4,h5⟩:=hf aq hm;exact⟨a,by simp[Instr.findAsking,heq _ hb,h4,aM],h5⟩
   ·cases hq
theorem qH{t:TypeId}{r:TI}{i:TypeInfo}{d:TypeDesc}{z:Value}(hT:TIs P t r i d z){key:V}{kv:Value}(hk:VRel c key kv)
 (ks:List V) (es:List MapEntry) (q:Option Nat):VList c ks (es.map (·.key))->jm r.kind key ks=al q ->
  ∃a,(Instr.findKey t kv es).run P w= .ok a w/\(match q with
   |none=>a=aq
   |some n=>∃en,es[n]? =al en/\a=al (0+n,en.val)):=by
 intro hr hq;by_cases hna:∀n e' q,r.kind≠ .arr n e' q
 ·obtain⟨a,h1,h2⟩:=EL hT hna hk ks es 0 q hr hq;exact⟨a,MapKept.run_findKey hT.und h1,h2⟩
 ·simp only[Classical.not_forall,ne_eq,Classical.not_not]at hna;obtain⟨n,e',q0,hka⟩:=hna;obtain⟨a,h1,h2⟩:=wV (w:=w) hT hka hk ks es 0 q hr hq;refine⟨a,?_,h2⟩;rw[run_findKey_eq w (by rw[hT.und,hT.arr hka]) kv es];exact h1
def K.keyOk:K->V->Bool
 | .int _,.int _ _=>ab
 | .str,.str _=>ab
 | .bool,.bool _=>ab
 | .arr n _ (al q),.agg [.int k _,.int k' _]=>ar (n=2)
 |_,_=>ac
theorem mZ{t:TypeId}{r:TI}{i:TypeInfo}{d:TypeDesc}{z:Value}(hT:TIs P t r i d z){key:V}{kv:Value}(hk:VRel c key kv)(ho:r.kind.keyOk key=ab)(em:Bool)(w:World) :
 (Instr.checkKey em 10000 t kv).run P w= .ok () w:=by
 by_cases hna:∃n e' q,r.kind= .arr n e' (al q)
 ·obtain⟨n,e',q,hka⟩:=hna;rw[hka]at ho;unfold K.keyOk at ho;split at ho<;>first|(cases ‹K.arr _ _ _=_›;done)|skip
  ·rename_i n1 q1 k1 a1 k2 b1 hk1;cases hk1;have hn2:=zqs ho;subst hn2;obtain⟨hd,he,i',hi,hc1⟩:=hT.arrQ hka;subst hd;simp only[VRel,VList]at hk;obtain⟨cs,rfl,_,_,hcs,rfl,_,_,rfl,rfl,rfl⟩:=hk;have e1:cs=#[.int k1 a1,.int k2 b1]:=Array.toList_inj.1 hcs;rw[e1];exact LX hT.und he em 9998 _ _ (by rw[run_sizeOf w hi,hc1])
  ·cases ho
 unfold Instr.checkKey;simp only[Sem.run_bind,hT.run_und,aM];cases hkk:r.kind<;>rw[hkk]at ho<;>cases key<;>simp only[K.keyOk,zrm]at ho<;>simp only[VRel]at hk
 ·subst hk;rw[hT.bool hkk];rfl
 ·subst hk;rw[hT.int hkk];rfl
 ·obtain⟨s,rfl,_⟩:=hk;rw[hT.str hkk];rfl
 ·rename_i q vs;cases q with
  |none=>split at ho<;>first|(cases ‹K.arr _ _ _=_›;done)|(cases ho;done)|skip
  |some q=>exact absurd ⟨_,_,_,hkk⟩ hna
def rU(kd:K)(key:V)(ks vs:List V)(zero:V)(commaOk:Bool):PV :=
 match jm kd key ks with
 |some (al n)=>(True,bif commaOk then .tup [vs.getD n .any,.bool ab]else vs.getD n .any)
 |some aq=>(True,bif commaOk then .tup [zero,.bool ac]else zero)
 |none=>fJ
def xW(P:Program)(h:H)(t:TypeId)(x key:V)(commaOk:Bool):PV :=
 match ti P t with
 |some r=>match r.kind with
  | .map kt et=>match ti P kt,ti P et with
   |some rk,al re=>match x with
    | .nilm=>(rk.kind.keyOk key=ab,bif commaOk then .tup [re.zero,.bool ac]else re.zero)
    | .im ks vs=>let q:=rU rk.kind key ks vs re.zero commaOk;(rk.kind.keyOk key=ab/\q.1,q.2)
    | .lm id=>match h[id]? with
     |some (.map ks vs)=>let q:=rU rk.kind key ks vs re.zero commaOk;(rk.kind.keyOk key=ab/\q.1,q.2)
     |_=>fJ
    |_=>fJ
   |_,_=>fJ
  |_=>fJ
 |none=>fJ
theorem WI{m:C}{kt et:TypeId}{rk re:TI}{ik ie:TypeInfo}{dk de:TypeDesc}{zk ze:Value}(hK:TIs P kt rk ik dk zk)(hE:TIs P et re ie de ze)
 {key:V} {kv:Value} (hk:VRel m key kv) {ks vs:List V} {es:Array MapEntry} (h1:VList m ks (es.toList.map (·.key))) (h2:VList m vs (es.toList.map (·.val)))
 {commaOk:Bool} (hq:(rU rk.kind key ks vs re.zero commaOk).1) :
 (∃j v,(Instr.findKey kt kv es.toList).run P w= .ok (al (j,v)) w/\VRel m (rU rk.kind key ks vs re.zero commaOk).2 (if commaOk then .tuple #[v,.bool ab]else v)) \/
 ((Instr.findKey kt kv es.toList).run P w= .ok aq w/\VRel m (rU rk.kind key ks vs re.zero commaOk).2 (if commaOk then .tuple #[ze,.bool ac]else ze)):=by
 unfold rU at hq ⊢;split at hq
 ·rename_i n hn;obtain⟨a,h3,en,h4,rfl⟩:=qH (w:=w) hK hk ks es.toList _ h1 hn;have hlen:=h2.length;have hlt:n<aa es.toList:=(zqe h4).1;obtain⟨v,hv⟩:∃v,vs[n]? =al v:=⟨_,zqk (by simp at hlen hlt;omega)⟩;obtain⟨x,hx1,hx2⟩:=h2.get n v hv;rw[zqo,h4]at hx1;simp at hx1;subst hx1;refine .inl ⟨_,_,h3,?_⟩;simp only[zqg,hv,Option.getD_some];cases commaOk
  ·exact hx2
  ·simp only[cond_true,if_true,VRel,VList];exact⟨_,rfl,_,_,rfl,hx2,_,_,rfl,rfl,rfl⟩
 ·rename_i hn;obtain⟨a,h3,rfl⟩:=qH (w:=w) hK hk ks es.toList _ h1 hn;have hz:VRel m re.zero ze:=hE.zv▸dA m ze;refine .inr ⟨h3,?_⟩;cases commaOk
  ·exact hz
  ·simp only[cond_true,if_true,VRel,VList];exact⟨_,rfl,_,_,rfl,hz,_,_,rfl,rfl,rfl⟩
 ·exact hq.elim
theorem Io(hs:HSim e ok pl h w){t:TypeId}{x key:V}{xv kv:Value}{commaOk:Bool}(hx:VRel (cx ok pl w) x xv)(hk:VRel (cx ok pl w) key kv) :
 aH P (cx ok pl w) (Instr.lookup t xv kv commaOk) (xW P h t x key commaOk):=by
 unfold xW;split
 ·rename_i r hr;obtain⟨i,d,z,hT⟩:=aG hr;split
  ·rename_i kt et hkd;have hd:=hT.map hkd;subst hd;split
   ·rename_i rk re hrk hre;obtain⟨ik,dk,zk,hK⟩:=aG hrk;obtain⟨ie,de,ze,hE⟩:=aG hre;have fin:∀(es:Array MapEntry)(ks vs:List V),((xv= .map aq/\es=#[])\/∃b clk,xv= .map (al b)/\w.heap[b]? =al (.map es clk)) ->
     VList (cx ok pl w) ks (es.toList.map (·.key))->VList (cx ok pl w) vs (es.toList.map (·.val)) ->
     (rk.kind.keyOk key=ab/\(rU rk.kind key ks vs re.zero commaOk).1) ->
     ∃y,(Instr.lookup t xv kv commaOk).run P w= .ok y w/\VRel (cx ok pl w) (rU rk.kind key ks vs re.zero commaOk).2 y:=by
     rintro es ks vs hxv h1 h2 ⟨h3,h4⟩;rcases WI (P:=P) (w:=w) hK hE hk h1 h2 h4 with⟨j,v,h5,h6⟩|⟨h5,h6⟩
     ·refine⟨_,?_,h6⟩;rcases hxv with⟨rfl,rfl⟩|⟨b,clk,rfl,hb⟩
      ·simp[Instr.lookup,hT.run_und,aM,mZ hK hk h3,h5]
      ·simp[Instr.lookup,hT.run_und,aM,MapKept.run_getObj_map hb,mZ hK hk h3,h5]
     ·refine⟨_,?_,h6⟩;rcases hxv with⟨rfl,rfl⟩|⟨b,clk,rfl,hb⟩
      ·simp[Instr.lookup,hT.run_und,aM,mZ hK hk h3,h5,hE.run_zero]
      ·simp[Instr.lookup,hT.run_und,aM,MapKept.run_getObj_map hb,mZ hK hk h3,h5,hE.run_zero]
    split
    ·intro hko;simp only[VRel]at hx;subst hx;obtain⟨y,hy1,hy2⟩:=fin #[] [] [] (.inl ⟨rfl,rfl⟩) (by simp[VList]) (by simp[VList]) ⟨hko,by simp[rU,jm]⟩;exact⟨y,hy1,by simpa [rU,jm]using hy2⟩
    ·rename_i ks vs;intro hko;simp only[VRel]at hx;obtain⟨b,es,clk,rfl,h1,h2,h3,h4⟩:=hx;exact fin es ks vs (.inr ⟨b,clk,rfl,h2⟩) (VList.ofdata _ _ h3) (VList.ofdata _ _ h4.1) hko
    ·rename_i id;split
     ·rename_i ks vs ho;intro hko;simp only[VRel]at hx;obtain⟨b,hb,rfl⟩:=hx;obtain⟨o,ho',hat⟩:=hs.obj id b hb;rw[ho]at ho';cases ho';obtain⟨es,clk,h2,h3,h4⟩:=hat;exact fin es ks vs (.inr ⟨b,clk,rfl,h2⟩) h3 h4.1 hko
     ·exact aH.no
    ·exact aH.no
   ·exact aH.no
  ·exact aH.no
 ·exact aH.no
def _root_.Go.Abs.K.isSlice:K->Bool | .slice _=>ab|_=>ac
def _root_.Go.Abs.K.isMap:K->Bool | .map _ _=>ab|_=>ac
def Tv(P:Program)(h:H)(t:TypeId)(x:V):PV :=
 match ti P t with
 |some r=>match x with
  | .str l=>(r.kind= .str,.int .i64 (aa l))
  | .nils=>(r.kind.isSlice=ab,.int .i64 0)
  | .is _ _ es=>(r.kind.isSlice=ab,.int .i64 (aa es))
  | .ls _ _ _ len _=>(r.kind.isSlice=ab,.int .i64 len)
  | .nilm=>(r.kind.isMap=ab,.int .i64 0)
  | .im ks _=>(r.kind.isMap=ab,.int .i64 (aa ks))
  | .lm id=>match h[id]? with
   |some (.map ks _)=>(r.kind.isMap=ab,.int .i64 (aa ks))
   |_=>fJ
  |_=>match r.kind with
   | .arr n _ _=>(True,.int .i64 n)
   |_=>fJ
 |none=>fJ
theorem vN{k:K}(h:k.isSlice=ab):∃e,k= .slice e:=by cases k<;>simp_all [K.isSlice]
theorem CQ{k:K}(h:k.isMap=ab):∃a b,k= .map a b:=by cases k<;>simp_all [K.isMap]
theorem Tz(hs:HSim e ok pl h w){ts:Array TypeId}{t ty:TypeId}{x:V}{xv:Value}(ht:ts[0]? =al t)(hx:VRel (cx ok pl w) x xv) :
 aH P (cx ok pl w) (Builtin.len_ ts ty #[xv]) (Tv P h t x):=by
 unfold Tv;split
 ·rename_i r hr;obtain⟨i,d,z,hT⟩:=aG hr;have mp:∀ks:List V,(∃b es clk,xv= .map (al b)/\w.heap[b]? =al (.map es clk)/\es.size=aa ks)->r.kind.isMap=ab->(Builtin.len_ ts ty #[xv]).run P w= .ok (.int .i64 (aa ks)) w:=by
   rintro ks ⟨b,es,clk,rfl,hb,hl⟩ hk;obtain⟨k1,k2,hk⟩:=CQ hk;have hu:P.underlying t=al (.map k1 k2):=by rw[hT.und,hT.map hk]
   simp[Builtin.len_,ht,run_underlying hu,MapKept.run_getObj_map hb,aM,hl,goInt]
  split
  ·refine aH.int λhk=> ?_;simp only[VRel]at hx;obtain⟨s,rfl,rfl,_⟩:=hx;have hu:P.underlying t=al .string:=by rw[hT.und,hT.str hk]
   rw[<-iL];simp[Builtin.len_,ht,run_underlying hu,aM,goInt]
  ·refine aH.int λhk=> ?_;simp only[VRel]at hx;subst hx;obtain⟨k1,hk⟩:=vN hk;have hu:P.underlying t=al (.slice k1):=by rw[hT.und,hT.slice hk]
   simp[Builtin.len_,ht,run_underlying hu,aM,goInt]
  ·refine aH.int λhk=> ?_;simp only[VRel]at hx;obtain⟨a,cp,rfl,_⟩:=hx;obtain⟨k1,hk⟩:=vN hk;have hu:P.underlying t=al (.slice k1):=by rw[hT.und,hT.slice hk]
   simp[Builtin.len_,ht,run_underlying hu,aM,goInt]
  ·refine aH.int λhk=> ?_;simp only[VRel]at hx;obtain⟨a,cp,rfl,_⟩:=hx;obtain⟨k1,hk⟩:=vN hk;have hu:P.underlying t=al (.slice k1):=by rw[hT.und,hT.slice hk]
   simp[Builtin.len_,ht,run_underlying hu,aM,goInt]
  ·refine aH.int λhk=> ?_;simp only[VRel]at hx;subst hx;obtain⟨k1,k2,hk⟩:=CQ hk;have hu:P.underlying t=al (.map k1 k2):=by rw[hT.und,hT.map hk]
   simp[Builtin.len_,ht,run_underlying hu,aM,goInt]
  ·refine aH.int λhk=> ?_;simp only[VRel]at hx;obtain⟨b,es,clk,rfl,_,hb,h1,_⟩:=hx;exact mp _ ⟨b,es,clk,rfl,hb,by have:=h1.length;simpa using this⟩ hk
  ·rename_i id;split
   ·rename_i ks vs ho;refine aH.int λhk=> ?_;simp only[VRel]at hx;obtain⟨b,hb,rfl⟩:=hx;obtain⟨o,ho',hat⟩:=hs.obj id b hb;rw[ho]at ho';cases ho';obtain⟨es,clk,h2,h3,h4⟩:=hat;exact mp _ ⟨b,es,clk,rfl,h2,by have:=h3.length;simpa using this⟩ hk
   ·exact aH.no
  ·split
   ·rename_i n el _ hk;refine aH.int λ_=> ?_;have hu:P.underlying t=al (.array n el):=by rw[hT.und,hT.arr hk]
    simp[Builtin.len_,ht,run_underlying hu,aM,goInt]
   ·exact aH.no
 ·exact aH.no
def LY(args:List V):PV :=
 match args with
 |[.int k a,.int _ b]=>(True,.int k (if b<a then b else a))
 |[.int k a,.int _ b,.int _ c]=>(True,.int k (let m:=if b<a then b else a;if c<m then c else m))
 |_=>fJ
def Oh(args:List V):PV :=
 match args with
 |[.int k a,.int _ b]=>(True,.int k (if a<b then b else a))
 |_=>fJ
theorem TA{ts:Array TypeId}{ty:TypeId}{args:List V}{xs:List Value}(h:VList c args xs):aH P c (Builtin.min_ ts ty xs.toArray) (LY args):=by
 unfold LY;split
 ·simp only[VList,VRel]at h;obtain⟨_,_,rfl,rfl,_,_,rfl,rfl,rfl⟩:=h;exact aH.int λ_=>run_min_int2 ..
 ·simp only[VList,VRel]at h;obtain⟨_,_,rfl,rfl,_,_,rfl,rfl,_,_,rfl,rfl,rfl⟩:=h;exact aH.int λ_=>run_min_int3 ..
 ·exact aH.no
theorem TB{ts:Array TypeId}{ty:TypeId}{args:List V}{xs:List Value}(h:VList c args xs):aH P c (Builtin.max_ ts ty xs.toArray) (Oh args):=by
 unfold Oh;split
 ·simp only[VList,VRel]at h;obtain⟨_,_,rfl,rfl,_,_,rfl,rfl,rfl⟩:=h;exact aH.int λ_=>run_max_int2 ..
 ·exact aH.no
end
def PV.and(p:Prop)(q:PV):PV:=(p/\q.1,q.2)
theorem aH.and{P:Program}{c:C}{s:Sem Value}{p:Prop}{q:PV}(h:p->aH P c s q):aH P c s (PV.and p q) :=
 λ⟨h1,h2⟩=>h h1 h2
def JD(c a b:V):PV :=
 match c.sv with
 | .bool t=>match a.sv,b.sv with
  | .bool x,.bool y=>(c.sc/\(t=ab->a.sc)/\(t=ac->b.sc),.bool (bif t then x else y))
  | .bool x,_=>(c.sc/\a.sc/\t=ab,.bool x)
  |_,.bool y=>(c.sc/\b.sc/\t=ac,.bool y)
  |_,_=>fJ
 |_=>fJ
theorem Oi{P:Program}{m:C}{c a b:V}{cv av bv:Value}(hc:VRel m c cv)(ha:VRel m a av)(hb:VRel m b bv) :
 aH P m (do pure (if <-asBool cv then av else bv)) (JD c a b):=by
 unfold JD;split
 ·rename_i t ht;have key:c.sc->cv= .bool t:=λh=>by have:=hc.sv h;rw[ht]at this;simpa only[VRel]using this
  split
  ·rename_i x y hx hy;rintro⟨h1,h2,h3⟩;have:=key h1;subst this;cases t
   ·have hb':=hb.sv (h3 rfl);rw[hy]at hb';exact⟨bv,by simp[asBool,aM],by simpa only[cond_false]using hb'⟩
   ·have ha':=ha.sv (h2 rfl);rw[hx]at ha';exact⟨av,by simp[asBool,aM],by simpa only[cond_true]using ha'⟩
  ·rename_i x hx _;rintro⟨h1,h2,rfl⟩;have:=key h1;subst this;have ha':=ha.sv h2;rw[hx]at ha';exact⟨av,by simp[asBool,aM],ha'⟩
  ·rename_i y hy _;rintro⟨h1,h2,rfl⟩;have:=key h1;subst this;have hb':=hb.sv h2;rw[hy]at hb';exact⟨bv,by simp[asBool,aM],hb'⟩
  ·exact aH.no
 ·exact aH.no
def gG:List V->Option (List UInt8)
 |[]=>al []
 | .int .u8 n::vs=>(gG vs).map (UInt8.ofNat n.toNat::·)
 |_=>aq
def jq(P:Program)(h:H)(src dst:TypeId)(x:V):PV :=
 match ti P src,ti P dst with
 |some rs,al rd=>match rd.kind,x with
  | .int k,.int _ n=>(True,.int k (k.wrap n))
  | .str,.str l=>(True,.str l)
  | .str,.nils=>match rs.kind with
   | .slice el=>match ti P el with
    |some re=>(re.kind= .int .u8,.str [])
    |none=>fJ
   |_=>fJ
  | .str,.is _ k es=>match rs.kind with
   | .slice el=>match ti P el,gG es with
    |some re,al l=>(re.kind= .int .u8/\k=1,.str l)
    |_,_=>fJ
   |_=>fJ
  | .str,.ls id k off len _=>match rs.kind with
   | .slice el=>match ti P el,gG (((fA h id).drop off).take len)with
    |some re,al l=>(re.kind= .int .u8/\k=1/\off+len<=aa (fA h id),.str l)
    |_,_=>fJ
   |_=>fJ
  |_,_=>fJ
 |_,_=>fJ
theorem rV{c:C}:∀ {vs:List V} {xs:List Value} {l:List UInt8},VList c vs xs->gG vs=al l->∃ns:List Int,xs=ns.map (Value.int .u8)/\ns.map (λn=>UInt8.ofNat n.toNat)=l
 |[],xs,l,h,hb=>by simp only[VList]at h;simp only[gG]at hb;cases hb;subst h;exact⟨[],rfl,rfl⟩
 | .int .u8 n::vs,xs,l,h,hb=>by
  simp only[VList]at h;obtain⟨y,ys,rfl,h1,h2⟩:=h;simp only[gG]at hb;cases hv:gG vs with
  |none=>rw[hv]at hb;cases hb
  |some l'=>rw[hv]at hb;cases hb;obtain⟨ns,rfl,h4⟩:=rV h2 hv;simp only[VRel]at h1;subst h1;exact⟨n::ns,rfl,by simp[h4]⟩
 | .int .i8 _::_,_,_,_,hb | .int .i16 _::_,_,_,_,hb | .int .i32 _::_,_,_,_,hb | .int .i64 _::_,_,_,_,hb | .int .u16 _::_,_,_,_,hb
 | .int .u32 _::_,_,_,_,hb | .int .u64 _::_,_,_,_,hb=>by simp[gG]at hb
 | .any::_,_,_,_,hb | .bool _::_,_,_,_,hb | .str _::_,_,_,_,hb | .nilp::_,_,_,_,hb | .lp _ _::_,_,_,_,hb | .ip _::_,_,_,_,hb
 | .nils::_,_,_,_,hb | .ls _ _ _ _ _::_,_,_,_,hb | .is _ _ _::_,_,_,_,hb | .nilm::_,_,_,_,hb | .lm _::_,_,_,_,hb | .im _ _::_,_,_,_,hb
 | .fn _ _ _::_,_,_,_,hb | .yd _::_,_,_,_,hb | .nilf::_,_,_,_,hb | .iface _ _::_,_,_,_,hb | .nili::_,_,_,_,hb | .agg _::_,_,_,_,hb
 | .tup _::_,_,_,_,hb | .grd _ _::_,_,_,_,hb=>by simp[gG]at hb
theorem VElems.list{c:C}{b:Nat}:∀ {es:List V} {off:Nat},VElems c 1 es b off->(∀v∈es,v.one=ab) ->
 ∃xs:List Value,aa xs=aa es/\(∀j v,xs[j]? =al v->c.w.cell? ⟨b,off+j,aq⟩=al v)/\VList c es xs
 |[],off,_,_=>⟨[],rfl,by simp,by simp only[VList]⟩
 |e::es,off,h,ho=>by
  simp only[VElems]at h;obtain⟨⟨ev,h1,h2,h3⟩,h4⟩:=h;obtain⟨xs,h5,h6,h7⟩:=VElems.list h4 (λv hv=>ho v (by simp[hv]));have hone:=h3.one (ho e (by simp));refine⟨ev::xs,by simp[h5],λj v hj=> ?_,by simp only[VList];exact⟨ev,xs,rfl,h3,h7⟩⟩;cases j with
  |zero=>simp at hj;subst hj;have:=(h2 0 (by rw[hone];simp)).2;rw[hone]at this;simpa using this
  |succ j =>
   have:=h6 j v (by simpa using hj)
   rwa [show off+1+j=off+(j+1) by omega]at this
theorem Bf:∀ {vs:List V} {l:List UInt8},gG vs=al l->∀v∈vs,v.one=ab
 |[],_,_,_,hv=>by simp at hv
 |u::vs,l,h,v,hv=>by
  cases u<;>try(simp[gG]at h;done)
  rename_i k n;cases k<;>try(simp[gG]at h;done)
  simp only[gG]at h;cases hvs:gG vs with
  |none=>rw[hvs]at h;cases h
  |some l' =>
   rcases zrj.1 hv with rfl|hv
   ·rfl
   ·exact Bf hvs v hv
theorem nT:∀ {vs:List V} {l:List UInt8},gG vs=al l->aa l=aa vs
 |[],_,h=>by simp only[gG]at h;cases h;rfl
 |u::vs,l,h=>by
  cases u<;>try(simp[gG]at h;done)
  rename_i k n;cases k<;>try(simp[gG]at h;done)
  simp only[gG]at h;cases hvs:gG vs with
  |none=>rw[hvs]at h;cases h
  |some l'=>rw[hvs]at h;cases h;simp[nT hvs]
section
variable{P:Program}{c:C}{e:E}{ok:Nat->Prop}{pl:Nat->Option Nat}{w:World}{h:H}
theorem Oj(hs:HSim e ok pl h w){src dst:TypeId}{x:V}{xv:Value}(hx:VRel (cx ok pl w) x xv):aH P (cx ok pl w) (convert src dst xv) (jq P h src dst x):=by
 unfold jq;split
 ·rename_i rs rd hrs hrd;obtain⟨is,ds,zs,hS⟩:=aG hrs;obtain⟨id,dd,zd,hD⟩:=aG hrd;split
  ·rename_i k k' n hk;simp only[VRel]at hx;subst hx;refine aH.int λ_=> ?_;have hd:=hD.int hk;subst hd;simp[convert,hS.run_und,hD.run_und,Conv.intToInt,aM]
  ·rename_i l hk;simp only[VRel]at hx;obtain⟨s,rfl,rfl,hl⟩:=hx;have hd:=hD.str hk;subst hd;intro _;refine⟨.string s,?_,by simp only[VRel];exact⟨s,rfl,rfl,hl⟩⟩;unfold convert;simp only[Sem.run_bind,hS.run_und,hD.run_und,aM];cases ds<;>rfl
  ·rename_i hk;split
   ·rename_i el hsl;have hds:=hS.slice hsl;subst hds;have hd:=hD.str hk;subst hd;split
    ·rename_i re hre;obtain⟨ie,de,ze,hE⟩:=aG hre;intro hu;have hde:=hE.int hu;subst hde;simp only[VRel]at hx;subst hx;refine⟨.string .empty,?_,by simp only[VRel];exact⟨.empty,rfl,rfl,by simp⟩⟩;unfold convert;simp only[Sem.run_bind,hS.run_und,hD.run_und,hE.run_und,aM];rfl
    ·exact aH.no
   ·exact aH.no
  ·rename_i ex k es hk;split
   ·rename_i el hsl;have hds:=hS.slice hsl;subst hds;have hd:=hD.str hk;subst hd;split
    ·rename_i re l hre hb;obtain⟨ie,de,ze,hE⟩:=aG hre;rintro⟨hu,rfl⟩;have hde:=hE.int hu;subst hde;simp only[VRel]at hx;obtain⟨a,cp,rfl,h1,h2,h3,h4⟩:=hx;have hll:=nT hb;rcases h4 with rfl|⟨b,off,rfl,hel⟩
     ·simp only[gG]at hb;cases hb;refine⟨.string .empty,?_,by simp only[VRel];exact⟨.empty,rfl,rfl,by simp⟩⟩;unfold convert;simp only[Sem.run_bind,hS.run_und,hD.run_und,hE.run_und,aM];cases a
      ·rfl
      ·rfl
     ·obtain⟨xs,h5,h6,h7⟩:=hel.list (Bf hb);obtain⟨ns,rfl,h8⟩:=rV h7 hb;refine⟨.string (strOfNums ns),?_,?_⟩
      ·refine run_convert_bytes_arg _ src el hS.und hE.und b off (aa es) cp ns (by simpa using h5) (λi hi=> ?_) dst hD.und;have hl':i<aa ns:=by simp at h5;omega
       refine h6 i _ ?_;simp[hl',zqk hl',zqg]
      ·simp only[VRel];exact⟨_,rfl,by rw[strOfNums_data,h8],by omega⟩
    ·exact aH.no
   ·exact aH.no
  ·rename_i id k off len cap hk;split
   ·rename_i el hsl;have hds:=hS.slice hsl;subst hds;have hd:=hD.str hk;subst hd;split
    ·rename_i re l hre hb;obtain⟨ie,de,ze,hE⟩:=aG hre;rintro⟨hu,rfl,hle⟩;have hde:=hE.int hu;subst hde;simp only[VRel]at hx;obtain⟨a,cp,rfl,h1,h2,h3,h4⟩:=hx;have hll:=nT hb;have hlen:aa (((fA h id).drop off).take len)=len:=by rw[zrl,List.length_drop];omega
     rcases h4 with rfl|⟨b,arr,el',fz,hpl,rfl,_⟩
     ·have hl0:len=0:=by omega
      subst hl0;have hl':l=[]:=zse (by omega);subst hl';refine⟨.string .empty,?_,by simp only[VRel];exact⟨.empty,rfl,rfl,by simp⟩⟩;unfold convert;simp only[Sem.run_bind,hS.run_und,hD.run_und,hE.run_und,aM];cases a
      ·rfl
      ·rfl
     ·obtain⟨xs,h5,h6,h7⟩:=hs.cellsTake hpl off len hle;obtain⟨ns,rfl,h8⟩:=rV h7 hb;refine⟨.string (strOfNums ns),?_,?_⟩
      ·refine run_convert_bytes_arg _ src el hS.und hE.und b off len cp ns (by simpa using h5) (λi hi=> ?_) dst hD.und;have hl':i<aa ns:=by simp at h5;omega
       refine h6 i _ ?_;simp[hl',zqk hl',zqg]
      ·simp only[VRel];exact⟨_,rfl,by rw[strOfNums_data,h8],by omega⟩
    ·exact aH.no
   ·exact aH.no
  ·exact aH.no
 ·exact aH.no
def V.vc:V->List V
 | .agg vs=>vs
 |v=>[v]
def V.fit(v:V):Bool:=v.one||(match v with | .agg _=>ab|_=>ac)
theorem VRel.vc{v:V}{x:Value}(h:VRel c v x)(hf:v.fit=ab):VList c v.vc x.cells.toList:=by
 cases v <;> first
  |(rw[h.one (by simpa [V.fit]using hf)];simp only[V.vc,VList];exact⟨_,_,rfl,h,rfl⟩)
  |skip
 case agg vs=>simp only[VRel]at h;obtain⟨cs,rfl,hcs⟩:=h;exact hcs
def di(cs:List V)(off:Nat)(vs:List V):List V:=cs.take off++vs++cs.drop (off+aa vs)
def CU(place:Nat->Option (Nat×Nat)):List V->List (Nat×V)->Option (List V)
 |cs,[]=>al cs
 |cs,(i,v)::rest=>match place i with
  |none=>aq
  |some (off,size)=>if v.fit=ab/\aa v.vc=size/\off+size<=aa cs then CU place (di cs off v.vc) rest else aq
theorem yD(off:Nat):∀(ys:List Value)(k:Nat)(cs:Array Value),off+k+aa ys<=cs.size ->
 ((ys.zipIdx k).foldl (λcs (p:Value×Nat)=>cs.setIfInBounds (off+p.2) p.1) cs).toList=cs.toList.take (off+k)++ys++cs.toList.drop (off+k+aa ys)
 |[],k,cs,h=>by simp
 |y::ys,k,cs,h=>by
  simp only[List.zipIdx_cons,List.foldl_cons];rw[show off+k=off+k from rfl];have ih:=yD off ys (k+1) (cs.setIfInBounds (off+k) y) (by simp;simp at h;omega);rw[ih];simp only[zrt]at h;have hlt:off+k<aa cs.toList:=by simp;omega
  have e1:(cs.setIfInBounds (off+k) y).toList=cs.toList.set (off+k) y:=by simp
  rw[e1];apply List.ext_getElem?;intro i;simp only[zrt];simp only[List.getElem?_append,List.getElem?_take,List.getElem?_drop,zqa,zrl,zrn,List.getElem?_set,List.length_drop,List.getElem?_cons];have hsz:aa cs.toList=cs.size:=by simp
  repeat' split
  all_goals first
   |rfl
   |omega
   |(congr 1;omega)
   |(exfalso;omega)
   |(simp_all;(try omega);done)
   |(simp only[Array.getElem?_toList];congr 1;simp_all;omega)
theorem JE{place:Nat->Option (Nat×Nat)}:∀ {parts:List (Nat×V)} {xs:List (Nat×Value)} {cs:List V} {cells:Array Value} {r:List V},
 VList c cs cells.toList->xs.map (·.1)=parts.map (·.1)->VList c (parts.map (·.2)) (xs.map (·.2))->CU place cs parts=al r ->
 ∃res,Instr.fill place cells xs=al res/\VList c r res.toList
 |[],xs,cs,cells,r,h1,h2,h3,h4=>by
  have:xs=[]:=by simpa using h2
  subst this;simp only[CU]at h4;cases h4;exact⟨cells,rfl,h1⟩
 |(i,v)::parts,[],cs,cells,r,h1,h2,h3,h4=>by simp at h2
 |(i,v)::parts,(j,y)::xs,cs,cells,r,h1,h2,h3,h4=>by
  simp only[zrd,List.cons.injEq]at h2;obtain⟨rfl,h2⟩:=h2;simp only[zrd,VList]at h3;obtain⟨_,_,he,h5,h6⟩:=h3;cases he;simp only[CU]at h4;cases hp:place j with
  |none=>rw[hp]at h4;cases h4
  |some q =>
   obtain⟨off,size⟩:=q;rw[hp]at h4;dsimp only at h4;split at h4
   ·rename_i hc;obtain⟨hf,hl,hle⟩:=hc;have hvc:=h5.vc hf;have hyl:aa y.cells.toList=size:=by rw[hvc.length,hl]
    have hcl:=h1.length;have hfold:=yD off y.cells.toList 0 cells (by simp at hcl hyl ⊢;omega);have hlist:VList c (di cs off v.vc) (cells.toList.take off++y.cells.toList++cells.toList.drop (off+aa y.cells.toList)):=by unfold di;rw[<-hvc.length];exact((h1.take off).append hvc).append (h1.dropN _)
    obtain⟨res,hr1,hr2⟩:=JE (cells:=(y.cells.zipIdx.foldl (λcs (p:Value×Nat)=>cs.setIfInBounds (off+p.2) p.1) cells)) (by
     rw[<-Array.foldl_toList,Array.toList_zipIdx,hfold];simpa using hlist) h2 h6 h4
    refine⟨res,?_,hr2⟩;simp only[Instr.fill,hp];have h7:¬(y.cells.size≠size\/off+y.cells.size>cells.size):=by simp at hyl hcl;omega
    simp only[ne_eq,Bool.or_eq_true,zqb]at h7 ⊢;rw[if_neg h7];exact hr1
   ·cases h4
end
end Go.Abs
