/- Lemmas for this claim, part A8: each holds under what it names. -/
import Derived.Test.YthaijohbpdabfaaGreatDoorRA7
import Derived.ProofKit
import Derived.SizedLaws
import Derived.JoinedCond
set_option linter.all false
namespace Go.Abs
open Go Go.RowKit
open List renaming length → aa, replicate → ao
open Bool renaming true → ab, false → ac
open Option renaming some → al, none → aq
open Decidable renaming decide → ar
open Go.IntKind renaming wrap → aD
open Go.Result renaming andThen → aM
open Go.Abs.V renaming drops → ap, dat → aE, dats → aL
section
variable{P:Program}{w:World}
theorem yV{ts:Array TypeId}{t xt ty el:TypeId}{r re rx:TI}{i ie ix:TypeInfo}{de:TypeDesc}{z ze zx:Value}{kx:IntKind}(h0:ts[0]? =al t)(h1:ts[1]? =al xt)
 (hT:TIs P t r i (.slice el) z) (hE:TIs P el re ie de ze) (hX:TIs P xt rx ix (.int kx) zx)
 (m:Nat) (hm:0<m) (hm1:m<=1000000000000) (hb:m*re.bytes<=140737488355328) (hsz:re.size=1) :
 (Builtin.append_ ts ty #[.slice aq 0 0,.int .i64 m]).run P w =
  .ok (.slice (al ⟨w.heap.size,0,aq⟩) m (grownCap w m 0 el))
   (w.drew.alloc (.cells (Builtin.zeroCells ze.cells m++Builtin.zeroCells ze.cells (grownCap w m 0 el-m)) el)):=by
 have h48':¬(281474976710656<Builtin.nextslicecap m 0*re.bytes):=by have:=growslice_fits (need:=m) (old:=0) hm hb;omega
 have hw:aD .i64 (m:Int)=m:=yQ (by omega) (by omega);have hbytes:(typeInfo el).run P w= .ok ie w:=by simp[typeInfo,hE.info]
 have hneg:¬((m:Int)<0):=by omega
 have hbig:¬((281474976710656:Int)<(m:Int)*ie.bytes):=by
  have h2:((m*re.bytes:Nat):Int)<=140737488355328:=by omega
  rw[<-hE.bytes];rw[Int.natCast_mul]at h2;omega
 have hns:m*1≠0:=by omega
 have h63:¬(9223372036854775807<(m:Int)):=by omega
 unfold Builtin.append_;simp only[h0,h1,List.getElem?_toArray,List.getElem?_cons_zero,List.getElem?_cons_succ,Sem.run_bind,hT.run_und,aM,hE.run_size,hX.run_und,Sem.run_pure];simp[asInt,asIntOf,hw,hneg,hbig,hbytes,aM,h63,hE.bytes▸h48',Question.forced,hE.run_zero,newRow,grownCap,typeInfo,hE.info,Builtin.firstCells,hsz,show m≠0 by omega]
end
section
variable{e:E}{n:Nat}{r:Option Nat}{o:Oper}{f:Fr}{h:H}{Kn:Fr->H->Prop}{Q:XE->Fr->H->Prop}
theorem pO{x y:Operand}{t xt el:TypeId}{q re:TI}(ha:IsAppend e o x y t xt el q re)(hxc:(f.ev e x).sc)(hyc:(f.ev e y).sc)
 (hx:(f.ev e x).sv= .nils) {m:Nat} (hy:(f.ev e y).sv= .int .i64 m) {rx:TI} {kx:IntKind} (hxt:Abs.ti e.P xt=al rx) (hkx:rx.kind= .int kx)
 (hm:0<m) (hm1:m<=1000000000000) (hb:m*re.bytes<=140737488355328) (hsz:re.size=1) {zv:V} (hzv:re.zero.vc=[zv])
 (hk:Kn (f.put o.dst (.ls (aa h) 1 0 m m)) (h++[.cells (ao m zv)])):Eff e n r o f h Kn Q:=by
 obtain⟨⟨ts,hop,ht0,ht1⟩,hti,hkind,htie,hzf,hzl,hpos⟩:=ha;refine aV ?_ (λc=>by rw[hop];exact λh=>by cases h);intro ok pl w ev hs hr;obtain⟨i,d,z,hT⟩:=aG hti;have hd:=hT.slice hkind;subst hd;obtain⟨ie,de,ze,hE⟩:=aG htie;obtain⟨ix,dx,zx,hX⟩:=aG hxt;have hdx:=hX.int hkx;subst hdx;have hxv:=(hr x (by simp[hop,Op.operands,Call.operands])).sv hxc;have hyv:=(hr y (by simp[hop,Op.operands,Call.operands])).sv hyc;rw[hx]at hxv;rw[hy]at hyv;simp only[VRel]at hxv hyv;have hrun:=yV (P:=e.P) (w:=w) (ty:=o.type) ht0 ht1 hT hE hX m hm hm1 hb hsz;obtain⟨cap,hcap⟩:∃cap,grownCap w m 0 el=cap:=⟨_,rfl⟩;have hge:=grownCap_ge w m 0 el;have hle:=grownCap_le_maxLen w m 0 el (by simp only[maxLen];omega);rw[hcap]at hrun hge hle;have hzr:=(dA (cx ok pl w) ze).vc (by rw[<-hE.zv];exact hzf);rw[<-hE.zv,hzv]at hzr;have hzl1:=hzr.length;simp only[zrk,Array.length_toList]at hzl1;have hz1:ze.cells.size=1:=by omega
 obtain⟨arr,harr⟩:∃arr,Builtin.zeroCells ze.cells m++Builtin.zeroCells ze.cells (cap-m)=arr:=⟨_,rfl⟩;rw[harr]at hrun;obtain⟨zc,hzc,hzrel⟩:∃zc,ze.cells.toList=[zc]/\VRel (cx ok pl w) zv zc:=by simp only[VList]at hzr;obtain⟨y,ys,h1,h2,rfl⟩:=hzr;exact⟨y,h1,h2⟩
 have hasz:arr.size=cap:=by rw[<-harr];simp only[Array.size_append,size_zeroCells,hz1];omega
 have hlist:arr.toList.take (aa (ao m zv))=ao m zc:=by
  rw[<-harr,zsc,Array.toList_append,List.take_append_of_le_length (by simp[size_zeroCells,hz1]),zqh (by simp[size_zeroCells,hz1])];have:ze.cells=#[zc]:=Array.toList_inj.1 hzc;apply List.ext_getElem?;intro j;simp[Builtin.zeroCells,this,List.getElem?_replicate];by_cases hj:j<m
  ·rw[List.getElem?_range hj,if_pos hj];simp[Nat.mod_one]
  ·rw[zsj (by simp;omega),if_neg hj];rfl
 have hv:∀k,VList (cx ok pl w) (ao k zv) (ao k zc):=by
  intro k
  induction k with
  |zero=>simp[VList]
  |succ k ih=>simp only[List.replicate_succ,VList];exact⟨_,_,rfl,hzrel,ih⟩
 obtain⟨hs',kk⟩:=qI hs (cs:=ao m zv) (arr:=arr) (by rw[hasz];simpa using hge) (by rw[hlist];exact hv m) el (WExt.drew w);refine⟨λ_=>ac,_,_,_,_,.slice (al ⟨w.heap.size,0,aq⟩) m cap,.inl ?_,hs',kk,?_,λ_ _=>rfl,by rw[Fr.drop_none];exact hk⟩
 ·rw[dE hop,hxv,hyv];exact gJ hrun
 ·simp only[VRel];refine⟨_,cap,rfl,hge,hge,hle,.inr ⟨w.heap.size,arr,el,(0,0),by simp[cx,bz],rfl,?_,by rw[hasz];omega⟩⟩;exact World.alloc_heap_new w.drew (.cells arr el)
end
open Go.ChangeShapes
mutual
/-- A value of a shape, with the bound on how much is handed. -/
def Sh.Sz(R:Nat):Sh->V->Prop
 | .str,v=>∃s,v= .str s/\aa s<=R
 | .bool,v=>∃b,v= .bool b
 | .int k,v=>∃n,v= .int k n/\(Lit.int k n).wf=ab
 | .slice e,v=>∃es,v= .is ac e.size es/\aa es<=R/\∀x∈es,Sh.Sz R e x
 | .struct fs,v=>∃vs,v= .agg (vs.flatMap V.vc)/\Sh.Szs R fs vs
def Sh.Szs(R:Nat):List Sh->List V->Prop
 |[],vs=>vs=[]
 |s::ss,vs=>∃u us,vs=u::us/\Sh.Sz R s u/\Sh.Szs R ss us
end
mutual
/-- Do the elements of all slices take bytes? -/
def Sh.fat(P:Program):Sh->TypeId->Bool
 | .slice e,t=>match P.underlying t with|some (.slice u)=>ar (0<P.bytesOf u)&&e.fat P u|_=>ac
 | .struct fs,t=>match kP P t with|some gs=>Sh.fats P fs gs|none=>ac
 | .str,_ | .bool,_ | .int _,_=>ab
def Sh.fats(P:Program):List Sh->List Field->Bool
 |[],[]=>ab
 |s::ss,g::gs=>s.fat P g.type&&Sh.fats P ss gs
 |_,_=>ac
end
section
variable{H:Type}{enc:TypeId×Value->H}{P:Program}{w:World}
structure Meas(H:Type)(P:Program)(R:Nat) where
 L:TypeId->DataW H->Prop
 str:∀t b,L t (.lit (.string b))->aa b<=R
 sl:∀t u es rs,P.underlying t=al (.slice u)->0<P.bytesOf u->L t (.slice es rs)->aa es<=R/\∀d∈es,L u d
 st:∀t fs ds,kP P t=al fs->L t (.agg ds)->∀(i:Nat) d (f:Field),ds[i]? =al d->fs[i]? =al f->L f.type d
variable{R:Nat}(M:Meas H P R)
theorem wZ{c:C}{cs:List Value}{F:TypeId->List Value->Option (DataW H×List MemPlace)}
 (IH:∀(sh:Sh)(t:TypeId)(cs:List Value) x,sh.ok P t=ab->sh.fat P t=ab->aa cs=sh.size->F t cs=al x->M.L t x.1->∃v,Took c sh v cs/\sh.Sz R v) :
 ∀(fs:List Sh)(gs:List Field)(off:Nat)(xs:List (DataW H×List MemPlace)),Sh.oks P fs gs off=ab->Sh.fats P fs gs=ab->off+Sh.sizes fs=aa cs ->
  (gs.mapM λf=>F f.type ((cs.drop f.offset).take (P.cellsOf f.type)))=al xs->(∀(i:Nat) d (f:Field),(xs.map (·.1))[i]? =al d->gs[i]? =al f->M.L f.type d) ->
  ∃vs,Sh.Iss fs vs/\Sh.Szs R fs vs/\(∀v∈vs,v.dat=ab)/\aa (vs.flatMap V.vc)=Sh.sizes fs/\VList c (vs.flatMap V.vc) (cs.drop off)
 |[],[],off,xs,_,_,hl,_,_=>by refine⟨[],rfl,rfl,by simp,rfl,?_⟩;simp only[Sh.sizes]at hl;rw[List.drop_of_length_le (by omega)];simp only[List.flatMap_nil,VList]
 |[],_::_,_,_,h,_,_,_,_=>by simp[Sh.oks]at h
 |_::_,[],_,_,h,_,_,_,_=>by simp[Sh.oks]at h
 |s::ss,g::gs,off,xs,hok,hft,hl,hm,hw=>by
  simp only[Sh.oks,zqf,beq_iff_eq]at hok;simp only[Sh.fats,zqf]at hft;obtain⟨⟨⟨h1,h2⟩,h3⟩,h4⟩:=hok;simp only[Sh.sizes]at hl;rw[List.mapM_cons]at hm;simp only[Option.bind_eq_bind,Option.bind_eq_some_iff,Option.pure_def,Option.some.injEq]at hm;obtain⟨y,hy,ys,hys,rfl⟩:=hm;rw[h1,h2]at hy;obtain⟨v,hv,hz⟩:=IH s g.type _ y h3 hft.1 (by rw[zrl,List.length_drop];omega) hy (hw 0 y.1 g rfl rfl);obtain⟨vs,k1,kz,k2,k3,k4⟩:=wZ IH ss gs (off+s.size) ys h4 hft.2 (by omega) hys (λi d f h1 h2=>hw (i+1) d f (by simpa using h1) (by simpa using h2));refine⟨v::vs,⟨v,vs,rfl,hv.is,k1⟩,⟨v,vs,rfl,hz,kz⟩,?_,?_,?_⟩
  ·intro u hu;rcases zrj.1 hu with rfl|hu
   ·exact hv.dat
   ·exact k2 u hu
  ·rw[List.flatMap_cons,zqa,hv.len,k3];rfl
  ·rw[List.flatMap_cons];have:cs.drop off=(cs.drop off).take s.size++cs.drop (off+s.size):=by
    rw[<-List.drop_drop,List.take_append_drop]
   rw[this];exact hv.rel.append k4
theorem vV:∀(fuel:Nat)(sh:Sh)(t:TypeId)(cs:List Value)(d:DataW H)(ps:List MemPlace),sh.ok P t=ab->sh.fat P t=ab->aa cs=sh.size ->
 DataW.trod enc P w 0 (λ_=>ab) ab fuel t cs=al (d,ps)->M.L t d->∃v,Took (cw w) sh v cs/\sh.Sz R v
 |0,_,_,_,_,_,_,_,_,h,_=>by simp[DataW.trod]at h
 |fuel+1,.str,t,[x],d,ps,hok,hft,hlen,h,hw=>by
  simp only[Sh.ok]at hok;split at hok
  ·rename_i hu;cases x<;>simp only[DataW.trod,hu,reduceCtorEq]at h
   case string s =>
    split at h
    ·rename_i hs;cases h;refine⟨.str s.data.toList,Took.one ⟨_,rfl⟩ rfl rfl rfl ?_,⟨_,rfl,M.str _ _ hw⟩⟩;simp only[VRel];exact⟨s,rfl,rfl,by rw[Array.length_toList];exact hs⟩
    ·cases h
  ·cases hok
 |fuel+1,.bool,t,[x],d,ps,hok,hft,hlen,h,hw=>by
  simp only[Sh.ok]at hok;split at hok
  ·rename_i hu;cases x<;>simp only[DataW.trod,hu,reduceCtorEq]at h
   case bool b=>exact⟨.bool b,Took.one ⟨_,rfl⟩ rfl rfl rfl (by simp only[VRel]),⟨_,rfl⟩⟩
  ·cases hok
 |fuel+1,.int k,t,[x],d,ps,hok,hft,hlen,h,hw=>by
  simp only[Sh.ok]at hok;split at hok
  ·rename_i k' hu;have hk:k'=k:=by simpa using hok
   subst hk;cases x<;>simp only[DataW.trod,hu,reduceCtorEq]at h
   case int k2 n =>
    split at h
    ·rename_i hs;obtain⟨rfl,hw⟩:=hs;exact⟨.int k2 n,Took.one ⟨_,rfl,hw⟩ rfl rfl rfl (by simp only[VRel]),⟨_,rfl,hw⟩⟩
    ·cases h
  ·cases hok
 |fuel+1,.slice e,t,[x],d,ps,hok,hft,hlen,h,hw=>by
  simp only[Sh.ok]at hok;simp only[Sh.fat]at hft;split at hok
  ·rename_i u hu;rw[hu]at hft;simp only[zqf,zqb]at hft;simp only[zqf,beq_iff_eq,zqb]at hok;obtain⟨⟨hsz,hpos⟩,hok⟩:=hok;cases x<;>simp only[DataW.trod,hu,reduceCtorEq]at h
   case slice a len cap =>
    cases a with
    |none =>
     have hz:len=0/\cap=0:=by cases len<;>cases cap<;>simp[DataW.trod,hu]at h ⊢
     obtain⟨rfl,rfl⟩:=hz;refine⟨.is ac e.size [],Took.one ⟨[],rfl,by simp⟩ rfl rfl rfl ?_,⟨[],rfl,Nat.zero_le _,by simp⟩⟩;simp only[VRel];exact⟨aq,0,rfl,zrb _,Nat.zero_le _,λhf=>(by cases hf),.inl trivial⟩
    |some a =>
     simp only[DataW.trod,hu]at h;split at h
     ·rename_i hcond;rw[Option.bind_eq_some_iff]at h;obtain⟨elems,hel,hrest⟩:=h;rw[Option.map_eq_some_iff]at hrest;obtain⟨rest,_,hd⟩:=hrest;have hd:d= .slice (elems.map (·.1)) (rest.map (·.1)):=by cases hd;rfl
      subst hd;have hm:=um hel;have hlite:=M.sl _ _ _ _ hu hft.1 hw;have hsmall:len<=R:=by
       have h2:len=aa elems:=by rw[hm.1];simp
       have h1:=hlite.1;rw[zra]at h1;omega
      have key:∀i:Fin len,∃v cells,w.cells? 0 (a.add (i.1*e.size)) e.size=al cells/\Took (cw w) e v cells/\e.Sz R v:=by
       intro i;obtain⟨y,hy,hy2⟩:=hm.2 i.1 i.1 (by simp);rw[Option.bind_eq_some_iff]at hy;obtain⟨cells,hc,ht⟩:=hy;rw[hsz]at hc;have hcl:aa cells=e.size:=by
        unfold World.cells? at hc;split at hc
        ·have:=(um hc).1;simpa using this
        ·cases hc
       obtain⟨v,hv,hz⟩:=vV fuel e u cells y.1 y.2 hok hft.2 hcl ht (hlite.2 _ (zrh.2 ⟨y,List.mem_of_getElem? hy2,rfl⟩));exact⟨v,cells,hc,hv,hz⟩
      let es:List V:=List.ofFn λi=>(key i).choose
      have hlen2:aa es=len:=by simp[es]
      have hget:∀(i:Nat)(v:V),es[i]? =al v->∃cells,w.cells? 0 (a.add (i*e.size)) e.size=al cells/\Took (cw w) e v cells/\e.Sz R v:=by
       intro i v hi;have hi2:i<len:=by have:=(zqe hi).1;omega
       have:es[i]? =al (key ⟨i,hi2⟩).choose:=by simp[es,hi2]
       rw[this]at hi;cases hi;exact(key ⟨i,hi2⟩).choose_spec
      refine⟨.is ac e.size es,Took.one ⟨es,rfl,?_⟩ rfl rfl rfl ?_,⟨es,rfl,by omega,?_⟩⟩
      ·intro x hx;obtain⟨i,hi,rfl⟩:=List.mem_iff_getElem.1 hx;obtain⟨cells,_,ht,_⟩:=hget i es[i] (by simp[hi]);exact ht.is
      ·simp only[VRel];refine⟨al a,cap,by rw[hlen2],by rw[hlen2];exact hcond.2.1,hcond.2.2,λhf=>(by cases hf),?_⟩;have cell:∀(i:Nat)(cells:List Value),w.cells? 0 (a.add (i*e.size)) e.size=al cells->aa cells=e.size/\∀j,j<e.size->w.cell? ((a.add (i*e.size)).add j)=cells[j]? :=by
        intro i cells hc;unfold World.cells? at hc;split at hc
        ·have hm2:=um hc;refine⟨by simpa using hm2.1,λj hj=> ?_⟩;obtain⟨y,hy1,hy2⟩:=hm2.2 j j (by simp[hj]);rw[hy1,hy2]
        ·cases hc
       by_cases h0:len=0
       ·left;exact zse (by omega)
       ·right;obtain⟨b,off,spot⟩:=a;have hs:spot=aq:=by
         obtain⟨v,cells,hc,_⟩:=key ⟨0,by omega⟩;obtain⟨h1,h2⟩:=cell 0 cells hc;have h3:=h2 0 hpos;have h4:cells[0]? =al (cells[0]'(by omega)):=by simp
         rw[h4]at h3;simpa [Addr.add]using World.cell?_spot h3
        subst hs;refine⟨b,off,rfl,jf λi v hi=> ?_⟩;obtain⟨cells,hc,ht,_⟩:=hget i v hi;obtain⟨h1,h2⟩:=cell i cells hc;obtain⟨ev,h3,h4⟩:=vS ht.fit ht.rel;have hsize:ev.cells.size=e.size:=by rw[<-h1,<-h3];simp
        refine⟨ev,hsize,λj hj=>⟨⟨trivial,λi hi=>(by cases hi)⟩,?_⟩,h4⟩;have:=h2 j (by omega);rw[dI,dI,<-h3]at this;show w.cell? _=_;simpa using this
      ·intro x hx;obtain⟨i,hi,rfl⟩:=List.mem_iff_getElem.1 hx;obtain⟨cells,_,_,ht⟩:=hget i es[i] (by simp[hi]);exact ht
     ·cases h
  ·cases hok
 |fuel+1,.struct fs,t,cs,d,ps,hok,hft,hlen,h,hw=>by
  simp only[Sh.ok]at hok;simp only[Sh.fat]at hft;split at hok
  ·rename_i gs hu;rw[hu]at hft;simp only[zqf,beq_iff_eq]at hok;obtain⟨hsz,hok⟩:=hok;obtain⟨hlen2,xs,hxs,hd⟩:=IL hu h;subst hd;obtain⟨vs,k1,kz,k2,k3,k4⟩:=wZ M (c:=cw w) (P:=P) (F:=DataW.trod enc P w 0 (λ_=>ab) ab fuel) (λsh t cs x h1 hf h2 h3 h4=>vV fuel sh t cs x.1 x.2 h1 hf h2 h3 h4) fs gs 0 xs hok hft (by rw[hlen2,hsz];omega) hxs (λi d f h1 h2=>M.st _ _ _ hu hw i d f h1 h2);refine⟨.agg (vs.flatMap V.vc),⟨⟨vs,rfl,k1⟩,rfl,?_,k3,by simpa [V.vc]using k4⟩,⟨vs,rfl,kz⟩⟩;simp only[aE];exact Ff λv hv=>YT (k2 v hv)
  ·cases hok
theorem uu{w:World}:∀(shs:List Sh)(ts:List TypeId)(vs:List Value)(ds:List (DataW H))(ps:List MemPlace),aa shs=aa ts ->
 (∀(i:Nat) sh t,shs[i]? =al sh->ts[i]? =al t->sh.ok P t=ab/\sh.fat P t=ab)->(∀(i:Nat) sh v,shs[i]? =al sh->vs[i]? =al v->Z4 sh v) ->
 DataW.TrodAll enc P w 0 (λ_=>ab) ab ts vs ds ps->(∀(i:Nat) d t,ds[i]? =al d->ts[i]? =al t->M.L t d)->∃us,Sh.Szs R shs us/\VList (cw w) us vs
 |[],[],vs,ds,ps,_,_,_,h,_=>by obtain⟨rfl,_,_⟩:=trodAll_nil h;exact⟨[],rfl,by simp only[VList]⟩
 |[],_::_,_,_,_,hl,_,_,_,_=>by simp at hl
 |_::_,[],_,_,_,hl,_,_,_,_=>by simp at hl
 |sh::shs,t::ts,vs,ds,ps,hl,hok,hsz,h,hw=>by obtain⟨v,vs',d,ds',p,q,rfl,rfl,rfl,h1,h2⟩:=trodAll_cons h;obtain⟨fuel,hf⟩:=h1;have hfl:=hsz 0 sh v rfl rfl;obtain⟨u,hu,hz⟩:=vV M fuel sh t _ d p (hok 0 sh t rfl rfl).1 (hok 0 sh t rfl rfl).2 (by simpa using O6 hfl) hf (hw 0 d t rfl rfl);obtain⟨us,k1,k2⟩:=uu shs ts vs' ds' q (by simpa using hl) (λi sh t h1 h2=>hok (i+1) sh t (by simpa using h1) (by simpa using h2)) (λi sh v h1 h2=>hsz (i+1) sh v (by simpa using h1) (by simpa using h2)) h2 (λi d t h1 h2=>hw (i+1) d t (by simpa using h1) (by simpa using h2));refine⟨u::us,⟨u,us,rfl,hz,k1⟩,?_⟩;simp only[VList];exact⟨v,vs',rfl,TV hfl hu,k2⟩
theorem mM{e:TypeId}{d:DataW H}{n:Nat}:∀ {l:List (DataW H)},d∈l->n∈d.weights P e->n∈DataW.weightsAll P e l
 |[],h,_=>by cases h
 |a::l,h,hn=>by
  simp only[DataW.weightsAll,zrf];rcases zrj.1 h with rfl|h
  ·exact .inl hn
  ·exact .inr (mM h hn)
theorem kR{n:Nat}:∀(ts:List TypeId)(ds:List (DataW H))(i:Nat) d t,ds[i]? =al d->ts[i]? =al t->n∈d.weights P t->n∈DataW.weightsEach P ts ds
 |[],_,i,_,_,_,h,_=>by simp at h
 |_::_,[],i,_,_,h,_,_=>by simp at h
 |t::ts,d::ds,0,_,_,h1,h2,hn=>by simp only[List.getElem?_cons_zero,Option.some.injEq]at h1 h2;subst h1;subst h2;simp only[DataW.weightsEach,zrf];exact .inl hn
 |t::ts,d::ds,i+1,_,_,h1,h2,hn=>by simp only[DataW.weightsEach,zrf];exact .inr (kR ts ds i _ _ (by simpa using h1) (by simpa using h2) hn)
def reachM(H:Type)(P:Program):Meas H P reachBytes where
 L t d:=∀n∈d.weights P t,n<=reachBytes
 str t b h:=h _ (by simp[DataW.weights])
 sl t u es rs hu hb h:=by
  refine⟨?_,λd hd n hn=>h n (by simp only[DataW.weights,hu,zrj,zrf];exact .inr (.inl (mM hd hn)))⟩;have h1:(aa es+aa rs)*P.bytesOf u<=reachBytes:=h _ (by simp only[DataW.weights,hu];exact List.mem_cons_self);have h3:aa es+aa rs<=(aa es+aa rs)*P.bytesOf u:=Nat.le_mul_of_pos_right _ hb;omega
 st t fs ds hu h i d f h1 h2 n hn:=h n (by
  unfold kP at hu;split at hu
  ·rename_i hu';cases hu;simp only[DataW.weights,hu'];exact kR _ _ i d f.type h1 (by simp[h2]) hn
  ·rename_i hu';cases hu;simp only[DataW.weights,hu'];rw[zqo,Option.map_eq_some_iff]at h2;obtain⟨k,_,rfl⟩:=h2;exact mM (List.mem_of_getElem? h1) hn
  ·cases hu)
end
section
variable{e:E}{n:Nat}{r:Option Nat}{o:Oper}{f:Fr}{h:H}{Kn:Fr->H->Prop}{Q:XE->Fr->H->Prop}
theorem jb{x:Operand}{ts:Array TypeId}{t el:TypeId}{q:TI}(hop:o.op= .call {callee:= .builtin .cap,args:=#[x],argTypes:=ts})(h0:ts[0]? =al t)
 (hti:Abs.ti e.P t=al q) (hkind:q.kind= .slice el) (hc:(f.ev e x).sc) (hx:(f.ev e x).sv= .nils) (hk:Kn (f.put o.dst (.int .i64 0)) h):Eff e n r o f h Kn Q:=by
 refine kG (v:= .int .i64 0) (iV λok pl w ev hs hr=> ?_) hk;obtain⟨i,d,z,hT⟩:=aG hti;have hu:e.P.underlying t=al (.slice el):=by rw[hT.und,hT.slice hkind]
 have h1:=(hr x (by simp[hop,Op.operands,Call.operands])).sv hc;rw[hx]at h1;simp only[VRel]at h1;refine⟨.int .i64 0,?_,by simp only[VRel]⟩;have hb:execOp ev o=(do pure (Next.value (<-Builtin.cap_ ts o.type #[ev x]))):=by
  have : execOp ev o = (do
   let d <-resolve ev {callee:= .builtin .cap,args:=#[x],argTypes:=ts} o.type
   invoke d.target d.args):=by simp[execOp,hop]
  rw[this];simp[resolve,invoke,builtin]
 rw[hb,h1];refine gJ ?_;simp[Builtin.cap_,h0,run_underlying hu,aM,goInt]
theorem mO{x y:Operand}{t el:TypeId}{q re:TI}(hop:o.op= .slice t x aq (al y) aq)(hti:Abs.ti e.P t=al q)(hkind:q.kind= .slice el)(hre:Abs.ti e.P el=al re)
 (hc:(f.ev e x).sc) (hx:(f.ev e x).sv= .nils) (hyc:(f.ev e y).sc) {k:IntKind} (hy:(f.ev e y).sv= .int k 0) (hk:Kn (f.put o.dst .nils) h):Eff e n r o f h Kn Q:=by
 refine kG (v:= .nils) (iV λok pl w ev hs hr=> ?_) hk;obtain⟨i,d,z,hT⟩:=aG hti;obtain⟨i',d',z',hT'⟩:=aG hre;have hd:=hT.slice hkind;have h1:=(hr x (by simp[hop,Op.operands])).sv hc;have h2:=(hr y (by simp[hop,Op.operands])).sv hyc;rw[hx]at h1;rw[hy]at h2;simp only[VRel]at h1 h2;refine⟨.slice aq 0 0,?_,by simp only[VRel]⟩;have hb:execOp ev o=(do pure (Next.value (<-Instr.sliceAt t (ev x) aq (al (ev y)) aq))):=by simp[execOp,hop]
 rw[hb,h1,h2];refine gJ ?_;have hbd:=iC (P:=e.P) (w:=w) ab 0 0 .i64 aq (al (.int k 0)) aq aq (al (.int k 0)) aq 0 0 0 (.inl ⟨rfl,rfl⟩) (.inr ⟨k,rfl⟩) (.inl ⟨rfl,rfl⟩) (Int.le_refl _) (Int.le_refl _) (Int.le_refl _) (Int.le_refl _);have hbd':(Instr.sliceBounds ab 0 0 aq (al (.int k 0)) aq).run e.P w= .ok (0,0,0) w:=hbd;subst hd;simp[Instr.sliceAt,hT.run_und,aM,Instr.slice,hbd',hT'.run_size]
end
section
variable{e:E}{n:Nat}
def jM(e:E)(q:FuncId)(args:List V)(h:H)(K:H->(Nat->Bool)->Prop):Prop :=
 ∀ok pl w vs,HSim e ok pl h w->VList (cx ok pl w) args vs ->
  CallsDIn (RF aq) (0-1) e.P q vs.toArray (.returning) w λen u' w'=>(∃y,en= .returned y)/\u'= .returning /\
   ∃p pl' h',HSim e ok pl' h' w'/\Keeps p pl w pl' w'/\K h' p
theorem mP(htl:e.tl=[]){q:FuncId}{fn:Func}{args:List V}{h:H}{K:H->(Nat->Bool)->Prop}{id:Nat}{o0:Oper}{l:List Oper}{rest:Code}(hf:e.P.funcs[q]? =al fn)
 (hb:fn.body=al (.seq (.region id (o0::l).toArray ac) rest)) (hr0:fn.results.toList=[]) (hn:aa args<=fn.ntmps) (hg:o0.guard=aq) (ho:∀ev w,(execOp ev o0).run e.P w= .ok .recover w) (hd:jF fn.ntmps o0.dst=ab)
 (hl:(l.all λo=>x9 o.op)=ab)
 (hv:O9 e fn.ntmps aq (o0::l).toArray (XE.seq (awp e fn.ntmps aq rest (λxe f h=>(xe= .normal\/xe= .ret)/\f.d=[]/\K h f.k)) (λ_ _ _=>False)) l ((Fr.init args).put o0.dst .nili) h):jM e q args h K:=by
 intro ok pl w vs hs hl2;refine callsDIn_of_wpSIn hf hb (iD aq q) λc0 cs hm=> ?_;have s0:=SSim.init htl (n:=fn.ntmps) hs hl2 hn;have s1:=s0.put (v:= .nili) (x:= .nilIface) hd (by simp only[VRel]);have hrec:recoverD (c0::cs)=aq:=by simp[recoverD,hm]
 refine wpSIn_seq (wpSIn_region ?_);have hsz:(o0::l).toArray.size=aa (o0::l):=by simp
 rw[hsz,List.range_eq_range'];show wpOpsSIn (RF aq) (0-1) e.P _ _ (0::List.range' 1 (aa l)) _ _ _;have h00:(o0::l).toArray[0]? =al o0:=by simp
 simp only[wpOpsSIn,h00];refine⟨λg _=>iD aq g,?_⟩;have hgd:gd (o0::l).toArray (Fr.init args) o0=al ab:=by unfold gd;rw[hg]
 rw[if_pos (rZ s0.val hgd),ho];dsimp only;rw[hrec];dsimp only;have hlist:=hv ok pl w pl w _ s1;have hS:=pM (P:=e.P) (cs:=c0::cs) (ops:=(o0::l).toArray) l 1 _ w (λj hj=>by simp[Nat.add_comm]) (λo ho=>zrs.1 hl o ho) hlist;refine kQ ?_ _ _ _ _ hS;rintro ex a2 cs2 w2 ⟨rfl,pl2,f2,h2,xe,s2,hx2,hq2⟩;cases xe<;>cases ex<;>(try exact hx2.elim)<;>(try exact hq2.elim);have hq2:awp e fn.ntmps aq rest (λxe f h=>(xe= .normal\/xe= .ret)/\f.d=[]/\K h f.k) f2 h2:=hq2;refine wpSIn_of_wpIn (eP aq) (wpIn_mono (hq2 ok pl w pl2 w2 a2 s2) ?_);rintro ex a3 w3 ⟨pl3,f3,h3,xe,s3,hx3,hxe,hd3,hk3⟩;have hdf:a3.defers=[]:=by
  have:=s3.dfr;rw[hd3]at this;exact Eq.trans this htl
 have hres:∃y,(results fn a3.tmps).run e.P w3= .ok y w3:=by
  have hp:(AL e.P f3 h3 fn.results.toList).1:=by rw[hr0];trivial
  obtain⟨y,h1,_⟩:=JK (f:=f3) s3.hs s3.val hp;exact⟨y,h1⟩
 obtain⟨y,hy⟩:=hres;have fin:a3.defers=[]/\∃u',c0::cs={c0 with mode:=u'}::cs/\∃v,(results fn a3.tmps).run e.P w3= .ok v w3/\((∃y,Ending.returned v= .returned y)/\u'= .returning /\
  ∃p pl' h',HSim e ok pl' h' w3/\Keeps p pl w pl' w3/\K h' p) :=
  ⟨hdf,.returning,by rw[<-hm],y,hy,⟨y,rfl⟩,rfl,f3.k,pl3,h3,s3.hs,s3.kp,hk3⟩
 rcases hxe with rfl|rfl<;>cases ex<;>(try exact hx3.elim)
 ·exact fin
 ·exact fin
theorem sK(htl:e.tl=[]){fn:Func}{R:AEnd->H->(Nat->Bool)->Prop}{ok:Nat->Prop}{pl0:Nat->Option Nat}{w0:World}{f F1:Fr}{h:H}{id:Nat}{mk df:Oper}{rest:Code}{q:FuncId}{caps:List V}{fx:Operand}
 (hmg:mk.guard=aq) (hmd:jF fn.ntmps mk.dst=ab) (hmp:(xX e.P mk (f.ev e) h).1) (hmf:f.put mk.dst (xX e.P mk (f.ev e) h).2=F1)
 (hdg:df.guard=aq) (hdd:df.dst=aq) (hdop:df.op= .defer {callee:= .value fx,args:=#[],argTypes:=#[]}) (hfx:(F1.ev e fx).sv= .fn (.func q) [] caps) (hsc:(F1.ev e fx).sc) (hen:ah e.P q=ab) (hfd:f.d=[])
 (hrest:∀d,awp {e with tl:=[d]} fn.ntmps aq rest (λxe f' h'=>f'.d=[]/\ap f'.k caps=caps/\match xe with
  | .pan v=>jL e q caps v h' (λh'' p=>su e.P fn.results.toList (λv h k=>R (.ret v) h (λi=>f.k i||k i)) (f'.drop p) h'')
  | .ret=>jM e q caps h' (λh'' p=>su e.P fn.results.toList (λv h k=>R (.ret v) h (λi=>f.k i||k i)) (f'.drop p) h'')
  |_=>False) {F1 with k:=λ_=>ac} h) :
 Z5 e fn.ntmps (bodyPostM (RF aq) 0 e.P fn (Y2 e ok pl0 w0 R)) ok pl0 w0 (.seq (.region id [mk,df].toArray ac) rest) f h:=by
 intro pl w a s;refine wpIn_seq (wpIn_region_lit ?_);have hgd:gd [mk,df].toArray f mk=al ab:=by unfold gd;rw[hmg]
 unfold wpListIn;rw[if_pos (rZ s.val hgd)];refine⟨λg _=>iD aq g,?_⟩;have hq:=pz (e:=e) hmp ok pl w a.eval s.hs s.evs;have hnd:mk.semAt (RF aq).round a.eval=execOp a.eval mk:=by rw[eP,Oper.semAt_none]
 rw[hnd];have hF1d:F1.d=[]:=by
  rw[<-hmf];cases mk.dst with
  |none=>exact hfd
  |some i=>exact hfd
 have fin:∀x w1,WExt w w1/\VRel (cx ok pl w1) (xX e.P mk (f.ev e) h).2 x->wpListIn (RF aq) 0 e.P [mk,df].toArray (Exit.then (rest.wpIn (RF aq) 0 e.P (bodyPostM (RF aq) 0 e.P fn (Y2 e ok pl0 w0 R))) (bodyPostM (RF aq) 0 e.P fn (Y2 e ok pl0 w0 R))) [df] (a.put mk.dst x) w1:=by
  rintro x w1 ⟨hx,hv⟩;have kx:=hx.keeps s.hs;have s1:=(s.next0 (s.hs.wext hx) kx).put hmd hv;rw[hmf]at s1;generalize ha1:a.put mk.dst x=a1 at s1 ⊢;have hgd1:gd [mk,df].toArray F1 df=al ab:=by unfold gd;rw[hdg]
  unfold wpListIn;rw[if_pos (rZ s1.val hgd1)];refine⟨λg _=>iD aq g,?_⟩;have h1:=(s1.ev fx).sv hsc;rw[hfx]at h1;simp only[VRel]at h1;obtain⟨fs,cs,h2,h3,h4⟩:=h1;have hfs:fs=#[]:=by
   simp only[VList]at h3;exact Array.toList_eq_nil_iff.1 h3
  subst hfs;obtain⟨d,ed⟩:∃d:Deferred,d={target:= .fn (.func q) cs,args:=#[]}:=⟨_,rfl⟩;have hrun:(execOp a1.eval df).run e.P w1= .ok (.defer d) w1:=by
   rw[ed];simp[execOp,hdop,resolve,h2,Deferred.ofValue,aM]
  rw[eP,Oper.semAt_none,hrun,Oper.uponIn_defer,hdd];have hdf1:a1.defers=[]:=by
   have:=s1.dfr;rw[hF1d]at this;exact Eq.trans this htl
  have s2:SSim {e with tl:=[d]} fn.ntmps ok pl w1 {F1 with k:=λ_=>ac} h pl w1 {a1 with defers:=d::a1.defers} :=
   ⟨s1.hs.tl _,Keeps.refl pl w1,s1.size,s1.val,by
    show Il _ [d] F1.d (d::a1.defers);rw[hF1d,hdf1];rfl⟩
  show rest.wpIn (RF aq) 0 e.P _ {a1 with defers:=d::a1.defers} w1;refine wpIn_mono (hrest d ok pl w1 pl w1 _ s2) ?_;rintro ex a3 w3 ⟨pl3,f3,h3',xe,s3,hx3,hd3,hcap,hcD⟩;have hdf3:a3.defers=[d]:=by have:=s3.dfr;rw[hd3]at this;exact this
  have hcs3:VList (cx ok pl3 w3) caps cs.toList:=by
   have:=VList.mdrop s3.kp.cext _ _ h4
   rwa [hcap]at this
  have hinv:(invoke d.target d.args).run e.P w3= .ok (.enter q cs) w3:=by
   rw[ed];simp only[invoke];rw[qK hen]
   congr 2
   simp
  have fin2:∀ {p:Nat->Bool} {pl4:Nat->Option Nat} {h4':H} {w4:World},HSim e ok pl4 h4' w4->Keeps p pl3 w3 pl4 w4->su e.P fn.results.toList (λv h k=>R (.ret v) h (λi=>f.k i||k i)) (f3.drop p) h4'->LeavesInM (RF aq) 0 e.P fn a3.tmps (Y2 e ok pl0 w0 R) [] .returning w4:=by
   intro p pl4 h4' w4 hs4 k4 hK;have s4:=s3.next (hs4.tl _) k4 (p:=p) (by rw[hd3];intro i hi;cases hi)
   unfold su at hK;rw[show(f3.drop p).d=[]from hd3]at hK;simp only[mD]at hK;obtain⟨u,hu1,hu2⟩:=JK (f:=f3.drop p) (e:=e) hs4 s4.val hK.1;have kk:=((s.kp.trans kx).trans s3.kp).trans k4;exact⟨u,hu1,_,pl4,h4',.ret _,hs4,kk.weaken (q:=λi=>f.k i||(f3.drop p).k i) (λi hi=>by
    simp only[Fr.drop,Bool.or_eq_true,Bool.or_false,zrm,or_false]at hi ⊢;rcases hi with(hi|hi)|hi
    ·exact .inl hi
    ·exact .inr (.inl hi)
    ·exact .inr (.inr hi)),hu2,hK.2⟩
  cases xe<;>cases ex<;>(try exact hx3.elim)<;>(try exact hcD.elim)
  case ret.ret =>
   show LeavesInM (RF aq) 0 e.P fn a3.tmps _ a3.defers .returning w3;rw[hdf3];refine⟨by simp,.inr ⟨(λhh=>by rw[lS]at hh;cases hh),Fn.func q,cs,q,cs,(by rw[ed]),hinv,(λg _=>iD aq g),?_⟩⟩;refine CallsDIn.mono (hcD ok pl3 w3 cs.toList s3.hs.untl hcs3) ?_;rintro en u' w4 ⟨⟨z,rfl⟩,rfl,p,pl4,h4',hs4,k4,hK⟩;exact fin2 hs4 k4 hK
  case pan.panic =>
   obtain⟨y,rfl,hy⟩:=hx3;show LeavesInM (RF aq) 0 e.P fn a3.tmps _ a3.defers (.panicking _) w3;rw[hdf3];refine⟨by simp,.inr ⟨(λhh=>by rw[lS]at hh;cases hh),Fn.func q,cs,q,cs,(by rw[ed]),hinv,(λg _=>iD aq g),?_⟩⟩;refine CallsDIn.mono (hcD ok pl3 w3 cs.toList y s3.hs.untl hcs3 hy) ?_;rintro en u' w4 ⟨⟨z,rfl⟩,rfl,p,pl4,h4',hs4,k4,hK⟩;exact fin2 hs4 k4 hK
 revert hq
 cases hrun:(execOp a.eval mk).run e.P w with
 |halt x w'=>intro hq;exact hq.elim
 |ok nx w' =>
  intro hq;cases nx<;>try exact hq.elim
  case value x=>exact fin x w' hq
  case skip=>exact fin undef w' hq
  case enter g args =>
   refine⟨λhh=>(by rw[lS]at hh;cases hh),fH (Calls.mono hq ?_)⟩;rintro en w'' ⟨x,rfl,hx⟩;exact fin x w'' hx
end
section
variable{e:E}{g:FuncId}{args:List V}{h:H}{R:AEnd->H->(Nat->Bool)->Prop}
def EvF(e:E)(g:FuncId)(args:List V)(k n:Nat)(cs:List V):Prop :=
 ag e g args [] λae h' _=>match ae with
  | .ret v=>(v= .nils/\n=0/\cs=[])\/∃id cap,v= .ls id k 0 n cap/\n<=cap/\h'[id]? =al (.cells cs)
  | .pan _=>False
theorem kw{k n:Nat}{cs:List V}(hv:EvF e g args k n cs)(hd:aL args=ab)(hcs:aL cs=ab)(hr:R (.ret (.ls (aa h) k 0 n n)) (h++[.cells cs]) (λ_=>ac)):ag e g args h R:=by
 intro ok pl w vs hs hl;refine(hv _ _ w vs hs.toData (VList.mono (ng ok pl w) _ _ (VList.todata _ _ hd hl))).mono ?_;rintro en w' ⟨p,pl',h',ae,hs',k',he,hq⟩;have x:WExt w w':=⟨k'.os,k'.tape,k'.output,k'.size,λb hb=>k'.same b hb (λi hi=>by cases hi)⟩;have bare:∀v:V,(∀y,(∀c:C,VRel c v y->VRel c (.ls (aa h) k 0 n n) y))->cs=[]->∀y,VRel (cx ok pl w') v y->en= .returned y->∃p pl2 h2 ae2,HSim e ok pl2 h2 w'/\Keeps p pl w pl2 w'/\JG (cx ok pl2 w') ae2 en/\R ae2 h2 p:=by
  intro v hle hc0 y hy hen;subst hc0;refine⟨λ_=>ac,pl,h++[.cells []],.ret (.ls (aa h) k 0 n n),qJ (hs.wext x),x.keeps hs,?_,hr⟩;rw[hen];exact hle y _ hy
 cases ae with
 |pan v=>exact hq.elim
 |ret v =>
  cases en with
  |panicked ch=>exact he.elim
  |outgrown=>exact he.elim
  |returned y =>
   have he:VRel _ v y:=he;rcases hq with⟨rfl,rfl,rfl⟩|⟨id,cap,rfl,hcap,hid⟩
   ·refine bare .nils (λy c hy=> ?_) rfl y (by simpa only[VRel]using he) rfl;simp only[VRel]at hy ⊢;exact⟨aq,0,hy,zrb _,zrb _,Nat.zero_le _,.inl rfl⟩
   ·simp only[VRel]at he;obtain⟨a,cp,h1,h2,h3,h4,h5⟩:=he;cases hp:pl' id with
    |none =>
     have hc0:cs=[]:=by
      rcases hs'.bare id _ hid hp with h|h
      ·cases h
      ·cases h;rfl
     rcases h5 with h5|⟨b,arr,el,fz,h6,_⟩
     ·subst h5;have hn:n=0:=by omega
      subst hn;refine⟨λ_=>ac,pl,h++[.cells cs],.ret (.ls (aa h) k 0 0 0),by rw[hc0];exact qJ (hs.wext x),x.keeps hs,?_,hr⟩;show VRel _ _ _;simp only[VRel];exact⟨a,0,h1,zrb _,h3,h4,.inl rfl⟩
     ·simp only[cx]at h6;rw[hp]at h6;cases h6
    |some b0 =>
     have hb1:w.heap.size<=b0:=by
      rcases k'.loc id b0 hp with⟨j,hj⟩|hlt
      ·cases hj
      ·exact hlt
     have hb2:=hs'.lt id b0 hp;obtain⟨o,ho,hat⟩:=hs'.obj id b0 hp;rw[hid]at ho;cases ho;obtain⟨arr,el,fz,g1,g2,g3,g4⟩:=hat;have cxt:CExt (λ_=>ac) (cx (λb=>ok b/\∀i,pl i≠al b) pl' w').data (cx ok (bz pl (aa h) b0) w').data:=by
      refine⟨λb hb hok=>⟨⟨hok.1.1,λi hi=> ?_⟩,rfl⟩,λi b _ hi=>by simp[C.data]at hi,λb arr' el' fz' hb'=>⟨arr',fz',hb',rfl⟩⟩;simp only[bz]at hi;split at hi
      ·cases hi;exact hok.2 id hp
      ·exact hok.1.2 i hi
     have hat2:OAt (cx ok (bz pl (aa h) b0) w') b0 (.cells cs) :=
      ⟨arr,el,fz,g1,g2,g3,VList.ofdata _ _ (VList.mono cxt _ _ (VList.todata _ _ hcs g4))⟩
     obtain⟨s2,k2⟩:=hs.new x (.cells arr el) (.cells cs) hb1 hb2 hat2;refine⟨λ_=>ac,bz pl (aa h) b0,h++[.cells cs],.ret (.ls (aa h) k 0 n n),s2,k2,?_,hr⟩;show VRel _ _ _;simp only[VRel];refine⟨a,cp,h1,h3,h3,h4,?_⟩;rcases h5 with h5|⟨b,arr2,el2,fz2,h6,h7,h8,h9⟩
     ·exact .inl h5
     ·simp only[cx]at h6 h8;rw[hp]at h6;cases h6;exact .inr ⟨b0,arr2,el2,fz2,by simp[cx,bz],h7,h8,h9⟩
theorem EvF.ev{k n:Nat}{cs:List V}{r:V}(hv:EvF e g args k n cs)(hn:n=0->cs=[]->VLe .nils r)(hr:∀h':H,∀id cap:Nat,n<=cap->h'[id]? =al (.cells cs)->aC e h' (.ls id k 0 n cap) r)(hnr:n=0->cs=[]->∀h':H,aC e h' .nils r):Ev e g args r :=
 kN (ag.mono hv λae h' p hq=>by
  cases ae with
  |pan v=>exact hq
  |ret v =>
   rcases hq with⟨rfl,h1,h2⟩|⟨id,cap,rfl,hc,hid⟩
   ·exact hnr h1 h2 h'
   ·exact hr h' id cap hc hid)
theorem dG{x:Bool}{k:Nat}:VLe .nils (.is x k []):=λc y h=>by simp only[VRel]at h ⊢;exact⟨aq,0,h,zrb _,Nat.zero_le _,λ_=>rfl,by simp⟩
theorem dH{x:Bool}{k:Nat}{es:List V}:VLe (.is x k es) (.is ac k es):=λc y h=>by simp only[VRel]at h ⊢;obtain⟨a,cp,h1,h2,h3,h4,h5⟩:=h;exact⟨a,cp,h1,h2,h3,(λh=>by cases h),h5⟩
theorem VElems.les{c:C}{k:Nat}:∀ {es es':List V} {b off:Nat},aa es'=aa es->(∀(i:Nat) v v',es[i]? =al v->es'[i]? =al v'->VLe v v')->VElems c k es b off->VElems c k es' b off
 |[],[],_,_,_,_,h=>h
 |[],_::_,_,_,hl,_,_=>by simp at hl
 |_::_,[],_,_,hl,_,_=>by simp at hl
 |v::vs,v'::vs',b,off,hl,hv,h=>by simp only[VElems]at h ⊢;obtain⟨⟨ev,h1,h2,h3⟩,h4⟩:=h;exact⟨⟨ev,h1,h2,hv 0 v v' rfl rfl c ev h3⟩,VElems.les (by simpa using hl) (λi a b ha hb=>hv (i+1) a b (by simpa using ha) (by simpa using hb)) h4⟩
theorem VLe.is{x:Bool}{k:Nat}{es es':List V}(hl:aa es'=aa es)(hv:∀(i:Nat) v v',es[i]? =al v->es'[i]? =al v'->VLe v v'):VLe (.is x k es) (.is x k es'):=λc y h=>by
 simp only[VRel]at h ⊢;obtain⟨a,cp,h1,h2,h3,h4,h5⟩:=h;refine⟨a,cp,by rw[hl];exact h1,by omega,h3,λh=>by rw[hl];exact h4 h,?_⟩;rcases h5 with h5|⟨b,off,h5,h6⟩
 ·exact .inl (by subst h5;exact zse hl)
 ·exact .inr ⟨b,off,h5,h6.les hl hv⟩
theorem Ev.les{args':List V}{r:V}(hv:Ev e g args' r)(ha:dm args args'):Ev e g args r :=
 λok w vs hs hl=>hv ok w vs hs (ha _ _ hl)
theorem EvR.les{args':List V}{S:V->Prop}(hv:EvR e g args' S)(ha:dm args args'):EvR e g args S :=
 λok w vs hs hl=>hv ok w vs hs (ha _ _ hl)
theorem EvF.les{args':List V}{k n:Nat}{cs:List V}(hv:EvF e g args' k n cs)(ha:dm args args'):EvF e g args k n cs :=
 ig ha (HLe.refl _) hv
end
section
variable{e:E}{n:Nat}{r:Option Nat}{c:Code}{Q:XE->Fr->H->Prop}{f:Fr}{h:H}
theorem iF(i k:Nat)(hi:f.t i= .nils)(hw:awp e n r c Q {f with t:=λj=>if j=i then .ls (aa h) k 0 0 0 else f.t j} (h++[.cells []])):awp e n r c Q f h :=
 gI (JO (FLe.one i (by rw[hi];exact dV)) (HLe.refl _) hw)
def fK(k:Nat):Nat->Bool:=λj=>ar (k<=j)
theorem fB{h0 Y:H}(hd:∀j∈f.d,j<aa h0)
 (hw:awp e n r c Q (f.drop (fK (aa h0))) (h0.map (O.drop (fK (aa h0))))):awp e n r c Q f (h0++Y):=by
 refine OQ (.inr ⟨aa h0,hd,?_⟩);have e1:((h0++Y).map (O.drop λi=>ar (aa h0<=i))).take (aa h0)=h0.map (O.drop (fK (aa h0))):=by
  simp only[zql];rw[List.take_append_of_le_length (by simp),zqh (by simp)];rfl
 rw[e1];exact hw
def Fh(h:H):Prop:=∀p:Nat->Bool,(∀i,i<aa h->p i=ac)->h.map (O.drop p)=h
theorem Fh.one{h:H}(hc:Fh h){j:Nat}(hj:aa h<=j):h.map (O.drop (·==j))=h:=hc _ (λi hi=>by simp;omega)
theorem Fh.set{h:H}(hc:Fh h){k:Nat}{o:O}(ho:∀p:Nat->Bool,(∀i,i<aa h->p i=ac)->o.drop p=o):Fh (h.set k o):=λp hp=>by rw[zrn]at hp;rw[List.map_set,hc p hp,ho p hp]
theorem ag.kp{g:FuncId}{args:List V}{R:AEnd->H->(Nat->Bool)->Prop}(p0:Nat->Bool)(hc:ag e g args h λae h' p=>(∀i,p i=ab->p0 i=ab)/\R ae h' p0):ag e g args h R :=
 λok pl w vs hs hl=>(hc ok pl w vs hs hl).mono λen w' ⟨p,pl',h',ae,h1,h2,h3,h4,h5⟩=>⟨p0,pl',h',ae,h1,h2.weaken h4,h3,h5⟩
end
section
variable{H:Type}{enc:TypeId×Value->H}{P:Program}{R:Nat}(M:Meas H P R)
theorem law_contractG{fn:Func}{f:FuncId}{s:ChangeSpec}{shs:List Sh}(hl:laidOutB P=ab)(hlen:aa shs=fn.params.size)
 (hok:∀(i:Nat) sh t,shs[i]? =al sh->fn.params[i]? =al t->sh.ok P t=ab/\sh.fat P t=ab) (hread:(fn.params.toList.all λt=>P.readableRec t&&ar (t<P.types.size))=ab)
 (hres:∃tb,fn.resultTypes=#[tb]/\P.underlying tb=al .bool) (hvars:s.vars=[])
 (hspec:∀ds:List (DataW H),aa ds=aa shs->(s.fn H (ds++[])).results=[.lit (.bool ab)]/\(s.fn H (ds++[])).args=ds/\(s.fn H (ds++[])).vars=[])
 (e:E) (heP:e.P=P)  (hev:∀us,Sh.Szs R shs us->Ev e f us (.bool ab))
 (W:World) (base:Nat) (args:Array Value) (ds gs:List (DataW H)) (before:List MemPlace)
 (hval:∀(j:Nat) t v,fn.params[j]? =al t->args[j]? =al v->Value.okWide P W .any base t v)
 (hW:DataW.Whole enc P fn.params.toList s.vars ac W args.toList ds gs before)
 (hwt:∀(i:Nat) d t,ds[i]? =al d->fn.params.toList[i]? =al t->M.L t d)
 (hgl:∀g v,e.gl g=al v->VRel (cw W) (.ip v) (.pointer (al ⟨g,0,aq⟩)))
 (hex:∀g p,e.gx g=al p->∃cs ty fz,W.heap[g]? =al (.cells cs ty fz)/\p cs) :
 Calls P f args W λe W'=>∃v,e= .returned v/\s.post enc P fn ac ab ac ac W args v W':=by
 have hW':=hW;obtain⟨p,q,hA,hV,rfl,hfz,hnd⟩:=hW;rw[hvars]at hV;obtain⟨rfl,rfl⟩:=trodVars_none hV;obtain⟨us,k1,k2⟩:=uu M shs fn.params.toList args.toList ds p (by simpa using hlen) (λi sh t h1 h2=>hok i sh t h1 (by simpa using h2)) (λi sh v h1 h2=>by
  have hi:i<fn.params.size:=by have:=(zqe h1).1;omega
  exact AO (hok i sh fn.params[i] h1 (by simp[hi])).1 (hval i fn.params[i] v (by simp[hi]) (by simpa using h2))) hA hwt
 subst heP;have hs:HSim e (λ_=>True) (λ_=>aq) [] W:=⟨λ_ _=>trivial,λi b hi=>(by cases hi),λi b hi=>(by cases hi),λi j b hi=>(by cases hi),λi b hi=>(by cases hi),λi o ho=>(by simp at ho),λg v hg=>hgl g v hg,λg p hg=>⟨⟨trivial,λi hi=>(by cases hi)⟩,hex g p hg⟩⟩;have hc:=hev us k1 _ W args.toList hs k2;rw[show args.toList.toArray=args from Array.toArray_toList]at hc;refine hc.mono ?_;rintro en W' ⟨x,rfl,hx,hv⟩;simp only[VRel]at hv;subst hv;obtain⟨tb,hr1,hr2⟩:=hres;have hdl:aa ds=aa shs:=by rw[JM hA,hlen];simp
 obtain⟨e1,e2,e3⟩:=hspec ds hdl;refine⟨_,rfl,ds,[],p++[],[],p,[],hW',?_,?_,?_,hx.below.frame _,λh=>(by cases h)⟩
 ·rw[e1,hr1];exact trodAll_mk1 ⟨1,by simp[DataW.trod,Value.cells,hr2]⟩
 ·rw[e2];exact uo hl hx.below fn.params.toList args.toList ds p hread (λy hy=>hA.lt y hy) hA
 ·rw[e3,hvars];rfl
theorem WZ{w:World}{g:Nat}{a b:Int}{k:IntKind}{ty:TypeId}{fz:Nat×Nat}(h:w.heap[g]? =al (.cells #[.int k a,.int k b] ty fz)):VRel (cw w) (.ip (.agg [.int k a,.int k b])) (.pointer (al ⟨g,0,aq⟩)):=by simp only[VRel,VList];refine⟨g,0,.agg #[.int k a,.int k b],rfl,λj hj=>⟨⟨trivial,λi hi=>by cases hi⟩,?_⟩,by simp[Value.cells],_,rfl,_,_,rfl,rfl,_,_,rfl,rfl,rfl⟩;show w.cell? ⟨g,0+j,aq⟩=_;unfold World.cell?;simp only[h,Nat.zero_add];rfl
end
section
variable{e:E}{n:Nat}{r:Option Nat}{o:Oper}{f:Fr}{h:H}{Kn:Fr->H->Prop}{Q:XE->Fr->H->Prop}
theorem W9{r:Option Nat}{c:Code}(Pf:Fr->Prop)(h0:H)(h1:(∀f',Pf f'->awp e n r c Q f' h0)->awp e n r c Q f h)(h2:∀f',Pf f'->awp e n r c Q f' h0):awp e n r c Q f h:=h1 h2
end
section
variable{e:E}{n:Nat}{r:Option Nat}{o:Oper}{f:Fr}{h:H}{Kn:Fr->H->Prop}{Q:XE->Fr->H->Prop}
theorem kS{x:Operand}{xt t:TypeId}{q:TI}(hop:o.op= .typeAssert x xt t ab)(hq:ti e.P t=al q)(hxc:(f.ev e x).sc)(hx:(f.ev e x).sv= .nili)
 (hk:Kn (f.put o.dst (.tup [q.zero,.bool ac])) h):Eff e n r o f h Kn Q:=by
 refine kG (v:= .tup [q.zero,.bool ac]) (iV λok pl w ev hs hr=> ?_) hk;obtain⟨i,d,z,hT⟩:=aG hq;have hxv:=(hr x (by simp[hop,Op.operands])).sv hxc;rw[hx]at hxv;simp only[VRel]at hxv;have hrun:(Instr.typeAssert (ev x) xt t ab).run e.P w= .ok (.tuple #[z,.bool ac]) w:=by
  unfold Instr.typeAssert;rw[hxv];cases d<;>simp[Sem.run_bind,hT.run_und,hT.run_zero,aM]
 refine⟨.tuple #[z,.bool ac],?_,?_⟩
 ·have h5:execOp ev o=(do pure (Next.value (<-Instr.typeAssert (ev x) xt t ab))):=by simp[execOp,hop]
  rw[h5];exact gJ hrun
 ·simp only[VRel,VList];rw[hT.zv];exact⟨#[z,.bool ac],rfl,_,_,rfl,dA _ z,_,_,rfl,rfl,rfl⟩
end
section
variable{e:E}{n:Nat}{r:Option Nat}{ops:Array Oper}{Q:XE->Fr->H->Prop}{ok:Nat->Prop}{pl0:Nat->Option Nat}{w0:World}
theorem SSim.unput{f:Fr}{h:H}{pl:Nat->Option Nat}{w:World}{a:Act}{d:Option Tmp}{v:Value}(s:SSim e n ok pl0 w0 f h pl w (a.put d v)):SSim e n ok pl0 w0 (f.put d .any) h pl w a:=by
 cases d with
 |none=>exact s
 |some i =>
  refine⟨s.hs,s.kp,?_,λj=> ?_,s.dfr⟩
  ·have:=s.size;simpa [Act.put]using this
  ·by_cases hj:j=i
   ·subst hj;have:(f.put (al j) .any).t j= .any:=by simp[Fr.put]
    rw[this];simp only[VRel]
   ·have h1:(f.put (al i) .any).t j=f.t j:=by simp[Fr.put,hj]
    rw[h1];have h2:=s.val j;simpa [Act.put,Array.getElem?_setIfInBounds_ne (Ne.symm hj)]using h2
end
section
variable{e:E}{n:Nat}{r:Option Nat}{ops:Array Oper}{Q:XE->Fr->H->Prop}{ok:Nat->Prop}{pl0:Nat->Option Nat}{w0:World}{h:H}
def bT(o:Oper):Bool:=match o.op with | .alloc _=>ab|_=>ac
def oU(e:E)(n:Nat)(ops:Array Oper)(h:H)(o:Oper)(v:V)(f:Fr):Prop :=
 (bT o=ab/\o.guard=aq/\jF n o.dst=ab/\v= .any)\/(bT o=ac/\nz e n ops h o v f)
theorem oU.put{o:Oper}{v:V}{f:Fr}(hy:oU e n ops h o v f){dst:Option Tmp}{u:V}(hd:∀d,dst=al d->d∉o.looksAt ops):oU e n ops h o v (f.put dst u) :=
 hy.imp id λh=>⟨h.1,h.2.put hd⟩
theorem oU.unput{o:Oper}{v:V}{f:Fr}{dst:Option Tmp}{u:V}(hy:oU e n ops h o v (f.put dst u))(hd:∀d,dst=al d->d∉o.looksAt ops):oU e n ops h o v f :=
 hy.imp id λh=>⟨h.1,h.2.unput hd⟩
def xI(e:E)(n:Nat)(ops:Array Oper)(h:H)(i:Nat)(Kn:Fr->Prop)(f:Fr):Prop :=
 match ops[i]? with
 |none=>Kn f
 |some o=>∃v,oU e n ops h o v f/\Kn (f.put o.dst v)
theorem MR{i:Nat}{f:Fr}{K K':Fr->Prop}(hh:∀f,K f->K' f)(hq:xI e n ops h i K f):xI e n ops h i K' f:=by
 unfold xI at *;split
 ·exact hh _ (by simpa [*]using hq)
 ·rename_i o ho;simp only[ho]at hq;obtain⟨v,h1,h2⟩:=hq;exact⟨v,h1,hh _ h2⟩
theorem Pg{j:Nat}{oi oj:Oper}{v:V}(hj:ops[j]? =al oj)(hap:oi.apart ops oj=ab){K:Fr->Prop}{f:Fr}
 (hy:oU e n ops h oi v f) (hq:xI e n ops h j K (f.put oi.dst v)) :
 xI e n ops h j (λf'=>oU e n ops h oi v f'/\K (f'.put oi.dst v)) f:=by
 obtain⟨h1,h2,h3⟩:=Oper.apart_spec hap;unfold xI at *;simp only[hj]at *;obtain⟨u,hu,hn⟩:=hq;exact⟨u,hu.unput h1,hy.put h3,by rw[<-Fr.put_comm f v u h2];exact hn⟩
def qL(e:E)(n:Nat)(ops:Array Oper)(h:H)(Q:Fr->Prop):List Oper->Fr->Prop
 |[],f=>Q f
 |o::rest,f=>∃v,oU e n ops h o v f/\qL e n ops h Q rest (f.put o.dst v)
def xf(e:E)(n:Nat)(ops:Array Oper)(h:H)(last:Nat)(Q:Fr->Prop):Nat->Array Bool->Fr->Prop
 |0,listed,f=>Region.ready .any ops listed=[last]/\Q f
 |fuel+1,listed,f=>Region.ready .any ops listed≠[]/\(Region.ready .any ops listed=[last]->Q f) /\
  ∀i∈Region.ready .any ops listed,i≠last->xI e n ops h i (xf e n ops h last Q fuel (listed.setIfInBounds i ab)) f
theorem xg{last:Nat}{Q:Fr->Prop}{i:Nat}{oi:Oper}{v:V}(hi:ops[i]? =al oi)(hil:i≠last) :
 ∀(fuel:Nat)(listed:Array Bool)(f:Fr),
  (∀j oj,ops[j]? =al oj->j≠i->listed.getD j ab=ac->(∀e∈oj.after,Region.binds .any e=ab->e.on≠i)->oi.apart ops oj=ab) ->
  i∈Region.ready .any ops listed->oU e n ops h oi v f ->
  xf e n ops h last Q fuel (listed.setIfInBounds i ab) (f.put oi.dst v)->xf e n ops h last Q (fuel+1) listed f:=by
 have own:∀ {K:Fr->Prop} {f:Fr},oU e n ops h oi v f->K (f.put oi.dst v)->xI e n ops h i K f:=by intro K f hy hk;unfold xI;rw[hi];exact⟨v,hy,hk⟩
 have one:∀ {listed:Array Bool} {R:Prop},i∈Region.ready .any ops listed->Region.ready .any ops listed=[last]->R:=by intro listed R hr h;rw[h]at hr;exact absurd (by simpa using hr) hil
 intro fuel
 induction fuel with
 |zero =>
  intro listed f _ hr hy H;refine⟨λh=>(by rw[h]at hr;cases hr),λh=>one hr h,λj hj hjl=> ?_⟩;by_cases hji:j=i
  ·subst hji;exact own hy H
  ·have:=ready_mono hj hji;rw[H.1]at this;exact absurd (by simpa using this) hjl
 |succ fuel ih =>
  intro listed f hfree hr hy H;refine⟨λh=>(by rw[h]at hr;cases hr),λh=>one hr h,λj hj hjl=> ?_⟩;by_cases hji:j=i
  ·subst hji;exact own hy H
  ·have h1:=H.2.2 j (ready_mono hj hji) hjl;obtain⟨hjun,oj,hoj,hall⟩:=mem_ready.1 hj;have hnot:∀e∈oj.after,Region.binds .any e=ab->e.on≠i:=λe he hb heq=>by
    have h1:=hall e he hb;have h0:=(mem_ready.1 hr).1;rw[heq]at h1;rcases Nat.lt_or_ge i listed.size with h'|h'
    ·simp[h']at h0 h1;rw[h0]at h1;cases h1
    ·simp[Array.getElem?_eq_none h']at h1
   have h2:=Pg hoj (hfree j oj hoj hji hjun hnot) hy h1;have hfree':∀k ok,ops[k]? =al ok->k≠i->(listed.setIfInBounds j ab).getD k ab=ac ->
    (∀e∈ok.after,Region.binds .any e=ab->e.on≠i)->oi.apart ops ok=ab:=λk ok hk hki hun hno=>by
    refine hfree k ok hk hki ?_ hno;by_cases hjk:j=k
    ·subst hjk;exact hjun
    ·rw[getD_set_ne ab hjk]at hun;exact hun
   refine MR (λa' h3=>ih (listed.setIfInBounds j ab) a' hfree' (ready_mono hr (Ne.symm hji)) h3.1 ?_) h2;rw[Array.setIfInBounds_comm _ _ hji];exact h3.2
def uw(ops:Array Oper)(last:Nat):Nat->Nat->Array Bool->Bool
 |0,_,listed=>Region.ready .any ops listed==[last]
 |fuel+1,k,listed=>(Region.ready .any ops listed).contains k&&k != last&&Region.free .any ops listed k&&uw ops last fuel (k+1) (listed.setIfInBounds k ab)
theorem vW{last:Nat}{Q:Fr->Prop}:∀(l:List Oper)(k:Nat)(listed:Array Bool)(f:Fr),(∀j,j<aa l->l[j]? =ops[k+j]?) ->
 uw ops last (aa l) k listed=ab->qL e n ops h Q l f->xf e n ops h last Q (aa l) listed f
 |[],_,_,_,_,hB,h=>⟨by simpa [uw]using hB,h⟩
 |o::l,k,listed,f,hl,hB,hh=>by
  have h0:ops[k]? =al o:=by simpa using(hl 0 (by simp)).symm
  simp only [zrt,uw,zqf] at hB;obtain ⟨⟨⟨hr,hne⟩,hf⟩,hB'⟩ := hB;obtain ⟨v,hy,hK⟩ := hh;exact xg h0 (by simpa using hne) (aa l) listed f (Region.free_spec h0 hf) (by simpa using hr) hy
   (vW l (k+1) _ _ (λj hj=>by have:=hl (j+1) (by simpa using hj);simpa [Nat.add_assoc,Nat.add_comm 1 j]using this) hB' hK)
def xJ(ops:Array Oper)(listed:Array Bool):Prop:=∀i o,ops[i]? =al o->listed.getD i ac=ab->∀e∈o.after,Region.binds .any e=ab->listed.getD e.on ac=ab
def MS(ops:Array Oper):Bool:=(List.range (ops.size-1)).all λi=>(List.range ops.size).any λj=>ar (i<j)&&match ops[j]? with
 |some o=>o.after.any λe=>Region.binds .any e&&e.on==i
 |none=>ac
theorem JP(hB:MS ops=ab){listed:Array Bool}(hc:xJ ops listed)(hr:ops.size-1∈Region.ready .any ops listed):∀(k i:Nat),k=ops.size-i->i<ops.size-1->listed.getD i ac=ab:=by
 intro k
 induction k using Nat.strongRecOn with
 |_ k ih =>
  intro i hk hi;have h1:=zrs.1 hB i (by simpa using hi);obtain⟨j,hj,h2⟩:=List.any_eq_true.1 h1;simp only[List.mem_range]at hj;rw[zqf,zqb]at h2;obtain⟨hij,h2⟩:=h2;split at h2
  ·rename_i o ho;rw[Array.any_eq_true]at h2;obtain⟨q,hq,h3⟩:=h2;rw[zqf,beq_iff_eq]at h3;have hmem:o.after[q]∈o.after:=Array.getElem_mem hq;rw[<-h3.2];by_cases hjl:j=ops.size-1
   ·obtain⟨_,o',ho',hall⟩:=mem_ready.1 hr;rw[<-hjl,ho]at ho';cases ho';exact hall _ hmem h3.1
   ·exact hc j o ho (ih (ops.size-j) (by omega) j rfl (by omega)) _ hmem h3.1
  ·cases h2
theorem xJ.set{listed:Array Bool}(hc:xJ ops listed){i:Nat}(hi:i∈Region.ready .any ops listed):xJ ops (listed.setIfInBounds i ab):=by
 intro j o ho hl e he hb;refine getD_set_true ?_;by_cases hji:j=i
 ·subst hji;obtain⟨_,o',ho',hall⟩:=mem_ready.1 hi;rw[ho]at ho';cases ho';exact hall e he hb
 ·rw[getD_set_ne ac (Ne.symm hji)]at hl;exact hc j o ho hl e he hb
theorem xJ.none{m:Nat}:xJ ops (Array.replicate m ac):=by
 intro i o _ hl;exfalso;rcases Nat.lt_or_ge i m with h|h
 ·simp[h]at hl
 ·simp[h]at hl
theorem JQ(hB:MS ops=ab){listed:Array Bool}(hc:xJ ops listed)(hr:ops.size-1∈Region.ready .any ops listed):Region.ready .any ops listed=[ops.size-1]:=by
 have hall:∀j∈Region.ready .any ops listed,j=ops.size-1:=by
  intro j hj;obtain⟨h0,o,ho,_⟩:=mem_ready.1 hj;have hlt:=(Array.getElem?_eq_some_iff.1 ho).1;apply Classical.byContradiction;intro hne;have:=JP hB hc hr _ j rfl (by omega);rcases Nat.lt_or_ge j listed.size with h'|h'
  ·simp[h']at h0 this;rw[h0]at this;cases this
  ·simp[Array.getElem?_eq_none h']at this
 have hnd:(Region.ready .any ops listed).Nodup:=by unfold Region.ready;exact List.Pairwise.filter _ List.nodup_range
 match hm:Region.ready .any ops listed with
 |[]=>rw[hm]at hr;cases hr
 |[x]=>rw[hall x (by rw[hm];simp)]
 |x::y::l=>exfalso;rw[hm]at hnd;have h1:=hall x (by rw[hm];simp);have h2:=hall y (by rw[hm];simp);simp[h1,h2]at hnd
theorem HSim.recx{ok ok':Nat->Prop}{pl pl':Nat->Option Nat}{h h':H}{w w':World}(hs:HSim e ok pl h w)(x:CExt (λ_=>ac) (cx ok pl w) (cx ok' pl' w'))
 (fresh:∀b,w'.heap.size<=b->ok' b) (lt:∀i b,pl' i=al b->b<w'.heap.size) (okl:∀i b,pl' i=al b->ok' b) (inj:∀i j b,pl' i=al b->pl' j=al b->i=j)
 (obj:∀i b,pl' i=al b->∃o,h'[i]? =al o/\OAt (cx ok' pl' w') b o) (bare:∀i o,h'[i]? =al o->pl' i=aq->o= .dead\/o= .cells []):HSim e ok' pl' h' w' where
 fresh:=fresh
 lt:=lt
 okl:=okl
 inj:=inj
 obj:=obj
 bare:=bare
 glob g v hg:=VRel.mono x _ _ (hs.glob g v hg)
 exa g cs hg:=by
  obtain⟨h1,cs',ty,fz,h2,h3⟩:=hs.exa g cs hg;have:=x.dat g (aW h2) h1;exact⟨this.1,cs',ty,fz,this.2.trans h2,h3⟩
structure Hid(e:E)(n:Nat)(ok:Nat->Prop)(pl0:Nat->Option Nat)(w0:World)(f:Fr)(h:H)(pl:Nat->Option Nat)(w:World)(a:Act)(d:Tmp)(cs:List V)(b:Nat):Prop where
 s:SSim e n (λx=>ok x/\x≠b) pl0 w0 f h pl w a
 ptr:a.tmps.getD d undef= .pointer (al ⟨b,0,aq⟩)
 ob:OAt (cx ok (bz pl (aa h) b) w) b (.cells cs)
 ge:w0.heap.size<=b
 lt:b<w.heap.size
 okb:ok b
 npl:∀i,pl i≠al b
 dn:d<n
theorem Hid.cext{f:Fr}{pl:Nat->Option Nat}{w:World}{a:Act}{d:Tmp}{cs:List V}{b:Nat}(k:Hid e n ok pl0 w0 f h pl w a d cs b){w':World}(x:WExt w w') :
 CExt (λ_=>ac) (cx (λx=>ok x/\x≠b) pl w) (cx ok (bz pl (aa h) b) w'):=by
 refine⟨λb' hb' hok=>⟨⟨hok.1.1,λi hi=> ?_⟩,x.same b' hb'⟩,λi b' _ hi=> ?_,λb' arr' el' fz hb'=>⟨arr',fz,(x.same b' (aW hb')).trans hb',rfl⟩⟩
 ·simp only[bz]at hi;split at hi
  ·cases hi;exact hok.1.2 rfl
  ·exact hok.2 i hi
 ·have:=k.s.hs.pl_lt hi;simp only[cx,bz];rw[if_neg (by omega)];exact hi
theorem AQ.wpIn{o:Oper}{f:Fr}{v:V}{pl:Nat->Option Nat}{w:World}{a:Act}(hq:AQ e o (f.ev e) h v)(s:SSim e n ok pl0 w0 f h pl w a){K':Act->World->Prop}{Q':Exit->Act->World->Prop}
 (hk:∀x w',WExt w w'->VRel (cx ok pl w') v x->K' (a.put o.dst x) w'):o.wpIn (RF r) 0 e.P a w K' Q':=by
 have:=hq ok pl w a.eval s.hs s.evs;refine⟨λg _=>iD r g,?_⟩;have hnd:o.semAt (RF r).round a.eval=execOp a.eval o:=by
  rw[eP];refine Oper.semAt_eq r a.eval o λc hc=> ?_;unfold execOp at this;rw[hc]at this;simp only[Sem.run_bind]at this
  revert this
  cases(resolve a.eval c o.type).run e.P w<;>simp[lL,aM]
 rw[hnd]
 revert this
 cases(execOp a.eval o).run e.P w with
 |halt x w'=>simp[lL]
 |ok nx w' =>
  cases nx<;>simp only[lL,Oper.uponIn]<;>try(intro hf;exact hf.elim)
  case value x =>
   rintro⟨hx,hv⟩;exact hk _ _ hx hv
  case skip =>
   rintro⟨hx,hv⟩;exact hk _ _ hx hv
  case enter g args =>
   intro hc;refine⟨λhd'=>(by rw[lS]at hd';cases hd'),fH (hc.mono ?_)⟩;rintro en w'' ⟨x,rfl,hx,hv⟩;exact hk _ _ hx hv
structure AlOk(P:Program)(n:Nat)(ops:Array Oper)(ia:Nat)(d:Tmp)(q:TI):Prop where
 op:∃o t,ops[ia]? =al o/\o.op= .alloc t/\o.guard=aq/\o.dst=al d/\ti P t=al q
 fit:q.zero.fit=ab
 ne:ia≠ops.size-1
 dn:d<n
 oth:∀j o,ops[j]? =al o->j≠ia->bT o=ac/\o.dst≠al d
def LSt(e:E)(n:Nat)(ok:Nat->Prop)(pl0:Nat->Option Nat)(w0:World)(h:H)(ia:Nat)(d:Tmp)(q:TI)(listed:Array Bool)(f:Fr)(pl:Nat->Option Nat)(w:World)(a:Act):Prop :=
 (listed.getD ia ac=ac/\SSim e n ok pl0 w0 f h pl w a)\/(listed.getD ia ac=ab/\∃b,Hid e n ok pl0 w0 f h pl w a d q.zero.vc b)
theorem LSt.alloc{ia:Nat}{d:Tmp}{q:TI}(ha:AlOk e.P n ops ia d q){listed:Array Bool}(hsz:ia<listed.size){f:Fr}{pl:Nat->Option Nat}{w:World}{a:Act}(k:LSt e n ok pl0 w0 h ia d q listed f pl w a)
 (hun:listed.getD ia ab=ac) {K':Act->World->Prop} {Q':Exit->Act->World->Prop}
 (hk:∀a' w',LSt e n ok pl0 w0 h ia d q (listed.setIfInBounds ia ab) (f.put (al d) .any) pl w' a'->K' a' w'):wpOpIn (RF r) 0 e.P ops Q' ia K' a w:=by
 obtain⟨o,t,ho,hop,hg,hdst,hq⟩:=ha.op;have hl0:listed.getD ia ac=ac:=by simp only[Array.getD_eq_getD_getElem?,Array.getElem?_eq_getElem hsz,Option.getD_some]at hun ⊢;exact hun
 have hl1:(listed.setIfInBounds ia ab).getD ia ac=ab:=by simp[hsz]
 rcases k with⟨_,s⟩|⟨hl,_⟩
 ·unfold wpOpIn;rw[ho];dsimp only;have hgd:gd ops f o=al ab:=by unfold gd;rw[hg]
  rw[if_pos (rZ s.val hgd)];obtain⟨i,d',z,hT⟩:=aG hq;have hf:=ha.fit;have hz:VList (cx ok pl w) q.zero.vc z.cells.toList:=by
   rw[hT.zv]at hf ⊢;exact(dA _ z).vc hf
  obtain⟨h1,h2⟩:=yI s.hs hz t (WExt.refl w);have hrun:(execOp a.eval o).run e.P w= .ok (.value (.pointer (al ⟨w.heap.size,0,aq⟩))) (w.alloc (.cells z.cells t)):=by
   have:(Instr.alloc t ab (.tuple #[])).run e.P w= .ok (.pointer (al ⟨w.heap.size,0,aq⟩)) (w.alloc (.cells z.cells t)):=by unfold Instr.alloc;simp only[Sem.run_bind,hT.run_zero,aM];rfl
   have h3:execOp a.eval o=(do pure (Next.value (<-Instr.alloc t ab (.tuple #[])))):=by simp[execOp,hop]
   rw[h3];exact gJ this
  have xw:=WExt.alloc w (.cells z.cells t);refine⟨λg _=>iD r g,?_⟩;have hnd:o.semAt (RF r).round a.eval=execOp a.eval o:=by rw[eP];exact Oper.semAt_eq r a.eval o λc hc=>by rw[hop]at hc;cases hc
  rw[hnd,hrun];simp only[Oper.uponIn];refine hk _ _ (.inr ⟨hl1,w.heap.size,?_⟩);rw[hdst];have npl:∀i,pl i≠al w.heap.size:=λi hi=>by have:=s.hs.lt i _ hi;omega
  have x:CExt (λ_=>ac) (cx ok pl w) (cx (λx=>ok x/\x≠w.heap.size) pl (w.alloc (.cells z.cells t))):=by refine⟨λb' hb' hok=>⟨⟨⟨hok.1,?_⟩,hok.2⟩,xw.same b' hb'⟩,λi b' _ hi=>hi,λb' arr' el' fz hb'=>⟨arr',fz,(xw.same b' (aW hb')).trans hb',rfl⟩⟩;have hb':b'<w.heap.size:=hb';omega
  have hsz2:(w.alloc (.cells z.cells t)).heap.size=w.heap.size+1:=by rw[World.alloc];simp
  have hs':HSim e (λx=>ok x/\x≠w.heap.size) pl h (w.alloc (.cells z.cells t)):=by refine s.hs.recx x (λb' hb'=>⟨s.hs.fresh b' (by omega),by omega⟩) (λi b' hi=>by have:=s.hs.lt i b' hi;omega) (λi b' hi=>⟨s.hs.okl i b' hi,λhh=>npl i (by rw[hi,hh])⟩) s.hs.inj ?_ s.hs.bare;intro i b' hi;obtain⟨o',h3,h4⟩:=s.hs.obj i b' hi;exact⟨o',h3,OAt.mono x (xw.same b' (s.hs.lt i b' hi)) h4⟩
  have kp':=s.kp.trans (xw.keeps s.hs);refine⟨⟨hs',kp'.weaken (q:=(f.put (al d) V.any).k) (λi hi=>by simpa [Fr.put]using hi),?_,λj=> ?_,Il.mono (λi b' hi=>x.pl i b' rfl hi) s.dfr⟩,?_,?_,s.kp.size,by omega,s.hs.fresh _ (zrb _),npl,ha.dn⟩
  ·have:=s.size;simpa [Act.put]using this
  ·by_cases hj:j=d
   ·subst hj;have:(f.put (al j) V.any).t j= .any:=by simp[Fr.put]
    rw[this];simp only[VRel]
   ·have e1:(f.put (al d) V.any).t j=f.t j:=by simp[Fr.put,hj]
    rw[e1];have e2:(a.put (al d) (.pointer (al ⟨w.heap.size,0,aq⟩))).tmps.getD j undef=a.tmps.getD j undef:=by
     simp[Act.put,Array.getElem?_setIfInBounds_ne (Ne.symm hj)]
    rw[e2];exact VRel.mono x _ _ (s.val j)
  ·have hdn:d<a.tmps.size:=by rw[s.size];exact ha.dn
   simp[Act.put,hdn]
  ·obtain⟨o',h3,h4⟩:=h1.obj (aa h) w.heap.size (by simp[bz]);have:o'= .cells q.zero.vc:=by rw[zsb (zrb _)]at h3;simpa using h3.symm
   subst this;exact h4
 ·rw[hl0]at hl;cases hl
theorem Fj(hB:MS ops=ab){listed:Array Bool}(hc:xJ ops listed)(hr:ops.size-1∈Region.ready .any ops listed):Region.ready .any ops (listed.setIfInBounds (ops.size-1) ab)=[]:=by
 refine List.eq_nil_iff_forall_not_mem.2 λj hj=> ?_;obtain⟨h0,o,ho,_⟩:=mem_ready.1 hj;have hlt:=(Array.getElem?_eq_some_iff.1 ho).1;by_cases hjl:j=ops.size-1
 ·subst hjl;rcases Nat.lt_or_ge (ops.size-1) listed.size with h'|h'
  ·simp[h']at h0
  ·simp[Array.getElem?_eq_none,h']at h0
 ·rw[getD_set_ne ab (Ne.symm hjl)]at h0;have:=JP hB hc hr _ j rfl (by omega);rcases Nat.lt_or_ge j listed.size with h'|h'
  ·simp[h']at h0 this;rw[h0]at this;cases this
  ·simp[Array.getElem?_eq_none h']at this
theorem Ue(hna:∀(j:Nat)(o:Oper),ops[j]? =al o->bT o=ac)(hB:MS ops=ab):∀(fuel:Nat)(listed:Array Bool)(f:Fr),
 xf e n ops h (ops.size-1) (λf1=>E8 e n ops (ops.size-1) (λf' h'=>Q .normal f' h') Q f1 h) fuel listed f ->
 xJ ops listed->∀pl w a,SSim e n ok pl0 w0 f h pl w a->wpAnyIn (RF r) 0 e.P .any ops (iM e n ok pl0 w0 Q) (fuel+1) listed a w:=by
 have lastly:∀(fuel:Nat)(listed:Array Bool)(f:Fr),E8 e n ops (ops.size-1) (λf' h'=>Q .normal f' h') Q f h->xJ ops listed->ops.size-1∈Region.ready .any ops listed ->
  ∀pl w a,SSim e n ok pl0 w0 f h pl w a->wpOpIn (RF r) 0 e.P ops (iM e n ok pl0 w0 Q) (ops.size-1) (wpAnyIn (RF r) 0 e.P .any ops (iM e n ok pl0 w0 Q) fuel (listed.setIfInBounds (ops.size-1) ab)) a w:=by
  intro fuel listed f hv hc hr pl w a k;exact vT hv (λf' h' pl' w' a' s' hq=>wpAnyIn_done (Fj hB hc hr) ⟨pl',f',h',.normal,s',trivial,hq⟩ fuel) k
 intro fuel
 induction fuel with
 |zero =>
  intro listed f hL hc pl w a k;refine⟨λh0=>(by rw[hL.1]at h0;cases h0),λi hi=> ?_⟩;have hil:i=ops.size-1:=by rw[hL.1]at hi;simpa using hi
  subst hil;exact lastly _ _ _ hL.2 hc hi pl w a k
 |succ fuel ih =>
  intro listed f hL hc pl w a k;refine⟨λh0=>absurd h0 hL.1,λi hi=> ?_⟩;by_cases hil:i=ops.size-1
  ·subst hil;exact lastly _ _ _ (hL.2.1 (JQ hB hc hi)) hc hi pl w a k
  ·have h1:=hL.2.2 i hi hil;obtain⟨hun,o,ho,_⟩:=mem_ready.1 hi;unfold xI at h1;rw[ho]at h1;obtain⟨v,hy,hn⟩:=h1;rcases hy with⟨h2,_⟩|⟨_,hd,g,v',hg,hv,rfl⟩
   ·rw[hna i o ho]at h2;cases h2
   ·unfold wpOpIn;rw[ho];dsimp only;have hw:=rZ k.val hg;cases g with
    |true=>rw[if_pos hw];exact(hv rfl).wpIn k λx w' hx hr=>ih _ _ hn (hc.set hi) pl w' _ ((k.next0 (k.hs.wext hx) (hx.keeps k.hs)).put hd hr)
    |false=>rw[if_neg (by rw[hw];simp)];exact⟨λg _=>iD r g,ih _ _ hn (hc.set hi) pl w _ (k.put hd (jg (λhf=>by cases hf) (λ_=>rfl)))⟩
def bJ(e:E)(n:Nat)(ops:Array Oper)(h:H)(Q:Fr->Prop):List Oper->Fr->Prop
 |[],f=>Q f
 |o::rest,f=>match bT o with
  |true=>o.guard=aq/\jF n o.dst=ab/\bJ e n ops h Q rest (f.put o.dst .any)
  |false=>match gd ops f o with
   |none=>False
   |some g=>jF n o.dst=ab /\
    match kL o.op with
    |true=>match o.op with
     | .call {callee:= .value fx,args,..}=>match ni e (f.ev e) fx args with
      |some (q,vs)=>uh e g q vs (dX (f.ev e) fx args) o.dst (bJ e n ops h Q rest) f
      |none=>False
     |_=>False
    |false=>goQ g (xX e.P o (f.ev e) h) o.dst (bJ e n ops h Q rest) f
theorem gq{Q:Fr->Prop}:∀(l:List Oper)(f:Fr),bJ e n ops h Q l f->qL e n ops h Q l f
 |[],f,hv=>hv
 |o::rest,f,hv=>by
  simp only[bJ]at hv;cases hal:bT o with
  |true=>rw[hal]at hv;obtain⟨h1,h2,h3⟩:=hv;exact⟨_,.inl ⟨hal,h1,h2,rfl⟩,gq rest _ h3⟩
  |false =>
   rw[hal]at hv;dsimp only at hv;cases hg:gd ops f o with
   |none=>rw[hg]at hv;exact hv.elim
   |some g =>
    rw[hg]at hv;obtain⟨hd,hv⟩:=hv;cases he:kL o.op with
    |true =>
     rw[he]at hv;dsimp only at hv;split at hv
     ·rename_i fx args ts hop;split at hv
      ·rename_i q vs hon;obtain⟨rv,h1,h2⟩:=hv;exact⟨_,.inr ⟨hal,hd,g,rv,hg,λhgt=>AQ.call hop hon (h1 hgt).1 (h1 hgt).2.1 (h1 hgt).2.2.1 (h1 hgt).2.2.2,rfl⟩,gq rest _ h2⟩
      ·exact hv.elim
     ·exact hv.elim
    |false=>rw[he]at hv;dsimp only at hv;obtain⟨h1,h2⟩:=hv;exact⟨_,.inr ⟨hal,hd,g,_,hg,λhgt=>pz (h1 hgt),rfl⟩,gq rest _ h2⟩
def JR(ops:Array Oper):Bool:=ar (0<ops.size)&&MS ops&&uw ops (ops.size-1) (ops.size-1) 0 (Array.replicate ops.size ac)
theorem Ph{ops:Array Oper}:∀j,j<aa (ops.toList.take (ops.size-1))->(ops.toList.take (ops.size-1))[j]? =ops[0+j]? :=by intro j hj;rw[zrl]at hj;rw[List.getElem?_take,if_pos (by omega)];simp
theorem lT(hm:e.P.follows .mixedOrders=ab){id:Nat}{f:Fr}(hB:(JR ops&&ops.all λo=> !bT o)=ab)
 (hv:bJ e n ops h (λf1=>E8 e n ops (ops.size-1) (λf' h'=>Q .normal f' h') Q f1 h) (ops.toList.take (ops.size-1)) f):awp e n r (.region id ops ab) Q f h:=by
 intro ok pl0 w0 pl w a s;unfold JR at hB;simp only[zqf,zqb]at hB;obtain⟨⟨⟨hpos,hB1⟩,hB2⟩,hB3⟩:=hB;have x:WExt w {w with drawn:=w.drawn+1}:=WExt.drew w;have hlen:aa (ops.toList.take (ops.size-1))=ops.size-1:=by rw[zrl];simp
 have hL:=vW (e:=e) (n:=n) (h:=h) (last:=ops.size-1) (ops.toList.take (ops.size-1)) 0 (Array.replicate ops.size ac) f Ph (by rw[hlen];exact hB2) (gq _ _ hv);rw[hlen]at hL;have:=Ue (r:=r) (ok:=ok) (pl0:=pl0) (w0:=w0) (λj o ho=>by
  have h1:=Array.all_eq_true.1 hB3;obtain⟨hl,rfl⟩:=Array.getElem?_eq_some_iff.1 ho;simpa using h1 j hl) hB1 _ _ _ hL xJ.none pl _ a (s.next0 (s.hs.wext x) (x.keeps s.hs))
 rw[show ops.size-1+1=ops.size by omega]at this;exact wpIn_region_any hm this
end
end Go.Abs
