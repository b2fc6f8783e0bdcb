/- Lemmas for this claim, part A8: each holds under what it names. -/
import Derived.Test.YtokppohljajhjaaGreatDoorRA7
import Derived.ProofKit
import Derived.SizedLaws
import Derived.JoinedCond
set_option linter.all false
namespace Go.Abs
open Go Go.RowKit
section
variable{e:E}{n:Nat}{r:Option Nat}{o:Oper}{f:Fr}{h:H}{Kn:Fr->H->Prop}{Q:XE->Fr->H->Prop}
variable{ok:Nat->Prop}{pl:Nat->Option Nat}{w:World}
theorem OLe.typed{T:TypeId}{cs:List V}:OLe (.typed T cs) (.cells cs) :=
 ⟨fun c b ⟨arr,fz,h1,h2,h3,h4⟩=>⟨arr,T,fz,h1,h2,h3,h4⟩,fun h=>by rcases h with h|h<;>cases h⟩
theorem yA(hs:HSim e ok pl h w){cs:List V}{arr:Array Value}(hl:cs.length<=arr.size)(hc:VList (cx ok pl w) cs (arr.toList.take cs.length))(el:TypeId){w1:World}(x:WExt w w1) :
 HSim e ok (bg pl h.length w1.heap.size) (h++[.typed el cs]) (w1.alloc (.cells arr el))/\Keeps (fun _=>false) pl w (bg pl h.length w1.heap.size) (w1.alloc (.cells arr el)):=by
 have x2:=x.trans (WExt.alloc w1 (.cells arr el));have hb:(w1.alloc (.cells arr el)).heap[w1.heap.size]? =some (.cells arr el):=by rw[World.alloc];simp
 have key:∀(c':C),CExt (fun _=>false) (cx ok pl w) c'->c'.w=w1.alloc (.cells arr el)->OAt c' w1.heap.size (.typed el cs):=by intro c' hx hw;exact⟨arr,(0,0),by rw[hw];exact hb,fun j _=>by simp,hl,VList.mono hx cs _ hc⟩
 have k:CExt (fun _=>false) (cx ok pl w) (cx ok (bg pl h.length w1.heap.size) (w1.alloc (.cells arr el))):=by
  refine⟨fun b hb' hok=>⟨⟨hok.1,fun i hi=> ?_⟩,x2.same b hb'⟩,fun i b _ hi=> ?_,fun b arr' el' fz hb'=>⟨arr',fz,(x2.same b (aP hb')).trans hb',rfl⟩⟩
  ·simp only[bg]at hi;split at hi
   ·cases hi;have:=x.size;simp only[cx]at hb';omega
   ·exact hok.2 i hi
  ·have:=hs.pl_lt hi;simp only[cx,bg];rw[if_neg (by omega)];exact hi
 exact hs.new x2 (.cells arr el) (.typed el cs) x.size (by simp) (key _ k rfl)
theorem tZ(hs:HSim e ok pl h w){id b:Nat}(hb:pl id=some b){off:Nat}{vs:List V}{xs:List Value}(hv:VList (cx ok pl w) vs xs)(ho:dm vs=true)
 {cs:List V} {T:TypeId} (hc:h[id]? =some (.typed T cs)) (hl:off+vs.length<=cs.length) :
 ∃w',(storeCells ⟨b,off,none⟩ xs).run e.P w= .ok () w'/\HSim e ok pl (h.set id (.typed T (eP cs off vs))) w'/\Keeps (fun _=>false) pl w pl w':=by
 obtain⟨ob,h1,hat⟩:=hs.obj id b hb;rw[hc]at h1;cases h1;obtain⟨arr,fz,h2,h3,h4,h5⟩:=hat;have hxl:=hv.length;simp only[cx]at h2;have hrun:=fV (P:=e.P) (o:=off) h2 h3 (by omega) (hv.oneCells ho);have hw:=ig (b:=b) xs off arr w h2 (by omega);refine⟨_,hrun,hs.upd hb _ hw.os hw.tape hw.output hw.size hw.same (fun arr' el' fz' ha=> ?_) fun k=> ?_⟩
 ·rw[h2]at ha;cases ha;refine⟨_,_,hw.here,?_⟩;simp;omega
 ·have hsz:(arr.toList.take off++xs++arr.toList.drop (off+xs.length)).toArray.size=arr.size:=by simp;omega
  refine⟨_,fz,hw.here,fun j hj=>h3 j (by omega),?_,?_⟩
  ·have:(eP cs off vs).length=cs.length:=by unfold eP;simp;omega
   rw[this,hsz];exact h4
  ·have hlen:(eP cs off vs).length=cs.length:=by unfold eP;simp;omega
   rw[hlen];have e1:(arr.toList.take off++xs++arr.toList.drop (off+xs.length)).toArray.toList.take cs.length=(arr.toList.take cs.length).take off++xs++(arr.toList.take cs.length).drop (off+xs.length):=by
    apply List.ext_getElem?;intro i;have hsz:arr.toList.length=arr.size:=by simp
    simp only[List.getElem?_append,List.getElem?_take,List.getElem?_drop,zqa,zrl,List.length_drop]
    repeat' split
    all_goals first
     |rfl
     |omega
     |(congr 1;omega)
     |(exfalso;omega)
     |(simp_all;(try omega);done)
     |(rw[zsj];simp;omega)
     |(symm;rw[zsj];simp;omega)
   rw[e1];unfold eP;rw[<-hxl];have h5':=VList.mono k cs _ h5;exact((h5'.take off).append (VList.mono k vs _ hv)).append (h5'.dropN _)
theorem yB{t:TypeId}{x y:Operand}(hop:o.op= .store t x y){id off:Nat}(hx:(f.ev e x).sv= .lp id off)(hxc:(f.ev e x).sc)(hyc:(f.ev e y).sc)
 {q:TI} (hq:ti e.P t=some q) (hf:(f.ev e y).sv.fit=true) (h1:dm (f.ev e y).sv.vc=true) (hsz:(f.ev e y).sv.vc.length=q.size)
 {cs:List V} {T:TypeId} (hc:h[id]? =some (.typed T cs)) (hl:off+(f.ev e y).sv.vc.length<=cs.length)
 (hk:Kn (f.put o.dst jo) (h.set id (.typed T (eP cs off (f.ev e y).sv.vc)))):Eff e n r o f h Kn Q:=by
 refine aW ?_ (fun c=>by rw[hop];exact fun h=>by cases h);intro ok pl w ev hs hr;obtain⟨i,d,z,hT⟩:=aJ hq;have hxv:=(hr x (by simp[hop,Op.operands])).sv hxc;rw[hx]at hxv;simp only[VRel]at hxv;obtain⟨b,hb,hxb⟩:=hxv;have hyv:=(hr y (by simp[hop,Op.operands])).sv hyc;have hvc:=hyv.vc hf;obtain⟨w',hrun,hs',k⟩:=tZ hs hb hvc h1 hc hl;refine⟨fun _=>false,jo,_,pl,w',undef,.inr ⟨?_,rfl⟩,hs',k,nD _,fun _ _=>rfl,by simpa using hk⟩;have hlen:=hvc.length;have h3:execOp ev o=(do Instr.storeAt t (ev x) (ev y);pure .skip):=by simp[execOp,hop]
 rw[h3];have:¬(ev y).cells.size≠q.size:=by
  simp only[Array.length_toList]at hlen;omega
 simp only[Sem.run_bind,Instr.storeAt,hxb,Instr.sureAddr,Sem.run_pure,Result.andThen,storeVar,hT.run_size];rw[if_neg this];simp only[hrun]
theorem rX{x y:Operand}{t xt el:TypeId}{q re:TI}(ha:IsAppend e o x y t xt el q re)(hxc:(f.ev e x).sc)(hyc:(f.ev e y).sc)
 (hex:(f.ev e x).sv= .nils) (hst:zy e.P xt el (f.ev e y).sv=true)
 {m:Nat} {cs:List V} (hy:jq h re.size (f.ev e y).sv=some (m,cs)) (hyf:mJ re.size (f.ev e y).sv=true)
 (hnz:0<m) (hbig:0+m<=maxLen) (hbytes:(0+m)*re.bytes<=140737488355328)
 (hk:Kn (f.put o.dst (.ls h.length re.size 0 (0+m) (0+m))) (h++[.typed el ([]++cs)])):Eff e n r o f h Kn Q:=by
 obtain⟨⟨ts,hop,ht0,ht1⟩,hti,hkind,htie,hzf,hzl,hpos⟩:=ha;refine aW ?_ (fun c=>by rw[hop];exact fun h=>by cases h);intro ok pl w ev hs hr;obtain⟨i,d,z,hT⟩:=aJ hti;have hd:=hT.slice hkind;subst hd;obtain⟨ie,de,ze,hE⟩:=aJ htie;obtain⟨rx,ix,dx,zx,hX,hxi⟩:=A8 hst;have hxv:=(hr x (by simp[hop,Op.operands,Call.operands])).sv hxc;have hyv:=(hr y (by simp[hop,Op.operands,Call.operands])).sv hyc;rw[hex]at hxv;obtain⟨n0,hn0⟩:∃n0,n0=0:=⟨0,rfl⟩;obtain⟨cs0,hcs0⟩:∃cs0:List V,cs0=[]:=⟨[],rfl⟩;rw[<-hn0]at hbig hbytes;obtain⟨olds,ho1,ho2,ho3,ho4⟩:=kH (n:=n0) (k:=re.size) (cs:=cs0) hs hxv (by subst hn0;subst hcs0;rfl) rfl;obtain⟨news,hn1,hn2,hn3,hn4⟩:=kH hs hyv hy hyf;obtain⟨base,hbase⟩:∃base,ev x= .slice base n0 n0:=by simp only[VRel]at hxv;exact⟨none,by rw[hn0];exact hxv⟩
 have hol:=ho3.length;have hnl:=hn3.length;have hroom:¬n0+m<=n0:=by omega
 have hrun:=iy (P:=e.P) (w:=w) (ty:=o.type) ht0 ht1 hT hE hX hxi base n0 n0 m (ev y) olds news (fun w'=>hn1 w') (by rw[<-hbase];exact ho2 _ (fun _=>rfl)) (hn2 _ (fun _=>rfl)) (by omega) hbig hbytes;obtain⟨cap,hcap⟩:∃cap,grownCap w (n0+m) n0 el=cap:=⟨_,rfl⟩;have hge:=grownCap_ge w (n0+m) n0 el;have hle:=grownCap_le_maxLen w (n0+m) n0 el hbig;rw[hcap]at hrun hge hle;obtain⟨arr,harr⟩:∃arr,olds++news++Builtin.zeroCells ze.cells (cap-(n0+m))=arr:=⟨_,rfl⟩;rw[harr]at hrun;have hzs:ze.cells.size=re.size:=by have hzr:=(eH (cx ok pl w) ze).vc (by rw[<-hE.zv];exact hzf);have:=hzr.length;rw[<-hE.zv,hzl]at this;simpa using this
 have hasz:arr.size=cap*re.size:=by rw[<-harr];simp only[Array.size_append,size_zeroCells,hzs];simp only[Array.length_toList]at hol hnl;rw[hol,hnl,ho4,hn4,<-Nat.add_mul,<-Nat.add_mul];congr 1;omega
 have hlist:arr.toList.take (cs0++cs).length=olds.toList++news.toList:=by rw[<-harr];simp only[Array.toList_append];rw[List.take_append_of_le_length (by simp only[zqa];omega),zqh (by simp only[zqa];omega)]
 obtain⟨hs',kk⟩:=yA hs (cs:=cs0++cs) (arr:=arr) (by rw[hasz,zqa,ho4,hn4,<-Nat.add_mul];exact Nat.mul_le_mul_right _ hge) (by rw[hlist];exact ho3.append hn3) el (WExt.drew w);subst hn0;subst hcs0;refine⟨fun _=>false,_,_,_,_,.slice (some ⟨w.heap.size,0,none⟩) (0+m) cap,.inl ?_,hs',kk,?_,fun _ _=>rfl,by rw[Fr.drop_none];exact hk⟩
 ·rw[dI hop,hbase];exact fP hrun
 ·simp only[VRel];refine⟨_,cap,rfl,hge,hge,hle,.inr ⟨w.heap.size,arr,el,(0,0),by simp[cx,bg],rfl,?_,by rw[hasz];omega⟩⟩;exact World.alloc_heap_new w.drew (.cells arr el)
theorem uz{x y:Operand}{t xt el:TypeId}{q re:TI}(ha:IsAppend e o x y t xt el q re)(hxc:(f.ev e x).sc)(hyc:(f.ev e y).sc)
 {id len cap:Nat} (hx:(f.ev e x).sv= .ls id re.size 0 len cap) {cs0:List V} (hc:h[id]? =some (.typed el cs0)) (hcl:cs0.length=len*re.size)
 (hst:zy e.P xt el (f.ev e y).sv=true) {m:Nat} {cs:List V} (hy:jq h re.size (f.ev e y).sv=some (m,cs)) (hyf:mJ re.size (f.ev e y).sv=true) (h1:dm cs=true)
 (hbig:len+m<=maxLen) (hbytes:(len+m)*re.bytes<=140737488355328) (hid:∀i∈f.d,(i==id)=false)
 (hk:Kn ((f.drop (·==id)).put o.dst (.ls id re.size 0 (len+m) (len+m))) ((h.map (O.drop (·==id))).set id (.typed el (V.drops (·==id) (cs0++cs))))):Eff e n r o f h Kn Q:=by
 obtain⟨⟨ts,hop,ht0,ht1⟩,hti,hkind,htie,hzf,hzl,hpos⟩:=ha;refine aW ?_ (fun c=>by rw[hop];exact fun h=>by cases h);intro ok pl w ev hs hr;obtain⟨i,d,z,hT⟩:=aJ hti;have hd:=hT.slice hkind;subst hd;obtain⟨ie,de,ze,hE⟩:=aJ htie;obtain⟨rx,ix,dx,zx,hX,hxi⟩:=A8 hst;have hxv:=(hr x (by simp[hop,Op.operands,Call.operands])).sv hxc;have hyv:=(hr y (by simp[hop,Op.operands,Call.operands])).sv hyc;have hx':=hxv;rw[hx]at hx';obtain⟨olds,ho1,ho2,ho3,ho4⟩:=kH (k:=re.size) (n:=len) (cs:=cs0) hs hx' (by
  have:dN h id=cs0:=by simp[dN,hc]
  simp only[jq,this];rw[if_pos ⟨trivial,by omega⟩];simp only[List.drop_zero];rw[zqh (by omega)]) rfl
 obtain⟨news,hn1,hn2,hn3,hn4⟩:=kH hs hyv hy hyf;simp only[VRel]at hx';obtain⟨base,cp,hbase,hcap,hlen,hmax,hpl⟩:=hx';have hol:=ho3.length;have hnl:=hn3.length;have hidl:id<h.length:=(zqe hc).1;by_cases hroom:len+m<=cp
 ·rcases hpl with hcp|⟨b,arr,el',fz,hb,hbs,harr,hsz⟩
  ·have hm0:m=0:=by omega
   have hl0:len=0:=by omega
   subst hm0;subst hl0;subst hcp;have hcs:cs=[]:=zse (by omega);have hcs0:cs0=[]:=zse (by omega);subst hcs;subst hcs0;have hnews:news.toList=[]:=zse (by omega);have hrun:=dO (P:=e.P) (w:=w) (ty:=o.type) ht0 ht1 hT hE hX hxi base 0 0 0 (ev y) news (fun w'=>hn1 w') (hn2 w (fun _=>rfl)) (by omega) (w':=w) (by
    cases base with
    |none=>exact .inl ⟨rfl,rfl⟩
    |some a=>exact .inr ⟨a,rfl,by rw[hnews];rfl⟩)
   obtain⟨hs',kk⟩:=hs.kill (·==id);have hset:(h.map (O.drop (·==id))).set id (.typed el (V.drops (·==id) ([]++[])))=h.map (O.drop (·==id)):=by
    apply List.ext_getElem?;intro j;by_cases hj:j=id
    ·subst hj;rw[zqt (by simpa using hidl),zqo,hc];simp[O.drop,V.drops]
    ·rw[zqn (Ne.symm hj)]
   rw[hset]at hk;refine⟨(·==id),_,_,pl,w,.slice base 0 0,.inl ?_,hs',kk,?_,hid,hk⟩
   ·rw[dI hop,hbase];exact fP hrun
   ·simp only[VRel];exact⟨base,0,rfl,by omega,by omega,by simp[maxLen],.inl rfl⟩
  ·subst hbs;have hb':pl id=some b:=hb;obtain⟨ob,hob,hat⟩:=hs.obj id b hb';rw[hc]at hob;cases hob;obtain⟨arr2,fz2,g1,g2,g3,g4⟩:=hat;have harr':w.heap[b]? =some (.cells arr el' fz):=harr;have g1':w.heap[b]? =some (.cells arr2 el fz2):=g1;rw[harr']at g1';cases g1';have hfit:cs0.length+news.toList.length<=arr.size:=by
    rw[hnl,hcl,hn4,<-Nat.add_mul];have:=Nat.mul_le_mul_right re.size hroom;omega
   have hfit':cs0.length+news.size<=arr.size:=by simpa using hfit
   have hnsz:news.size=cs.length:=by simpa using hnl
   have hst':=fV (P:=e.P) (o:=cs0.length) harr' g2 hfit (hn3.oneCells h1);have hw:=ig (b:=b) news.toList cs0.length arr w harr' hfit;obtain⟨w',hw'⟩:∃w',w.setCells b cs0.length news.toList=w':=⟨_,rfl⟩;rw[hw']at hst' hw;have hrun:=dO (P:=e.P) (w:=w) (ty:=o.type) ht0 ht1 hT hE hX hxi (some ⟨b,0,none⟩) len cp m (ev y) news (fun w'=>hn1 w') (hn2 w (fun _=>rfl)) hroom (w':=w') (.inr ⟨_,rfl,by
    rw[dC,Nat.zero_add,<-hcl];exact hst'⟩)
   have hkk:Keeps (·==id) pl w (fun i=>if i=id then some b else pl i) w':=by
    refine⟨hw.os,hw.tape,hw.output,by rw[hw.size];exact zrb _,fun b' hb1 hn'=>hw.same b' (fun he=>hn' id (he▸hb')),fun i b' hi=> ?_,fun i b' hp hi=> ?_,fun b' a1 e1 z1 hb1=> ?_⟩
    ·split at hi
     ·cases hi;exact .inl ⟨id,hb'⟩
     ·exact .inl ⟨i,hi⟩
    ·have:i≠id:=by simpa using hp
     rw[if_neg this];exact hi
    ·by_cases he:b'=b
     ·subst he;rw[harr']at hb1;cases hb1;exact⟨_,_,hw.here,by simp;omega⟩
     ·exact⟨a1,z1,(hw.same b' he).trans hb1,rfl⟩
   have hsize':(arr.toList.take cs0.length++news.toList++arr.toList.drop (cs0.length+news.toList.length)).toArray.size=arr.size:=by simp;omega
   have hs' := hs.replace hidl (nb := b) (w' := w') (o' := .typed el (V.drops (· == id) (cs0 ++ cs))) hkk (by rw [hw.size];exact aP harr') (fun j hj hjb => hj (hs.inj j id b hjb hb'))
    (fun j b' hj hjb=>hw.same b' (fun he=>hj (hs.inj j id b (he▸hjb) hb'))) (by
     refine⟨_,fz,hw.here,fun j hj=>g2 j (by omega),?_,?_⟩
     ·rw[bZ,hsize',zqa];omega
     ·have hq:(V.drops (·==id) (cs0++cs)).length=cs0.length+news.toList.length:=by rw[bZ,zqa];omega
      rw[hq];have e1:(arr.toList.take cs0.length++news.toList++arr.toList.drop (cs0.length+news.toList.length)).toArray.toList.take (cs0.length+news.toList.length)=arr.toList.take cs0.length++news.toList:=by
       have e2:(arr.toList.take cs0.length++news.toList).length=cs0.length+news.toList.length:=by simp only[zqa,zrl,Array.length_toList];omega
       show(arr.toList.take cs0.length++news.toList++arr.toList.drop (cs0.length+news.toList.length)).take (cs0.length+news.toList.length)=_;rw[List.take_append_of_le_length (by omega),zqh (by omega)]
      rw[e1];exact VList.mdrop hkk.cext _ _ (g4.append hn3))
   refine⟨(·==id),_,_,_,w',.slice (some ⟨b,0,none⟩) (len+m) cp,.inl ?_,hs',hkk,?_,hid,hk⟩
   ·rw[dI hop,hbase];exact fP hrun
   ·simp only[VRel];exact⟨_,cp,rfl,hroom,hroom,hmax,.inr ⟨b,_,el,fz,by simp[cx],rfl,hw.here,by rw[hsize'];omega⟩⟩
 ·have hrun:=iy (P:=e.P) (w:=w) (ty:=o.type) ht0 ht1 hT hE hX hxi base len cp m (ev y) olds news (fun w'=>hn1 w') (by rw[<-hbase];exact ho2 _ (fun _=>rfl)) (hn2 _ (fun _=>rfl)) (by omega) hbig hbytes;obtain⟨cap',hcap'⟩:∃cap',grownCap w (len+m) cp el=cap':=⟨_,rfl⟩;have hge:=grownCap_ge w (len+m) cp el;have hle:=grownCap_le_maxLen w (len+m) cp el hbig;rw[hcap']at hrun hge hle;obtain⟨arr,harr⟩:∃arr,olds++news++Builtin.zeroCells ze.cells (cap'-(len+m))=arr:=⟨_,rfl⟩;rw[harr]at hrun;have hzs:ze.cells.size=re.size:=by have hzr:=(eH (cx ok pl w) ze).vc (by rw[<-hE.zv];exact hzf);have:=hzr.length;rw[<-hE.zv,hzl]at this;simpa using this
  have hasz:arr.size=cap'*re.size:=by rw[<-harr];simp only[Array.size_append,size_zeroCells,hzs];simp only[Array.length_toList]at hol hnl;rw[hol,hnl,ho4,hn4,<-Nat.add_mul,<-Nat.add_mul];congr 1;omega
  have hlist:arr.toList.take (cs0++cs).length=olds.toList++news.toList:=by rw[<-harr];simp only[Array.toList_append];rw[List.take_append_of_le_length (by simp only[zqa];omega),zqh (by simp only[zqa];omega)]
  have x2:=(WExt.drew w).trans (WExt.alloc w.drew (.cells arr el));have hhere:(w.drew.alloc (.cells arr el)).heap[w.heap.size]? =some (.cells arr el):=World.alloc_heap_new w.drew (.cells arr el);have hkk:Keeps (·==id) pl w (fun i=>if i=id then some w.heap.size else pl i) (w.drew.alloc (.cells arr el)):=by
   refine⟨rfl,rfl,rfl,x2.size,fun b' hb1 _=>x2.same b' hb1,fun i b' hi=> ?_,fun i b' hp hi=> ?_,fun b' a1 e1 z1 hb1=>⟨a1,z1,(x2.same b' (aP hb1)).trans hb1,rfl⟩⟩
   ·split at hi
    ·cases hi;exact .inr (zrb _)
    ·exact .inl ⟨i,hi⟩
   ·have:i≠id:=by simpa using hp
    rw[if_neg this];exact hi
  have hs' := hs.replace hidl (nb := w.heap.size) (o' := .typed el (V.drops (· == id) (cs0 ++ cs))) hkk (by simp) (fun j hj hjb => by have := hs.lt j _ hjb;omega)
   (fun j b' hj hjb=>x2.same b' (hs.lt j b' hjb)) (by
    refine⟨arr,(0,0),hhere,fun j _=>by simp,?_,?_⟩
    ·rw[bZ,hasz,zqa,ho4,hn4,<-Nat.add_mul];exact Nat.mul_le_mul_right _ hge
    ·rw[bZ,hlist];exact VList.mdrop hkk.cext _ _ (ho3.append hn3))
  refine⟨(·==id),_,_,_,_,.slice (some ⟨w.heap.size,0,none⟩) (len+m) cap',.inl ?_,hs',hkk,?_,hid,hk⟩
  ·rw[dI hop,hbase];exact fP hrun
  ·simp only[VRel];exact⟨_,cap',rfl,hge,hge,hle,.inr ⟨w.heap.size,arr,el,(0,0),by simp[cx],rfl,hhere,by rw[hasz];omega⟩⟩
theorem HSim.burn(hs:HSim e ok pl h w){id b:Nat}(hid:pl id=some b){w':World}(os:w'.os=w.os)(tape:w'.tape=w.tape)(output:w'.output=w.output)(size:w'.heap.size=w.heap.size)
 (same:∀i,i≠b->w'.heap[i]? =w.heap[i]?)
 (row:∀arr el fz,w.heap[b]? =some (.cells arr el fz)->∃arr' fz',w'.heap[b]? =some (.cells arr' el fz')/\arr'.size=arr.size) :
 HSim e ok (fun i=>if i=id then none else pl i) ((h.map (O.drop (·==id))).set id .dead) w'/\Keeps (·==id) pl w (fun i=>if i=id then none else pl i) w':=by
 have k:Keeps (·==id) pl w (fun i=>if i=id then none else pl i) w':=by
  refine⟨os,tape,output,by omega,fun b' hb hn=>same b' (fun he=>hn id (he▸hid)),fun i b hi=> ?_,fun i b hp hi=> ?_,fun b' arr el fz hb=> ?_⟩
  ·split at hi
   ·cases hi
   ·exact .inl ⟨i,hi⟩
  ·have:i≠id:=by simpa using hp
   rw[if_neg this];exact hi
  ·by_cases he:b'=b
   ·subst he;exact row arr el fz hb
   ·exact⟨arr,fz,(same b' he).trans hb,rfl⟩
 refine⟨hs.next k (fun i b hi=> ?_) (fun i j b hi hj=> ?_) (fun i b' hi=> ?_) (fun i o ho hi=> ?_),k⟩
 ·split at hi
  ·cases hi
  ·have:=hs.lt i b hi;omega
 ·split at hi<;>split at hj<;>first|cases hi|cases hj|exact hs.inj i j b hi hj
  all_goals (first|(cases hi;done)|(cases hj;done))
 ·split at hi
  ·cases hi
  ·rename_i hne;refine .inl ⟨hi,same b' (fun he=>hne (hs.inj i id b' hi (he▸hid))),?_⟩;rw[zqn (Ne.symm hne),zqo]
 ·by_cases hii:i=id
  ·subst hii;have hlt:i<h.length:=by
    have:=(zqe ho).1;simpa using this
   left;have:((h.map (O.drop (·==i))).set i .dead)[i]? =some .dead:=by simp[hlt]
   exact Option.some.inj (ho.symm.trans this)
  ·rw[zqn (Ne.symm hii),zqo]at ho;rw[if_neg hii]at hi;cases hh:h[i]? with
   |none=>rw[hh]at ho;cases ho
   |some o' =>
    rw[hh]at ho;have ho:o'.drop (·==id)=o:=by simpa using ho
    rcases hs.bare i o' hh hi with rfl|rfl<;>subst ho<;>simp[O.drop,V.drops]
end
section
variable{P:Program}{w:World}
theorem wE{ts:Array TypeId}{t xt ty el:TypeId}{r re rx:TI}{i ie ix:TypeInfo}{de:TypeDesc}{z ze zx:Value}{kx:IntKind}(h0:ts[0]? =some t)(h1:ts[1]? =some xt)
 (hT:TIs P t r i (.slice el) z) (hE:TIs P el re ie de ze) (hX:TIs P xt rx ix (.int kx) zx)
 (m:Nat) (hm:0<m) (hm1:m<=1000000000000) (hb:m*re.bytes<=140737488355328) (hsz:re.size=1) :
 (Builtin.append_ ts ty #[.slice none 0 0,.int .i64 m]).run P w =
  .ok (.slice (some ⟨w.heap.size,0,none⟩) m (grownCap w m 0 el))
   (w.drew.alloc (.cells (Builtin.zeroCells ze.cells m++Builtin.zeroCells ze.cells (grownCap w m 0 el-m)) el)):=by
 have h48':¬(281474976710656<Builtin.nextslicecap m 0*re.bytes):=by have:=growslice_fits (need:=m) (old:=0) hm hb;omega
 have hw:IntKind.i64.wrap (m:Int)=m:=Bz (by omega) (by omega);have hbytes:(typeInfo el).run P w= .ok ie w:=by simp[typeInfo,hE.info]
 have hneg:¬((m:Int)<0):=by omega
 have hbig:¬((281474976710656:Int)<(m:Int)*ie.bytes):=by
  have h2:((m*re.bytes:Nat):Int)<=140737488355328:=by omega
  rw[<-hE.bytes];rw[Int.natCast_mul]at h2;omega
 have hns:m*1≠0:=by omega
 have h63:¬(9223372036854775807<(m:Int)):=by omega
 unfold Builtin.append_;simp only[h0,h1,List.getElem?_toArray,List.getElem?_cons_zero,List.getElem?_cons_succ,Sem.run_bind,hT.run_und,Result.andThen,hE.run_size,hX.run_und,Sem.run_pure];simp[asInt,asIntOf,hw,hneg,hbig,hbytes,Result.andThen,h63,hE.bytes▸h48',Question.forced,hE.run_zero,newRow,grownCap,typeInfo,hE.info,Builtin.firstCells,hsz,show m≠0 by omega]
end
section
variable{e:E}{n:Nat}{r:Option Nat}{o:Oper}{f:Fr}{h:H}{Kn:Fr->H->Prop}{Q:XE->Fr->H->Prop}
theorem nJ{x y:Operand}{t xt el:TypeId}{q re:TI}(ha:IsAppend e o x y t xt el q re)(hxc:(f.ev e x).sc)(hyc:(f.ev e y).sc)
 (hx:(f.ev e x).sv= .nils) {m:Nat} (hy:(f.ev e y).sv= .int .i64 m) {rx:TI} {kx:IntKind} (hxt:Abs.ti e.P xt=some rx) (hkx:rx.kind= .int kx)
 (hm:0<m) (hm1:m<=1000000000000) (hb:m*re.bytes<=140737488355328) (hsz:re.size=1) {zv:V} (hzv:re.zero.vc=[zv])
 (hk:Kn (f.put o.dst (.ls h.length 1 0 m m)) (h++[.cells (List.replicate m zv)])):Eff e n r o f h Kn Q:=by
 obtain⟨⟨ts,hop,ht0,ht1⟩,hti,hkind,htie,hzf,hzl,hpos⟩:=ha;refine aW ?_ (fun c=>by rw[hop];exact fun h=>by cases h);intro ok pl w ev hs hr;obtain⟨i,d,z,hT⟩:=aJ hti;have hd:=hT.slice hkind;subst hd;obtain⟨ie,de,ze,hE⟩:=aJ htie;obtain⟨ix,dx,zx,hX⟩:=aJ hxt;have hdx:=hX.int hkx;subst hdx;have hxv:=(hr x (by simp[hop,Op.operands,Call.operands])).sv hxc;have hyv:=(hr y (by simp[hop,Op.operands,Call.operands])).sv hyc;rw[hx]at hxv;rw[hy]at hyv;simp only[VRel]at hxv hyv;have hrun:=wE (P:=e.P) (w:=w) (ty:=o.type) ht0 ht1 hT hE hX m hm hm1 hb hsz;obtain⟨cap,hcap⟩:∃cap,grownCap w m 0 el=cap:=⟨_,rfl⟩;have hge:=grownCap_ge w m 0 el;have hle:=grownCap_le_maxLen w m 0 el (by simp only[maxLen];omega);rw[hcap]at hrun hge hle;have hzr:=(eH (cx ok pl w) ze).vc (by rw[<-hE.zv];exact hzf);rw[<-hE.zv,hzv]at hzr;have hzl1:=hzr.length;simp only[zrk,Array.length_toList]at hzl1;have hz1:ze.cells.size=1:=by omega
 obtain⟨arr,harr⟩:∃arr,Builtin.zeroCells ze.cells m++Builtin.zeroCells ze.cells (cap-m)=arr:=⟨_,rfl⟩;rw[harr]at hrun;obtain⟨zc,hzc,hzrel⟩:∃zc,ze.cells.toList=[zc]/\VRel (cx ok pl w) zv zc:=by simp only[VList]at hzr;obtain⟨y,ys,h1,h2,rfl⟩:=hzr;exact⟨y,h1,h2⟩
 have hasz:arr.size=cap:=by rw[<-harr];simp only[Array.size_append,size_zeroCells,hz1];omega
 have hlist:arr.toList.take (List.replicate m zv).length=List.replicate m zc:=by
  rw[<-harr,zsc,Array.toList_append,List.take_append_of_le_length (by simp[size_zeroCells,hz1]),zqh (by simp[size_zeroCells,hz1])];have:ze.cells=#[zc]:=Array.toList_inj.1 hzc;apply List.ext_getElem?;intro j;simp[Builtin.zeroCells,this,List.getElem?_replicate];by_cases hj:j<m
  ·rw[List.getElem?_range hj,if_pos hj];simp[Nat.mod_one]
  ·rw[zsj (by simp;omega),if_neg hj];rfl
 have hv:∀k,VList (cx ok pl w) (List.replicate k zv) (List.replicate k zc):=by
  intro k
  induction k with
  |zero=>simp[VList]
  |succ k ih=>simp only[List.replicate_succ,VList];exact⟨_,_,rfl,hzrel,ih⟩
 obtain⟨hs',kk⟩:=rO hs (cs:=List.replicate m zv) (arr:=arr) (by rw[hasz];simpa using hge) (by rw[hlist];exact hv m) el (WExt.drew w);refine⟨fun _=>false,_,_,_,_,.slice (some ⟨w.heap.size,0,none⟩) m cap,.inl ?_,hs',kk,?_,fun _ _=>rfl,by rw[Fr.drop_none];exact hk⟩
 ·rw[dI hop,hxv,hyv];exact fP hrun
 ·simp only[VRel];refine⟨_,cap,rfl,hge,hge,hle,.inr ⟨w.heap.size,arr,el,(0,0),by simp[cx,bg],rfl,?_,by rw[hasz];omega⟩⟩;exact World.alloc_heap_new w.drew (.cells arr el)
end
open Go.ChangeShapes
mutual
/-- A value of a shape, with the bound on how much is handed. -/
def Sh.Sz(R:Nat):Sh->V->Prop
 | .str,v=>∃s,v= .str s/\s.length<=R
 | .bool,v=>∃b,v= .bool b
 | .int k,v=>∃n,v= .int k n/\(Lit.int k n).wf=true
 | .slice e,v=>∃es,v= .is false e.size es/\es.length<=R/\∀x∈es,Sh.Sz R e x
 | .struct fs,v=>∃vs,v= .agg (vs.flatMap V.vc)/\Sh.Szs R fs vs
def Sh.Szs(R:Nat):List Sh->List V->Prop
 |[],vs=>vs=[]
 |s::ss,vs=>∃u us,vs=u::us/\Sh.Sz R s u/\Sh.Szs R ss us
end
mutual
/-- Do the elements of all slices take bytes? -/
def Sh.fat(P:Program):Sh->TypeId->Bool
 | .slice e,t=>match P.underlying t with|some (.slice u)=>decide (0<P.bytesOf u)&&e.fat P u|_=>false
 | .struct fs,t=>match jF P t with|some gs=>Sh.fats P fs gs|none=>false
 | .str,_ | .bool,_ | .int _,_=>true
def Sh.fats(P:Program):List Sh->List Field->Bool
 |[],[]=>true
 |s::ss,g::gs=>s.fat P g.type&&Sh.fats P ss gs
 |_,_=>false
end
section
variable{H:Type}{enc:TypeId×Value->H}{P:Program}{w:World}
structure Meas(H:Type)(P:Program)(R:Nat) where
 L:TypeId->DataW H->Prop
 str:∀t b,L t (.lit (.string b))->b.length<=R
 sl:∀t u es rs,P.underlying t=some (.slice u)->0<P.bytesOf u->L t (.slice es rs)->es.length<=R/\∀d∈es,L u d
 st:∀t fs ds,jF P t=some fs->L t (.agg ds)->∀(i:Nat) d (f:Field),ds[i]? =some d->fs[i]? =some f->L f.type d
variable{R:Nat}(M:Meas H P R)
theorem uf{c:C}{cs:List Value}{F:TypeId->List Value->Option (DataW H×List MemPlace)}
 (IH:∀(sh:Sh)(t:TypeId)(cs:List Value) x,sh.ok P t=true->sh.fat P t=true->cs.length=sh.size->F t cs=some x->M.L t x.1->∃v,Took c sh v cs/\sh.Sz R v) :
 ∀(fs:List Sh)(gs:List Field)(off:Nat)(xs:List (DataW H×List MemPlace)),Sh.oks P fs gs off=true->Sh.fats P fs gs=true->off+Sh.sizes fs=cs.length ->
  (gs.mapM fun f=>F f.type ((cs.drop f.offset).take (P.cellsOf f.type)))=some xs->(∀(i:Nat) d (f:Field),(xs.map (·.1))[i]? =some d->gs[i]? =some f->M.L f.type d) ->
  ∃vs,Sh.Iss fs vs/\Sh.Szs R fs vs/\(∀v∈vs,v.dat=true)/\(vs.flatMap V.vc).length=Sh.sizes fs/\VList c (vs.flatMap V.vc) (cs.drop off)
 |[],[],off,xs,_,_,hl,_,_=>by refine⟨[],rfl,rfl,by simp,rfl,?_⟩;simp only[Sh.sizes]at hl;rw[List.drop_of_length_le (by omega)];simp only[List.flatMap_nil,VList]
 |[],_::_,_,_,h,_,_,_,_=>by simp[Sh.oks]at h
 |_::_,[],_,_,h,_,_,_,_=>by simp[Sh.oks]at h
 |s::ss,g::gs,off,xs,hok,hft,hl,hm,hw=>by
  simp only[Sh.oks,zqf,beq_iff_eq]at hok;simp only[Sh.fats,zqf]at hft;obtain⟨⟨⟨h1,h2⟩,h3⟩,h4⟩:=hok;simp only[Sh.sizes]at hl;rw[List.mapM_cons]at hm;simp only[Option.bind_eq_bind,Option.bind_eq_some_iff,Option.pure_def,Option.some.injEq]at hm;obtain⟨y,hy,ys,hys,rfl⟩:=hm;rw[h1,h2]at hy;obtain⟨v,hv,hz⟩:=IH s g.type _ y h3 hft.1 (by rw[zrl,List.length_drop];omega) hy (hw 0 y.1 g rfl rfl);obtain⟨vs,k1,kz,k2,k3,k4⟩:=uf IH ss gs (off+s.size) ys h4 hft.2 (by omega) hys (fun i d f h1 h2=>hw (i+1) d f (by simpa using h1) (by simpa using h2));refine⟨v::vs,⟨v,vs,rfl,hv.is,k1⟩,⟨v,vs,rfl,hz,kz⟩,?_,?_,?_⟩
  ·intro u hu;rcases zrj.1 hu with rfl|hu
   ·exact hv.dat
   ·exact k2 u hu
  ·rw[List.flatMap_cons,zqa,hv.len,k3];rfl
  ·rw[List.flatMap_cons];have:cs.drop off=(cs.drop off).take s.size++cs.drop (off+s.size):=by
    rw[<-List.drop_drop,List.take_append_drop]
   rw[this];exact hv.rel.append k4
theorem rY:∀(fuel:Nat)(sh:Sh)(t:TypeId)(cs:List Value)(d:DataW H)(ps:List MemPlace),sh.ok P t=true->sh.fat P t=true->cs.length=sh.size ->
 DataW.trod enc P w 0 (fun _=>true) true fuel t cs=some (d,ps)->M.L t d->∃v,Took (cw w) sh v cs/\sh.Sz R v
 |0,_,_,_,_,_,_,_,_,h,_=>by simp[DataW.trod]at h
 |fuel+1,.str,t,[x],d,ps,hok,hft,hlen,h,hw=>by
  simp only[Sh.ok]at hok;split at hok
  ·rename_i hu;cases x<;>simp only[DataW.trod,hu,reduceCtorEq]at h
   case string s =>
    split at h
    ·rename_i hs;cases h;refine⟨.str s.data.toList,Took.one ⟨_,rfl⟩ rfl rfl rfl ?_,⟨_,rfl,M.str _ _ hw⟩⟩;simp only[VRel];exact⟨s,rfl,rfl,by rw[Array.length_toList];exact hs⟩
    ·cases h
  ·cases hok
 |fuel+1,.bool,t,[x],d,ps,hok,hft,hlen,h,hw=>by
  simp only[Sh.ok]at hok;split at hok
  ·rename_i hu;cases x<;>simp only[DataW.trod,hu,reduceCtorEq]at h
   case bool b=>exact⟨.bool b,Took.one ⟨_,rfl⟩ rfl rfl rfl (by simp only[VRel]),⟨_,rfl⟩⟩
  ·cases hok
 |fuel+1,.int k,t,[x],d,ps,hok,hft,hlen,h,hw=>by
  simp only[Sh.ok]at hok;split at hok
  ·rename_i k' hu;have hk:k'=k:=by simpa using hok
   subst hk;cases x<;>simp only[DataW.trod,hu,reduceCtorEq]at h
   case int k2 n =>
    split at h
    ·rename_i hs;obtain⟨rfl,hw⟩:=hs;exact⟨.int k2 n,Took.one ⟨_,rfl,hw⟩ rfl rfl rfl (by simp only[VRel]),⟨_,rfl,hw⟩⟩
    ·cases h
  ·cases hok
 |fuel+1,.slice e,t,[x],d,ps,hok,hft,hlen,h,hw=>by
  simp only[Sh.ok]at hok;simp only[Sh.fat]at hft;split at hok
  ·rename_i u hu;rw[hu]at hft;simp only[zqf,zqb]at hft;simp only[zqf,beq_iff_eq,zqb]at hok;obtain⟨⟨hsz,hpos⟩,hok⟩:=hok;cases x<;>simp only[DataW.trod,hu,reduceCtorEq]at h
   case slice a len cap =>
    cases a with
    |none =>
     have hz:len=0/\cap=0:=by cases len<;>cases cap<;>simp[DataW.trod,hu]at h ⊢
     obtain⟨rfl,rfl⟩:=hz;refine⟨.is false e.size [],Took.one ⟨[],rfl,by simp⟩ rfl rfl rfl ?_,⟨[],rfl,Nat.zero_le _,by simp⟩⟩;simp only[VRel];exact⟨none,0,rfl,zrb _,Nat.zero_le _,fun hf=>(by cases hf),.inl trivial⟩
    |some a =>
     simp only[DataW.trod,hu]at h;split at h
     ·rename_i hcond;rw[Option.bind_eq_some_iff]at h;obtain⟨elems,hel,hrest⟩:=h;rw[Option.map_eq_some_iff]at hrest;obtain⟨rest,_,hd⟩:=hrest;have hd:d= .slice (elems.map (·.1)) (rest.map (·.1)):=by cases hd;rfl
      subst hd;have hm:=qH hel;have hlite:=M.sl _ _ _ _ hu hft.1 hw;have hsmall:len<=R:=by
       have h2:len=elems.length:=by rw[hm.1];simp
       have h1:=hlite.1;rw[zra]at h1;omega
      have key:∀i:Fin len,∃v cells,w.cells? 0 (a.add (i.1*e.size)) e.size=some cells/\Took (cw w) e v cells/\e.Sz R v:=by
       intro i;obtain⟨y,hy,hy2⟩:=hm.2 i.1 i.1 (by simp);rw[Option.bind_eq_some_iff]at hy;obtain⟨cells,hc,ht⟩:=hy;rw[hsz]at hc;have hcl:cells.length=e.size:=by
        unfold World.cells? at hc;split at hc
        ·have:=(qH hc).1;simpa using this
        ·cases hc
       obtain⟨v,hv,hz⟩:=rY fuel e u cells y.1 y.2 hok hft.2 hcl ht (hlite.2 _ (zrh.2 ⟨y,List.mem_of_getElem? hy2,rfl⟩));exact⟨v,cells,hc,hv,hz⟩
      let es:List V:=List.ofFn fun i=>(key i).choose
      have hlen2:es.length=len:=by simp[es]
      have hget:∀(i:Nat)(v:V),es[i]? =some v->∃cells,w.cells? 0 (a.add (i*e.size)) e.size=some cells/\Took (cw w) e v cells/\e.Sz R v:=by
       intro i v hi;have hi2:i<len:=by have:=(zqe hi).1;omega
       have:es[i]? =some (key ⟨i,hi2⟩).choose:=by simp[es,hi2]
       rw[this]at hi;cases hi;exact(key ⟨i,hi2⟩).choose_spec
      refine⟨.is false e.size es,Took.one ⟨es,rfl,?_⟩ rfl rfl rfl ?_,⟨es,rfl,by omega,?_⟩⟩
      ·intro x hx;obtain⟨i,hi,rfl⟩:=List.mem_iff_getElem.1 hx;obtain⟨cells,_,ht,_⟩:=hget i es[i] (by simp[hi]);exact ht.is
      ·simp only[VRel];refine⟨some a,cap,by rw[hlen2],by rw[hlen2];exact hcond.2.1,hcond.2.2,fun hf=>(by cases hf),?_⟩;have cell:∀(i:Nat)(cells:List Value),w.cells? 0 (a.add (i*e.size)) e.size=some cells->cells.length=e.size/\∀j,j<e.size->w.cell? ((a.add (i*e.size)).add j)=cells[j]? :=by
        intro i cells hc;unfold World.cells? at hc;split at hc
        ·have hm2:=qH hc;refine⟨by simpa using hm2.1,fun j hj=> ?_⟩;obtain⟨y,hy1,hy2⟩:=hm2.2 j j (by simp[hj]);rw[hy1,hy2]
        ·cases hc
       by_cases h0:len=0
       ·left;exact zse (by omega)
       ·right;obtain⟨b,off,spot⟩:=a;have hs:spot=none:=by
         obtain⟨v,cells,hc,_⟩:=key ⟨0,by omega⟩;obtain⟨h1,h2⟩:=cell 0 cells hc;have h3:=h2 0 hpos;have h4:cells[0]? =some (cells[0]'(by omega)):=by simp
         rw[h4]at h3;simpa [Addr.add]using World.cell?_spot h3
        subst hs;refine⟨b,off,rfl,iH fun i v hi=> ?_⟩;obtain⟨cells,hc,ht,_⟩:=hget i v hi;obtain⟨h1,h2⟩:=cell i cells hc;obtain⟨ev,h3,h4⟩:=rP ht.fit ht.rel;have hsize:ev.cells.size=e.size:=by rw[<-h1,<-h3];simp
        refine⟨ev,hsize,fun j hj=>⟨⟨trivial,fun i hi=>(by cases hi)⟩,?_⟩,h4⟩;have:=h2 j (by omega);rw[dC,dC,<-h3]at this;show w.cell? _=_;simpa using this
      ·intro x hx;obtain⟨i,hi,rfl⟩:=List.mem_iff_getElem.1 hx;obtain⟨cells,_,_,ht⟩:=hget i es[i] (by simp[hi]);exact ht
     ·cases h
  ·cases hok
 |fuel+1,.struct fs,t,cs,d,ps,hok,hft,hlen,h,hw=>by
  simp only[Sh.ok]at hok;simp only[Sh.fat]at hft;split at hok
  ·rename_i gs hu;rw[hu]at hft;simp only[zqf,beq_iff_eq]at hok;obtain⟨hsz,hok⟩:=hok;obtain⟨hlen2,xs,hxs,hd⟩:=EF hu h;subst hd;obtain⟨vs,k1,kz,k2,k3,k4⟩:=uf M (c:=cw w) (P:=P) (F:=DataW.trod enc P w 0 (fun _=>true) true fuel) (fun sh t cs x h1 hf h2 h3 h4=>rY fuel sh t cs x.1 x.2 h1 hf h2 h3 h4) fs gs 0 xs hok hft (by rw[hlen2,hsz];omega) hxs (fun i d f h1 h2=>M.st _ _ _ hu hw i d f h1 h2);refine⟨.agg (vs.flatMap V.vc),⟨⟨vs,rfl,k1⟩,rfl,?_,k3,by simpa [V.vc]using k4⟩,⟨vs,rfl,kz⟩⟩;simp only[V.dat];exact BG fun v hv=>Uu (k2 v hv)
  ·cases hok
theorem qJ{w:World}:∀(shs:List Sh)(ts:List TypeId)(vs:List Value)(ds:List (DataW H))(ps:List MemPlace),shs.length=ts.length ->
 (∀(i:Nat) sh t,shs[i]? =some sh->ts[i]? =some t->sh.ok P t=true/\sh.fat P t=true)->(∀(i:Nat) sh v,shs[i]? =some sh->vs[i]? =some v->Vz sh v) ->
 DataW.TrodAll enc P w 0 (fun _=>true) true ts vs ds ps->(∀(i:Nat) d t,ds[i]? =some d->ts[i]? =some t->M.L t d)->∃us,Sh.Szs R shs us/\VList (cw w) us vs
 |[],[],vs,ds,ps,_,_,_,h,_=>by obtain⟨rfl,_,_⟩:=trodAll_nil h;exact⟨[],rfl,by simp only[VList]⟩
 |[],_::_,_,_,_,hl,_,_,_,_=>by simp at hl
 |_::_,[],_,_,_,hl,_,_,_,_=>by simp at hl
 |sh::shs,t::ts,vs,ds,ps,hl,hok,hsz,h,hw=>by obtain⟨v,vs',d,ds',p,q,rfl,rfl,rfl,h1,h2⟩:=trodAll_cons h;obtain⟨fuel,hf⟩:=h1;have hfl:=hsz 0 sh v rfl rfl;obtain⟨u,hu,hz⟩:=rY M fuel sh t _ d p (hok 0 sh t rfl rfl).1 (hok 0 sh t rfl rfl).2 (by simpa using KI hfl) hf (hw 0 d t rfl rfl);obtain⟨us,k1,k2⟩:=qJ shs ts vs' ds' q (by simpa using hl) (fun i sh t h1 h2=>hok (i+1) sh t (by simpa using h1) (by simpa using h2)) (fun i sh v h1 h2=>hsz (i+1) sh v (by simpa using h1) (by simpa using h2)) h2 (fun i d t h1 h2=>hw (i+1) d t (by simpa using h1) (by simpa using h2));refine⟨u::us,⟨u,us,rfl,hz,k1⟩,?_⟩;simp only[VList];exact⟨v,vs',rfl,OG hfl hu,k2⟩
theorem kL{e:TypeId}{d:DataW H}{n:Nat}:∀ {l:List (DataW H)},d∈l->n∈d.weights P e->n∈DataW.weightsAll P e l
 |[],h,_=>by cases h
 |a::l,h,hn=>by
  simp only[DataW.weightsAll,zrf];rcases zrj.1 h with rfl|h
  ·exact .inl hn
  ·exact .inr (kL h hn)
theorem jJ{n:Nat}:∀(ts:List TypeId)(ds:List (DataW H))(i:Nat) d t,ds[i]? =some d->ts[i]? =some t->n∈d.weights P t->n∈DataW.weightsEach P ts ds
 |[],_,i,_,_,_,h,_=>by simp at h
 |_::_,[],i,_,_,h,_,_=>by simp at h
 |t::ts,d::ds,0,_,_,h1,h2,hn=>by simp only[List.getElem?_cons_zero,Option.some.injEq]at h1 h2;subst h1;subst h2;simp only[DataW.weightsEach,zrf];exact .inl hn
 |t::ts,d::ds,i+1,_,_,h1,h2,hn=>by simp only[DataW.weightsEach,zrf];exact .inr (jJ ts ds i _ _ (by simpa using h1) (by simpa using h2) hn)
def reachM(H:Type)(P:Program):Meas H P reachBytes where
 L t d:=∀n∈d.weights P t,n<=reachBytes
 str t b h:=h _ (by simp[DataW.weights])
 sl t u es rs hu hb h:=by
  refine⟨?_,fun d hd n hn=>h n (by simp only[DataW.weights,hu,zrj,zrf];exact .inr (.inl (kL hd hn)))⟩;have h1:(es.length+rs.length)*P.bytesOf u<=reachBytes:=h _ (by simp only[DataW.weights,hu];exact List.mem_cons_self);have h3:es.length+rs.length<=(es.length+rs.length)*P.bytesOf u:=Nat.le_mul_of_pos_right _ hb;omega
 st t fs ds hu h i d f h1 h2 n hn:=h n (by
  unfold jF at hu;split at hu
  ·rename_i hu';cases hu;simp only[DataW.weights,hu'];exact jJ _ _ i d f.type h1 (by simp[h2]) hn
  ·rename_i hu';cases hu;simp only[DataW.weights,hu'];rw[zqo,Option.map_eq_some_iff]at h2;obtain⟨k,_,rfl⟩:=h2;exact kL (List.mem_of_getElem? h1) hn
  ·cases hu)
end
section
variable{e:E}{n:Nat}{r:Option Nat}{o:Oper}{f:Fr}{h:H}{Kn:Fr->H->Prop}{Q:XE->Fr->H->Prop}
theorem ku{x:Operand}{ts:Array TypeId}{t el:TypeId}{q:TI}(hop:o.op= .call {callee:= .builtin .cap,args:=#[x],argTypes:=ts})(h0:ts[0]? =some t)
 (hti:Abs.ti e.P t=some q) (hkind:q.kind= .slice el) (hc:(f.ev e x).sc) (hx:(f.ev e x).sv= .nils) (hk:Kn (f.put o.dst (.int .i64 0)) h):Eff e n r o f h Kn Q:=by
 refine jc (v:= .int .i64 0) (fO fun ok pl w ev hs hr=> ?_) hk;obtain⟨i,d,z,hT⟩:=aJ hti;have hu:e.P.underlying t=some (.slice el):=by rw[hT.und,hT.slice hkind]
 have h1:=(hr x (by simp[hop,Op.operands,Call.operands])).sv hc;rw[hx]at h1;simp only[VRel]at h1;refine⟨.int .i64 0,?_,by simp only[VRel]⟩;have hb:execOp ev o=(do pure (Next.value (<-Builtin.cap_ ts o.type #[ev x]))):=by
  have : execOp ev o = (do
   let d <-resolve ev {callee:= .builtin .cap,args:=#[x],argTypes:=ts} o.type
   invoke d.target d.args):=by simp[execOp,hop]
  rw[this];simp[resolve,invoke,builtin]
 rw[hb,h1];refine fP ?_;simp[Builtin.cap_,h0,run_underlying hu,Result.andThen,goInt]
theorem pF{x y:Operand}{t el:TypeId}{q re:TI}(hop:o.op= .slice t x none (some y) none)(hti:Abs.ti e.P t=some q)(hkind:q.kind= .slice el)(hre:Abs.ti e.P el=some re)
 (hc:(f.ev e x).sc) (hx:(f.ev e x).sv= .nils) (hyc:(f.ev e y).sc) {k:IntKind} (hy:(f.ev e y).sv= .int k 0) (hk:Kn (f.put o.dst .nils) h):Eff e n r o f h Kn Q:=by
 refine jc (v:= .nils) (fO fun ok pl w ev hs hr=> ?_) hk;obtain⟨i,d,z,hT⟩:=aJ hti;obtain⟨i',d',z',hT'⟩:=aJ hre;have hd:=hT.slice hkind;have h1:=(hr x (by simp[hop,Op.operands])).sv hc;have h2:=(hr y (by simp[hop,Op.operands])).sv hyc;rw[hx]at h1;rw[hy]at h2;simp only[VRel]at h1 h2;refine⟨.slice none 0 0,?_,by simp only[VRel]⟩;have hb:execOp ev o=(do pure (Next.value (<-Instr.sliceAt t (ev x) none (some (ev y)) none))):=by simp[execOp,hop]
 rw[hb,h1,h2];refine fP ?_;have hbd:=gK (P:=e.P) (w:=w) true 0 0 .i64 none (some (.int k 0)) none none (some (.int k 0)) none 0 0 0 (.inl ⟨rfl,rfl⟩) (.inr ⟨k,rfl⟩) (.inl ⟨rfl,rfl⟩) (Int.le_refl _) (Int.le_refl _) (Int.le_refl _) (Int.le_refl _);have hbd':(Instr.sliceBounds true 0 0 none (some (.int k 0)) none).run e.P w= .ok (0,0,0) w:=hbd;subst hd;simp[Instr.sliceAt,hT.run_und,Result.andThen,Instr.slice,hbd',hT'.run_size]
end
section
variable{e:E}{n:Nat}
def iV(e:E)(q:FuncId)(args:List V)(h:H)(K:H->(Nat->Bool)->Prop):Prop :=
 ∀ok pl w vs,HSim e ok pl h w->VList (cx ok pl w) args vs ->
  CallsDIn (RF none) (0-1) e.P q vs.toArray (.returning) w fun en u' w'=>(∃y,en= .returned y)/\u'= .returning /\
   ∃p pl' h',HSim e ok pl' h' w'/\Keeps p pl w pl' w'/\K h' p
theorem kM(htl:e.tl=[]){q:FuncId}{fn:Func}{args:List V}{h:H}{K:H->(Nat->Bool)->Prop}{id:Nat}{o0:Oper}{l:List Oper}{rest:Code}(hf:e.P.funcs[q]? =some fn)
 (hb:fn.body=some (.seq (.region id (o0::l).toArray false) rest)) (hr0:fn.results.toList=[]) (hn:args.length<=fn.ntmps) (hg:o0.guard=none) (ho:∀ev w,(execOp ev o0).run e.P w= .ok .recover w) (hd:iT fn.ntmps o0.dst=true)
 (hl:(l.all fun o=>uQ o.op)=true)
 (hv:KR e fn.ntmps none (o0::l).toArray (XE.seq (awp e fn.ntmps none rest (fun xe f h=>(xe= .normal\/xe= .ret)/\f.d=[]/\K h f.k)) (fun _ _ _=>False)) l ((Fr.init args).put o0.dst .nili) h):iV e q args h K:=by
 intro ok pl w vs hs hl2;refine callsDIn_of_wpSIn hf hb (dZ none q) fun c0 cs hm=> ?_;have s0:=SSim.init htl (n:=fn.ntmps) hs hl2 hn;have s1:=s0.put (v:= .nili) (x:= .nilIface) hd (by simp only[VRel]);have hrec:recoverD (c0::cs)=none:=by simp[recoverD,hm]
 refine wpSIn_seq (wpSIn_region ?_);have hsz:(o0::l).toArray.size=(o0::l).length:=by simp
 rw[hsz,List.range_eq_range'];show wpOpsSIn (RF none) (0-1) e.P _ _ (0::List.range' 1 l.length) _ _ _;have h00:(o0::l).toArray[0]? =some o0:=by simp
 simp only[wpOpsSIn,h00];refine⟨fun g _=>dZ none g,?_⟩;have hgd:gd (o0::l).toArray (Fr.init args) o0=some true:=by unfold gd;rw[hg]
 rw[if_pos (mW s0.val hgd),ho];dsimp only;rw[hrec];dsimp only;have hlist:=hv ok pl w pl w _ s1;have hS:=nI (P:=e.P) (cs:=c0::cs) (ops:=(o0::l).toArray) l 1 _ w (fun j hj=>by simp[Nat.add_comm]) (fun o ho=>zrs.1 hl o ho) hlist;refine jH ?_ _ _ _ _ hS;rintro ex a2 cs2 w2 ⟨rfl,pl2,f2,h2,xe,s2,hx2,hq2⟩;cases xe<;>cases ex<;>(try exact hx2.elim)<;>(try exact hq2.elim);have hq2:awp e fn.ntmps none rest (fun xe f h=>(xe= .normal\/xe= .ret)/\f.d=[]/\K h f.k) f2 h2:=hq2;refine wpSIn_of_wpIn (bH none) (wpIn_mono (hq2 ok pl w pl2 w2 a2 s2) ?_);rintro ex a3 w3 ⟨pl3,f3,h3,xe,s3,hx3,hxe,hd3,hk3⟩;have hdf:a3.defers=[]:=by
  have:=s3.dfr;rw[hd3]at this;exact Eq.trans this htl
 have hres:∃y,(results fn a3.tmps).run e.P w3= .ok y w3:=by
  have hp:(xU e.P f3 h3 fn.results.toList).1:=by rw[hr0];trivial
  obtain⟨y,h1,_⟩:=Bo (f:=f3) s3.hs s3.val hp;exact⟨y,h1⟩
 obtain⟨y,hy⟩:=hres;have fin:a3.defers=[]/\∃u',c0::cs={c0 with mode:=u'}::cs/\∃v,(results fn a3.tmps).run e.P w3= .ok v w3/\((∃y,Ending.returned v= .returned y)/\u'= .returning /\
  ∃p pl' h',HSim e ok pl' h' w3/\Keeps p pl w pl' w3/\K h' p) :=
  ⟨hdf,.returning,by rw[<-hm],y,hy,⟨y,rfl⟩,rfl,f3.k,pl3,h3,s3.hs,s3.kp,hk3⟩
 rcases hxe with rfl|rfl<;>cases ex<;>(try exact hx3.elim)
 ·exact fin
 ·exact fin
theorem wF(htl:e.tl=[]){fn:Func}{R:AEnd->H->(Nat->Bool)->Prop}{ok:Nat->Prop}{pl0:Nat->Option Nat}{w0:World}{f F1:Fr}{h:H}{id:Nat}{mk df:Oper}{rest:Code}{q:FuncId}{caps:List V}{fx:Operand}
 (hmg:mk.guard=none) (hmd:iT fn.ntmps mk.dst=true) (hmp:(rF e.P mk (f.ev e) h).1) (hmf:f.put mk.dst (rF e.P mk (f.ev e) h).2=F1)
 (hdg:df.guard=none) (hdd:df.dst=none) (hdop:df.op= .defer {callee:= .value fx,args:=#[],argTypes:=#[]}) (hfx:(F1.ev e fx).sv= .fn (.func q) [] caps) (hsc:(F1.ev e fx).sc) (hen:ai e.P q=true) (hfd:f.d=[])
 (hrest:∀d,awp {e with tl:=[d]} fn.ntmps none rest (fun xe f' h'=>f'.d=[]/\V.drops f'.k caps=caps/\match xe with
  | .pan v=>jI e q caps v h' (fun h'' p=>lZ e.P fn.results.toList (fun v h k=>R (.ret v) h (fun i=>f.k i||k i)) (f'.drop p) h'')
  | .ret=>iV e q caps h' (fun h'' p=>lZ e.P fn.results.toList (fun v h k=>R (.ret v) h (fun i=>f.k i||k i)) (f'.drop p) h'')
  |_=>False) {F1 with k:=fun _=>false} h) :
 UF e fn.ntmps (bodyPostM (RF none) 0 e.P fn (OV e ok pl0 w0 R)) ok pl0 w0 (.seq (.region id [mk,df].toArray false) rest) f h:=by
 intro pl w a s;refine wpIn_seq (wpIn_region_lit ?_);have hgd:gd [mk,df].toArray f mk=some true:=by unfold gd;rw[hmg]
 unfold wpListIn;rw[if_pos (mW s.val hgd)];refine⟨fun g _=>dZ none g,?_⟩;have hq:=lX (e:=e) hmp ok pl w a.eval s.hs s.evs;have hnd:mk.semAt (RF none).round a.eval=execOp a.eval mk:=by rw[bH,Oper.semAt_none]
 rw[hnd];have hF1d:F1.d=[]:=by
  rw[<-hmf];cases mk.dst with
  |none=>exact hfd
  |some i=>exact hfd
 have fin:∀x w1,WExt w w1/\VRel (cx ok pl w1) (rF e.P mk (f.ev e) h).2 x->wpListIn (RF none) 0 e.P [mk,df].toArray (Exit.then (rest.wpIn (RF none) 0 e.P (bodyPostM (RF none) 0 e.P fn (OV e ok pl0 w0 R))) (bodyPostM (RF none) 0 e.P fn (OV e ok pl0 w0 R))) [df] (a.put mk.dst x) w1:=by
  rintro x w1 ⟨hx,hv⟩;have kx:=hx.keeps s.hs;have s1:=(s.next0 (s.hs.wext hx) kx).put hmd hv;rw[hmf]at s1;generalize ha1:a.put mk.dst x=a1 at s1 ⊢;have hgd1:gd [mk,df].toArray F1 df=some true:=by unfold gd;rw[hdg]
  unfold wpListIn;rw[if_pos (mW s1.val hgd1)];refine⟨fun g _=>dZ none g,?_⟩;have h1:=(s1.ev fx).sv hsc;rw[hfx]at h1;simp only[VRel]at h1;obtain⟨fs,cs,h2,h3,h4⟩:=h1;have hfs:fs=#[]:=by
   simp only[VList]at h3;exact Array.toList_eq_nil_iff.1 h3
  subst hfs;obtain⟨d,ed⟩:∃d:Deferred,d={target:= .fn (.func q) cs,args:=#[]}:=⟨_,rfl⟩;have hrun:(execOp a1.eval df).run e.P w1= .ok (.defer d) w1:=by
   rw[ed];simp[execOp,hdop,resolve,h2,Deferred.ofValue,Result.andThen]
  rw[bH,Oper.semAt_none,hrun,Oper.uponIn_defer,hdd];have hdf1:a1.defers=[]:=by
   have:=s1.dfr;rw[hF1d]at this;exact Eq.trans this htl
  have s2:SSim {e with tl:=[d]} fn.ntmps ok pl w1 {F1 with k:=fun _=>false} h pl w1 {a1 with defers:=d::a1.defers} :=
   ⟨s1.hs.tl _,Keeps.refl pl w1,s1.size,s1.val,by
    show AO _ [d] F1.d (d::a1.defers);rw[hF1d,hdf1];rfl⟩
  show rest.wpIn (RF none) 0 e.P _ {a1 with defers:=d::a1.defers} w1;refine wpIn_mono (hrest d ok pl w1 pl w1 _ s2) ?_;rintro ex a3 w3 ⟨pl3,f3,h3',xe,s3,hx3,hd3,hcap,hcD⟩;have hdf3:a3.defers=[d]:=by have:=s3.dfr;rw[hd3]at this;exact this
  have hcs3:VList (cx ok pl3 w3) caps cs.toList:=by
   have:=VList.mdrop s3.kp.cext _ _ h4
   rwa [hcap]at this
  have hinv:(invoke d.target d.args).run e.P w3= .ok (.enter q cs) w3:=by
   rw[ed];simp only[invoke];rw[kW hen]
   congr 2
   simp
  have fin2:∀ {p:Nat->Bool} {pl4:Nat->Option Nat} {h4':H} {w4:World},HSim e ok pl4 h4' w4->Keeps p pl3 w3 pl4 w4->lZ e.P fn.results.toList (fun v h k=>R (.ret v) h (fun i=>f.k i||k i)) (f3.drop p) h4'->LeavesInM (RF none) 0 e.P fn a3.tmps (OV e ok pl0 w0 R) [] .returning w4:=by
   intro p pl4 h4' w4 hs4 k4 hK;have s4:=s3.next (hs4.tl _) k4 (p:=p) (by rw[hd3];intro i hi;cases hi)
   unfold lZ at hK;rw[show(f3.drop p).d=[]from hd3]at hK;simp only[fH]at hK;obtain⟨u,hu1,hu2⟩:=Bo (f:=f3.drop p) (e:=e) hs4 s4.val hK.1;have kk:=((s.kp.trans kx).trans s3.kp).trans k4;exact⟨u,hu1,_,pl4,h4',.ret _,hs4,kk.weaken (q:=fun i=>f.k i||(f3.drop p).k i) (fun i hi=>by
    simp only[Fr.drop,Bool.or_eq_true,Bool.or_false,zrm,or_false]at hi ⊢;rcases hi with(hi|hi)|hi
    ·exact .inl hi
    ·exact .inr (.inl hi)
    ·exact .inr (.inr hi)),hu2,hK.2⟩
  cases xe<;>cases ex<;>(try exact hx3.elim)<;>(try exact hcD.elim)
  case ret.ret =>
   show LeavesInM (RF none) 0 e.P fn a3.tmps _ a3.defers .returning w3;rw[hdf3];refine⟨by simp,.inr ⟨(fun hh=>by rw[fK]at hh;cases hh),Fn.func q,cs,q,cs,(by rw[ed]),hinv,(fun g _=>dZ none g),?_⟩⟩;refine CallsDIn.mono (hcD ok pl3 w3 cs.toList s3.hs.untl hcs3) ?_;rintro en u' w4 ⟨⟨z,rfl⟩,rfl,p,pl4,h4',hs4,k4,hK⟩;exact fin2 hs4 k4 hK
  case pan.panic =>
   obtain⟨y,rfl,hy⟩:=hx3;show LeavesInM (RF none) 0 e.P fn a3.tmps _ a3.defers (.panicking _) w3;rw[hdf3];refine⟨by simp,.inr ⟨(fun hh=>by rw[fK]at hh;cases hh),Fn.func q,cs,q,cs,(by rw[ed]),hinv,(fun g _=>dZ none g),?_⟩⟩;refine CallsDIn.mono (hcD ok pl3 w3 cs.toList y s3.hs.untl hcs3 hy) ?_;rintro en u' w4 ⟨⟨z,rfl⟩,rfl,p,pl4,h4',hs4,k4,hK⟩;exact fin2 hs4 k4 hK
 revert hq
 cases hrun:(execOp a.eval mk).run e.P w with
 |halt x w'=>intro hq;exact hq.elim
 |ok nx w' =>
  intro hq;cases nx<;>try exact hq.elim
  case value x=>exact fin x w' hq
  case skip=>exact fin undef w' hq
  case enter g args =>
   refine⟨fun hh=>(by rw[fK]at hh;cases hh),bJ (Calls.mono hq ?_)⟩;rintro en w'' ⟨x,rfl,hx⟩;exact fin x w'' hx
end
section
variable{e:E}{g:FuncId}{args:List V}{h:H}{R:AEnd->H->(Nat->Bool)->Prop}
def EvF(e:E)(g:FuncId)(args:List V)(k n:Nat)(cs:List V):Prop :=
 ag e g args [] fun ae h' _=>match ae with
  | .ret v=>(v= .nils/\n=0/\cs=[])\/∃id cap,v= .ls id k 0 n cap/\n<=cap/\h'[id]? =some (.cells cs)
  | .pan _=>False
theorem rZ{k n:Nat}{cs:List V}(hv:EvF e g args k n cs)(hd:V.dats args=true)(hcs:V.dats cs=true)(hr:R (.ret (.ls h.length k 0 n n)) (h++[.cells cs]) (fun _=>false)):ag e g args h R:=by
 intro ok pl w vs hs hl;refine(hv _ _ w vs hs.toData (VList.mono (kV ok pl w) _ _ (VList.todata _ _ hd hl))).mono ?_;rintro en w' ⟨p,pl',h',ae,hs',k',he,hq⟩;have x:WExt w w':=⟨k'.os,k'.tape,k'.output,k'.size,fun b hb=>k'.same b hb (fun i hi=>by cases hi)⟩;have bare:∀v:V,(∀y,(∀c:C,VRel c v y->VRel c (.ls h.length k 0 n n) y))->cs=[]->∀y,VRel (cx ok pl w') v y->en= .returned y->∃p pl2 h2 ae2,HSim e ok pl2 h2 w'/\Keeps p pl w pl2 w'/\FX (cx ok pl2 w') ae2 en/\R ae2 h2 p:=by
  intro v hle hc0 y hy hen;subst hc0;refine⟨fun _=>false,pl,h++[.cells []],.ret (.ls h.length k 0 n n),oz (hs.wext x),x.keeps hs,?_,hr⟩;rw[hen];exact hle y _ hy
 cases ae with
 |pan v=>exact hq.elim
 |ret v =>
  cases en with
  |panicked ch=>exact he.elim
  |outgrown=>exact he.elim
  |returned y =>
   have he:VRel _ v y:=he;rcases hq with⟨rfl,rfl,rfl⟩|⟨id,cap,rfl,hcap,hid⟩
   ·refine bare .nils (fun y c hy=> ?_) rfl y (by simpa only[VRel]using he) rfl;simp only[VRel]at hy ⊢;exact⟨none,0,hy,zrb _,zrb _,Nat.zero_le _,.inl rfl⟩
   ·simp only[VRel]at he;obtain⟨a,cp,h1,h2,h3,h4,h5⟩:=he;cases hp:pl' id with
    |none =>
     have hc0:cs=[]:=by
      rcases hs'.bare id _ hid hp with h|h
      ·cases h
      ·cases h;rfl
     rcases h5 with h5|⟨b,arr,el,fz,h6,_⟩
     ·subst h5;have hn:n=0:=by omega
      subst hn;refine⟨fun _=>false,pl,h++[.cells cs],.ret (.ls h.length k 0 0 0),by rw[hc0];exact oz (hs.wext x),x.keeps hs,?_,hr⟩;show VRel _ _ _;simp only[VRel];exact⟨a,0,h1,zrb _,h3,h4,.inl rfl⟩
     ·simp only[cx]at h6;rw[hp]at h6;cases h6
    |some b0 =>
     have hb1:w.heap.size<=b0:=by
      rcases k'.loc id b0 hp with⟨j,hj⟩|hlt
      ·cases hj
      ·exact hlt
     have hb2:=hs'.lt id b0 hp;obtain⟨o,ho,hat⟩:=hs'.obj id b0 hp;rw[hid]at ho;cases ho;obtain⟨arr,el,fz,g1,g2,g3,g4⟩:=hat;have cxt:CExt (fun _=>false) (cx (fun b=>ok b/\∀i,pl i≠some b) pl' w').data (cx ok (bg pl h.length b0) w').data:=by
      refine⟨fun b hb hok=>⟨⟨hok.1.1,fun i hi=> ?_⟩,rfl⟩,fun i b _ hi=>by simp[C.data]at hi,fun b arr' el' fz' hb'=>⟨arr',fz',hb',rfl⟩⟩;simp only[bg]at hi;split at hi
      ·cases hi;exact hok.2 id hp
      ·exact hok.1.2 i hi
     have hat2:OAt (cx ok (bg pl h.length b0) w') b0 (.cells cs) :=
      ⟨arr,el,fz,g1,g2,g3,VList.ofdata _ _ (VList.mono cxt _ _ (VList.todata _ _ hcs g4))⟩
     obtain⟨s2,k2⟩:=hs.new x (.cells arr el) (.cells cs) hb1 hb2 hat2;refine⟨fun _=>false,bg pl h.length b0,h++[.cells cs],.ret (.ls h.length k 0 n n),s2,k2,?_,hr⟩;show VRel _ _ _;simp only[VRel];refine⟨a,cp,h1,h3,h3,h4,?_⟩;rcases h5 with h5|⟨b,arr2,el2,fz2,h6,h7,h8,h9⟩
     ·exact .inl h5
     ·simp only[cx]at h6 h8;rw[hp]at h6;cases h6;exact .inr ⟨b0,arr2,el2,fz2,by simp[cx,bg],h7,h8,h9⟩
theorem EvF.ev{k n:Nat}{cs:List V}{r:V}(hv:EvF e g args k n cs)(hn:n=0->cs=[]->VLe .nils r)(hr:∀h':H,∀id cap:Nat,n<=cap->h'[id]? =some (.cells cs)->aA e h' (.ls id k 0 n cap) r)(hnr:n=0->cs=[]->∀h':H,aA e h' .nils r):Ev e g args r :=
 l7 (ag.mono hv fun ae h' p hq=>by
  cases ae with
  |pan v=>exact hq
  |ret v =>
   rcases hq with⟨rfl,h1,h2⟩|⟨id,cap,rfl,hc,hid⟩
   ·exact hnr h1 h2 h'
   ·exact hr h' id cap hc hid)
theorem EI{x:Bool}{k:Nat}:VLe .nils (.is x k []):=fun c y h=>by simp only[VRel]at h ⊢;exact⟨none,0,h,zrb _,Nat.zero_le _,fun _=>rfl,by simp⟩
theorem pW{x:Bool}{k:Nat}{es:List V}:VLe (.is x k es) (.is false k es):=fun c y h=>by simp only[VRel]at h ⊢;obtain⟨a,cp,h1,h2,h3,h4,h5⟩:=h;exact⟨a,cp,h1,h2,h3,(fun h=>by cases h),h5⟩
theorem VElems.les{c:C}{k:Nat}:∀ {es es':List V} {b off:Nat},es'.length=es.length->(∀(i:Nat) v v',es[i]? =some v->es'[i]? =some v'->VLe v v')->VElems c k es b off->VElems c k es' b off
 |[],[],_,_,_,_,h=>h
 |[],_::_,_,_,hl,_,_=>by simp at hl
 |_::_,[],_,_,hl,_,_=>by simp at hl
 |v::vs,v'::vs',b,off,hl,hv,h=>by simp only[VElems]at h ⊢;obtain⟨⟨ev,h1,h2,h3⟩,h4⟩:=h;exact⟨⟨ev,h1,h2,hv 0 v v' rfl rfl c ev h3⟩,VElems.les (by simpa using hl) (fun i a b ha hb=>hv (i+1) a b (by simpa using ha) (by simpa using hb)) h4⟩
theorem VLe.is{x:Bool}{k:Nat}{es es':List V}(hl:es'.length=es.length)(hv:∀(i:Nat) v v',es[i]? =some v->es'[i]? =some v'->VLe v v'):VLe (.is x k es) (.is x k es'):=fun c y h=>by
 simp only[VRel]at h ⊢;obtain⟨a,cp,h1,h2,h3,h4,h5⟩:=h;refine⟨a,cp,by rw[hl];exact h1,by omega,h3,fun h=>by rw[hl];exact h4 h,?_⟩;rcases h5 with h5|⟨b,off,h5,h6⟩
 ·exact .inl (by subst h5;exact zse hl)
 ·exact .inr ⟨b,off,h5,h6.les hl hv⟩
theorem Ev.les{args':List V}{r:V}(hv:Ev e g args' r)(ha:gX args args'):Ev e g args r :=
 fun ok w vs hs hl=>hv ok w vs hs (ha _ _ hl)
theorem EvR.les{args':List V}{S:V->Prop}(hv:EvR e g args' S)(ha:gX args args'):EvR e g args S :=
 fun ok w vs hs hl=>hv ok w vs hs (ha _ _ hl)
theorem EvF.les{args':List V}{k n:Nat}{cs:List V}(hv:EvF e g args' k n cs)(ha:gX args args'):EvF e g args k n cs :=
 jZ ha (HLe.refl _) hv
end
section
variable{e:E}{n:Nat}{r:Option Nat}{c:Code}{Q:XE->Fr->H->Prop}{f:Fr}{h:H}
theorem kZ(i k:Nat)(hi:f.t i= .nils)(hw:awp e n r c Q {f with t:=fun j=>if j=i then .ls h.length k 0 0 0 else f.t j} (h++[.cells []])):awp e n r c Q f h :=
 iC (Q4 (FLe.one i (by rw[hi];exact eU)) (HLe.refl _) hw)
def eF(k:Nat):Nat->Bool:=fun j=>decide (k<=j)
theorem dK{h0 Y:H}(hd:∀j∈f.d,j<h0.length)
 (hw:awp e n r c Q (f.drop (eF h0.length)) (h0.map (O.drop (eF h0.length)))):awp e n r c Q f (h0++Y):=by
 refine Kr (.inr ⟨h0.length,hd,?_⟩);have e1:((h0++Y).map (O.drop fun i=>decide (h0.length<=i))).take h0.length=h0.map (O.drop (eF h0.length)):=by
  simp only[zql];rw[List.take_append_of_le_length (by simp),zqh (by simp)];rfl
 rw[e1];exact hw
def BJ(h:H):Prop:=∀p:Nat->Bool,(∀i,i<h.length->p i=false)->h.map (O.drop p)=h
theorem BJ.one{h:H}(hc:BJ h){j:Nat}(hj:h.length<=j):h.map (O.drop (·==j))=h:=hc _ (fun i hi=>by simp;omega)
theorem BJ.set{h:H}(hc:BJ h){k:Nat}{o:O}(ho:∀p:Nat->Bool,(∀i,i<h.length->p i=false)->o.drop p=o):BJ (h.set k o):=fun p hp=>by rw[zrn]at hp;rw[List.map_set,hc p hp,ho p hp]
theorem ag.kp{g:FuncId}{args:List V}{R:AEnd->H->(Nat->Bool)->Prop}(p0:Nat->Bool)(hc:ag e g args h fun ae h' p=>(∀i,p i=true->p0 i=true)/\R ae h' p0):ag e g args h R :=
 fun ok pl w vs hs hl=>(hc ok pl w vs hs hl).mono fun en w' ⟨p,pl',h',ae,h1,h2,h3,h4,h5⟩=>⟨p0,pl',h',ae,h1,h2.weaken h4,h3,h5⟩
end
section
variable{H:Type}{enc:TypeId×Value->H}{P:Program}{R:Nat}(M:Meas H P R)
theorem law_contractG{fn:Func}{f:FuncId}{s:ChangeSpec}{shs:List Sh}(hl:laidOutB P=true)(hlen:shs.length=fn.params.size)
 (hok:∀(i:Nat) sh t,shs[i]? =some sh->fn.params[i]? =some t->sh.ok P t=true/\sh.fat P t=true) (hread:(fn.params.toList.all fun t=>P.readableRec t&&decide (t<P.types.size))=true)
 (hres:∃tb,fn.resultTypes=#[tb]/\P.underlying tb=some .bool) (hvars:s.vars=[])
 (hspec:∀ds:List (DataW H),ds.length=shs.length->(s.fn H (ds++[])).results=[.lit (.bool true)]/\(s.fn H (ds++[])).args=ds/\(s.fn H (ds++[])).vars=[])
 (e:E) (heP:e.P=P)  (hev:∀us,Sh.Szs R shs us->Ev e f us (.bool true))
 (W:World) (base:Nat) (args:Array Value) (ds gs:List (DataW H)) (before:List MemPlace)
 (hval:∀(j:Nat) t v,fn.params[j]? =some t->args[j]? =some v->Value.okWide P W .any base t v)
 (hW:DataW.Whole enc P fn.params.toList s.vars false W args.toList ds gs before)
 (hwt:∀(i:Nat) d t,ds[i]? =some d->fn.params.toList[i]? =some t->M.L t d)
 (hgl:∀g v,e.gl g=some v->VRel (cw W) (.ip v) (.pointer (some ⟨g,0,none⟩)))
 (hex:∀g p,e.gx g=some p->∃cs ty fz,W.heap[g]? =some (.cells cs ty fz)/\p cs) :
 Calls P f args W fun e W'=>∃v,e= .returned v/\s.post enc P fn false true false false W args v W':=by
 have hW':=hW;obtain⟨p,q,hA,hV,rfl,hfz,hnd⟩:=hW;rw[hvars]at hV;obtain⟨rfl,rfl⟩:=trodVars_none hV;obtain⟨us,k1,k2⟩:=qJ M shs fn.params.toList args.toList ds p (by simpa using hlen) (fun i sh t h1 h2=>hok i sh t h1 (by simpa using h2)) (fun i sh v h1 h2=>by
  have hi:i<fn.params.size:=by have:=(zqe h1).1;omega
  exact xW (hok i sh fn.params[i] h1 (by simp[hi])).1 (hval i fn.params[i] v (by simp[hi]) (by simpa using h2))) hA hwt
 subst heP;have hs:HSim e (fun _=>True) (fun _=>none) [] W:=⟨fun _ _=>trivial,fun i b hi=>(by cases hi),fun i b hi=>(by cases hi),fun i j b hi=>(by cases hi),fun i b hi=>(by cases hi),fun i o ho=>(by simp at ho),fun g v hg=>hgl g v hg,fun g p hg=>⟨⟨trivial,fun i hi=>(by cases hi)⟩,hex g p hg⟩⟩;have hc:=hev us k1 _ W args.toList hs k2;rw[show args.toList.toArray=args from Array.toArray_toList]at hc;refine hc.mono ?_;rintro en W' ⟨x,rfl,hx,hv⟩;simp only[VRel]at hv;subst hv;obtain⟨tb,hr1,hr2⟩:=hres;have hdl:ds.length=shs.length:=by rw[Gg hA,hlen];simp
 obtain⟨e1,e2,e3⟩:=hspec ds hdl;refine⟨_,rfl,ds,[],p++[],[],p,[],hW',?_,?_,?_,hx.below.frame _,fun h=>(by cases h)⟩
 ·rw[e1,hr1];exact trodAll_mk1 ⟨1,by simp[DataW.trod,Value.cells,hr2]⟩
 ·rw[e2];exact qI hl hx.below fn.params.toList args.toList ds p hread (fun y hy=>hA.lt y hy) hA
 ·rw[e3,hvars];rfl
theorem SB{w:World}{g:Nat}{a b:Int}{k:IntKind}{ty:TypeId}{fz:Nat×Nat}(h:w.heap[g]? =some (.cells #[.int k a,.int k b] ty fz)):VRel (cw w) (.ip (.agg [.int k a,.int k b])) (.pointer (some ⟨g,0,none⟩)):=by simp only[VRel,VList];refine⟨g,0,.agg #[.int k a,.int k b],rfl,fun j hj=>⟨⟨trivial,fun i hi=>by cases hi⟩,?_⟩,by simp[Value.cells],_,rfl,_,_,rfl,rfl,_,_,rfl,rfl,rfl⟩;show w.cell? ⟨g,0+j,none⟩=_;unfold World.cell?;simp only[h,Nat.zero_add];rfl
end
section
variable{e:E}{n:Nat}{r:Option Nat}{o:Oper}{f:Fr}{h:H}{Kn:Fr->H->Prop}{Q:XE->Fr->H->Prop}
theorem KT{r:Option Nat}{c:Code}(Pf:Fr->Prop)(h0:H)(h1:(∀f',Pf f'->awp e n r c Q f' h0)->awp e n r c Q f h)(h2:∀f',Pf f'->awp e n r c Q f' h0):awp e n r c Q f h:=h1 h2
end
section
variable{e:E}{n:Nat}{r:Option Nat}{o:Oper}{f:Fr}{h:H}{Kn:Fr->H->Prop}{Q:XE->Fr->H->Prop}
theorem jK{x:Operand}{xt t:TypeId}{q:TI}(hop:o.op= .typeAssert x xt t true)(hq:ti e.P t=some q)(hxc:(f.ev e x).sc)(hx:(f.ev e x).sv= .nili)
 (hk:Kn (f.put o.dst (.tup [q.zero,.bool false])) h):Eff e n r o f h Kn Q:=by
 refine jc (v:= .tup [q.zero,.bool false]) (fO fun ok pl w ev hs hr=> ?_) hk;obtain⟨i,d,z,hT⟩:=aJ hq;have hxv:=(hr x (by simp[hop,Op.operands])).sv hxc;rw[hx]at hxv;simp only[VRel]at hxv;have hrun:(Instr.typeAssert (ev x) xt t true).run e.P w= .ok (.tuple #[z,.bool false]) w:=by
  unfold Instr.typeAssert;rw[hxv];cases d<;>simp[Sem.run_bind,hT.run_und,hT.run_zero,Result.andThen]
 refine⟨.tuple #[z,.bool false],?_,?_⟩
 ·have h5:execOp ev o=(do pure (Next.value (<-Instr.typeAssert (ev x) xt t true))):=by simp[execOp,hop]
  rw[h5];exact fP hrun
 ·simp only[VRel,VList];rw[hT.zv];exact⟨#[z,.bool false],rfl,_,_,rfl,eH _ z,_,_,rfl,rfl,rfl⟩
end
section
variable{e:E}{n:Nat}{r:Option Nat}{ops:Array Oper}{Q:XE->Fr->H->Prop}{ok:Nat->Prop}{pl0:Nat->Option Nat}{w0:World}
theorem SSim.unput{f:Fr}{h:H}{pl:Nat->Option Nat}{w:World}{a:Act}{d:Option Tmp}{v:Value}(s:SSim e n ok pl0 w0 f h pl w (a.put d v)):SSim e n ok pl0 w0 (f.put d .any) h pl w a:=by
 cases d with
 |none=>exact s
 |some i =>
  refine⟨s.hs,s.kp,?_,fun j=> ?_,s.dfr⟩
  ·have:=s.size;simpa [Act.put]using this
  ·by_cases hj:j=i
   ·subst hj;have:(f.put (some j) .any).t j= .any:=by simp[Fr.put]
    rw[this];simp only[VRel]
   ·have h1:(f.put (some i) .any).t j=f.t j:=by simp[Fr.put,hj]
    rw[h1];have h2:=s.val j;simpa [Act.put,Array.getElem?_setIfInBounds_ne (Ne.symm hj)]using h2
end
end Go.Abs
