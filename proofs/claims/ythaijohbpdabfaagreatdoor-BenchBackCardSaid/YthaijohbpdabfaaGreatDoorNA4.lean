/- Lemmas for this claim, part A4: each holds under what it names. -/
import Derived.Test.YthaijohbpdabfaaGreatDoorNA3
import Derived.RangeFuncNested
set_option linter.all false
namespace Go.Abs
open Go.RowKit
section
variable{e:E}{n:Nat}{r:Option Nat}{o:Oper}{f:Fr}{h:H}{Kn:Fr->H->Prop}{Q:XE->Fr->H->Prop}
variable{ok:Nat->Prop}{pl:Nat->Option Nat}{w:World}
theorem pJ(hs:HSim e ok pl h w){cs:List V}{arr:Array Value}(hl:cs.length<=arr.size)(hc:VList (cx ok pl w) cs (arr.toList.take cs.length))(el:TypeId){w1:World}(x:WExt w w1) :
 HSim e ok (bn pl h.length w1.heap.size) (h++[.cells cs]) (w1.alloc (.cells arr el))/\Keeps (fun _=>false) pl w (bn pl h.length w1.heap.size) (w1.alloc (.cells arr el)):=by
 have x2:=x.trans (WExt.alloc w1 (.cells arr el));have hb:(w1.alloc (.cells arr el)).heap[w1.heap.size]? =some (.cells arr el):=by rw[World.alloc];simp
 have key:∀(c':C),CExt (fun _=>false) (cx ok pl w) c'->c'.w=w1.alloc (.cells arr el)->OAt c' w1.heap.size (.cells cs):=by intro c' hx hw;exact⟨arr,el,(0,0),by rw[hw];exact hb,fun j _=>by simp,hl,VList.mono hx cs _ hc⟩
 have k:CExt (fun _=>false) (cx ok pl w) (cx ok (bn pl h.length w1.heap.size) (w1.alloc (.cells arr el))):=by
  refine⟨fun b hb' hok=>⟨⟨hok.1,fun i hi=> ?_⟩,x2.same b hb'⟩,fun i b _ hi=> ?_,fun b arr' el' fz hb'=>⟨arr',fz,(x2.same b (aU hb')).trans hb',rfl⟩⟩
  ·simp only[bn]at hi;split at hi
   ·cases hi;have:=x.size;simp only[cx]at hb';omega
   ·exact hok.2 i hi
  ·have:=hs.pl_lt hi;simp only[cx,bn];rw[if_neg (by omega)];exact hi
 exact hs.new x2 (.cells arr el) (.cells cs) x.size (by simp) (key _ k rfl)
theorem pM(hs:HSim e ok pl h w):HSim e ok pl (h++[.cells []]) w where
 fresh:=hs.fresh
 lt:=hs.lt
 okl:=hs.okl
 inj:=hs.inj
 obj i b hi:=by
  obtain⟨ob,h1,h2⟩:=hs.obj i b hi;exact⟨ob,by rw[zqj (hs.pl_lt hi)];exact h1,h2⟩
 bare i ob ho hi:=by
  by_cases hlt:i<h.length
  ·rw[zqj hlt]at ho;exact hs.bare i ob ho hi
  ·rw[zsb (by omega)]at ho;cases hq:i-h.length with
   |zero=>rw[hq]at ho;cases ho;exact .inr rfl
   |succ m=>rw[hq]at ho;cases ho
 glob:=hs.glob
 exa:=hs.exa
theorem HSim.kill(hs:HSim e ok pl h w)(p:Nat->Bool):HSim e ok pl (h.map (O.drop p)) w/\Keeps p pl w pl w:=by
 have k:Keeps p pl w pl w:=(Keeps.refl pl w).weaken (fun _ hi=>by cases hi);refine⟨hs.next k hs.lt hs.inj (fun i b hi=> .inl ⟨hi,rfl,by rw[zqo]⟩) (fun i ob ho hi=> ?_),k⟩;rw[zqo]at ho;cases hh:h[i]? with
 |none=>rw[hh]at ho;cases ho
 |some o' =>
  rw[hh]at ho;have ho:o'.drop p=ob:=by simpa using ho
  rcases hs.bare i o' hh hi with rfl|rfl<;>subst ho<;>simp[O.drop,V.drops]
theorem HSim.replace(hs:HSim e ok pl h w){id nb:Nat}(hid:id<h.length){w':World}{o':O}
 (k:Keeps (·==id) pl w (fun i=>if i=id then some nb else pl i) w') (hlt:nb<w'.heap.size) (hfree:∀j,j≠id->pl j≠some nb)
 (hsame:∀j b,j≠id->pl j=some b->w'.heap[b]? =w.heap[b]?) (ho:OAt (cx ok (fun i=>if i=id then some nb else pl i) w') nb o') :
 HSim e ok (fun i=>if i=id then some nb else pl i) ((h.map (O.drop (·==id))).set id o') w':=by
 refine hs.next k (fun i b hi=> ?_) (fun i j b hi hj=> ?_) (fun i b hi=> ?_) (fun i ob hob hi=> ?_)
 ·split at hi
  ·cases hi;exact hlt
  ·exact Nat.lt_of_lt_of_le (hs.lt i b hi) k.size
 ·by_cases h1:i=id<;>by_cases h2:j=id
  ·rw[h1,h2]
  ·rw[if_pos h1]at hi;rw[if_neg h2]at hj;cases hi;exact absurd hj (hfree j h2)
  ·rw[if_neg h1]at hi;rw[if_pos h2]at hj;cases hj;exact absurd hi (hfree i h1)
  ·rw[if_neg h1]at hi;rw[if_neg h2]at hj;exact hs.inj i j b hi hj
 ·by_cases h1:i=id
  ·rw[if_pos h1]at hi;cases hi;subst h1;exact .inr ⟨o',by simp[hid],ho⟩
  ·rw[if_neg h1]at hi;refine .inl ⟨hi,hsame i b h1 hi,?_⟩;rw[zqn (Ne.symm h1),zqo]
 ·by_cases h1:i=id
  ·rw[if_pos h1]at hi;cases hi
  ·rw[if_neg h1]at hi;rw[zqn (Ne.symm h1),zqo]at hob;cases hh:h[i]? with
   |none=>rw[hh]at hob;cases hob
   |some o'' =>
    rw[hh]at hob;have hob:o''.drop (·==id)=ob:=by simpa using hob
    rcases hs.bare i o'' hh hi with rfl|rfl<;>subst hob<;>simp[O.drop,V.drops]
theorem fG(p:Nat->Bool):∀(a b:List V),V.drops p (a++b)=V.drops p a++V.drops p b
 |[],b=>rfl
 |v::a,b=>by simp only[List.cons_append,V.drops,fG p a b]
theorem bQ(p:Nat->Bool):∀(a:List V),(V.drops p a).length=a.length
 |[]=>rfl
 |v::a=>by simp only[V.drops,zrt,bQ p a]
def xu:V->Bool
 | .nils=>true
 | .is true _ _=>true
 |_=>false
structure IsAppend(e:E)(o:Oper)(x y:Operand)(t xt el:TypeId)(r re:TI):Prop where
 op:∃ts,o.op= .call {callee:= .builtin .append,args:=#[x,y],argTypes:=ts}/\ts[0]? =some t/\ts[1]? =some xt
 ti:ti e.P t=some r
 kind:r.kind= .slice el
 tie:Abs.ti e.P el=some re
 zfit:re.zero.fit=true
 zlen:re.zero.vc.length=re.size
 pos:0<re.size
theorem DJ{P:Program}{xt el:TypeId}{s:V}(h:Bo P xt el s=true):∃rx ix dx zx,TIs P xt rx ix dx zx/\∀k,dx≠ .int k:=by
 have key:∀rx,ti P xt=some rx->(∀k,rx.kind≠ .int k)->∃rx ix dx zx,TIs P xt rx ix dx zx/\∀k,dx≠ .int k:=by intro rx hrx hk;obtain⟨ix,dx,zx,hX⟩:=aF hrx;exact⟨rx,ix,dx,zx,hX,fun k hd=>hk k (by rw[hX.kind,hd];rfl)⟩
 unfold Bo at h;split at h
 ·split at h
  ·rename_i rx re hrx hre;simp only[zqf,zqb]at h;exact key rx hrx fun k hk=>by rw[h.1]at hk;cases hk
  ·cases h
 ·split at h
  ·rename_i rx hrx;exact key rx hrx fun k hk=>by rw[hk]at h;cases h
  ·cases h
theorem cu{x y:Operand}{ts:Array TypeId}(hop:o.op= .call {callee:= .builtin .append,args:=#[x,y],argTypes:=ts})(ev:Operand->Value) :
 execOp ev o=(do pure (Next.value (<-Builtin.append_ ts o.type #[ev x,ev y]))):=by
 simp[execOp,hop,resolve,invoke,builtin]
theorem vY{x y:Operand}{t xt el:TypeId}{q re:TI}(ha:IsAppend e o x y t xt el q re)(hxc:(f.ev e x).sc)(hyc:(f.ev e y).sc)
 (hex:xu (f.ev e x).sv=true) (hst:Bo e.P xt el (f.ev e y).sv=true)
 {n0 m:Nat} {cs0 cs:List V} (hx:jC h re.size (f.ev e x).sv=some (n0,cs0)) (hxf:nP re.size (f.ev e x).sv=true) (hy:jC h re.size (f.ev e y).sv=some (m,cs)) (hyf:nP re.size (f.ev e y).sv=true)
 (hnz:n0=0\/0<m) (hbig:n0+m<=maxLen) (hbytes:(n0+m)*re.bytes<=140737488355328)
 (hk:Kn (f.put o.dst (.ls h.length re.size 0 (n0+m) (n0+m))) (h++[.cells (cs0++cs)])):Eff e n r o f h Kn Q:=by
 obtain⟨⟨ts,hop,ht0,ht1⟩,hti,hkind,htie,hzf,hzl,hpos⟩:=ha;refine aT ?_ (fun c=>by rw[hop];exact fun h=>by cases h);intro ok pl w ev hs hr;obtain⟨i,d,z,hT⟩:=aF hti;have hd:=hT.slice hkind;subst hd;obtain⟨ie,de,ze,hE⟩:=aF htie;obtain⟨rx,ix,dx,zx,hX,hxi⟩:=DJ hst;have hxv:=(hr x (by simp[hop,Op.operands,Call.operands])).sv hxc;have hyv:=(hr y (by simp[hop,Op.operands,Call.operands])).sv hyc;obtain⟨olds,ho1,ho2,ho3,ho4⟩:=kW hs hxv hx hxf;obtain⟨news,hn1,hn2,hn3,hn4⟩:=kW hs hyv hy hyf
 -- the slice that is appended to
 obtain⟨base,hbase⟩:∃base,ev x= .slice base n0 n0:=by
  obtain⟨u,hu⟩:∃u,(f.ev e x).sv=u:=⟨_,rfl⟩;rw[hu]at hx hxv hex;clear hxf hu;cases u<;>simp only[xu,zrm]at hex
  case nils=>simp only[VRel]at hxv;simp only[jC]at hx;cases hx;exact⟨none,hxv⟩
  case is ex k es =>
   cases ex
   ·simp[xu]at hex
   ·simp only[VRel]at hxv;obtain⟨a,cp,h1,h2,h3,h4,_⟩:=hxv;have hn0:n0=es.length:=by
     simp only[jC]at hx;split at hx
     ·split at hx<;>cases hx<;>rfl
     ·cases hx
    exact⟨a,by rw[h1,h4 trivial,hn0]⟩
 have hol:=ho3.length;have hnl:=hn3.length;by_cases hroom:n0+m<=n0
 ·have hm0:m=0:=by omega
  have hn0:n0=0:=by omega
  subst hm0;subst hn0;have hcs:cs=[]:=zse (by omega);have hcs0:cs0=[]:=zse (by omega);subst hcs;subst hcs0;have hnews:news.toList=[]:=zse (by omega);have hrun:=dS (P:=e.P) (w:=w) (ty:=o.type) ht0 ht1 hT hE hX hxi base 0 0 0 (ev y) news (fun w'=>hn1 w') (hn2 w (fun _=>rfl)) (by omega) (w':=w) (by
   cases base with
   |none=>exact .inl ⟨rfl,rfl⟩
   |some a=>exact .inr ⟨a,rfl,by rw[hnews];rfl⟩)
  refine⟨fun _=>false,_,_,pl,w,.slice base 0 0,.inl ?_,pM hs,Keeps.refl pl w,?_,fun _ _=>rfl,by rw[Fr.drop_none];exact hk⟩
  ·rw[cu hop,hbase];exact fU hrun
  ·simp only[VRel];exact⟨base,0,rfl,by omega,by omega,by simp[maxLen],.inl rfl⟩
 ·have hrun:=iF (P:=e.P) (w:=w) (ty:=o.type) ht0 ht1 hT hE hX hxi base n0 n0 m (ev y) olds news (fun w'=>hn1 w') (by rw[<-hbase];exact ho2 _ (fun _=>rfl)) (hn2 _ (fun _=>rfl)) (by omega) hbig hbytes;obtain⟨cap,hcap⟩:∃cap,grownCap w (n0+m) n0 el=cap:=⟨_,rfl⟩;have hge:=grownCap_ge w (n0+m) n0 el;have hle:=grownCap_le_maxLen w (n0+m) n0 el hbig;rw[hcap]at hrun hge hle;obtain⟨arr,harr⟩:∃arr,olds++news++Builtin.zeroCells ze.cells (cap-(n0+m))=arr:=⟨_,rfl⟩;rw[harr]at hrun;have hzs:ze.cells.size=re.size:=by have hzr:=(bY (cx ok pl w) ze).vc (by rw[<-hE.zv];exact hzf);have:=hzr.length;rw[<-hE.zv,hzl]at this;simpa using this
  have hasz:arr.size=cap*re.size:=by rw[<-harr];simp only[Array.size_append,size_zeroCells,hzs];simp only[Array.length_toList]at hol hnl;rw[hol,hnl,ho4,hn4,<-Nat.add_mul,<-Nat.add_mul];congr 1;omega
  have hlist:arr.toList.take (cs0++cs).length=olds.toList++news.toList:=by rw[<-harr];simp only[Array.toList_append];rw[List.take_append_of_le_length (by simp only[zqa];omega),zqh (by simp only[zqa];omega)]
  obtain⟨hs',kk⟩:=pJ hs (cs:=cs0++cs) (arr:=arr) (by rw[hasz,zqa,ho4,hn4,<-Nat.add_mul];exact Nat.mul_le_mul_right _ hge) (by rw[hlist];exact ho3.append hn3) el (WExt.drew w);refine⟨fun _=>false,_,_,_,_,.slice (some ⟨w.heap.size,0,none⟩) (n0+m) cap,.inl ?_,hs',kk,?_,fun _ _=>rfl,by rw[Fr.drop_none];exact hk⟩
  ·rw[cu hop,hbase];exact fU hrun
  ·simp only[VRel];refine⟨_,cap,rfl,hge,hge,hle,.inr ⟨w.heap.size,arr,el,(0,0),by simp[cx,bn],rfl,?_,by rw[hasz];omega⟩⟩;exact World.alloc_heap_new w.drew (.cells arr el)
theorem xx{x y:Operand}{t xt el:TypeId}{q re:TI}(ha:IsAppend e o x y t xt el q re)(hxc:(f.ev e x).sc)(hyc:(f.ev e y).sc)
 {id len cap:Nat} (hx:(f.ev e x).sv= .ls id re.size 0 len cap) {cs0:List V} (hc:h[id]? =some (.cells cs0)) (hcl:cs0.length=len*re.size)
 (hst:Bo e.P xt el (f.ev e y).sv=true) {m:Nat} {cs:List V} (hy:jC h re.size (f.ev e y).sv=some (m,cs)) (hyf:nP re.size (f.ev e y).sv=true) (h1:dA cs=true)
 (hbig:len+m<=maxLen) (hbytes:(len+m)*re.bytes<=140737488355328) (hid:∀i∈f.d,(i==id)=false)
 (hk:Kn ((f.drop (·==id)).put o.dst (.ls id re.size 0 (len+m) (len+m))) ((h.map (O.drop (·==id))).set id (.cells (V.drops (·==id) (cs0++cs))))):Eff e n r o f h Kn Q:=by
 obtain⟨⟨ts,hop,ht0,ht1⟩,hti,hkind,htie,hzf,hzl,hpos⟩:=ha;refine aT ?_ (fun c=>by rw[hop];exact fun h=>by cases h);intro ok pl w ev hs hr;obtain⟨i,d,z,hT⟩:=aF hti;have hd:=hT.slice hkind;subst hd;obtain⟨ie,de,ze,hE⟩:=aF htie;obtain⟨rx,ix,dx,zx,hX,hxi⟩:=DJ hst;have hxv:=(hr x (by simp[hop,Op.operands,Call.operands])).sv hxc;have hyv:=(hr y (by simp[hop,Op.operands,Call.operands])).sv hyc;have hx':=hxv;rw[hx]at hx';obtain⟨olds,ho1,ho2,ho3,ho4⟩:=kW (k:=re.size) (n:=len) (cs:=cs0) hs hx' (by
  have:dV h id=cs0:=by simp[dV,hc]
  simp only[jC,this];rw[if_pos ⟨trivial,by omega⟩];simp only[List.drop_zero];rw[zqh (by omega)]) rfl
 obtain⟨news,hn1,hn2,hn3,hn4⟩:=kW hs hyv hy hyf;simp only[VRel]at hx';obtain⟨base,cp,hbase,hcap,hlen,hmax,hpl⟩:=hx';have hol:=ho3.length;have hnl:=hn3.length;have hidl:id<h.length:=(zqe hc).1;by_cases hroom:len+m<=cp
 ·rcases hpl with hcp|⟨b,arr,el',fz,hb,hbs,harr,hsz⟩
  ·have hm0:m=0:=by omega
   have hl0:len=0:=by omega
   subst hm0;subst hl0;subst hcp;have hcs:cs=[]:=zse (by omega);have hcs0:cs0=[]:=zse (by omega);subst hcs;subst hcs0;have hnews:news.toList=[]:=zse (by omega);have hrun:=dS (P:=e.P) (w:=w) (ty:=o.type) ht0 ht1 hT hE hX hxi base 0 0 0 (ev y) news (fun w'=>hn1 w') (hn2 w (fun _=>rfl)) (by omega) (w':=w) (by
    cases base with
    |none=>exact .inl ⟨rfl,rfl⟩
    |some a=>exact .inr ⟨a,rfl,by rw[hnews];rfl⟩)
   obtain⟨hs',kk⟩:=hs.kill (·==id);have hset:(h.map (O.drop (·==id))).set id (.cells (V.drops (·==id) ([]++[])))=h.map (O.drop (·==id)):=by
    apply List.ext_getElem?;intro j;by_cases hj:j=id
    ·subst hj;rw[zqt (by simpa using hidl),zqo,hc];simp[O.drop,V.drops]
    ·rw[zqn (Ne.symm hj)]
   rw[hset]at hk;refine⟨(·==id),_,_,pl,w,.slice base 0 0,.inl ?_,hs',kk,?_,hid,hk⟩
   ·rw[cu hop,hbase];exact fU hrun
   ·simp only[VRel];exact⟨base,0,rfl,by omega,by omega,by simp[maxLen],.inl rfl⟩
  ·subst hbs;have hb':pl id=some b:=hb;obtain⟨ob,hob,hat⟩:=hs.obj id b hb';rw[hc]at hob;cases hob;obtain⟨arr2,el2,fz2,g1,g2,g3,g4⟩:=hat;have harr':w.heap[b]? =some (.cells arr el' fz):=harr;have g1':w.heap[b]? =some (.cells arr2 el2 fz2):=g1;rw[harr']at g1';cases g1';have hfit:cs0.length+news.toList.length<=arr.size:=by
    rw[hnl,hcl,hn4,<-Nat.add_mul];have:=Nat.mul_le_mul_right re.size hroom;omega
   have hfit':cs0.length+news.size<=arr.size:=by simpa using hfit
   have hnsz:news.size=cs.length:=by simpa using hnl
   have hst':=gp (P:=e.P) (o:=cs0.length) harr' g2 hfit (hn3.oneCells h1);have hw:=iw (b:=b) news.toList cs0.length arr w harr' hfit;obtain⟨w',hw'⟩:∃w',w.setCells b cs0.length news.toList=w':=⟨_,rfl⟩;rw[hw']at hst' hw;have hrun:=dS (P:=e.P) (w:=w) (ty:=o.type) ht0 ht1 hT hE hX hxi (some ⟨b,0,none⟩) len cp m (ev y) news (fun w'=>hn1 w') (hn2 w (fun _=>rfl)) hroom (w':=w') (.inr ⟨_,rfl,by
    rw[di,Nat.zero_add,<-hcl];exact hst'⟩)
   have hkk:Keeps (·==id) pl w (fun i=>if i=id then some b else pl i) w':=by
    refine⟨hw.os,hw.tape,hw.output,by rw[hw.size];exact zrb _,fun b' hb1 hn'=>hw.same b' (fun he=>hn' id (he▸hb')),fun i b' hi=> ?_,fun i b' hp hi=> ?_,fun b' a1 e1 z1 hb1=> ?_⟩
    ·split at hi
     ·cases hi;exact .inl ⟨id,hb'⟩
     ·exact .inl ⟨i,hi⟩
    ·have:i≠id:=by simpa using hp
     rw[if_neg this];exact hi
    ·by_cases he:b'=b
     ·subst he;rw[harr']at hb1;cases hb1;exact⟨_,_,hw.here,by simp;omega⟩
     ·exact⟨a1,z1,(hw.same b' he).trans hb1,rfl⟩
   have hsize':(arr.toList.take cs0.length++news.toList++arr.toList.drop (cs0.length+news.toList.length)).toArray.size=arr.size:=by simp;omega
   have hs' := hs.replace hidl (nb := b) (w' := w') (o' := .cells (V.drops (· == id) (cs0 ++ cs))) hkk (by rw [hw.size];exact aU harr') (fun j hj hjb => hj (hs.inj j id b hjb hb'))
    (fun j b' hj hjb=>hw.same b' (fun he=>hj (hs.inj j id b (he▸hjb) hb'))) (by
     refine⟨_,el',fz,hw.here,fun j hj=>g2 j (by omega),?_,?_⟩
     ·rw[bQ,hsize',zqa];omega
     ·have hq:(V.drops (·==id) (cs0++cs)).length=cs0.length+news.toList.length:=by rw[bQ,zqa];omega
      rw[hq];have e1:(arr.toList.take cs0.length++news.toList++arr.toList.drop (cs0.length+news.toList.length)).toArray.toList.take (cs0.length+news.toList.length)=arr.toList.take cs0.length++news.toList:=by
       have e2:(arr.toList.take cs0.length++news.toList).length=cs0.length+news.toList.length:=by simp only[zqa,zrl,Array.length_toList];omega
       show(arr.toList.take cs0.length++news.toList++arr.toList.drop (cs0.length+news.toList.length)).take (cs0.length+news.toList.length)=_;rw[List.take_append_of_le_length (by omega),zqh (by omega)]
      rw[e1];exact VList.mdrop hkk.cext _ _ (g4.append hn3))
   refine⟨(·==id),_,_,_,w',.slice (some ⟨b,0,none⟩) (len+m) cp,.inl ?_,hs',hkk,?_,hid,hk⟩
   ·rw[cu hop,hbase];exact fU hrun
   ·simp only[VRel];exact⟨_,cp,rfl,hroom,hroom,hmax,.inr ⟨b,_,el',fz,by simp[cx],rfl,hw.here,by rw[hsize'];omega⟩⟩
 ·have hrun:=iF (P:=e.P) (w:=w) (ty:=o.type) ht0 ht1 hT hE hX hxi base len cp m (ev y) olds news (fun w'=>hn1 w') (by rw[<-hbase];exact ho2 _ (fun _=>rfl)) (hn2 _ (fun _=>rfl)) (by omega) hbig hbytes;obtain⟨cap',hcap'⟩:∃cap',grownCap w (len+m) cp el=cap':=⟨_,rfl⟩;have hge:=grownCap_ge w (len+m) cp el;have hle:=grownCap_le_maxLen w (len+m) cp el hbig;rw[hcap']at hrun hge hle;obtain⟨arr,harr⟩:∃arr,olds++news++Builtin.zeroCells ze.cells (cap'-(len+m))=arr:=⟨_,rfl⟩;rw[harr]at hrun;have hzs:ze.cells.size=re.size:=by have hzr:=(bY (cx ok pl w) ze).vc (by rw[<-hE.zv];exact hzf);have:=hzr.length;rw[<-hE.zv,hzl]at this;simpa using this
  have hasz:arr.size=cap'*re.size:=by rw[<-harr];simp only[Array.size_append,size_zeroCells,hzs];simp only[Array.length_toList]at hol hnl;rw[hol,hnl,ho4,hn4,<-Nat.add_mul,<-Nat.add_mul];congr 1;omega
  have hlist:arr.toList.take (cs0++cs).length=olds.toList++news.toList:=by rw[<-harr];simp only[Array.toList_append];rw[List.take_append_of_le_length (by simp only[zqa];omega),zqh (by simp only[zqa];omega)]
  have x2:=(WExt.drew w).trans (WExt.alloc w.drew (.cells arr el));have hhere:(w.drew.alloc (.cells arr el)).heap[w.heap.size]? =some (.cells arr el):=World.alloc_heap_new w.drew (.cells arr el);have hkk:Keeps (·==id) pl w (fun i=>if i=id then some w.heap.size else pl i) (w.drew.alloc (.cells arr el)):=by
   refine⟨rfl,rfl,rfl,x2.size,fun b' hb1 _=>x2.same b' hb1,fun i b' hi=> ?_,fun i b' hp hi=> ?_,fun b' a1 e1 z1 hb1=>⟨a1,z1,(x2.same b' (aU hb1)).trans hb1,rfl⟩⟩
   ·split at hi
    ·cases hi;exact .inr (zrb _)
    ·exact .inl ⟨i,hi⟩
   ·have:i≠id:=by simpa using hp
    rw[if_neg this];exact hi
  have hs' := hs.replace hidl (nb := w.heap.size) (o' := .cells (V.drops (· == id) (cs0 ++ cs))) hkk (by simp) (fun j hj hjb => by have := hs.lt j _ hjb;omega)
   (fun j b' hj hjb=>x2.same b' (hs.lt j b' hjb)) (by
    refine⟨arr,el,(0,0),hhere,fun j _=>by simp,?_,?_⟩
    ·rw[bQ,hasz,zqa,ho4,hn4,<-Nat.add_mul];exact Nat.mul_le_mul_right _ hge
    ·rw[bQ,hlist];exact VList.mdrop hkk.cext _ _ (ho3.append hn3))
  refine⟨(·==id),_,_,_,_,.slice (some ⟨w.heap.size,0,none⟩) (len+m) cap',.inl ?_,hs',hkk,?_,hid,hk⟩
  ·rw[cu hop,hbase];exact fU hrun
  ·simp only[VRel];exact⟨_,cap',rfl,hge,hge,hle,.inr ⟨w.heap.size,arr,el,(0,0),by simp[cx],rfl,hhere,by rw[hasz];omega⟩⟩
theorem xy{x y:Operand}{t xt el:TypeId}{q re:TI}(ha:IsAppend e o x y t xt el q re)(hxc:(f.ev e x).sc)(hyc:(f.ev e y).sc)
 {id off len cap:Nat} (hx:(f.ev e x).sv= .ls id re.size off len cap) {cs0:List V} (hc:h[id]? =some (.cells cs0))
 (hst:Bo e.P xt el (f.ev e y).sv=true) {m:Nat} {cs:List V} (hy:jC h re.size (f.ev e y).sv=some (m,cs)) (hyf:nP re.size (f.ev e y).sv=true) (h1:dA cs=true)
 (hcap:len+m<=cap) (hpos':0<cap) (hin:off+len*re.size+cs.length<=cs0.length)
 (hk:Kn (f.put o.dst (.ls id re.size off (len+m) cap)) (h.set id (.cells (dm cs0 (off+len*re.size) cs)))):Eff e n r o f h Kn Q:=by
 obtain⟨⟨ts,hop,ht0,ht1⟩,hti,hkind,htie,hzf,hzl,hpos⟩:=ha;refine aT ?_ (fun c=>by rw[hop];exact fun h=>by cases h);intro ok pl w ev hs hr;obtain⟨i,d,z,hT⟩:=aF hti;have hd:=hT.slice hkind;subst hd;obtain⟨ie,de,ze,hE⟩:=aF htie;obtain⟨rx,ix,dx,zx,hX,hxi⟩:=DJ hst;have hxv:=(hr x (by simp[hop,Op.operands,Call.operands])).sv hxc;have hyv:=(hr y (by simp[hop,Op.operands,Call.operands])).sv hyc;have hx':=hxv;rw[hx]at hx';obtain⟨news,hn1,hn2,hn3,hn4⟩:=kW hs hyv hy hyf;simp only[VRel]at hx';obtain⟨base,cp,hbase,hcapc,hlen,hmax,hpl⟩:=hx';rcases hpl with hcp|⟨b,arr,el',fz,hb,hbs,harr,hsz⟩
 ·omega
 ·subst hbs;have hb':pl id=some b:=hb;obtain⟨w',hst',hs',kk⟩:=qM (off:=off+len*re.size) hs hb' hn3 h1 hc (by omega);have hrun:=dS (P:=e.P) (w:=w) (ty:=o.type) ht0 ht1 hT hE hX hxi (some ⟨b,off,none⟩) len cp m (ev y) news (fun w'=>hn1 w') (hn2 w (fun _=>rfl)) (by omega) (w':=w') (.inr ⟨_,rfl,by
   rw[di];exact hst'⟩)
  obtain⟨arr',fz',g1,g2⟩:=kk.row b arr el' fz harr;refine⟨fun _=>false,_,_,pl,w',.slice (some ⟨b,off,none⟩) (len+m) cp,.inl ?_,hs',kk,?_,fun _ _=>rfl,by simpa using hk⟩
  ·rw[cu hop,hbase];exact fU hrun
  ·simp only[VRel];exact⟨_,cp,rfl,hcapc,by omega,hmax,.inr ⟨b,arr',el',fz',hb,rfl,g1,by omega⟩⟩
end
inductive AEnd where
 |ret (v:V)
 |pan (v:V)
def Il(c:C):AEnd->Ending->Prop
 | .ret v,.returned x=>VRel c v x
 | .pan v,.panicked ch=>∃x,ch=[{v:=x,recovered:=false}]/\VRel c v x
 |_,_=>False
def ag(e:E)(g:FuncId)(args:List V)(h:H)(R:AEnd->H->(Nat->Bool)->Prop):Prop :=
 ∀ok pl w vs,HSim e ok pl h w->VList (cx ok pl w) args vs ->
  Calls e.P g vs.toArray w fun en w'=>∃p pl' h' ae,HSim e ok pl' h' w'/\Keeps p pl w pl' w'/\Il (cx ok pl' w') ae en/\R ae h' p
def Ev(e:E)(g:FuncId)(args:List V)(r:V):Prop :=
 ∀ok w vs,HSim e ok (fun _=>none) [] w->VList (cx ok (fun _=>none) w) args vs ->
  Calls e.P g vs.toArray w fun en w'=>∃x,en= .returned x/\WExt w w'/\VRel (cx ok (fun _=>none) w') r x
theorem ag.mono{e:E}{g:FuncId}{args:List V}{h:H}{R R':AEnd->H->(Nat->Bool)->Prop}(hc:ag e g args h R)(hr:∀ae h' p,R ae h' p->R' ae h' p):ag e g args h R' :=
 fun ok pl w vs hs hv=>(hc ok pl w vs hs hv).mono fun en w' ⟨p,pl',h',ae,h1,h2,h3,h4⟩=>⟨p,pl',h',ae,h1,h2,h3,hr _ _ _ h4⟩
theorem lS(ok:Nat->Prop)(pl:Nat->Option Nat)(w:World):CExt (fun _=>false) (cx ok pl w).data (cx (fun b=>ok b/\∀i,pl i≠some b) (fun _=>none) w) :=
 ⟨fun b hb hok=>⟨⟨hok,fun i hi=>(by cases hi)⟩,rfl⟩,fun i b _ hi=>(by cases hi),fun b arr el fz hb=>⟨arr,fz,hb,rfl⟩⟩
theorem zM(ok:Nat->Prop)(pl:Nat->Option Nat)(w:World):CExt (fun _=>false) (cx (fun b=>ok b/\∀i,pl i≠some b) (fun _=>none) w) (cx ok pl w) :=
 ⟨fun b hb hok=>⟨hok.1,rfl⟩,fun i b _ hi=>(by cases hi),fun b arr el fz hb=>⟨arr,fz,hb,rfl⟩⟩
theorem HSim.toData{e:E}{ok:Nat->Prop}{pl:Nat->Option Nat}{h:H}{w:World}(hs:HSim e ok pl h w):HSim e (fun b=>ok b/\∀i,pl i≠some b) (fun _=>none) [] w where
 fresh b hb:=⟨hs.fresh b hb,fun i hi=>by have:=hs.lt i b hi;omega⟩
 lt i b hi:=by cases hi
 okl i b hi:=by cases hi
 inj i j b hi:=by cases hi
 obj i b hi:=by cases hi
 bare i o ho:=by simp at ho
 glob g v hg:=by
  have h1:=hs.glob g v hg;exact VRel.mono (lS ok pl w) _ _ (VRel.todata (.ip v) _ rfl h1)
 exa g cs hg:=V8.next (lS ok pl w) (hs.exa g cs hg)
theorem Ev.run{e:E}{g:FuncId}{args:List V}{r:V}(hv:Ev e g args r)(hd:V.dats args=true){ok:Nat->Prop}{pl:Nat->Option Nat}{h:H}{w:World}{vs:List Value}
 (hs:HSim e ok pl h w) (hl:VList (cx ok pl w) args vs):Calls e.P g vs.toArray w fun en w'=>∃x,en= .returned x/\WExt w w'/\VRel (cx ok pl w') r x :=
 (hv _ w vs hs.toData (VList.mono (lS ok pl w) _ _ (VList.todata _ _ hd hl))).mono fun en w' ⟨x,h1,h2,h3⟩ =>
  ⟨x,h1,h2,VRel.mono (zM ok pl w') _ _ h3⟩
theorem ag.ev{e:E}{g:FuncId}{args:List V}{r:V}{h:H}{R:AEnd->H->(Nat->Bool)->Prop}(hv:Ev e g args r)(hd:V.dats args=true)(hr:R (.ret r) h (fun _=>false)):ag e g args h R :=
 fun ok pl w vs hs hl=>(hv.run hd hs hl).mono fun en w' ⟨x,h1,h2,h3⟩=>⟨fun _=>false,pl,h,.ret r,hs.wext h2,h2.keeps hs,by rw[h1];exact h3,hr⟩
def ah(P:Program)(g:FuncId):Bool :=
 match P.funcs[g]? with
 | some fn => fn.body.isSome && !(fn.name == "runtime.NumGoroutine")
 |none=>false
theorem pO{P:Program}{g:FuncId}(h:ah P g=true)(args:Array Value)(w:World):(callFunc g args).run P w= .ok (.enter g args) w:=by
 unfold ah at h;split at h
 ·rename_i fn hfn;simp only[zqf,Bool.not_eq_true']at h;unfold callFunc;have h2:¬(fn.body.isNone=true):=by
   cases hb:fn.body with
   |none=>rw[hb]at h;simp at h
   |some _=>simp
  simp only[Sem.run_bind,run_program,Result.andThen,hfn];rw[if_neg (by rw[h.2];simp),if_neg h2];rfl
 ·cases h
def lT(e:E)(ρ:Operand->V)(fx:Operand)(args:Array Operand):Option (FuncId×List V) :=
 match (ρ fx).sv with
 | .fn (.func g) first captured=>some (g,first++(args.toList.map fun x=>(ρ x).sv)++captured)
 |_=>none
def dH(ρ:Operand->V)(fx:Operand)(args:Array Operand):Prop:=(ρ fx).sc/\iZ (args.toList.map ρ)
section
variable{e:E}{n:Nat}{r:Option Nat}{o:Oper}{f:Fr}{h:H}{Kn:Fr->H->Prop}{Q:XE->Fr->H->Prop}
theorem xA{ρ:Operand->V}{ok:Nat->Prop}{pl:Nat->Option Nat}{w:World}{fx:Operand}{args:Array Operand}{ts:Array TypeId}(hop:o.op= .call {callee:= .value fx,args:=args,argTypes:=ts})
 {ev:Operand->Value} (hr:∀x∈o.op.operands,VRel (cx ok pl w) (ρ x) (ev x)) {g:FuncId} {vs:List V} (hon:lT e ρ fx args=some (g,vs)) (hsc:dH ρ fx args) (hen:ah e.P g=true) :
 ∃xs:List Value,(execOp ev o).run e.P w= .ok (.enter g xs.toArray) w/\VList (cx ok pl w) vs xs:=by
 unfold lT at hon;split at hon
 ·rename_i g' first captured hfx
  cases hon;have h1:=(hr fx (by simp[hop,Op.operands,Call.operands])).sv hsc.1;rw[hfx]at h1;simp only[VRel]at h1;obtain⟨fs,cs,h2,h3,h4⟩:=h1;have h5:=(dw (c:=cx ok pl w) (ρ:=ρ) (ev:=ev) args.toList fun x hx=>hr x (by simp[hop,Op.operands,Call.operands];exact .inr (Array.mem_toList_iff.1 hx))).sv hsc.2;rw[List.map_map]at h5;refine⟨fs.toList++args.toList.map ev++cs.toList,?_,(h3.append h5).append h4⟩;have:execOp ev o=(do let d <-resolve ev {callee:= .value fx,args:=args,argTypes:=ts} o.type;invoke d.target d.args):=by simp[execOp,hop]
  rw[this];have h6:(resolve ev {callee:= .value fx,args:=args,argTypes:=ts} o.type).run e.P w= .ok {target:= .fn (.func g) cs,args:=fs++args.map ev} w:=by
   simp[resolve,h2,Deferred.ofValue]
  simp only[Sem.run_bind,h6,Result.andThen,invoke];rw[pO hen]
  congr 2
  apply Array.ext';simp
 ·cases hon
theorem Qq{fx:Operand}{args:Array Operand}{ts:Array TypeId}(hop:o.op= .call {callee:= .value fx,args:=args,argTypes:=ts}){g:FuncId}{vs:List V}
 (hon:lT e (f.ev e) fx args=some (g,vs)) (hsc:dH (f.ev e) fx args) (hen:ah e.P g=true)
 (hc:ag e g vs h fun ae h' p=>(∀i∈f.d,p i=false)/\match ae with
  | .ret v=>Kn ((f.drop p).put o.dst v) h'
  | .pan v=>Q (.pan v) (f.drop p) h'):Eff e n r o f h Kn Q:=by
 intro ok pl0 w0 pl w a s hd;obtain⟨xs,hrun,hl⟩:=xA (e:=e) hop (s.evs (o:=o)) hon hsc hen;refine⟨fun g _=>gU r g,?_⟩;rw[dP,Oper.semAt_eq r a.eval o (fun c=>by rw[hop];exact fun h=>by cases h),hrun];refine⟨fun hd'=>(by rw[kL]at hd';cases hd'),eP ((hc ok pl w xs s.hs hl).mono ?_)⟩;rintro en w' ⟨p,pl',h',ae,hs',k,hend,hp,hk⟩;cases ae with
 |ret v =>
  cases en with
  |returned x=>exact⟨pl',_,h',(s.next hs' k hp).put hd hend,hk⟩
  |panicked ch=>exact hend.elim
  |outgrown=>exact hend.elim
 |pan v =>
  cases en with
  |returned x=>exact hend.elim
  |panicked ch=>exact⟨pl',_,h',.pan v,s.next hs' k hp,hend,hk⟩
  |outgrown=>exact hend.elim
theorem AQ.call{fx:Operand}{args:Array Operand}{ts:Array TypeId}(hop:o.op= .call {callee:= .value fx,args:=args,argTypes:=ts}){ρ:Operand->V}{g:FuncId}{vs:List V}{rv:V}
 (hon:lT e ρ fx args=some (g,vs)) (hsc:dH ρ fx args) (hen:ah e.P g=true) (hd:V.dats vs=true) (hv:Ev e g vs rv):AQ e o ρ h rv:=by
 intro ok pl w ev hs hr;obtain⟨xs,hrun,hl⟩:=xA (e:=e) hop hr hon hsc hen;rw[hrun];exact hv.run hd hs hl
def Bq:V->Bool->Option Bool
 | .bool b,true=>some b
 | .bool b,false=>some (!b)
 | .grd false _,_=>some false
 | .grd true v,want=>Bq v want
 | .tup [],_=>some false
 |_,_=>none
def gd(ops:Array Oper)(f:Fr)(o:Oper):Option Bool :=
 match o.guard with
 |none=>some true
 |some (j,want)=>match (ops[j]?).bind (·.dst)with
  |some d=>Bq (f.t d) want
  |none=>some false
theorem LX {c : C} : ∀ {v : V} {want g : Bool} {x : Value},VRel c v x -> Bq v want = some g -> ((match x with | .bool b => some b | _ => none) == some want) = g
 | .bool b,true,g,x,h,hg=>by simp only[VRel]at h;subst h;simp only[Bq,Option.some.injEq]at hg;subst hg;cases b<;>rfl
 | .bool b,false,g,x,h,hg=>by simp only[VRel]at h;subst h;simp only[Bq,Option.some.injEq]at hg;subst hg;cases b<;>rfl
 | .grd true v,want,g,x,h,hg=>by simp only[VRel]at h;simp only[Bq]at hg;exact LX (h.1 trivial) hg
 | .grd false v,want,g,x,h,hg=>by simp only[VRel]at h;rw[h.2 trivial];simp only[Bq,Option.some.injEq]at hg;simp[undef,<-hg]
 | .tup [],want,g,x,h,hg=>by simp only[VRel,VList]at h;obtain⟨cs,rfl,_⟩:=h;simp only[Bq,Option.some.injEq]at hg;subst hg;rfl
 | .tup (_::_),want,_,_,_,hg=>by simp[Bq]at hg
 | .any,w,_,_,_,hg | .int _ _,w,_,_,_,hg | .str _,w,_,_,_,hg | .nilp,w,_,_,_,hg | .lp _ _,w,_,_,_,hg | .ip _,w,_,_,_,hg | .nils,w,_,_,_,hg
 | .ls _ _ _ _ _,w,_,_,_,hg | .is _ _ _,w,_,_,_,hg | .nilm,w,_,_,_,hg | .lm _,w,_,_,_,hg | .im _ _,w,_,_,_,hg | .fn _ _ _,w,_,_,_,hg
 | .yd _,w,_,_,_,hg | .nilf,w,_,_,_,hg | .iface _ _,w,_,_,_,hg | .nili,w,_,_,_,hg | .agg _,w,_,_,_,hg=>by cases w<;>simp[Bq]at hg
theorem qO{ops:Array Oper}{c:C}{a:Act}(hv:∀i,VRel c (f.t i) (a.tmps.getD i undef)){g:Bool}(hg:gd ops f o=some g):Region.wanted o (yielded ops a.tmps)=g:=by
 unfold gd at hg;unfold Region.wanted;cases ho:o.guard with
 |none=>rw[ho]at hg;simpa using hg
 |some jw =>
  obtain⟨j,want⟩:=jw;rw[ho]at hg;dsimp only at hg ⊢;unfold yielded;cases hd:(ops[j]?).bind (·.dst)with
  |none=>rw[hd]at hg;simp at hg;subst hg;rfl
  |some d =>
   rw[hd]at hg;have h1:=LX (hv d) hg;rw[<-h1];cases ht:a.tmps[d]? with
   |none =>
    have h2:a.tmps.getD d undef=undef:=by rw[Array.getD_eq_getD_getElem?,ht];rfl
    rw[h2];simp[undef,ht]
   |some x =>
    have h2:a.tmps.getD d undef=x:=by rw[Array.getD_eq_getD_getElem?,ht];rfl
    rw[h2];simp only[Option.bind_some,ht];cases x<;>rfl
def V.guard(g:Bool)(v:V):V:=match g with|true=>v|false=> .grd false v
theorem DK(v:V):V.guard true v=v:=rfl
theorem JJ(g:Bool)(v:V):(V.guard g v).sv=v.sv:=by cases g<;>simp[V.guard,V.sv]
theorem JK(g:Bool)(v:V):(V.guard g v).sc=(g=true/\v.sc):=by cases g<;>simp[V.guard,V.sc]
theorem DL(g b want:Bool):Bq (V.guard g (.bool b)) want=some (g&&(b==want)):=by cases g<;>cases want<;>cases b<;>rfl
def xB(g:Bool)(q:Prop×V)(d:Option Tmp)(Kn:Fr->H->Prop)(f:Fr)(h:H):Prop:=(g=true->q.1)/\Kn (f.put d (V.guard g q.2)) h
theorem JL(c:Prop)(v:V)(d:Option Tmp)(Kn:Fr->H->Prop)(f:Fr)(h:H):xB true (c,v) d Kn f h=(c/\Kn (f.put d v) h):=by simp[xB,V.guard]
theorem Gn(q:Prop×V)(d:Option Tmp)(Kn:Fr->H->Prop)(f:Fr)(h:H):xB false q d Kn f h=Kn (f.put d (.grd false q.2)) h:=by simp[xB,V.guard]
theorem LY(g:Bool)(c:Prop)(v:V)(d:Option Tmp)(Kn:Fr->H->Prop)(f:Fr)(h:H):xB g (c,v) d Kn f h=((g=true->c)/\Kn (f.put d (V.guard g v)) h):=rfl
theorem iP{c:C}{g:Bool}{v:V}{x:Value}(h1:g=true->VRel c v x)(h2:g=false->x=undef):VRel c (V.guard g v) x:=by
 cases g
 ·simp only[V.guard,VRel];exact⟨h1,fun _=>h2 rfl⟩
 ·exact h1 rfl
end
def awp(e:E)(n:Nat)(r:Option Nat)(c:Code)(Q:XE->Fr->H->Prop)(f:Fr)(h:H):Prop :=
 ∀ok pl0 w0 pl w a,SSim e n ok pl0 w0 f h pl w a->c.wpIn (RF r) 0 e.P (iq e n ok pl0 w0 Q) a w
def XE.seq(Kn:Fr->H->Prop)(Q:XE->Fr->H->Prop):XE->Fr->H->Prop
 | .normal=>Kn
 | .exit i=>Q (.exit i)
 | .goto l=>Q (.goto l)
 | .ret=>Q .ret
 | .pan v=>Q (.pan v)
def jP:Fr->List Tmp->List V->Fr
 |f,p::ps,v::vs=>jP (f.put (some p) v) ps vs
 |f,_,_=>f
def XE.jump:XE->Option (Option Code)
 | .normal=>some none
 | .ret=>some (some .ret)
 | .exit i=>some (some (.exit i))
 | .goto l=>some (some (.goto l))
 | .pan _=>none
def LZ(id:Nat)(dst:Option Tmp)(Kn:Fr->H->Prop)(f:Fr)(xe:XE)(f2:Fr)(h2:H):Prop :=
 match xe.jump,h2[id]? with
 |some j,some (.loop t n ps asg body st pend)=>(f2.k id=false/\∀i∈f.d,f2.k i=false) /\
  Kn ((f.drop f2.k).put dst (.bool j.isNone)) (h2.set id (.loop t n ps asg body (if j.isNone then .ready else .done) j))
 |_,_=>False
def Io(e:E)(n:Nat)(l id:Nat)(body:Code)(dst:Option Tmp)(Kn:Fr->H->Prop)(f:Fr)(f1:Fr)(h1:H):Prop :=
 match h1[id]? with
 |some (.loop t n' ps asg body' .ready pend)=>f1.k id=false/\awp e n (some l) body (LZ id dst Kn f) f1 (h1.set id (.loop t n' ps asg body' .busy pend))
 |_=>False
section
variable{e:E}{n:Nat}{r:Option Nat}{o:Oper}{f:Fr}{h:H}{Kn:Fr->H->Prop}{Q:XE->Fr->H->Prop}
structure TRel(c:C)(n:Nat)(f:Fr)(tmps:Array Value):Prop where
 size:tmps.size=n
 val:∀i,VRel c (f.t i) (tmps.getD i undef)
theorem TRel.put{c:C}{n:Nat}{f:Fr}{tmps:Array Value}(s:TRel c n f tmps){i:Nat}{v:V}{x:Value}(hi:i<n)(hv:VRel c v x):TRel c n (f.put (some i) v) (tmps.setIfInBounds i x):=by
 refine⟨by simp[s.size],fun j=> ?_⟩;simp only[Fr.put];by_cases hj:j=i
 ·subst hj;have:(tmps.setIfInBounds j x).getD j undef=x:=by simp[Array.getD_eq_getD_getElem?,s.size,hi]
  rw[if_pos rfl,this];exact hv
 ·have:(tmps.setIfInBounds i x).getD j undef=tmps.getD j undef:=by simp[Array.getD_eq_getD_getElem?,Ne.symm hj]
  rw[if_neg hj,this];exact s.val j
theorem TRel.all{c:C}{n:Nat}:∀ {ps:List Tmp} {vs:List V} {xs:List Value} {f:Fr} {tmps:Array Value},TRel c n f tmps->(ps.all fun p=>decide (p<n))=true->VList c vs xs ->
 TRel c n (jP f ps vs) ((ps.zip xs).foldl (fun tmps (t,a)=>tmps.setIfInBounds t a) tmps)
 |[],vs,xs,f,tmps,s,_,_=>by simpa [jP]using s
 |p::ps,[],xs,f,tmps,s,_,hv=>by simp only[VList]at hv;subst hv;simpa [jP]using s
 |p::ps,v::vs,xs,f,tmps,s,hp,hv=>by simp only[VList]at hv;obtain⟨y,ys,rfl,h1,h2⟩:=hv;simp only[List.all_cons,zqf,zqb]at hp;simp only[jP,List.zip_cons_cons,List.foldl_cons];exact TRel.all (s.put hp.1 h1) hp.2 h2
theorem JM(r:Option Nat)(l:Nat):(RF r).inRound l=RF (some l):=by cases r<;>rfl
theorem HSim.loopSet{ok:Nat->Prop}{pl:Nat->Option Nat}{w:World}(hs:HSim e ok pl h w){id b:Nat}(hb:pl id=some b){t:Nat->V}{n:Nat}{ps:Array Tmp}{asg body:Code}{st:LoopState}{pend:Option Code}
 (hc:h[id]? =some (.loop t n ps asg body st pend)) (st':LoopState) (pend':Option Code) :
 ∃rec:Loop,w.heap[b]? =some (.loop rec)/\rec.state=st/\rec.pending=pend/\rec.params=ps/\rec.assign=asg/\rec.body=body/\TRel (cx ok pl w) n {t:=t} rec.tmps /\
  HSim e ok pl (h.set id (.loop t n ps asg body st' pend')) (w.putObj b (.loop {rec with state:=st',pending:=pend'}))/\Keeps (fun _=>false) pl w pl (w.putObj b (.loop {rec with state:=st',pending:=pend'})):=by
 obtain⟨o,ho,hat⟩:=hs.obj id b hb;rw[hc]at ho;cases ho;obtain⟨rec,h1,h2,h3,h4,h5,h6,h7,h8⟩:=hat;have h1:w.heap[b]? =some (.loop rec):=h1;have hlt:=hs.lt id b hb;refine⟨rec,h1,h2,h3,h4,h5,h6,⟨h7,h8⟩,?_⟩;refine hs.upd hb (.loop t n ps asg body st' pend') rfl rfl rfl (by simp) (fun i hi=>World.putObj_heap_other hi) (fun arr el fz hh=>by rw[h1]at hh;cases hh) (fun k=> ?_);exact⟨{rec with state:=st',pending:=pend'},World.putObj_heap_same hlt,rfl,rfl,h4,h5,h6,h7,fun i=>VRel.mono k _ _ (h8 i)⟩
theorem L6(htl:e.tl=[]){fx:Operand}{args:Array Operand}{ts:Array TypeId}(hop:o.op= .call {callee:= .value fx,args:=args,argTypes:=ts}){id:Nat}(hfx:(f.ev e fx).sv= .yd id)
 (hsc:dH (f.ev e) fx args) {t:Nat->V} {n':Nat} {ps:Array Tmp} {asg body:Code} {pend:Option Code} (hc:h[id]? =some (.loop t n' ps asg body .ready pend))
 (hl:args.size=ps.size) (hps:(ps.toList.all fun p=>decide (p<n'))=true)
 (hv:∀l,awp e n' (some l) asg (XE.seq (Io e n' l id body o.dst Kn f) (fun _ _ _=>False)) (jP {t:=t} ps.toList (args.toList.map fun x=>(f.ev e x).sv)) h):Eff e n r o f h Kn Q:=by
 intro ok pl0 w0 pl w a s hd;have h1:=(s.ev fx).sv hsc.1;rw[hfx]at h1;simp only[VRel]at h1;obtain⟨b,hb,hx⟩:=h1;have hb:pl id=some b:=hb;have h5:=(dw (c:=cx ok pl w) (ρ:=f.ev e) (ev:=a.eval) args.toList fun x hx=>s.ev x).sv hsc.2;rw[List.map_map]at h5;obtain⟨rec,g1,g2,g3,g4,g5,g6,g7,_⟩:=s.hs.loopSet hb hc .ready pend;have hrun:(execOp a.eval o).run e.P w= .ok (.round b rec.fn ((rec.params.zip (args.map a.eval)).foldl (fun tmps (t,a)=>tmps.setIfInBounds t a) rec.tmps) rec.assign rec.body) w:=by
  have:execOp a.eval o=(do let d <-resolve a.eval {callee:= .value fx,args:=args,argTypes:=ts} o.type;invoke d.target d.args):=by simp[execOp,hop]
  rw[this];have h6:(resolve a.eval {callee:= .value fx,args:=args,argTypes:=ts} o.type).run e.P w= .ok {target:= .fn (.yield b) #[],args:=args.map a.eval} w:=by
   simp[resolve,hx,Deferred.ofValue]
  simp only[Sem.run_bind,h6,Result.andThen,invoke];exact run_yield g1 (by simp[g4,hl])
 refine⟨fun g _=>gU r g,?_⟩;rw[dP,Oper.semAt_eq r a.eval o (fun c=>by rw[hop];exact fun h=>by cases h),hrun];refine⟨fun hd'=>(by rw[kL]at hd';cases hd'),?_⟩;rw[g5,g6];have tr:=TRel.all (ps:=ps.toList) g7 hps h5;have htm:(rec.params.zip (args.map a.eval)).foldl (fun tmps (t,a)=>tmps.setIfInBounds t a) rec.tmps=((ps.toList.zip (args.toList.map a.eval)).foldl (fun tmps (t,a)=>tmps.setIfInBounds t a) rec.tmps):=by
  rw[g4,<-Array.foldl_toList,Array.toList_zip,Array.toList_map]
 rw[htm];have s0:SSim e n' ok pl w (jP {t:=t} ps.toList (args.toList.map fun x=>(f.ev e x).sv)) h pl w {tmps:=((ps.toList.zip (args.toList.map a.eval)).foldl (fun tmps (t,a)=>tmps.setIfInBounds t a) rec.tmps),defers:=[]}:=by
  have hk:∀(ps:List Tmp)(vs:List V)(f:Fr),(jP f ps vs).k=f.k/\(jP f ps vs).d=f.d:=by
   intro ps
   induction ps with
   |nil=>intro vs f;cases vs<;>exact⟨rfl,rfl⟩
   |cons p ps ih=>intro vs f;cases vs with
    |nil=>exact⟨rfl,rfl⟩
    |cons v vs=>exact ih vs (f.put (some p) v)
  refine⟨s.hs,?_,tr.size,tr.val,?_⟩
  ·rw[(hk _ _ _).1];exact Keeps.refl pl w
  ·rw[(hk _ _ _).2];exact htl.symm
 refine roundIn_of_wpIn (gU r _) ?_;rw[JM];refine wpIn_mono (hv b ok pl w pl w _ s0) ?_;rintro ex a1 w1 ⟨pl1,f1,h1,xe,s1,hx1,hq1⟩;cases xe<;>(try exact hq1.elim);cases ex<;>(try exact hx1.elim);unfold XE.seq Io at hq1;dsimp only at hq1;split at hq1
 ·rename_i t1 n1 ps1 asg1 body1 pend1 hc1;obtain⟨hk1,hbody⟩:=hq1;have hb1:pl1 id=some b:=s1.kp.keep id b hk1 hb;obtain⟨rec1,g1,g2,g3,g4,g5,g6,g7,hs2,k2⟩:=s1.hs.loopSet hb1 hc1 .busy pend1;refine⟨_,run_beginRound g1 g2,?_⟩;have hrec:({rec1 with state:= .busy}:Loop)={rec1 with state:= .busy,pending:=pend1}:=by rw[<-g3]
  rw[hrec];refine wpIn_mono (hbody ok pl w pl1 _ a1 (s1.next0 hs2 k2)) ?_;rintro ex a2 w2 ⟨pl2,f2,h2,xe2,s2,hx2,hq2⟩;unfold LZ at hq2;split at hq2
  ·rename_i j t2 n2 ps2 asg2 body2 st2 pend2 hj hc2;obtain⟨⟨hk2,hd2⟩,hK⟩:=hq2;have hb2:pl2 id=some b:=s2.kp.keep id b hk2 hb;obtain⟨rec2,g1,g2,g3,g4,g5,g6,g7,hs3,k3⟩:=s2.hs.loopSet hb2 hc2 (if j.isNone then .ready else .done) j;have fin:∃v w',(Instr.endRound b j).run e.P w2= .ok v w'/\LQ e n ok pl0 w0 Kn (a.put o.dst v) w':=by
    refine⟨_,_,run_endRound j g1,pl2,_,_,?_,hK⟩;have s3:=s2.next0 hs3 k3;exact(s.next s3.hs s3.kp hd2).put hd (by simp only[VRel])
   cases xe2<;>cases ex<;>(try exact hx2.elim)<;>simp only[XE.jump,Option.some.injEq,reduceCtorEq]at hj
   case normal=>subst hj;exact fin
   case ret=>subst hj;exact fin
   case exit i j'=>cases hx2;subst hj;exact fin
   case goto i j'=>cases hx2;subst hj;exact fin
  ·exact hq2.elim
 ·exact hq1.elim
end
end Go.Abs
