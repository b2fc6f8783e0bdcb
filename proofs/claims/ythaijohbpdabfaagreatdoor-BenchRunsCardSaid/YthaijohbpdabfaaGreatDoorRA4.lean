/- Lemmas for this claim, part A4: each holds under what it names. -/
import Derived.Test.YthaijohbpdabfaaGreatDoorRA3
import Derived.RangeFuncNested
set_option linter.all false
namespace Go.Abs
open Go.RowKit
open List renaming length → aa, replicate → ao
open Bool renaming true → ab, false → ac
open Option renaming some → al, none → aq
open Decidable renaming decide → ar
open Go.IntKind renaming wrap → aD
open Go.Result renaming andThen → aM
open Go.Abs.V renaming drops → ap, dat → aE, dats → aL
section
variable{e:E}{n:Nat}{r:Option Nat}{o:Oper}{f:Fr}{h:H}{Kn:Fr->H->Prop}{Q:XE->Fr->H->Prop}
variable{ok:Nat->Prop}{pl:Nat->Option Nat}{w:World}
theorem qI(hs:HSim e ok pl h w){cs:List V}{arr:Array Value}(hl:aa cs<=arr.size)(hc:VList (cx ok pl w) cs (arr.toList.take (aa cs)))(el:TypeId){w1:World}(x:WExt w w1) :
 HSim e ok (bz pl (aa h) w1.heap.size) (h++[.cells cs]) (w1.alloc (.cells arr el))/\Keeps (λ_=>ac) pl w (bz pl (aa h) w1.heap.size) (w1.alloc (.cells arr el)):=by
 have x2:=x.trans (WExt.alloc w1 (.cells arr el));have hb:(w1.alloc (.cells arr el)).heap[w1.heap.size]? =al (.cells arr el):=by rw[World.alloc];simp
 have key:∀(c':C),CExt (λ_=>ac) (cx ok pl w) c'->c'.w=w1.alloc (.cells arr el)->OAt c' w1.heap.size (.cells cs):=by intro c' hx hw;exact⟨arr,el,(0,0),by rw[hw];exact hb,λj _=>by simp,hl,VList.mono hx cs _ hc⟩
 have k:CExt (λ_=>ac) (cx ok pl w) (cx ok (bz pl (aa h) w1.heap.size) (w1.alloc (.cells arr el))):=by
  refine⟨λb hb' hok=>⟨⟨hok.1,λi hi=> ?_⟩,x2.same b hb'⟩,λi b _ hi=> ?_,λb arr' el' fz hb'=>⟨arr',fz,(x2.same b (aW hb')).trans hb',rfl⟩⟩
  ·simp only[bz]at hi;split at hi
   ·cases hi;have:=x.size;simp only[cx]at hb';omega
   ·exact hok.2 i hi
  ·have:=hs.pl_lt hi;simp only[cx,bz];rw[if_neg (by omega)];exact hi
 exact hs.new x2 (.cells arr el) (.cells cs) x.size (by simp) (key _ k rfl)
theorem qJ(hs:HSim e ok pl h w):HSim e ok pl (h++[.cells []]) w where
 fresh:=hs.fresh
 lt:=hs.lt
 okl:=hs.okl
 inj:=hs.inj
 obj i b hi:=by
  obtain⟨ob,h1,h2⟩:=hs.obj i b hi;exact⟨ob,by rw[zqj (hs.pl_lt hi)];exact h1,h2⟩
 bare i ob ho hi:=by
  by_cases hlt:i<aa h
  ·rw[zqj hlt]at ho;exact hs.bare i ob ho hi
  ·rw[zsb (by omega)]at ho;cases hq:i-aa h with
   |zero=>rw[hq]at ho;cases ho;exact .inr rfl
   |succ m=>rw[hq]at ho;cases ho
 glob:=hs.glob
 exa:=hs.exa
theorem HSim.kill(hs:HSim e ok pl h w)(p:Nat->Bool):HSim e ok pl (h.map (O.drop p)) w/\Keeps p pl w pl w:=by
 have k:Keeps p pl w pl w:=(Keeps.refl pl w).weaken (λ_ hi=>by cases hi);refine⟨hs.next k hs.lt hs.inj (λi b hi=> .inl ⟨hi,rfl,by rw[zqo]⟩) (λi ob ho hi=> ?_),k⟩;rw[zqo]at ho;cases hh:h[i]? with
 |none=>rw[hh]at ho;cases ho
 |some o' =>
  rw[hh]at ho;have ho:o'.drop p=ob:=by simpa using ho
  rcases hs.bare i o' hh hi with rfl|rfl<;>subst ho<;>simp[O.drop,ap]
theorem HSim.replace(hs:HSim e ok pl h w){id nb:Nat}(hid:id<aa h){w':World}{o':O}
 (k:Keeps (·==id) pl w (λi=>if i=id then al nb else pl i) w') (hlt:nb<w'.heap.size) (hfree:∀j,j≠id->pl j≠al nb)
 (hsame:∀j b,j≠id->pl j=al b->w'.heap[b]? =w.heap[b]?) (ho:OAt (cx ok (λi=>if i=id then al nb else pl i) w') nb o') :
 HSim e ok (λi=>if i=id then al nb else pl i) ((h.map (O.drop (·==id))).set id o') w':=by
 refine hs.next k (λi b hi=> ?_) (λi j b hi hj=> ?_) (λi b hi=> ?_) (λi ob hob hi=> ?_)
 ·split at hi
  ·cases hi;exact hlt
  ·exact Nat.lt_of_lt_of_le (hs.lt i b hi) k.size
 ·by_cases h1:i=id<;>by_cases h2:j=id
  ·rw[h1,h2]
  ·rw[if_pos h1]at hi;rw[if_neg h2]at hj;cases hi;exact absurd hj (hfree j h2)
  ·rw[if_neg h1]at hi;rw[if_pos h2]at hj;cases hj;exact absurd hi (hfree i h1)
  ·rw[if_neg h1]at hi;rw[if_neg h2]at hj;exact hs.inj i j b hi hj
 ·by_cases h1:i=id
  ·rw[if_pos h1]at hi;cases hi;subst h1;exact .inr ⟨o',by simp[hid],ho⟩
  ·rw[if_neg h1]at hi;refine .inl ⟨hi,hsame i b h1 hi,?_⟩;rw[zqn (Ne.symm h1),zqo]
 ·by_cases h1:i=id
  ·rw[if_pos h1]at hi;cases hi
  ·rw[if_neg h1]at hi;rw[zqn (Ne.symm h1),zqo]at hob;cases hh:h[i]? with
   |none=>rw[hh]at hob;cases hob
   |some o'' =>
    rw[hh]at hob;have hob:o''.drop (·==id)=ob:=by simpa using hob
    rcases hs.bare i o'' hh hi with rfl|rfl<;>subst hob<;>simp[O.drop,ap]
theorem gp(p:Nat->Bool):∀(a b:List V),ap p (a++b)=ap p a++ap p b
 |[],b=>rfl
 |v::a,b=>by simp only[List.cons_append,ap,gp p a b]
theorem bZ(p:Nat->Bool):∀(a:List V),aa (ap p a)=aa a
 |[]=>rfl
 |v::a=>by simp only[ap,zrt,bZ p a]
def yJ:V->Bool
 | .nils=>ab
 | .is ab _ _=>ab
 |_=>ac
structure IsAppend(e:E)(o:Oper)(x y:Operand)(t xt el:TypeId)(r re:TI):Prop where
 op:∃ts,o.op= .call {callee:= .builtin .append,args:=#[x,y],argTypes:=ts}/\ts[0]? =al t/\ts[1]? =al xt
 ti:ti e.P t=al r
 kind:r.kind= .slice el
 tie:Abs.ti e.P el=al re
 zfit:re.zero.fit=ab
 zlen:aa re.zero.vc=re.size
 pos:0<re.size
theorem EN{P:Program}{xt el:TypeId}{s:V}(h:Dc P xt el s=ab):∃rx ix dx zx,TIs P xt rx ix dx zx/\∀k,dx≠ .int k:=by
 have key:∀rx,ti P xt=al rx->(∀k,rx.kind≠ .int k)->∃rx ix dx zx,TIs P xt rx ix dx zx/\∀k,dx≠ .int k:=by intro rx hrx hk;obtain⟨ix,dx,zx,hX⟩:=aG hrx;exact⟨rx,ix,dx,zx,hX,λk hd=>hk k (by rw[hX.kind,hd];rfl)⟩
 unfold Dc at h;split at h
 ·split at h
  ·rename_i rx re hrx hre;simp only[zqf,zqb]at h;exact key rx hrx λk hk=>by rw[h.1]at hk;cases hk
  ·cases h
 ·split at h
  ·rename_i rx hrx;exact key rx hrx λk hk=>by rw[hk]at h;cases h
  ·cases h
theorem dE{x y:Operand}{ts:Array TypeId}(hop:o.op= .call {callee:= .builtin .append,args:=#[x,y],argTypes:=ts})(ev:Operand->Value) :
 execOp ev o=(do pure (Next.value (<-Builtin.append_ ts o.type #[ev x,ev y]))):=by
 simp[execOp,hop,resolve,invoke,builtin]
theorem xG{x y:Operand}{t xt el:TypeId}{q re:TI}(ha:IsAppend e o x y t xt el q re)(hxc:(f.ev e x).sc)(hyc:(f.ev e y).sc)
 (hex:yJ (f.ev e x).sv=ab) (hst:Dc e.P xt el (f.ev e y).sv=ab)
 {n0 m:Nat} {cs0 cs:List V} (hx:jS h re.size (f.ev e x).sv=al (n0,cs0)) (hxf:oP re.size (f.ev e x).sv=ab) (hy:jS h re.size (f.ev e y).sv=al (m,cs)) (hyf:oP re.size (f.ev e y).sv=ab)
 (hnz:n0=0\/0<m) (hbig:n0+m<=maxLen) (hbytes:(n0+m)*re.bytes<=140737488355328)
 (hk:Kn (f.put o.dst (.ls (aa h) re.size 0 (n0+m) (n0+m))) (h++[.cells (cs0++cs)])):Eff e n r o f h Kn Q:=by
 obtain⟨⟨ts,hop,ht0,ht1⟩,hti,hkind,htie,hzf,hzl,hpos⟩:=ha;refine aV ?_ (λc=>by rw[hop];exact λh=>by cases h);intro ok pl w ev hs hr;obtain⟨i,d,z,hT⟩:=aG hti;have hd:=hT.slice hkind;subst hd;obtain⟨ie,de,ze,hE⟩:=aG htie;obtain⟨rx,ix,dx,zx,hX,hxi⟩:=EN hst;have hxv:=(hr x (by simp[hop,Op.operands,Call.operands])).sv hxc;have hyv:=(hr y (by simp[hop,Op.operands,Call.operands])).sv hyc;obtain⟨olds,ho1,ho2,ho3,ho4⟩:=mi hs hxv hx hxf;obtain⟨news,hn1,hn2,hn3,hn4⟩:=mi hs hyv hy hyf
 -- the slice that is appended to
 obtain⟨base,hbase⟩:∃base,ev x= .slice base n0 n0:=by
  obtain⟨u,hu⟩:∃u,(f.ev e x).sv=u:=⟨_,rfl⟩;rw[hu]at hx hxv hex;clear hxf hu;cases u<;>simp only[yJ,zrm]at hex
  case nils=>simp only[VRel]at hxv;simp only[jS]at hx;cases hx;exact⟨aq,hxv⟩
  case is ex k es =>
   cases ex
   ·simp[yJ]at hex
   ·simp only[VRel]at hxv;obtain⟨a,cp,h1,h2,h3,h4,_⟩:=hxv;have hn0:n0=aa es:=by
     simp only[jS]at hx;split at hx
     ·split at hx<;>cases hx<;>rfl
     ·cases hx
    exact⟨a,by rw[h1,h4 trivial,hn0]⟩
 have hol:=ho3.length;have hnl:=hn3.length;by_cases hroom:n0+m<=n0
 ·have hm0:m=0:=by omega
  have hn0:n0=0:=by omega
  subst hm0;subst hn0;have hcs:cs=[]:=zse (by omega);have hcs0:cs0=[]:=zse (by omega);subst hcs;subst hcs0;have hnews:news.toList=[]:=zse (by omega);have hrun:=eX (P:=e.P) (w:=w) (ty:=o.type) ht0 ht1 hT hE hX hxi base 0 0 0 (ev y) news (λw'=>hn1 w') (hn2 w (λ_=>rfl)) (by omega) (w':=w) (by
   cases base with
   |none=>exact .inl ⟨rfl,rfl⟩
   |some a=>exact .inr ⟨a,rfl,by rw[hnews];rfl⟩)
  refine⟨λ_=>ac,_,_,pl,w,.slice base 0 0,.inl ?_,qJ hs,Keeps.refl pl w,?_,λ_ _=>rfl,by rw[Fr.drop_none];exact hk⟩
  ·rw[dE hop,hbase];exact gJ hrun
  ·simp only[VRel];exact⟨base,0,rfl,by omega,by omega,by simp[maxLen],.inl rfl⟩
 ·have hrun:=iR (P:=e.P) (w:=w) (ty:=o.type) ht0 ht1 hT hE hX hxi base n0 n0 m (ev y) olds news (λw'=>hn1 w') (by rw[<-hbase];exact ho2 _ (λ_=>rfl)) (hn2 _ (λ_=>rfl)) (by omega) hbig hbytes;obtain⟨cap,hcap⟩:∃cap,grownCap w (n0+m) n0 el=cap:=⟨_,rfl⟩;have hge:=grownCap_ge w (n0+m) n0 el;have hle:=grownCap_le_maxLen w (n0+m) n0 el hbig;rw[hcap]at hrun hge hle;obtain⟨arr,harr⟩:∃arr,olds++news++Builtin.zeroCells ze.cells (cap-(n0+m))=arr:=⟨_,rfl⟩;rw[harr]at hrun;have hzs:ze.cells.size=re.size:=by have hzr:=(dA (cx ok pl w) ze).vc (by rw[<-hE.zv];exact hzf);have:=hzr.length;rw[<-hE.zv,hzl]at this;simpa using this
  have hasz:arr.size=cap*re.size:=by rw[<-harr];simp only[Array.size_append,size_zeroCells,hzs];simp only[Array.length_toList]at hol hnl;rw[hol,hnl,ho4,hn4,<-Nat.add_mul,<-Nat.add_mul];congr 1;omega
  have hlist:arr.toList.take (aa (cs0++cs))=olds.toList++news.toList:=by rw[<-harr];simp only[Array.toList_append];rw[List.take_append_of_le_length (by simp only[zqa];omega),zqh (by simp only[zqa];omega)]
  obtain⟨hs',kk⟩:=qI hs (cs:=cs0++cs) (arr:=arr) (by rw[hasz,zqa,ho4,hn4,<-Nat.add_mul];exact Nat.mul_le_mul_right _ hge) (by rw[hlist];exact ho3.append hn3) el (WExt.drew w);refine⟨λ_=>ac,_,_,_,_,.slice (al ⟨w.heap.size,0,aq⟩) (n0+m) cap,.inl ?_,hs',kk,?_,λ_ _=>rfl,by rw[Fr.drop_none];exact hk⟩
  ·rw[dE hop,hbase];exact gJ hrun
  ·simp only[VRel];refine⟨_,cap,rfl,hge,hge,hle,.inr ⟨w.heap.size,arr,el,(0,0),by simp[cx,bz],rfl,?_,by rw[hasz];omega⟩⟩;exact World.alloc_heap_new w.drew (.cells arr el)
theorem yK{x y:Operand}{t xt el:TypeId}{q re:TI}(ha:IsAppend e o x y t xt el q re)(hxc:(f.ev e x).sc)(hyc:(f.ev e y).sc)
 {id len cap:Nat} (hx:(f.ev e x).sv= .ls id re.size 0 len cap) {cs0:List V} (hc:h[id]? =al (.cells cs0)) (hcl:aa cs0=len*re.size)
 (hst:Dc e.P xt el (f.ev e y).sv=ab) {m:Nat} {cs:List V} (hy:jS h re.size (f.ev e y).sv=al (m,cs)) (hyf:oP re.size (f.ev e y).sv=ab) (h1:dB cs=ab)
 (hbig:len+m<=maxLen) (hbytes:(len+m)*re.bytes<=140737488355328) (hid:∀i∈f.d,(i==id)=ac)
 (hk:Kn ((f.drop (·==id)).put o.dst (.ls id re.size 0 (len+m) (len+m))) ((h.map (O.drop (·==id))).set id (.cells (ap (·==id) (cs0++cs))))):Eff e n r o f h Kn Q:=by
 obtain⟨⟨ts,hop,ht0,ht1⟩,hti,hkind,htie,hzf,hzl,hpos⟩:=ha;refine aV ?_ (λc=>by rw[hop];exact λh=>by cases h);intro ok pl w ev hs hr;obtain⟨i,d,z,hT⟩:=aG hti;have hd:=hT.slice hkind;subst hd;obtain⟨ie,de,ze,hE⟩:=aG htie;obtain⟨rx,ix,dx,zx,hX,hxi⟩:=EN hst;have hxv:=(hr x (by simp[hop,Op.operands,Call.operands])).sv hxc;have hyv:=(hr y (by simp[hop,Op.operands,Call.operands])).sv hyc;have hx':=hxv;rw[hx]at hx';obtain⟨olds,ho1,ho2,ho3,ho4⟩:=mi (k:=re.size) (n:=len) (cs:=cs0) hs hx' (by
  have:fA h id=cs0:=by simp[fA,hc]
  simp only[jS,this];rw[if_pos ⟨trivial,by omega⟩];simp only[List.drop_zero];rw[zqh (by omega)]) rfl
 obtain⟨news,hn1,hn2,hn3,hn4⟩:=mi hs hyv hy hyf;simp only[VRel]at hx';obtain⟨base,cp,hbase,hcap,hlen,hmax,hpl⟩:=hx';have hol:=ho3.length;have hnl:=hn3.length;have hidl:id<aa h:=(zqe hc).1;by_cases hroom:len+m<=cp
 ·rcases hpl with hcp|⟨b,arr,el',fz,hb,hbs,harr,hsz⟩
  ·have hm0:m=0:=by omega
   have hl0:len=0:=by omega
   subst hm0;subst hl0;subst hcp;have hcs:cs=[]:=zse (by omega);have hcs0:cs0=[]:=zse (by omega);subst hcs;subst hcs0;have hnews:news.toList=[]:=zse (by omega);have hrun:=eX (P:=e.P) (w:=w) (ty:=o.type) ht0 ht1 hT hE hX hxi base 0 0 0 (ev y) news (λw'=>hn1 w') (hn2 w (λ_=>rfl)) (by omega) (w':=w) (by
    cases base with
    |none=>exact .inl ⟨rfl,rfl⟩
    |some a=>exact .inr ⟨a,rfl,by rw[hnews];rfl⟩)
   obtain⟨hs',kk⟩:=hs.kill (·==id);have hset:(h.map (O.drop (·==id))).set id (.cells (ap (·==id) ([]++[])))=h.map (O.drop (·==id)):=by
    apply List.ext_getElem?;intro j;by_cases hj:j=id
    ·subst hj;rw[zqt (by simpa using hidl),zqo,hc];simp[O.drop,ap]
    ·rw[zqn (Ne.symm hj)]
   rw[hset]at hk;refine⟨(·==id),_,_,pl,w,.slice base 0 0,.inl ?_,hs',kk,?_,hid,hk⟩
   ·rw[dE hop,hbase];exact gJ hrun
   ·simp only[VRel];exact⟨base,0,rfl,by omega,by omega,by simp[maxLen],.inl rfl⟩
  ·subst hbs;have hb':pl id=al b:=hb;obtain⟨ob,hob,hat⟩:=hs.obj id b hb';rw[hc]at hob;cases hob;obtain⟨arr2,el2,fz2,g1,g2,g3,g4⟩:=hat;have harr':w.heap[b]? =al (.cells arr el' fz):=harr;have g1':w.heap[b]? =al (.cells arr2 el2 fz2):=g1;rw[harr']at g1';cases g1';have hfit:aa cs0+aa news.toList<=arr.size:=by
    rw[hnl,hcl,hn4,<-Nat.add_mul];have:=Nat.mul_le_mul_right re.size hroom;omega
   have hfit':aa cs0+news.size<=arr.size:=by simpa using hfit
   have hnsz:news.size=aa cs:=by simpa using hnl
   have hst':=gW (P:=e.P) (o:=aa cs0) harr' g2 hfit (hn3.oneCells h1);have hw:=iO (b:=b) news.toList (aa cs0) arr w harr' hfit;obtain⟨w',hw'⟩:∃w',w.setCells b (aa cs0) news.toList=w':=⟨_,rfl⟩;rw[hw']at hst' hw;have hrun:=eX (P:=e.P) (w:=w) (ty:=o.type) ht0 ht1 hT hE hX hxi (al ⟨b,0,aq⟩) len cp m (ev y) news (λw'=>hn1 w') (hn2 w (λ_=>rfl)) hroom (w':=w') (.inr ⟨_,rfl,by
    rw[dI,Nat.zero_add,<-hcl];exact hst'⟩)
   have hkk:Keeps (·==id) pl w (λi=>if i=id then al b else pl i) w':=by
    refine⟨hw.os,hw.tape,hw.output,by rw[hw.size];exact zrb _,λb' hb1 hn'=>hw.same b' (λhe=>hn' id (he▸hb')),λi b' hi=> ?_,λi b' hp hi=> ?_,λb' a1 e1 z1 hb1=> ?_⟩
    ·split at hi
     ·cases hi;exact .inl ⟨id,hb'⟩
     ·exact .inl ⟨i,hi⟩
    ·have:i≠id:=by simpa using hp
     rw[if_neg this];exact hi
    ·by_cases he:b'=b
     ·subst he;rw[harr']at hb1;cases hb1;exact⟨_,_,hw.here,by simp;omega⟩
     ·exact⟨a1,z1,(hw.same b' he).trans hb1,rfl⟩
   have hsize':(arr.toList.take (aa cs0)++news.toList++arr.toList.drop (aa cs0+aa news.toList)).toArray.size=arr.size:=by simp;omega
   have hs' := hs.replace hidl (nb := b) (w' := w') (o' := .cells (ap (· == id) (cs0 ++ cs))) hkk (by rw [hw.size];exact aW harr') (λj hj hjb => hj (hs.inj j id b hjb hb'))
    (λj b' hj hjb=>hw.same b' (λhe=>hj (hs.inj j id b (he▸hjb) hb'))) (by
     refine⟨_,el',fz,hw.here,λj hj=>g2 j (by omega),?_,?_⟩
     ·rw[bZ,hsize',zqa];omega
     ·have hq:aa (ap (·==id) (cs0++cs))=aa cs0+aa news.toList:=by rw[bZ,zqa];omega
      rw[hq];have e1:(arr.toList.take (aa cs0)++news.toList++arr.toList.drop (aa cs0+aa news.toList)).toArray.toList.take (aa cs0+aa news.toList)=arr.toList.take (aa cs0)++news.toList:=by
       have e2:aa (arr.toList.take (aa cs0)++news.toList)=aa cs0+aa news.toList:=by simp only[zqa,zrl,Array.length_toList];omega
       show(arr.toList.take (aa cs0)++news.toList++arr.toList.drop (aa cs0+aa news.toList)).take (aa cs0+aa news.toList)=_;rw[List.take_append_of_le_length (by omega),zqh (by omega)]
      rw[e1];exact VList.mdrop hkk.cext _ _ (g4.append hn3))
   refine⟨(·==id),_,_,_,w',.slice (al ⟨b,0,aq⟩) (len+m) cp,.inl ?_,hs',hkk,?_,hid,hk⟩
   ·rw[dE hop,hbase];exact gJ hrun
   ·simp only[VRel];exact⟨_,cp,rfl,hroom,hroom,hmax,.inr ⟨b,_,el',fz,by simp[cx],rfl,hw.here,by rw[hsize'];omega⟩⟩
 ·have hrun:=iR (P:=e.P) (w:=w) (ty:=o.type) ht0 ht1 hT hE hX hxi base len cp m (ev y) olds news (λw'=>hn1 w') (by rw[<-hbase];exact ho2 _ (λ_=>rfl)) (hn2 _ (λ_=>rfl)) (by omega) hbig hbytes;obtain⟨cap',hcap'⟩:∃cap',grownCap w (len+m) cp el=cap':=⟨_,rfl⟩;have hge:=grownCap_ge w (len+m) cp el;have hle:=grownCap_le_maxLen w (len+m) cp el hbig;rw[hcap']at hrun hge hle;obtain⟨arr,harr⟩:∃arr,olds++news++Builtin.zeroCells ze.cells (cap'-(len+m))=arr:=⟨_,rfl⟩;rw[harr]at hrun;have hzs:ze.cells.size=re.size:=by have hzr:=(dA (cx ok pl w) ze).vc (by rw[<-hE.zv];exact hzf);have:=hzr.length;rw[<-hE.zv,hzl]at this;simpa using this
  have hasz:arr.size=cap'*re.size:=by rw[<-harr];simp only[Array.size_append,size_zeroCells,hzs];simp only[Array.length_toList]at hol hnl;rw[hol,hnl,ho4,hn4,<-Nat.add_mul,<-Nat.add_mul];congr 1;omega
  have hlist:arr.toList.take (aa (cs0++cs))=olds.toList++news.toList:=by rw[<-harr];simp only[Array.toList_append];rw[List.take_append_of_le_length (by simp only[zqa];omega),zqh (by simp only[zqa];omega)]
  have x2:=(WExt.drew w).trans (WExt.alloc w.drew (.cells arr el));have hhere:(w.drew.alloc (.cells arr el)).heap[w.heap.size]? =al (.cells arr el):=World.alloc_heap_new w.drew (.cells arr el);have hkk:Keeps (·==id) pl w (λi=>if i=id then al w.heap.size else pl i) (w.drew.alloc (.cells arr el)):=by
   refine⟨rfl,rfl,rfl,x2.size,λb' hb1 _=>x2.same b' hb1,λi b' hi=> ?_,λi b' hp hi=> ?_,λb' a1 e1 z1 hb1=>⟨a1,z1,(x2.same b' (aW hb1)).trans hb1,rfl⟩⟩
   ·split at hi
    ·cases hi;exact .inr (zrb _)
    ·exact .inl ⟨i,hi⟩
   ·have:i≠id:=by simpa using hp
    rw[if_neg this];exact hi
  have hs' := hs.replace hidl (nb := w.heap.size) (o' := .cells (ap (· == id) (cs0 ++ cs))) hkk (by simp) (λj hj hjb => by have := hs.lt j _ hjb;omega)
   (λj b' hj hjb=>x2.same b' (hs.lt j b' hjb)) (by
    refine⟨arr,el,(0,0),hhere,λj _=>by simp,?_,?_⟩
    ·rw[bZ,hasz,zqa,ho4,hn4,<-Nat.add_mul];exact Nat.mul_le_mul_right _ hge
    ·rw[bZ,hlist];exact VList.mdrop hkk.cext _ _ (ho3.append hn3))
  refine⟨(·==id),_,_,_,_,.slice (al ⟨w.heap.size,0,aq⟩) (len+m) cap',.inl ?_,hs',hkk,?_,hid,hk⟩
  ·rw[dE hop,hbase];exact gJ hrun
  ·simp only[VRel];exact⟨_,cap',rfl,hge,hge,hle,.inr ⟨w.heap.size,arr,el,(0,0),by simp[cx],rfl,hhere,by rw[hasz];omega⟩⟩
theorem yL{x y:Operand}{t xt el:TypeId}{q re:TI}(ha:IsAppend e o x y t xt el q re)(hxc:(f.ev e x).sc)(hyc:(f.ev e y).sc)
 {id off len cap:Nat} (hx:(f.ev e x).sv= .ls id re.size off len cap) {cs0:List V} (hc:h[id]? =al (.cells cs0))
 (hst:Dc e.P xt el (f.ev e y).sv=ab) {m:Nat} {cs:List V} (hy:jS h re.size (f.ev e y).sv=al (m,cs)) (hyf:oP re.size (f.ev e y).sv=ab) (h1:dB cs=ab)
 (hcap:len+m<=cap) (hpos':0<cap) (hin:off+len*re.size+aa cs<=aa cs0)
 (hk:Kn (f.put o.dst (.ls id re.size off (len+m) cap)) (h.set id (.cells (di cs0 (off+len*re.size) cs)))):Eff e n r o f h Kn Q:=by
 obtain⟨⟨ts,hop,ht0,ht1⟩,hti,hkind,htie,hzf,hzl,hpos⟩:=ha;refine aV ?_ (λc=>by rw[hop];exact λh=>by cases h);intro ok pl w ev hs hr;obtain⟨i,d,z,hT⟩:=aG hti;have hd:=hT.slice hkind;subst hd;obtain⟨ie,de,ze,hE⟩:=aG htie;obtain⟨rx,ix,dx,zx,hX,hxi⟩:=EN hst;have hxv:=(hr x (by simp[hop,Op.operands,Call.operands])).sv hxc;have hyv:=(hr y (by simp[hop,Op.operands,Call.operands])).sv hyc;have hx':=hxv;rw[hx]at hx';obtain⟨news,hn1,hn2,hn3,hn4⟩:=mi hs hyv hy hyf;simp only[VRel]at hx';obtain⟨base,cp,hbase,hcapc,hlen,hmax,hpl⟩:=hx';rcases hpl with hcp|⟨b,arr,el',fz,hb,hbs,harr,hsz⟩
 ·omega
 ·subst hbs;have hb':pl id=al b:=hb;obtain⟨w',hst',hs',kk⟩:=rX (off:=off+len*re.size) hs hb' hn3 h1 hc (by omega);have hrun:=eX (P:=e.P) (w:=w) (ty:=o.type) ht0 ht1 hT hE hX hxi (al ⟨b,off,aq⟩) len cp m (ev y) news (λw'=>hn1 w') (hn2 w (λ_=>rfl)) (by omega) (w':=w') (.inr ⟨_,rfl,by
   rw[dI];exact hst'⟩)
  obtain⟨arr',fz',g1,g2⟩:=kk.row b arr el' fz harr;refine⟨λ_=>ac,_,_,pl,w',.slice (al ⟨b,off,aq⟩) (len+m) cp,.inl ?_,hs',kk,?_,λ_ _=>rfl,by simpa using hk⟩
  ·rw[dE hop,hbase];exact gJ hrun
  ·simp only[VRel];exact⟨_,cp,rfl,hcapc,by omega,hmax,.inr ⟨b,arr',el',fz',hb,rfl,g1,by omega⟩⟩
end
inductive AEnd where
 |ret (v:V)
 |pan (v:V)
def JG(c:C):AEnd->Ending->Prop
 | .ret v,.returned x=>VRel c v x
 | .pan v,.panicked ch=>∃x,ch=[{v:=x,recovered:=ac}]/\VRel c v x
 |_,_=>False
def ag(e:E)(g:FuncId)(args:List V)(h:H)(R:AEnd->H->(Nat->Bool)->Prop):Prop :=
 ∀ok pl w vs,HSim e ok pl h w->VList (cx ok pl w) args vs ->
  Calls e.P g vs.toArray w λen w'=>∃p pl' h' ae,HSim e ok pl' h' w'/\Keeps p pl w pl' w'/\JG (cx ok pl' w') ae en/\R ae h' p
def Ev(e:E)(g:FuncId)(args:List V)(r:V):Prop :=
 ∀ok w vs,HSim e ok (λ_=>aq) [] w->VList (cx ok (λ_=>aq) w) args vs ->
  Calls e.P g vs.toArray w λen w'=>∃x,en= .returned x/\WExt w w'/\VRel (cx ok (λ_=>aq) w') r x
theorem ag.mono{e:E}{g:FuncId}{args:List V}{h:H}{R R':AEnd->H->(Nat->Bool)->Prop}(hc:ag e g args h R)(hr:∀ae h' p,R ae h' p->R' ae h' p):ag e g args h R' :=
 λok pl w vs hs hv=>(hc ok pl w vs hs hv).mono λen w' ⟨p,pl',h',ae,h1,h2,h3,h4⟩=>⟨p,pl',h',ae,h1,h2,h3,hr _ _ _ h4⟩
theorem ng(ok:Nat->Prop)(pl:Nat->Option Nat)(w:World):CExt (λ_=>ac) (cx ok pl w).data (cx (λb=>ok b/\∀i,pl i≠al b) (λ_=>aq) w) :=
 ⟨λb hb hok=>⟨⟨hok,λi hi=>(by cases hi)⟩,rfl⟩,λi b _ hi=>(by cases hi),λb arr el fz hb=>⟨arr,fz,hb,rfl⟩⟩
theorem Bh(ok:Nat->Prop)(pl:Nat->Option Nat)(w:World):CExt (λ_=>ac) (cx (λb=>ok b/\∀i,pl i≠al b) (λ_=>aq) w) (cx ok pl w) :=
 ⟨λb hb hok=>⟨hok.1,rfl⟩,λi b _ hi=>(by cases hi),λb arr el fz hb=>⟨arr,fz,hb,rfl⟩⟩
theorem HSim.toData{e:E}{ok:Nat->Prop}{pl:Nat->Option Nat}{h:H}{w:World}(hs:HSim e ok pl h w):HSim e (λb=>ok b/\∀i,pl i≠al b) (λ_=>aq) [] w where
 fresh b hb:=⟨hs.fresh b hb,λi hi=>by have:=hs.lt i b hi;omega⟩
 lt i b hi:=by cases hi
 okl i b hi:=by cases hi
 inj i j b hi:=by cases hi
 obj i b hi:=by cases hi
 bare i o ho:=by simp at ho
 glob g v hg:=by
  have h1:=hs.glob g v hg;exact VRel.mono (ng ok pl w) _ _ (VRel.todata (.ip v) _ rfl h1)
 exa g cs hg:=YF.next (ng ok pl w) (hs.exa g cs hg)
theorem Ev.run{e:E}{g:FuncId}{args:List V}{r:V}(hv:Ev e g args r)(hd:aL args=ab){ok:Nat->Prop}{pl:Nat->Option Nat}{h:H}{w:World}{vs:List Value}
 (hs:HSim e ok pl h w) (hl:VList (cx ok pl w) args vs):Calls e.P g vs.toArray w λen w'=>∃x,en= .returned x/\WExt w w'/\VRel (cx ok pl w') r x :=
 (hv _ w vs hs.toData (VList.mono (ng ok pl w) _ _ (VList.todata _ _ hd hl))).mono λen w' ⟨x,h1,h2,h3⟩ =>
  ⟨x,h1,h2,VRel.mono (Bh ok pl w') _ _ h3⟩
theorem ag.ev{e:E}{g:FuncId}{args:List V}{r:V}{h:H}{R:AEnd->H->(Nat->Bool)->Prop}(hv:Ev e g args r)(hd:aL args=ab)(hr:R (.ret r) h (λ_=>ac)):ag e g args h R :=
 λok pl w vs hs hl=>(hv.run hd hs hl).mono λen w' ⟨x,h1,h2,h3⟩=>⟨λ_=>ac,pl,h,.ret r,hs.wext h2,h2.keeps hs,by rw[h1];exact h3,hr⟩
def ah(P:Program)(g:FuncId):Bool :=
 match P.funcs[g]? with
 | some fn => fn.body.isSome && !(fn.name == "runtime.NumGoroutine")
 |none=>ac
theorem qK{P:Program}{g:FuncId}(h:ah P g=ab)(args:Array Value)(w:World):(callFunc g args).run P w= .ok (.enter g args) w:=by
 unfold ah at h;split at h
 ·rename_i fn hfn;simp only[zqf,Bool.not_eq_true']at h;unfold callFunc;have h2:¬(fn.body.isNone=ab):=by
   cases hb:fn.body with
   |none=>rw[hb]at h;simp at h
   |some _=>simp
  simp only[Sem.run_bind,run_program,aM,hfn];rw[if_neg (by rw[h.2];simp),if_neg h2];rfl
 ·cases h
def ni(e:E)(ρ:Operand->V)(fx:Operand)(args:Array Operand):Option (FuncId×List V) :=
 match (ρ fx).sv with
 | .fn (.func g) first captured=>al (g,first++(args.toList.map λx=>(ρ x).sv)++captured)
 |_=>aq
def dX(ρ:Operand->V)(fx:Operand)(args:Array Operand):Prop:=(ρ fx).sc/\jo (args.toList.map ρ)
section
variable{e:E}{n:Nat}{r:Option Nat}{o:Oper}{f:Fr}{h:H}{Kn:Fr->H->Prop}{Q:XE->Fr->H->Prop}
theorem yM{ρ:Operand->V}{ok:Nat->Prop}{pl:Nat->Option Nat}{w:World}{fx:Operand}{args:Array Operand}{ts:Array TypeId}(hop:o.op= .call {callee:= .value fx,args:=args,argTypes:=ts})
 {ev:Operand->Value} (hr:∀x∈o.op.operands,VRel (cx ok pl w) (ρ x) (ev x)) {g:FuncId} {vs:List V} (hon:ni e ρ fx args=al (g,vs)) (hsc:dX ρ fx args) (hen:ah e.P g=ab) :
 ∃xs:List Value,(execOp ev o).run e.P w= .ok (.enter g xs.toArray) w/\VList (cx ok pl w) vs xs:=by
 unfold ni at hon;split at hon
 ·rename_i g' first captured hfx
  cases hon;have h1:=(hr fx (by simp[hop,Op.operands,Call.operands])).sv hsc.1;rw[hfx]at h1;simp only[VRel]at h1;obtain⟨fs,cs,h2,h3,h4⟩:=h1;have h5:=(dP (c:=cx ok pl w) (ρ:=ρ) (ev:=ev) args.toList λx hx=>hr x (by simp[hop,Op.operands,Call.operands];exact .inr (Array.mem_toList_iff.1 hx))).sv hsc.2;rw[List.map_map]at h5;refine⟨fs.toList++args.toList.map ev++cs.toList,?_,(h3.append h5).append h4⟩;have:execOp ev o=(do let d <-resolve ev {callee:= .value fx,args:=args,argTypes:=ts} o.type;invoke d.target d.args):=by simp[execOp,hop]
  rw[this];have h6:(resolve ev {callee:= .value fx,args:=args,argTypes:=ts} o.type).run e.P w= .ok {target:= .fn (.func g) cs,args:=fs++args.map ev} w:=by
   simp[resolve,h2,Deferred.ofValue]
  simp only[Sem.run_bind,h6,aM,invoke];rw[qK hen]
  congr 2
  apply Array.ext';simp
 ·cases hon
theorem TF{fx:Operand}{args:Array Operand}{ts:Array TypeId}(hop:o.op= .call {callee:= .value fx,args:=args,argTypes:=ts}){g:FuncId}{vs:List V}
 (hon:ni e (f.ev e) fx args=al (g,vs)) (hsc:dX (f.ev e) fx args) (hen:ah e.P g=ab)
 (hc:ag e g vs h λae h' p=>(∀i∈f.d,p i=ac)/\match ae with
  | .ret v=>Kn ((f.drop p).put o.dst v) h'
  | .pan v=>Q (.pan v) (f.drop p) h'):Eff e n r o f h Kn Q:=by
 intro ok pl0 w0 pl w a s hd;obtain⟨xs,hrun,hl⟩:=yM (e:=e) hop (s.evs (o:=o)) hon hsc hen;refine⟨λg _=>iD r g,?_⟩;rw[eP,Oper.semAt_eq r a.eval o (λc=>by rw[hop];exact λh=>by cases h),hrun];refine⟨λhd'=>(by rw[lS]at hd';cases hd'),fH ((hc ok pl w xs s.hs hl).mono ?_)⟩;rintro en w' ⟨p,pl',h',ae,hs',k,hend,hp,hk⟩;cases ae with
 |ret v =>
  cases en with
  |returned x=>exact⟨pl',_,h',(s.next hs' k hp).put hd hend,hk⟩
  |panicked ch=>exact hend.elim
  |outgrown=>exact hend.elim
 |pan v =>
  cases en with
  |returned x=>exact hend.elim
  |panicked ch=>exact⟨pl',_,h',.pan v,s.next hs' k hp,hend,hk⟩
  |outgrown=>exact hend.elim
theorem AQ.call{fx:Operand}{args:Array Operand}{ts:Array TypeId}(hop:o.op= .call {callee:= .value fx,args:=args,argTypes:=ts}){ρ:Operand->V}{g:FuncId}{vs:List V}{rv:V}
 (hon:ni e ρ fx args=al (g,vs)) (hsc:dX ρ fx args) (hen:ah e.P g=ab) (hd:aL vs=ab) (hv:Ev e g vs rv):AQ e o ρ h rv:=by
 intro ok pl w ev hs hr;obtain⟨xs,hrun,hl⟩:=yM (e:=e) hop hr hon hsc hen;rw[hrun];exact hv.run hd hs hl
def Df:V->Bool->Option Bool
 | .bool b,ab=>al b
 | .bool b,ac=>al (!b)
 | .grd ac _,_=>al ac
 | .grd ab v,want=>Df v want
 | .tup [],_=>al ac
 |_,_=>aq
def gd(ops:Array Oper)(f:Fr)(o:Oper):Option Bool :=
 match o.guard with
 |none=>al ab
 |some (j,want)=>match (ops[j]?).bind (·.dst)with
  |some d=>Df (f.t d) want
  |none=>al ac
theorem Ox {c : C} : ∀ {v : V} {want g : Bool} {x : Value},VRel c v x -> Df v want = al g -> ((match x with | .bool b => al b | _ => aq) == al want) = g
 | .bool b,ab,g,x,h,hg=>by simp only[VRel]at h;subst h;simp only[Df,Option.some.injEq]at hg;subst hg;cases b<;>rfl
 | .bool b,ac,g,x,h,hg=>by simp only[VRel]at h;subst h;simp only[Df,Option.some.injEq]at hg;subst hg;cases b<;>rfl
 | .grd ab v,want,g,x,h,hg=>by simp only[VRel]at h;simp only[Df]at hg;exact Ox (h.1 trivial) hg
 | .grd ac v,want,g,x,h,hg=>by simp only[VRel]at h;rw[h.2 trivial];simp only[Df,Option.some.injEq]at hg;simp[undef,<-hg]
 | .tup [],want,g,x,h,hg=>by simp only[VRel,VList]at h;obtain⟨cs,rfl,_⟩:=h;simp only[Df,Option.some.injEq]at hg;subst hg;rfl
 | .tup (_::_),want,_,_,_,hg=>by simp[Df]at hg
 | .any,w,_,_,_,hg | .int _ _,w,_,_,_,hg | .str _,w,_,_,_,hg | .nilp,w,_,_,_,hg | .lp _ _,w,_,_,_,hg | .ip _,w,_,_,_,hg | .nils,w,_,_,_,hg
 | .ls _ _ _ _ _,w,_,_,_,hg | .is _ _ _,w,_,_,_,hg | .nilm,w,_,_,_,hg | .lm _,w,_,_,_,hg | .im _ _,w,_,_,_,hg | .fn _ _ _,w,_,_,_,hg
 | .yd _,w,_,_,_,hg | .nilf,w,_,_,_,hg | .iface _ _,w,_,_,_,hg | .nili,w,_,_,_,hg | .agg _,w,_,_,_,hg=>by cases w<;>simp[Df]at hg
theorem rZ{ops:Array Oper}{c:C}{a:Act}(hv:∀i,VRel c (f.t i) (a.tmps.getD i undef)){g:Bool}(hg:gd ops f o=al g):Region.wanted o (yielded ops a.tmps)=g:=by
 unfold gd at hg;unfold Region.wanted;cases ho:o.guard with
 |none=>rw[ho]at hg;simpa using hg
 |some jw =>
  obtain⟨j,want⟩:=jw;rw[ho]at hg;dsimp only at hg ⊢;unfold yielded;cases hd:(ops[j]?).bind (·.dst)with
  |none=>rw[hd]at hg;simp at hg;subst hg;rfl
  |some d =>
   rw[hd]at hg;have h1:=Ox (hv d) hg;rw[<-h1];cases ht:a.tmps[d]? with
   |none =>
    have h2:a.tmps.getD d undef=undef:=by rw[Array.getD_eq_getD_getElem?,ht];rfl
    rw[h2];simp[undef,ht]
   |some x =>
    have h2:a.tmps.getD d undef=x:=by rw[Array.getD_eq_getD_getElem?,ht];rfl
    rw[h2];simp only[Option.bind_some,ht];cases x<;>rfl
def V.guard(g:Bool)(v:V):V:=match g with|true=>v|false=> .grd ac v
theorem EO(v:V):V.guard ab v=v:=rfl
theorem L8(g:Bool)(v:V):(V.guard g v).sv=v.sv:=by cases g<;>simp[V.guard,V.sv]
theorem L9(g:Bool)(v:V):(V.guard g v).sc=(g=ab/\v.sc):=by cases g<;>simp[V.guard,V.sc]
theorem EP(g b want:Bool):Df (V.guard g (.bool b)) want=al (g&&(b==want)):=by cases g<;>cases want<;>cases b<;>rfl
def yN(g:Bool)(q:Prop×V)(d:Option Tmp)(Kn:Fr->H->Prop)(f:Fr)(h:H):Prop:=(g=ab->q.1)/\Kn (f.put d (V.guard g q.2)) h
theorem Mc(c:Prop)(v:V)(d:Option Tmp)(Kn:Fr->H->Prop)(f:Fr)(h:H):yN ab (c,v) d Kn f h=(c/\Kn (f.put d v) h):=by simp[yN,V.guard]
theorem Ir(q:Prop×V)(d:Option Tmp)(Kn:Fr->H->Prop)(f:Fr)(h:H):yN ac q d Kn f h=Kn (f.put d (.grd ac q.2)) h:=by simp[yN,V.guard]
theorem Oy(g:Bool)(c:Prop)(v:V)(d:Option Tmp)(Kn:Fr->H->Prop)(f:Fr)(h:H):yN g (c,v) d Kn f h=((g=ab->c)/\Kn (f.put d (V.guard g v)) h):=rfl
theorem jg{c:C}{g:Bool}{v:V}{x:Value}(h1:g=ab->VRel c v x)(h2:g=ac->x=undef):VRel c (V.guard g v) x:=by
 cases g
 ·simp only[V.guard,VRel];exact⟨h1,λ_=>h2 rfl⟩
 ·exact h1 rfl
end
def awp(e:E)(n:Nat)(r:Option Nat)(c:Code)(Q:XE->Fr->H->Prop)(f:Fr)(h:H):Prop :=
 ∀ok pl0 w0 pl w a,SSim e n ok pl0 w0 f h pl w a->c.wpIn (RF r) 0 e.P (iM e n ok pl0 w0 Q) a w
def XE.seq(Kn:Fr->H->Prop)(Q:XE->Fr->H->Prop):XE->Fr->H->Prop
 | .normal=>Kn
 | .exit i=>Q (.exit i)
 | .goto l=>Q (.goto l)
 | .ret=>Q .ret
 | .pan v=>Q (.pan v)
def kJ:Fr->List Tmp->List V->Fr
 |f,p::ps,v::vs=>kJ (f.put (al p) v) ps vs
 |f,_,_=>f
def XE.jump:XE->Option (Option Code)
 | .normal=>al aq
 | .ret=>al (al .ret)
 | .exit i=>al (al (.exit i))
 | .goto l=>al (al (.goto l))
 | .pan _=>aq
def Oz(id:Nat)(dst:Option Tmp)(Kn:Fr->H->Prop)(f:Fr)(xe:XE)(f2:Fr)(h2:H):Prop :=
 match xe.jump,h2[id]? with
 |some j,al (.loop t n ps asg body st pend)=>(f2.k id=ac/\∀i∈f.d,f2.k i=ac) /\
  Kn ((f.drop f2.k).put dst (.bool j.isNone)) (h2.set id (.loop t n ps asg body (if j.isNone then .ready else .done) j))
 |_,_=>False
def JH(e:E)(n:Nat)(l id:Nat)(body:Code)(dst:Option Tmp)(Kn:Fr->H->Prop)(f:Fr)(f1:Fr)(h1:H):Prop :=
 match h1[id]? with
 |some (.loop t n' ps asg body' .ready pend)=>f1.k id=ac/\awp e n (al l) body (Oz id dst Kn f) f1 (h1.set id (.loop t n' ps asg body' .busy pend))
 |_=>False
section
variable{e:E}{n:Nat}{r:Option Nat}{o:Oper}{f:Fr}{h:H}{Kn:Fr->H->Prop}{Q:XE->Fr->H->Prop}
structure TRel(c:C)(n:Nat)(f:Fr)(tmps:Array Value):Prop where
 size:tmps.size=n
 val:∀i,VRel c (f.t i) (tmps.getD i undef)
theorem TRel.put{c:C}{n:Nat}{f:Fr}{tmps:Array Value}(s:TRel c n f tmps){i:Nat}{v:V}{x:Value}(hi:i<n)(hv:VRel c v x):TRel c n (f.put (al i) v) (tmps.setIfInBounds i x):=by
 refine⟨by simp[s.size],λj=> ?_⟩;simp only[Fr.put];by_cases hj:j=i
 ·subst hj;have:(tmps.setIfInBounds j x).getD j undef=x:=by simp[Array.getD_eq_getD_getElem?,s.size,hi]
  rw[if_pos rfl,this];exact hv
 ·have:(tmps.setIfInBounds i x).getD j undef=tmps.getD j undef:=by simp[Array.getD_eq_getD_getElem?,Ne.symm hj]
  rw[if_neg hj,this];exact s.val j
theorem TRel.all{c:C}{n:Nat}:∀ {ps:List Tmp} {vs:List V} {xs:List Value} {f:Fr} {tmps:Array Value},TRel c n f tmps->(ps.all λp=>ar (p<n))=ab->VList c vs xs ->
 TRel c n (kJ f ps vs) ((ps.zip xs).foldl (λtmps (t,a)=>tmps.setIfInBounds t a) tmps)
 |[],vs,xs,f,tmps,s,_,_=>by simpa [kJ]using s
 |p::ps,[],xs,f,tmps,s,_,hv=>by simp only[VList]at hv;subst hv;simpa [kJ]using s
 |p::ps,v::vs,xs,f,tmps,s,hp,hv=>by simp only[VList]at hv;obtain⟨y,ys,rfl,h1,h2⟩:=hv;simp only[List.all_cons,zqf,zqb]at hp;simp only[kJ,List.zip_cons_cons,List.foldl_cons];exact TRel.all (s.put hp.1 h1) hp.2 h2
theorem Md(r:Option Nat)(l:Nat):(RF r).inRound l=RF (al l):=by cases r<;>rfl
theorem HSim.loopSet{ok:Nat->Prop}{pl:Nat->Option Nat}{w:World}(hs:HSim e ok pl h w){id b:Nat}(hb:pl id=al b){t:Nat->V}{n:Nat}{ps:Array Tmp}{asg body:Code}{st:LoopState}{pend:Option Code}
 (hc:h[id]? =al (.loop t n ps asg body st pend)) (st':LoopState) (pend':Option Code) :
 ∃rec:Loop,w.heap[b]? =al (.loop rec)/\rec.state=st/\rec.pending=pend/\rec.params=ps/\rec.assign=asg/\rec.body=body/\TRel (cx ok pl w) n {t:=t} rec.tmps /\
  HSim e ok pl (h.set id (.loop t n ps asg body st' pend')) (w.putObj b (.loop {rec with state:=st',pending:=pend'}))/\Keeps (λ_=>ac) pl w pl (w.putObj b (.loop {rec with state:=st',pending:=pend'})):=by
 obtain⟨o,ho,hat⟩:=hs.obj id b hb;rw[hc]at ho;cases ho;obtain⟨rec,h1,h2,h3,h4,h5,h6,h7,h8⟩:=hat;have h1:w.heap[b]? =al (.loop rec):=h1;have hlt:=hs.lt id b hb;refine⟨rec,h1,h2,h3,h4,h5,h6,⟨h7,h8⟩,?_⟩;refine hs.upd hb (.loop t n ps asg body st' pend') rfl rfl rfl (by simp) (λi hi=>World.putObj_heap_other hi) (λarr el fz hh=>by rw[h1]at hh;cases hh) (λk=> ?_);exact⟨{rec with state:=st',pending:=pend'},World.putObj_heap_same hlt,rfl,rfl,h4,h5,h6,h7,λi=>VRel.mono k _ _ (h8 i)⟩
theorem OA(htl:e.tl=[]){fx:Operand}{args:Array Operand}{ts:Array TypeId}(hop:o.op= .call {callee:= .value fx,args:=args,argTypes:=ts}){id:Nat}(hfx:(f.ev e fx).sv= .yd id)
 (hsc:dX (f.ev e) fx args) {t:Nat->V} {n':Nat} {ps:Array Tmp} {asg body:Code} {pend:Option Code} (hc:h[id]? =al (.loop t n' ps asg body .ready pend))
 (hl:args.size=ps.size) (hps:(ps.toList.all λp=>ar (p<n'))=ab)
 (hv:∀l,awp e n' (al l) asg (XE.seq (JH e n' l id body o.dst Kn f) (λ_ _ _=>False)) (kJ {t:=t} ps.toList (args.toList.map λx=>(f.ev e x).sv)) h):Eff e n r o f h Kn Q:=by
 intro ok pl0 w0 pl w a s hd;have h1:=(s.ev fx).sv hsc.1;rw[hfx]at h1;simp only[VRel]at h1;obtain⟨b,hb,hx⟩:=h1;have hb:pl id=al b:=hb;have h5:=(dP (c:=cx ok pl w) (ρ:=f.ev e) (ev:=a.eval) args.toList λx hx=>s.ev x).sv hsc.2;rw[List.map_map]at h5;obtain⟨rec,g1,g2,g3,g4,g5,g6,g7,_⟩:=s.hs.loopSet hb hc .ready pend;have hrun:(execOp a.eval o).run e.P w= .ok (.round b rec.fn ((rec.params.zip (args.map a.eval)).foldl (λtmps (t,a)=>tmps.setIfInBounds t a) rec.tmps) rec.assign rec.body) w:=by
  have:execOp a.eval o=(do let d <-resolve a.eval {callee:= .value fx,args:=args,argTypes:=ts} o.type;invoke d.target d.args):=by simp[execOp,hop]
  rw[this];have h6:(resolve a.eval {callee:= .value fx,args:=args,argTypes:=ts} o.type).run e.P w= .ok {target:= .fn (.yield b) #[],args:=args.map a.eval} w:=by
   simp[resolve,hx,Deferred.ofValue]
  simp only[Sem.run_bind,h6,aM,invoke];exact run_yield g1 (by simp[g4,hl])
 refine⟨λg _=>iD r g,?_⟩;rw[eP,Oper.semAt_eq r a.eval o (λc=>by rw[hop];exact λh=>by cases h),hrun];refine⟨λhd'=>(by rw[lS]at hd';cases hd'),?_⟩;rw[g5,g6];have tr:=TRel.all (ps:=ps.toList) g7 hps h5;have htm:(rec.params.zip (args.map a.eval)).foldl (λtmps (t,a)=>tmps.setIfInBounds t a) rec.tmps=((ps.toList.zip (args.toList.map a.eval)).foldl (λtmps (t,a)=>tmps.setIfInBounds t a) rec.tmps):=by
  rw[g4,<-Array.foldl_toList,Array.toList_zip,Array.toList_map]
 rw[htm];have s0:SSim e n' ok pl w (kJ {t:=t} ps.toList (args.toList.map λx=>(f.ev e x).sv)) h pl w {tmps:=((ps.toList.zip (args.toList.map a.eval)).foldl (λtmps (t,a)=>tmps.setIfInBounds t a) rec.tmps),defers:=[]}:=by
  have hk:∀(ps:List Tmp)(vs:List V)(f:Fr),(kJ f ps vs).k=f.k/\(kJ f ps vs).d=f.d:=by
   intro ps
   induction ps with
   |nil=>intro vs f;cases vs<;>exact⟨rfl,rfl⟩
   |cons p ps ih=>intro vs f;cases vs with
    |nil=>exact⟨rfl,rfl⟩
    |cons v vs=>exact ih vs (f.put (al p) v)
  refine⟨s.hs,?_,tr.size,tr.val,?_⟩
  ·rw[(hk _ _ _).1];exact Keeps.refl pl w
  ·rw[(hk _ _ _).2];exact htl.symm
 refine roundIn_of_wpIn (iD r _) ?_;rw[Md];refine wpIn_mono (hv b ok pl w pl w _ s0) ?_;rintro ex a1 w1 ⟨pl1,f1,h1,xe,s1,hx1,hq1⟩;cases xe<;>(try exact hq1.elim);cases ex<;>(try exact hx1.elim);unfold XE.seq JH at hq1;dsimp only at hq1;split at hq1
 ·rename_i t1 n1 ps1 asg1 body1 pend1 hc1;obtain⟨hk1,hbody⟩:=hq1;have hb1:pl1 id=al b:=s1.kp.keep id b hk1 hb;obtain⟨rec1,g1,g2,g3,g4,g5,g6,g7,hs2,k2⟩:=s1.hs.loopSet hb1 hc1 .busy pend1;refine⟨_,run_beginRound g1 g2,?_⟩;have hrec:({rec1 with state:= .busy}:Loop)={rec1 with state:= .busy,pending:=pend1}:=by rw[<-g3]
  rw[hrec];refine wpIn_mono (hbody ok pl w pl1 _ a1 (s1.next0 hs2 k2)) ?_;rintro ex a2 w2 ⟨pl2,f2,h2,xe2,s2,hx2,hq2⟩;unfold Oz at hq2;split at hq2
  ·rename_i j t2 n2 ps2 asg2 body2 st2 pend2 hj hc2;obtain⟨⟨hk2,hd2⟩,hK⟩:=hq2;have hb2:pl2 id=al b:=s2.kp.keep id b hk2 hb;obtain⟨rec2,g1,g2,g3,g4,g5,g6,g7,hs3,k3⟩:=s2.hs.loopSet hb2 hc2 (if j.isNone then .ready else .done) j;have fin:∃v w',(Instr.endRound b j).run e.P w2= .ok v w'/\Oq e n ok pl0 w0 Kn (a.put o.dst v) w':=by
    refine⟨_,_,run_endRound j g1,pl2,_,_,?_,hK⟩;have s3:=s2.next0 hs3 k3;exact(s.next s3.hs s3.kp hd2).put hd (by simp only[VRel])
   cases xe2<;>cases ex<;>(try exact hx2.elim)<;>simp only[XE.jump,Option.some.injEq,reduceCtorEq]at hj
   case normal=>subst hj;exact fin
   case ret=>subst hj;exact fin
   case exit i j'=>cases hx2;subst hj;exact fin
   case goto i j'=>cases hx2;subst hj;exact fin
  ·exact hq2.elim
 ·exact hq1.elim
end
end Go.Abs
