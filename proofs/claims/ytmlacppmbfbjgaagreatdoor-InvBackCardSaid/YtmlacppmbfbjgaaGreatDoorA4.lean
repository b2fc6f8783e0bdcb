/- Lemmas for this claim, part A4: each holds under what it names. -/
import Derived.Test.YtmlacppmbfbjgaaGreatDoorA3
import Derived.Laws.IdiomCopy
set_option linter.unusedVariables false
set_option linter.unusedSimpArgs false
namespace Go.Abs
open Go.RowKit
structure Wrote (w : World) (b : Nat) (arr' : Array Value) (el : TypeId) (fz : Nat × Nat) (w' : World) : Prop where
 os:w'.os=w.os
 tape:w'.tape=w.tape
 output:w'.output=w.output
 size:w'.heap.size=w.heap.size
 same:∀i,i≠b→w'.heap[i]? =w.heap[i]?
 here:w'.heap[b]? =some (.cells arr' el fz)
theorem fH {b:Nat} {el:TypeId} {fz:Nat×Nat}:∀(vs:List Value) (o:Nat) (arr:Array Value) (w:World),w.heap[b]? =some (.cells arr el fz)→o+vs.length≤arr.size →
 Wrote w b (arr.toList.take o++vs++arr.toList.drop (o+vs.length)).toArray el fz (w.setCells b o vs)
 | [],o,arr,w,hb,_=>⟨rfl,rfl,rfl,rfl,fun _ _=>rfl,by simpa [World.setCells]using hb⟩
 | v::vs,o,arr,w,hb,hl=>by
  simp only[List.length_cons]at hl;have hlt:=aP hb;have h1:(w.setCell ⟨b,o,none⟩ v).heap[b]? =some (.cells (arr.setIfInBounds o v) el fz):=by
   simp only[World.setCell];rw[Array.getElem?_modify];simp[hb]
  have h2:∀i,i≠b→(w.setCell ⟨b,o,none⟩ v).heap[i]? =w.heap[i]? :=fun i hi=>by simp only[World.setCell];rw[Array.getElem?_modify];simp[Ne.symm hi]
  have ih:=fH vs (o+1) (arr.setIfInBounds o v) (w.setCell ⟨b,o,none⟩ v) h1 (by simp;omega);refine⟨ih.os,ih.tape,ih.output,ih.size.trans (by simp[World.setCell]),fun i hi=>(ih.same i hi).trans (h2 i hi),?_⟩;have h3:=ih.here;simp only[World.setCells]at h3 ⊢;rw[h3]
  congr 2
  simp only[Array.toList_setIfInBounds];apply Array.ext';simp only[List.length_cons];apply List.ext_getElem?;intro i;have hsz:arr.toList.length=arr.size:=by simp
  simp only[List.getElem?_append,List.getElem?_take,List.getElem?_drop,List.length_append,List.length_take,List.length_set,List.getElem?_set,List.length_drop,List.getElem?_cons,List.length_cons]
  repeat' split
  all_goals first
   | rfl
   | omega
   | (congr 1;omega)
   | (exfalso;omega)
   | (simp_all;(try omega);done)
   | (simp only[Array.getElem?_toList];congr 1;simp_all;omega)
theorem eQ {P : Program} {w : World} {b o : Nat} {vs : List Value} {arr : Array Value} {el : TypeId} {fz : Nat × Nat} (hb : w.heap[b]? = some (.cells arr el fz))
 (hz:∀j,j<arr.size→¬(fz.1≤j∧j<fz.2)) (hl:o+vs.length≤arr.size) (h1:∀v∈vs,v.oneCell'=true) :
 (storeCells ⟨b,o,none⟩ vs).run P w= .ok () (w.setCells b o vs):=by
 have:=run_storeCells_cells (P:=P) b o vs 0 w (fun j hj=>by
  have:o+j<arr.size:=by omega
  simp[World.cell?,hb,this]) (fun j hj=>by
  have h2:=hz (o+0+j) (by omega);obtain⟨lo,hi⟩:=fz;simp only[World.frozen?,hb];simp only[Bool.and_eq_false_iff,decide_eq_false_iff_not];simp only at h2;by_cases h3:lo≤o+0+j
  ·exact .inr fun h4=>h2 ⟨h3,h4⟩
  ·exact .inl h3) h1
 simpa using this
theorem VRel.oneCell {c:C} {v:V} {x:Value} (h:VRel c v x) (ho:v.one=true):x.oneCell'=true:=by
 cases v<;>simp only[V.one,Bool.false_eq_true]at ho<;>simp only[VRel]at h
 case bool=>subst h;rfl
 case int=>subst h;rfl
 case str=>obtain⟨s,rfl,_⟩:=h;rfl
 case nilp=>subst h;rfl
 case lp=>obtain⟨b,_,rfl⟩:=h;rfl
 case ip=>obtain⟨b,off,ev,rfl,_⟩:=h;rfl
 case nils=>subst h;rfl
 case ls=>obtain⟨a,cp,rfl,_⟩:=h;rfl
 case is=>obtain⟨a,cp,rfl,_⟩:=h;rfl
 case nilm=>subst h;rfl
 case lm=>obtain⟨b,_,rfl⟩:=h;rfl
 case im=>obtain⟨r,es,clk,rfl,_⟩:=h;rfl
 case fn=>obtain⟨fs,cs,rfl,_⟩:=h;rfl
 case yd=>obtain⟨b,_,rfl⟩:=h;rfl
 case nilf=>subst h;rfl
 case iface=>obtain⟨ev,rfl,_⟩:=h;rfl
 case nili=>subst h;rfl
 case row=>obtain⟨b,rfl,_⟩:=h;rfl
def bF : List V → Bool
 | []=>true
 | v::vs=>v.one&&bF vs
theorem VList.oneCells {c : C} : ∀ {vs : List V} {xs : List Value},VList c vs xs → bF vs = true → ∀ x ∈ xs,x.oneCell' = true
 | [],_,h,_=>by simp only[VList]at h;subst h;simp
 | v::vs,_,h,ho=>by
  simp only[VList]at h;obtain⟨y,ys,rfl,h1,h2⟩:=h;simp only[bF,Bool.and_eq_true]at ho;intro x hx;rcases List.mem_cons.1 hx with rfl | hx
  ·exact h1.oneCell ho.1
  ·exact h2.oneCells ho.2 x hx
section
variable {e:E} {n:Nat} {r:Option Nat} {o:Oper} {f:Fr} {h:H} {Kn:Fr→H→Prop} {Q:XE→Fr→H→Prop}
variable {ok:Nat→Prop} {pl:Nat→Option Nat} {w:World}
theorem oW (hs : HSim e ok pl h w) {id b : Nat} (hb : pl id = some b) {off : Nat} {vs : List V} {xs : List Value} (hv : VList (cx ok pl w) vs xs) (ho : bF vs = true)
 {cs:List V} (hc:h[id]? =some (.cells cs)) (hl:off+vs.length≤cs.length) :
 ∃w',(storeCells ⟨b,off,none⟩ xs).run e.P w= .ok () w'∧HSim e ok pl (h.set id (.cells (bT cs off vs))) w'∧Keeps (fun _=>false) pl w pl w':=by
 obtain⟨ob,h1,hat⟩:=hs.obj id b hb;rw[hc]at h1;cases h1;obtain⟨arr,el,fz,h2,h3,h4,h5⟩:=hat;have hxl:=hv.length;simp only[cx]at h2;have hrun:=eQ (P:=e.P) (o:=off) h2 h3 (by omega) (hv.oneCells ho);have hw:=fH (b:=b) xs off arr w h2 (by omega);refine⟨_,hrun,hs.upd hb _ hw.os hw.tape hw.output hw.size hw.same (fun arr' el' fz' ha=> ?_) fun k=> ?_⟩
 ·rw[h2]at ha;cases ha;refine⟨_,_,hw.here,?_⟩;simp;omega
 ·have hsz : (arr.toList.take off ++ xs ++ arr.toList.drop (off + xs.length)).toArray.size = arr.size := by simp;omega
  refine⟨_,el,fz,hw.here,fun j hj=>h3 j (by omega),?_,?_⟩
  ·have : (bT cs off vs).length = cs.length := by unfold bT;simp;omega
   rw[this,hsz];exact h4
  ·have hlen : (bT cs off vs).length = cs.length := by unfold bT;simp;omega
   rw[hlen];have e1:(arr.toList.take off++xs++arr.toList.drop (off+xs.length)).toArray.toList.take cs.length=(arr.toList.take cs.length).take off++xs++(arr.toList.take cs.length).drop (off+xs.length):=by
    apply List.ext_getElem?;intro i;have hsz:arr.toList.length=arr.size:=by simp
    simp only[List.getElem?_append,List.getElem?_take,List.getElem?_drop,List.length_append,List.length_take,List.length_drop]
    repeat' split
    all_goals first
     | rfl
     | omega
     | (congr 1;omega)
     | (exfalso;omega)
     | (simp_all;(try omega);done)
     | (rw[List.getElem?_eq_none];simp;omega)
     | (symm;rw[List.getElem?_eq_none];simp;omega)
   rw[e1];unfold bT;rw[←hxl];have h5':=VList.mono k cs _ h5;exact((h5'.take off).append (VList.mono k vs _ hv)).append (h5'.dropN _)
theorem JG {t : TypeId} {x y : Operand} (hop : o.op = .store t x y) {id off : Nat} (hx : (f.ev e x).sv = .lp id off) (hxc : (f.ev e x).sc) (hyc : (f.ev e y).sc)
 {q:TI} (hq:ti e.P t=some q) (hf:(f.ev e y).sv.fit=true) (h1:bF (f.ev e y).sv.vc=true) (hsz:(f.ev e y).sv.vc.length=q.size)
 {cs:List V} (hc:h[id]? =some (.cells cs)) (hl:off+(f.ev e y).sv.vc.length≤cs.length)
 (hk:Kn (f.put o.dst jL) (h.set id (.cells (bT cs off (f.ev e y).sv.vc)))):Eff e n r o f h Kn Q:=by
 refine aN ?_ (fun c=>by rw[hop];exact fun h=>by cases h);intro ok pl w ev hs hr;obtain⟨i,d,z,hT⟩:=aF hq;have hxv:=(hr x (by simp[hop,Op.operands])).sv hxc;rw[hx]at hxv;simp only[VRel]at hxv;obtain⟨b,hb,hxb⟩:=hxv;have hyv:=(hr y (by simp[hop,Op.operands])).sv hyc;have hvc:=hyv.vc hf;obtain⟨w',hrun,hs',k⟩:=oW hs hb hvc h1 hc hl;refine⟨fun _=>false,jL,_,pl,w',undef,.inr ⟨?_,rfl⟩,hs',k,pW _,fun _ _=>rfl,by simpa using hk⟩;have hlen:=hvc.length;have h3:execOp ev o=(do Instr.storeAt t (ev x) (ev y);pure .skip):=by simp[execOp,hop]
 rw[h3];have:¬(ev y).cells.size≠q.size:=by
  simp only[Array.length_toList]at hlen;omega
 simp only[Sem.run_bind,Instr.storeAt,hxb,Instr.sureAddr,Sem.run_pure,Result.andThen,storeVar,hT.run_size];rw[if_neg this];simp only[hrun]
def Jd (kd:K) (key val:V) (ks vs:List V):Option (List V×List V) :=
 match ji kd key ks with
 | some (some n)=>some (ks.set n key,vs.set n val)
 | some none=>some (ks++[key],vs++[val])
 | none=>none
theorem yI {kd:K} {key k:V} {kv kv':Value} {c:C} (hk:VRel c key kv) (hk':VRel c k kv') (hq:keq kd key k=some true):Instr.sameBits 10000 kv' kv=true:=by
 unfold keq at hq;split at hq
 ·simp only [VRel] at hk hk';subst hk;subst hk';split at hq
  ·rename_i he;simp only[Option.some.injEq,beq_iff_eq]at hq;subst he;subst hq;simp[Instr.sameBits]
  ·cases hq
 ·simp only[VRel]at hk hk';obtain⟨s,rfl,rfl,_⟩:=hk;obtain⟨u,rfl,rfl,_⟩:=hk';simp only[Option.some.injEq]at hq;simp only[Instr.sameBits,beq_toListBytes,ByteArray.toList_eq];simp only[beq_iff_eq]at hq ⊢;exact hq.symm
 ·simp only[VRel]at hk hk';subst hk;subst hk';simp only[Option.some.injEq,beq_iff_eq]at hq;subst hq;simp[Instr.sameBits]
 ·split at hq
  ·rename_i hc;obtain⟨_,hk1,hk2,hl1,hl2⟩:=hc;simp only[Option.some.injEq,Bool.and_eq_true,beq_iff_eq]at hq;obtain⟨hq1,hq2⟩:=hq;simp only[VRel,VList]at hk hk';obtain⟨cs,rfl,_,_,hcs,rfl,_,_,rfl,rfl,rfl⟩:=hk;obtain⟨ds,rfl,_,_,hds,rfl,_,_,rfl,rfl,rfl⟩:=hk';have e1:cs=#[_,_]:=Array.toList_inj.1 hcs;have e2:ds=#[_,_]:=Array.toList_inj.1 hds;rw[e1,e2,hk1,hk2,hl1,hl2,hq1,hq2];simp[Instr.sameBits]
  ·cases hq
 ·cases hq
theorem Aj {kd : K} {key : V} : ∀ {ks : List V} {n : Nat},ji kd key ks = some (some n) → ∃ k,ks[n]? = some k ∧ keq kd key k = some true
 | [],n,h=>by simp[ji]at h
 | k::ks,n,h=>by
  simp only[ji]at h;split at h
  ·rename_i hq;cases h;exact⟨k,rfl,hq⟩
  ·split at h
   ·rename_i m hm;cases h;obtain⟨k',h1,h2⟩:=Aj hm;exact⟨k',by simpa using h1,h2⟩
   ·rename_i q hq;exact absurd h (hq n)
  ·cases h
theorem yJ {t : TypeId} {m k x : Operand} (hop : o.op = .mapUpdate t m k x) {id : Nat} (hm : (f.ev e m).sv = .lm id) (hmc : (f.ev e m).sc) (hkc : (f.ev e k).sc) (hxc : (f.ev e x).sc)
 {q:TI} (hq:ti e.P t=some q) {kt et:TypeId} (hkd:q.kind= .map kt et) {rk:TI} (hrk:ti e.P kt=some rk) (hko:rk.kind.keyOk (f.ev e k).sv=true)
 {ks vs:List V} (hc:h[id]? =some (.map ks vs)) {ks' vs':List V} (hp:Jd rk.kind (f.ev e k).sv (f.ev e x).sv ks vs=some (ks',vs'))
 (hK:Kn (f.put o.dst jL) (h.set id (.map ks' vs'))):Eff e n r o f h Kn Q:=by
 refine aN ?_ (fun c=>by rw[hop];exact fun h=>by cases h);intro ok pl w ev hs hr;obtain⟨i,d,z,hT⟩:=aF hq;obtain⟨ik,dk,zk,hKT⟩:=aF hrk;have hd:=hT.map hkd;subst hd;have hmv:=(hr m (by simp[hop,Op.operands])).sv hmc;rw[hm]at hmv;simp only[VRel]at hmv;obtain⟨b,hb,hmb⟩:=hmv;have hkv:=(hr k (by simp[hop,Op.operands])).sv hkc;have hxv:=(hr x (by simp[hop,Op.operands])).sv hxc;obtain⟨ob,ho',hat⟩:=hs.obj id b hb;rw[hc]at ho';cases ho';obtain⟨es,clk,h2,h3,h4,hmo⟩:=hat;simp only[cx]at h2;have fin:∀(es':Array MapEntry) (clk':Nat) ,(Instr.mapUpdate t (ev m) (ev k) (ev x)).run e.P w= .ok () {w with heap:=w.heap.setIfInBounds b (.map es' clk')} →
  VList (cx ok pl w) ks' (es'.toList.map (·.key))→VList (cx ok pl w) vs' (es'.toList.map (·.val))→Jn es' clk' →
  ∃p v h' pl' w' x,((execOp ev o).run e.P w= .ok (.value x) w'∨((execOp ev o).run e.P w= .ok .skip w'∧x=undef)) ∧
   HSim e ok pl' h' w'∧Keeps p pl w pl' w'∧VRel (cx ok pl' w') v x∧(∀i∈f.d,p i=false)∧Kn ((f.drop p).put o.dst v) h':=by
  intro es' clk' hrun g1 g2 g3;have hlt:=aP h2;have hh:({w with heap:=w.heap.setIfInBounds b (.map es' clk')}:World).heap[b]? =some (.map es' clk'):=by simp[hlt]
  obtain ⟨hs',kk⟩ := hs.upd hb (.map ks' vs') (w' := { w with heap := w.heap.setIfInBounds b (.map es' clk') }) rfl rfl rfl (by simp) (fun i hi => by simp [Ne.symm hi]) (fun arr el fz ha => by rw [h2] at ha;cases ha)
   (fun kx=>⟨es',clk',hh,VList.mono kx _ _ g1,VList.mono kx _ _ g2,g3⟩)
  refine⟨fun _=>false,jL,_,pl,_,undef,.inr ⟨?_,rfl⟩,hs',kk,pW _,fun _ _=>rfl,by simpa using hK⟩;have h5:execOp ev o=(do Instr.mapUpdate t (ev m) (ev k) (ev x);pure .skip):=by simp[execOp,hop]
  rw[h5];simp[hrun,Result.andThen]
 have hck:=nI hKT hkv hko false w;unfold Jd at hp;split at hp
 ·rename_i j hj;cases hp;obtain ⟨a,h5,en,h6,rfl⟩ := tH (w := w) hKT hkv ks es.toList _ h3 hj;obtain ⟨k0,hk0,hkeq⟩ := Aj hj;obtain ⟨y,hy,hyr⟩ := h3.get j k0 hk0;rw [List.getElem?_map,h6] at hy;simp at hy;subst hy;have hsame := yI hkv hyr hkeq;have hje : es[j]? = some en := by simpa using h6
  refine fin (es.modify j fun e=>{e with key:=ev k,val:=ev x}) clk ?_ ?_ ?_ ?_
  ·simp only[Instr.mapUpdate,Sem.run_bind,hT.run_und,Result.andThen,hmb,MapKept.run_getObj_map h2,hck,h5,Nat.zero_add];simp only[Instr.keyThatStays,hje,Option.map_some,Option.getD_some,hsame,if_true,Sem.run_pure];exact MapKept.run_setObj_map _ h2
  ·have:(es.modify j fun e=>{e with key:=ev k,val:=ev x}).toList.map (·.key)=(es.toList.map (·.key)).set j (ev k):=by
    rw[Array.toList_modify];apply List.ext_getElem?;intro i;simp only[List.getElem?_map,List.getElem?_modify,List.getElem?_set,List.length_map];by_cases hij:j=i
    ·subst hij;have:=(List.getElem?_eq_some_iff.1 h6).1;simp at this;simp[hje,this]
    ·simp[hij]
   rw[this];exact h3.set j hkv
  ·have:(es.modify j fun e=>{e with key:=ev k,val:=ev x}).toList.map (·.val)=(es.toList.map (·.val)).set j (ev x):=by
    rw[Array.toList_modify];apply List.ext_getElem?;intro i;simp only[List.getElem?_map,List.getElem?_modify,List.getElem?_set,List.length_map];by_cases hij:j=i
    ·subst hij;have:=(List.getElem?_eq_some_iff.1 h6).1;simp at this;simp[hje,this]
    ·simp[hij]
   rw[this];exact h4.set j hxv
  ·have hborn:(es.modify j fun e=>{e with key:=ev k,val:=ev x}).toList.map (·.born)=es.toList.map (·.born):=by
    rw[Array.toList_modify];apply List.ext_getElem?;intro i;simp only[List.getElem?_map,List.getElem?_modify];by_cases hij:j=i
    ·subst hij;simp[hje]
    ·simp[hij]
   refine⟨fun y hy=> ?_,by rw[hborn];exact hmo.2⟩;have:y.born∈es.toList.map (·.born):=by rw[←hborn];exact List.mem_map.2 ⟨y,hy,rfl⟩
   obtain⟨z,hz,hz2⟩:=List.mem_map.1 this;rw[←hz2];exact hmo.1 z hz
 ·rename_i hj;cases hp;obtain ⟨a,h5,rfl⟩ := tH (w := w) hKT hkv ks es.toList _ h3 hj;refine fin (es.push { key := ev k,val := ev x,born := clk }) (clk + 1) ?_ ?_ ?_ ?_
  ·simp only[Instr.mapUpdate,Sem.run_bind,hT.run_und,Result.andThen,hmb,MapKept.run_getObj_map h2,hck,h5];exact MapKept.run_setObj_map _ h2
  ·simp only[Array.toList_push,List.map_append,List.map_cons,List.map_nil];exact h3.append (by simp only[VList];exact⟨_,_,rfl,hkv,rfl⟩)
  ·simp only[Array.toList_push,List.map_append,List.map_cons,List.map_nil];exact h4.append (by simp only[VList];exact⟨_,_,rfl,hxv,rfl⟩)
  ·refine ⟨fun y hy => ?_,?_⟩
   ·simp only [Array.toList_push,List.mem_append,List.mem_singleton] at hy;rcases hy with hy | rfl
    ·have:=hmo.1 y hy;omega
    ·exact Nat.lt_succ_self _
   ·simp only[Array.toList_push,List.map_append,List.map_cons,List.map_nil];rw[List.nodup_append];refine⟨hmo.2,by simp,?_⟩;intro y hy z hz hyz;simp only[List.mem_singleton]at hz;subst hz;subst hyz;obtain⟨u,hu,hu2⟩:=List.mem_map.1 hy;have:=hmo.1 u hu;omega
 ·cases hp
end
section
variable {P:Program} {w:World}
theorem gY {ts : Array TypeId} {t xt ty el : TypeId} {r re rx : TI} {i ie ix : TypeInfo} {de dx : TypeDesc} {z ze zx : Value} (h0 : ts[0]? = some t) (h1 : ts[1]? = some xt)
 (hT:TIs P t r i (.slice el) z) (hE:TIs P el re ie de ze) (hX:TIs P xt rx ix dx zx) (hx:∀k,dx≠ .int k)
 (base:Option Addr) (sLen sCap n:Nat) (xv:Value) (olds news:Array Value) (hn:∀w,(Builtin.lenOf xv).run P w= .ok n w)
 (ho:(Builtin.firstCells re.size sLen (.slice base sLen sCap)).run P w.drew= .ok olds w.drew) (hw:(Builtin.firstCells re.size n xv).run P w.drew= .ok news w.drew)
 (hg:sCap<sLen+n) (h63:sLen+n≤maxLen) (hb:(sLen+n)*re.bytes≤140737488355328) :
 (Builtin.append_ ts ty #[.slice base sLen sCap,xv]).run P w =
  .ok (.slice (some ⟨w.heap.size,0,none⟩) (sLen + n) (grownCap w (sLen + n) sCap el))
   (w.drew.alloc (.cells (olds++news++Builtin.zeroCells ze.cells (grownCap w (sLen+n) sCap el-(sLen+n))) el)):=by
 have hn':¬(sLen+n≤sCap):=by omega
 have h63':¬(9223372036854775807<((sLen:Int)+(n:Int))):=by simp only[maxLen]at h63;omega
 have h48':¬(281474976710656<Builtin.nextslicecap (sLen+n) sCap*re.bytes):=by have:=growslice_fits hg hb;omega
 have hz:(match dx with | .int _=>true | _=>false)=false:=by cases dx<;>first | rfl | exact absurd rfl (hx _)
 unfold Builtin.append_;simp only[h0,h1,List.getElem?_toArray,List.getElem?_cons_zero,List.getElem?_cons_succ,Sem.run_bind,hT.run_und,Result.andThen,hE.run_size,hX.run_und,Sem.run_pure];simp only[hz,Bool.false_eq_true,if_false,hn,Sem.run_bind,Result.andThen];rw[if_neg hn'];have hbytes:(typeInfo el).run P w= .ok ie w:=by simp[typeInfo,hE.info]
 have h63'':¬(((sLen+n:Nat):Int)>IntKind.i64.max∧(False∨ie.bytes=0)):=by have h1:IntKind.i64.max=9223372036854775807:=rfl;rw[h1];simp only[maxLen]at h63;omega
 simp[hbytes,Result.andThen,h63',hE.bytes▸h48',Question.forced,ho,hw,hE.run_zero,newRow,grownCap,typeInfo,hE.info]
theorem dS {ts : Array TypeId} {t xt ty el : TypeId} {r re rx : TI} {i ie ix : TypeInfo} {de dx : TypeDesc} {z ze zx : Value} (h0 : ts[0]? = some t) (h1 : ts[1]? = some xt)
 (hT:TIs P t r i (.slice el) z) (hE:TIs P el re ie de ze) (hX:TIs P xt rx ix dx zx) (hx:∀k,dx≠ .int k)
 (base:Option Addr) (sLen sCap n:Nat) (xv:Value) (news:Array Value) (hn:∀w,(Builtin.lenOf xv).run P w= .ok n w)
 (hw:(Builtin.firstCells re.size n xv).run P w= .ok news w) (hg:sLen+n≤sCap) {w':World}
 (hs:(base=none∧w'=w)∨∃a,base=some a∧(storeCells (a.add (sLen*re.size)) news.toList).run P w= .ok () w') :
 (Builtin.append_ ts ty #[.slice base sLen sCap,xv]).run P w= .ok (.slice base (sLen+n) sCap) w':=by
 have hz:(match dx with | .int _=>true | _=>false)=false:=by cases dx<;>first | rfl | exact absurd rfl (hx _)
 unfold Builtin.append_;simp only[h0,h1,List.getElem?_toArray,List.getElem?_cons_zero,List.getElem?_cons_succ,Sem.run_bind,hT.run_und,Result.andThen,hE.run_size,hX.run_und,Sem.run_pure];simp only[hz,Bool.false_eq_true,if_false,hn,Sem.run_bind,Result.andThen];rw[if_pos hg];rcases hs with⟨rfl,rfl⟩ | ⟨a,rfl,hs⟩
 ·simp[hw,Result.andThen]
 ·simp[hw,Result.andThen,hs]
end
def iL (h : H) (k : Nat) : V → Option (Nat × List V)
 | .nils=>some (0,[])
 | .is _ k' es=>if k'=k then(if k=1 then some (es.length,es)else some (es.length,es.flatMap V.vc))else none
 | .ls id k' off len _=>if k'=k∧off+len*k≤(bH h id).length then some (len,((bH h id).drop off).take (len*k))else none
 | .str l=>if k=1 then some (l.length,l.map fun b=> .int .u8 b.toNat)else none
 | .row k' es=>if k'=k∧k=1 then some (es.length,es)else none
 | _=>none
theorem oZ : ∀ {es : List V},bF es = true → es.flatMap V.vc = es
 | [],_=>rfl
 | v::vs,h=>by
  simp only[bF,Bool.and_eq_true]at h;rw[List.flatMap_cons,oZ h.2];have:v.vc=[v]:=by cases v<;>first | rfl | (simp[V.one]at h)
  rw[this];rfl
def nN : List V → Bool
 | []=>true
 | v::vs=>v.fit&&nN vs
theorem kR : ∀ {es : List V},bF es = true → nN es = true
 | [],_=>rfl
 | v::vs,h=>by simp only[bF,Bool.and_eq_true]at h;simp only[nN,Bool.and_eq_true];exact⟨by simp[V.fit,h.1],kR h.2⟩
theorem VElems.flat {c:C} {b k:Nat}:∀ {es:List V} {off:Nat},VElems c k es b off→nN es=true →
 ∃xs:List Value,xs.length=es.length*k∧(∀j v,xs[j]? =some v→c.w.cell? ⟨b,off+j,none⟩=some v)∧VList c (es.flatMap V.vc) xs
 | [],off,_,_=>⟨[],by simp,by simp,by simp[VList]⟩
 | e::es,off,h,ho=>by
  simp only[VElems]at h;obtain⟨⟨ev,h1,h2,h3⟩,h4⟩:=h;simp only[nN,Bool.and_eq_true]at ho;obtain⟨xs,h5,h6,h7⟩:=VElems.flat h4 ho.2;refine⟨ev.cells.toList++xs,by simp[h1,h5,Nat.add_mul];omega,fun j v hj=> ?_,by rw[List.flatMap_cons];exact(h3.vc ho.1).append h7⟩;by_cases hjk:j<k
  ·rw[List.getElem?_append_left (by simp;omega)]at hj;rw[(h2 j (by omega)).2];simpa using hj
  ·rw [List.getElem?_append_right (by simp;omega)] at hj;simp only [Array.length_toList,h1] at hj;have := h6 (j - k) v hj
   rwa [show off+k+(j-k)=off+j by omega]at this
def yK (P : Program) (xt el : TypeId) : V → Bool
 | .str _=>match ti P xt,ti P el with | some rx,some re=>rx.kind= .str&&re.kind= .int .u8 | _,_=>false
 | _=>match ti P xt with | some rx=>rx.kind.isSlice | none=>false
def ng (k : Nat) : V → Bool
 | .is _ _ es=>if k=1 then bF es else nN es
 | .row _ es=>bF es
 | _=>true
theorem jk {e : E} {ok : Nat → Prop} {pl : Nat → Option Nat} {w : World} {h : H} (hs : HSim e ok pl h w) {k n : Nat} {s : V} {xv : Value} {cs : List V} (hv : VRel (cx ok pl w) s xv)
 (he:iL h k s=some (n,cs)) (hf:ng k s=true) :
 ∃news:Array Value,(∀w',(Builtin.lenOf xv).run e.P w'= .ok n w')∧(∀w',(∀a,w'.cell? a=w.cell? a)→(Builtin.firstCells k n xv).run e.P w'= .ok news w')∧VList (cx ok pl w) cs news.toList∧cs.length=n*k:=by
 have rd:∀(b off m:Nat) (len cp:Nat) (xs:List Value),xs.length=m*k→(∀j v,xs[j]? =some v→w.cell? ⟨b,off+j,none⟩=some v)→∀w',(∀a,w'.cell? a=w.cell? a) →
  (Builtin.firstCells k m (.slice (some ⟨b,off,none⟩) len cp)).run e.P w'= .ok xs.toArray w':=by
  intro b off m len cp xs h1 h2 w' hw';have:=run_loadCells_list (P:=e.P) w' ⟨b,off,none⟩ xs (fun j v hj=>by rw[dD,hw'];exact h2 j v hj);rw[h1]at this;exact this
 have rd0:∀(a:Option Addr) (len cp:Nat) (w':World),(Builtin.firstCells k 0 (.slice a len cp)).run e.P w'= .ok #[] w':=by
  intro a len cp w';cases a with
  | none=>rfl
  | some a=>simp only[Builtin.firstCells,Nat.zero_mul];rfl
 unfold iL at he;split at he
 ·cases he;simp only[VRel]at hv;subst hv;exact⟨#[],fun _=>rfl,fun w' _=>rd0 _ _ _ _,by simp[VList],by simp⟩
 ·rename_i ex k' es;split at he
  ·rename_i hk;subst hk;simp only[VRel]at hv;obtain⟨a,cp,rfl,h1,h2,h3,h4⟩:=hv;have hcs:n=es.length∧cs=es.flatMap V.vc∧nN es=true:=by
    simp only[ng]at hf;split at he
    ·rename_i h1k;cases he;rw[if_pos h1k]at hf;exact⟨rfl,(oZ hf).symm,kR hf⟩
    ·rename_i h1k;cases he;rw[if_neg h1k]at hf;exact⟨rfl,rfl,hf⟩
   obtain⟨rfl,rfl,hfit⟩:=hcs;rcases h4 with rfl | ⟨b,off,rfl,hel⟩
   ·exact⟨#[],fun _=>rfl,fun w' _=>rd0 _ _ _ _,by simp[VList],by simp⟩
   ·obtain⟨xs,h5,h6,h7⟩:=hel.flat hfit;exact⟨xs.toArray,fun _=>rfl,fun w' hw'=>rd b off _ _ _ xs h5 h6 w' hw',by simpa using VList.ofdata _ _ h7,by rw[←h5,h7.length]⟩
  ·cases he
 ·rename_i id k' off len cap;split at he
  ·rename_i hk;obtain ⟨rfl,hle⟩ := hk;cases he;simp only [VRel] at hv;obtain ⟨a,cp,rfl,h1,h2,h3,h4⟩ := hv;rcases h4 with rfl | ⟨b,arr,el,fz,hb,rfl,_⟩
   ·have : n = 0 := by omega
    subst this;exact⟨#[],fun _=>rfl,fun w' _=>rd0 _ _ _ _,by simp[VList],by simp⟩
   ·obtain⟨xs,h5,h6,h7⟩:=hs.cellsTake hb off (n*k') hle;refine⟨xs.toArray,fun _=>rfl,fun w' hw'=>rd b off _ _ _ xs h5 h6 w' hw',by simpa using h7,?_⟩;rw[List.length_take,List.length_drop];omega
  ·cases he
 ·rename_i l;split at he
  ·rename_i hk;subst hk;cases he;simp only[VRel]at hv;obtain⟨u,rfl,rfl,hl⟩:=hv;refine⟨(u.extract 0 u.size).data.map fun b=> .int .u8 b.toNat,fun _=>by rw[←gQ];rfl,fun w' _=>by rw[←gQ];rfl,?_,by simp⟩;have:(u.extract 0 u.size).data.toList=u.data.toList:=by
    rw[Lib.extract_data];simp only[List.drop_zero,Nat.sub_zero];rw[List.take_of_length_le];rw[gQ];exact Nat.le_refl _
   simp only[Array.toList_map,this];refine nG (by simp) fun i v x hv hx=> ?_;rw[List.getElem?_map]at hv hx;cases hq:u.data.toList[i]? with
   | none=>rw[hq]at hv;cases hv
   | some q=>rw[hq]at hv hx;cases hv;cases hx;simp only[VRel]
  ·cases he
 ·rename_i k' es;split at he
  ·rename_i hk;obtain⟨rfl,rfl⟩:=hk;cases he;simp only[VRel]at hv;obtain⟨b,rfl,h1,h2⟩:=hv;have hf:bF cs=true:=hf;obtain⟨xs,h5,h6,h7⟩:=h2.flat (kR hf);rw[oZ hf]at h7;exact⟨xs.toArray,fun _=>rfl,fun w' hw'=>rd b 0 _ _ _ xs h5 h6 w' hw',by simpa using h7,by omega⟩
  ·cases he
 ·cases he
section
variable {e:E} {n:Nat} {r:Option Nat} {o:Oper} {f:Fr} {h:H} {Kn:Fr→H→Prop} {Q:XE→Fr→H→Prop}
variable {ok:Nat→Prop} {pl:Nat→Option Nat} {w:World}
theorem lw (hs:HSim e ok pl h w) {cs:List V} {arr:Array Value} (hl:cs.length≤arr.size) (hc:VList (cx ok pl w) cs (arr.toList.take cs.length)) (el:TypeId) {w1:World} (x:WExt w w1) :
 HSim e ok (bC pl h.length w1.heap.size) (h++[.cells cs]) (w1.alloc (.cells arr el))∧Keeps (fun _=>false) pl w (bC pl h.length w1.heap.size) (w1.alloc (.cells arr el)):=by
 have x2:=x.trans (WExt.alloc w1 (.cells arr el));have hb:(w1.alloc (.cells arr el)).heap[w1.heap.size]? =some (.cells arr el):=by rw[World.alloc];simp
 have key:∀(c':C),CExt (fun _=>false) (cx ok pl w) c'→c'.w=w1.alloc (.cells arr el)→OAt c' w1.heap.size (.cells cs):=by intro c' hx hw;exact⟨arr,el,(0,0),by rw[hw];exact hb,fun j _=>by simp,hl,VList.mono hx cs _ hc⟩
 have k:CExt (fun _=>false) (cx ok pl w) (cx ok (bC pl h.length w1.heap.size) (w1.alloc (.cells arr el))):=by
  refine⟨fun b hb' hok=>⟨⟨hok.1,fun i hi=> ?_⟩,x2.same b hb'⟩,fun i b _ hi=> ?_,fun b arr' el' fz hb'=>⟨arr',fz,(x2.same b (aP hb')).trans hb',rfl⟩⟩
  ·simp only [bC] at hi;split at hi
   ·cases hi;have:=x.size;simp only[cx]at hb';omega
   ·exact hok.2 i hi
  ·have:=hs.pl_lt hi;simp only[cx,bC];rw[if_neg (by omega)];exact hi
 exact hs.new x2 (.cells arr el) (.cells cs) x.size (by simp) (key _ k rfl)
theorem ou (hs : HSim e ok pl h w) : HSim e ok pl (h ++ [.cells []]) w where
 fresh:=hs.fresh
 lt:=hs.lt
 okl:=hs.okl
 inj:=hs.inj
 obj i b hi:=by
  obtain⟨ob,h1,h2⟩:=hs.obj i b hi;exact⟨ob,by rw[List.getElem?_append_left (hs.pl_lt hi)];exact h1,h2⟩
 bare i ob ho hi:=by
  by_cases hlt:i<h.length
  ·rw[List.getElem?_append_left hlt]at ho;exact hs.bare i ob ho hi
  ·rw[List.getElem?_append_right (by omega)]at ho;cases hq:i-h.length with
   | zero=>rw[hq]at ho;cases ho;exact .inr rfl
   | succ m=>rw[hq]at ho;cases ho
 glob:=hs.glob
 exa:=hs.exa
theorem HSim.kill (hs:HSim e ok pl h w) (p:Nat→Bool):HSim e ok pl (h.map (O.drop p)) w∧Keeps p pl w pl w:=by
 have k:Keeps p pl w pl w:=(Keeps.refl pl w).weaken (fun _ hi=>by cases hi);refine⟨hs.next k hs.lt hs.inj (fun i b hi=> .inl ⟨hi,rfl,by rw[List.getElem?_map]⟩) (fun i ob ho hi=> ?_),k⟩;rw[List.getElem?_map]at ho;cases hh:h[i]? with
 | none=>rw[hh]at ho;cases ho
 | some o' =>
  rw[hh]at ho;have ho:o'.drop p=ob:=by simpa using ho
  rcases hs.bare i o' hh hi with rfl | rfl<;>subst ho<;>simp[O.drop,V.drops]
theorem HSim.replace (hs : HSim e ok pl h w) {id nb : Nat} (hid : id < h.length) {w' : World} {o' : O}
 (k:Keeps (·==id) pl w (fun i=>if i=id then some nb else pl i) w') (hlt:nb<w'.heap.size) (hfree:∀j,j≠id→pl j≠some nb)
 (hsame:∀j b,j≠id→pl j=some b→w'.heap[b]? =w.heap[b]?) (ho:OAt (cx ok (fun i=>if i=id then some nb else pl i) w') nb o') :
 HSim e ok (fun i=>if i=id then some nb else pl i) ((h.map (O.drop (·==id))).set id o') w':=by
 refine hs.next k (fun i b hi=> ?_) (fun i j b hi hj=> ?_) (fun i b hi=> ?_) (fun i ob hob hi=> ?_)
 ·split at hi
  ·cases hi;exact hlt
  ·exact Nat.lt_of_lt_of_le (hs.lt i b hi) k.size
 ·by_cases h1 : i = id <;> by_cases h2 : j = id
  ·rw[h1,h2]
  ·rw[if_pos h1]at hi;rw[if_neg h2]at hj;cases hi;exact absurd hj (hfree j h2)
  ·rw[if_neg h1]at hi;rw[if_pos h2]at hj;cases hj;exact absurd hi (hfree i h1)
  ·rw[if_neg h1]at hi;rw[if_neg h2]at hj;exact hs.inj i j b hi hj
 ·by_cases h1 : i = id
  ·rw[if_pos h1]at hi;cases hi;subst h1;exact .inr ⟨o',by simp[hid],ho⟩
  ·rw[if_neg h1]at hi;refine .inl ⟨hi,hsame i b h1 hi,?_⟩;rw[List.getElem?_set_ne (Ne.symm h1),List.getElem?_map]
 ·by_cases h1 : i = id
  ·rw[if_pos h1]at hi;cases hi
  ·rw[if_neg h1]at hi;rw[List.getElem?_set_ne (Ne.symm h1),List.getElem?_map]at hob;cases hh:h[i]? with
   | none=>rw[hh]at hob;cases hob
   | some o'' =>
    rw[hh]at hob;have hob:o''.drop (·==id)=ob:=by simpa using hob
    rcases hs.bare i o'' hh hi with rfl | rfl<;>subst hob<;>simp[O.drop,V.drops]
theorem kT (p : Nat → Bool) : ∀ (a b : List V),V.drops p (a ++ b) = V.drops p a ++ V.drops p b
 | [],b=>rfl
 | v::a,b=>by simp only[List.cons_append,V.drops,kT p a b]
theorem aV (p : Nat → Bool) : ∀ (a : List V),(V.drops p a).length = a.length
 | []=>rfl
 | v::a=>by simp only[V.drops,List.length_cons,aV p a]
def uI : V → Bool
 | .nils=>true
 | .is true _ _=>true
 | _=>false
structure IsAppend (e : E) (o : Oper) (x y : Operand) (t xt el : TypeId) (r re : TI) : Prop where
 op:∃ts,o.op= .call {callee:= .builtin .append,args:=#[x,y],argTypes:=ts}∧ts[0]? =some t∧ts[1]? =some xt
 ti:ti e.P t=some r
 kind:r.kind= .slice el
 tie:Abs.ti e.P el=some re
 zfit:re.zero.fit=true
 zlen:re.zero.vc.length=re.size
 pos:0<re.size
theorem Ak {P:Program} {xt el:TypeId} {s:V} (h:yK P xt el s=true):∃rx ix dx zx,TIs P xt rx ix dx zx∧∀k,dx≠ .int k:=by
 have key:∀rx,ti P xt=some rx→(∀k,rx.kind≠ .int k)→∃rx ix dx zx,TIs P xt rx ix dx zx∧∀k,dx≠ .int k:=by intro rx hrx hk;obtain⟨ix,dx,zx,hX⟩:=aF hrx;exact⟨rx,ix,dx,zx,hX,fun k hd=>hk k (by rw[hX.kind,hd];rfl)⟩
 unfold yK at h;split at h
 ·split at h
  ·rename_i rx re hrx hre;simp only[Bool.and_eq_true,decide_eq_true_eq]at h;exact key rx hrx fun k hk=>by rw[h.1]at hk;cases hk
  ·cases h
 ·split at h
  ·rename_i rx hrx;exact key rx hrx fun k hk=>by rw[hk]at h;cases h
  ·cases h
theorem bJ {x y:Operand} {ts:Array TypeId} (hop:o.op= .call {callee:= .builtin .append,args:=#[x,y],argTypes:=ts}) (ev:Operand→Value) :
 execOp ev o=(do pure (Next.value (←Builtin.append_ ts o.type #[ev x,ev y]))):=by
 simp[execOp,hop,resolve,invoke,builtin]
theorem sW {x y : Operand} {t xt el : TypeId} {q re : TI} (ha : IsAppend e o x y t xt el q re) (hxc : (f.ev e x).sc) (hyc : (f.ev e y).sc)
 (hex:uI (f.ev e x).sv=true) (hst:yK e.P xt el (f.ev e y).sv=true)
 {n0 m:Nat} {cs0 cs:List V} (hx:iL h re.size (f.ev e x).sv=some (n0,cs0)) (hxf:ng re.size (f.ev e x).sv=true) (hy:iL h re.size (f.ev e y).sv=some (m,cs)) (hyf:ng re.size (f.ev e y).sv=true)
 (hnz:n0=0∨0<m) (hbig:n0+m≤maxLen) (hbytes:(n0+m)*re.bytes≤140737488355328)
 (hk:Kn (f.put o.dst (.ls h.length re.size 0 (n0+m) (n0+m))) (h++[.cells (cs0++cs)])):Eff e n r o f h Kn Q:=by
 obtain⟨⟨ts,hop,ht0,ht1⟩,hti,hkind,htie,hzf,hzl,hpos⟩:=ha;refine aN ?_ (fun c=>by rw[hop];exact fun h=>by cases h);intro ok pl w ev hs hr;obtain⟨i,d,z,hT⟩:=aF hti;have hd:=hT.slice hkind;subst hd;obtain⟨ie,de,ze,hE⟩:=aF htie;obtain⟨rx,ix,dx,zx,hX,hxi⟩:=Ak hst;have hxv:=(hr x (by simp[hop,Op.operands,Call.operands])).sv hxc;have hyv:=(hr y (by simp[hop,Op.operands,Call.operands])).sv hyc;obtain⟨olds,ho1,ho2,ho3,ho4⟩:=jk hs hxv hx hxf;obtain⟨news,hn1,hn2,hn3,hn4⟩:=jk hs hyv hy hyf
 -- the slice that is appended to
 obtain⟨base,hbase⟩:∃base,ev x= .slice base n0 n0:=by
  obtain⟨u,hu⟩:∃u,(f.ev e x).sv=u:=⟨_,rfl⟩;rw[hu]at hx hxv hex;clear hxf hu;cases u<;>simp only[uI,Bool.false_eq_true]at hex
  case nils=>simp only[VRel]at hxv;simp only[iL]at hx;cases hx;exact⟨none,hxv⟩
  case is ex k es =>
   cases ex
   ·simp[uI]at hex
   ·simp only[VRel]at hxv;obtain⟨a,cp,h1,h2,h3,h4,_⟩:=hxv;have hn0:n0=es.length:=by
     simp only[iL]at hx;split at hx
     ·split at hx<;>cases hx<;>rfl
     ·cases hx
    exact⟨a,by rw[h1,h4 trivial,hn0]⟩
 have hol:=ho3.length;have hnl:=hn3.length;by_cases hroom:n0+m≤n0
 ·have hm0 : m = 0 := by omega
  have hn0:n0=0:=by omega
  subst hm0;subst hn0;have hcs:cs=[]:=List.length_eq_zero_iff.1 (by omega);have hcs0:cs0=[]:=List.length_eq_zero_iff.1 (by omega);subst hcs;subst hcs0;have hnews:news.toList=[]:=List.length_eq_zero_iff.1 (by omega);have hrun:=dS (P:=e.P) (w:=w) (ty:=o.type) ht0 ht1 hT hE hX hxi base 0 0 0 (ev y) news (fun w'=>hn1 w') (hn2 w (fun _=>rfl)) (by omega) (w':=w) (by
   cases base with
   | none=>exact .inl ⟨rfl,rfl⟩
   | some a=>exact .inr ⟨a,rfl,by rw[hnews];rfl⟩)
  refine⟨fun _=>false,_,_,pl,w,.slice base 0 0,.inl ?_,ou hs,Keeps.refl pl w,?_,fun _ _=>rfl,by rw[Fr.drop_none];exact hk⟩
  ·rw[bJ hop,hbase];exact fU hrun
  ·simp only[VRel];exact⟨base,0,rfl,by omega,by omega,by simp[maxLen],.inl rfl⟩
 ·have hrun := gY (P := e.P) (w := w) (ty := o.type) ht0 ht1 hT hE hX hxi base n0 n0 m (ev y) olds news (fun w' => hn1 w') (by rw [← hbase];exact ho2 _ (fun _ => rfl)) (hn2 _ (fun _ => rfl)) (by omega) hbig hbytes;obtain ⟨cap,hcap⟩ : ∃ cap,grownCap w (n0 + m) n0 el = cap := ⟨_,rfl⟩;have hge := grownCap_ge w (n0 + m) n0 el;have hle := grownCap_le_maxLen w (n0 + m) n0 el hbig;rw [hcap] at hrun hge hle;obtain ⟨arr,harr⟩ : ∃ arr,olds ++ news ++ Builtin.zeroCells ze.cells (cap - (n0 + m)) = arr := ⟨_,rfl⟩;rw [harr] at hrun;have hzs : ze.cells.size = re.size := by have hzr := (cZ (cx ok pl w) ze).vc (by rw [← hE.zv];exact hzf);have := hzr.length;rw [← hE.zv,hzl] at this;simpa using this
  have hasz:arr.size=cap*re.size:=by rw[←harr];simp only[Array.size_append,size_zeroCells,hzs];simp only[Array.length_toList]at hol hnl;rw[hol,hnl,ho4,hn4,←Nat.add_mul,←Nat.add_mul];congr 1;omega
  have hlist:arr.toList.take (cs0++cs).length=olds.toList++news.toList:=by rw[←harr];simp only[Array.toList_append];rw[List.take_append_of_le_length (by simp only[List.length_append];omega),List.take_of_length_le (by simp only[List.length_append];omega)]
  obtain⟨hs',kk⟩:=lw hs (cs:=cs0++cs) (arr:=arr) (by rw[hasz,List.length_append,ho4,hn4,←Nat.add_mul];exact Nat.mul_le_mul_right _ hge) (by rw[hlist];exact ho3.append hn3) el (WExt.drew w);refine⟨fun _=>false,_,_,_,_,.slice (some ⟨w.heap.size,0,none⟩) (n0+m) cap,.inl ?_,hs',kk,?_,fun _ _=>rfl,by rw[Fr.drop_none];exact hk⟩
  ·rw[bJ hop,hbase];exact fU hrun
  ·simp only[VRel];refine⟨_,cap,rfl,hge,hge,hle,.inr ⟨w.heap.size,arr,el,(0,0),by simp[cx,bC],rfl,?_,by rw[hasz];omega⟩⟩;exact World.alloc_heap_new w.drew (.cells arr el)
theorem uJ {x y : Operand} {t xt el : TypeId} {q re : TI} (ha : IsAppend e o x y t xt el q re) (hxc : (f.ev e x).sc) (hyc : (f.ev e y).sc)
 {id len cap:Nat} (hx:(f.ev e x).sv= .ls id re.size 0 len cap) {cs0:List V} (hc:h[id]? =some (.cells cs0)) (hcl:cs0.length=len*re.size)
 (hst:yK e.P xt el (f.ev e y).sv=true) {m:Nat} {cs:List V} (hy:iL h re.size (f.ev e y).sv=some (m,cs)) (hyf:ng re.size (f.ev e y).sv=true) (h1:bF cs=true)
 (hbig:len+m≤maxLen) (hbytes:(len+m)*re.bytes≤140737488355328) (hid:∀i∈f.d,(i==id)=false)
 (hk:Kn ((f.drop (·==id)).put o.dst (.ls id re.size 0 (len+m) (len+m))) ((h.map (O.drop (·==id))).set id (.cells (V.drops (·==id) (cs0++cs))))):Eff e n r o f h Kn Q:=by
 obtain⟨⟨ts,hop,ht0,ht1⟩,hti,hkind,htie,hzf,hzl,hpos⟩:=ha;refine aN ?_ (fun c=>by rw[hop];exact fun h=>by cases h);intro ok pl w ev hs hr;obtain⟨i,d,z,hT⟩:=aF hti;have hd:=hT.slice hkind;subst hd;obtain⟨ie,de,ze,hE⟩:=aF htie;obtain⟨rx,ix,dx,zx,hX,hxi⟩:=Ak hst;have hxv:=(hr x (by simp[hop,Op.operands,Call.operands])).sv hxc;have hyv:=(hr y (by simp[hop,Op.operands,Call.operands])).sv hyc;have hx':=hxv;rw[hx]at hx';obtain⟨olds,ho1,ho2,ho3,ho4⟩:=jk (k:=re.size) (n:=len) (cs:=cs0) hs hx' (by
  have:bH h id=cs0:=by simp[bH,hc]
  simp only[iL,this];rw[if_pos ⟨trivial,by omega⟩];simp only[List.drop_zero];rw[List.take_of_length_le (by omega)]) rfl
 obtain⟨news,hn1,hn2,hn3,hn4⟩:=jk hs hyv hy hyf;simp only[VRel]at hx';obtain⟨base,cp,hbase,hcap,hlen,hmax,hpl⟩:=hx';have hol:=ho3.length;have hnl:=hn3.length;have hidl:id<h.length:=(List.getElem?_eq_some_iff.1 hc).1;by_cases hroom:len+m≤cp
 ·rcases hpl with hcp | ⟨b,arr,el',fz,hb,hbs,harr,hsz⟩
  ·have hm0 : m = 0 := by omega
   have hl0:len=0:=by omega
   subst hm0;subst hl0;subst hcp;have hcs:cs=[]:=List.length_eq_zero_iff.1 (by omega);have hcs0:cs0=[]:=List.length_eq_zero_iff.1 (by omega);subst hcs;subst hcs0;have hnews:news.toList=[]:=List.length_eq_zero_iff.1 (by omega);have hrun:=dS (P:=e.P) (w:=w) (ty:=o.type) ht0 ht1 hT hE hX hxi base 0 0 0 (ev y) news (fun w'=>hn1 w') (hn2 w (fun _=>rfl)) (by omega) (w':=w) (by
    cases base with
    | none=>exact .inl ⟨rfl,rfl⟩
    | some a=>exact .inr ⟨a,rfl,by rw[hnews];rfl⟩)
   obtain⟨hs',kk⟩:=hs.kill (·==id);have hset:(h.map (O.drop (·==id))).set id (.cells (V.drops (·==id) ([]++[])))=h.map (O.drop (·==id)):=by
    apply List.ext_getElem?;intro j;by_cases hj:j=id
    ·subst hj;rw[List.getElem?_set_self (by simpa using hidl),List.getElem?_map,hc];simp[O.drop,V.drops]
    ·rw[List.getElem?_set_ne (Ne.symm hj)]
   rw[hset]at hk;refine⟨(·==id),_,_,pl,w,.slice base 0 0,.inl ?_,hs',kk,?_,hid,hk⟩
   ·rw[bJ hop,hbase];exact fU hrun
   ·simp only[VRel];exact⟨base,0,rfl,by omega,by omega,by simp[maxLen],.inl rfl⟩
  ·subst hbs;have hb':pl id=some b:=hb;obtain⟨ob,hob,hat⟩:=hs.obj id b hb';rw[hc]at hob;cases hob;obtain⟨arr2,el2,fz2,g1,g2,g3,g4⟩:=hat;have harr':w.heap[b]? =some (.cells arr el' fz):=harr;have g1':w.heap[b]? =some (.cells arr2 el2 fz2):=g1;rw[harr']at g1';cases g1';have hfit:cs0.length+news.toList.length≤arr.size:=by
    rw[hnl,hcl,hn4,←Nat.add_mul];have:=Nat.mul_le_mul_right re.size hroom;omega
   have hfit':cs0.length+news.size≤arr.size:=by simpa using hfit
   have hnsz:news.size=cs.length:=by simpa using hnl
   have hst':=eQ (P:=e.P) (o:=cs0.length) harr' g2 hfit (hn3.oneCells h1);have hw:=fH (b:=b) news.toList cs0.length arr w harr' hfit;obtain⟨w',hw'⟩:∃w',w.setCells b cs0.length news.toList=w':=⟨_,rfl⟩;rw[hw']at hst' hw;have hrun:=dS (P:=e.P) (w:=w) (ty:=o.type) ht0 ht1 hT hE hX hxi (some ⟨b,0,none⟩) len cp m (ev y) news (fun w'=>hn1 w') (hn2 w (fun _=>rfl)) hroom (w':=w') (.inr ⟨_,rfl,by
    rw[dD,Nat.zero_add,←hcl];exact hst'⟩)
   have hkk:Keeps (·==id) pl w (fun i=>if i=id then some b else pl i) w':=by
    refine⟨hw.os,hw.tape,hw.output,by rw[hw.size];exact Nat.le_refl _,fun b' hb1 hn'=>hw.same b' (fun he=>hn' id (he▸hb')),fun i b' hi=> ?_,fun i b' hp hi=> ?_,fun b' a1 e1 z1 hb1=> ?_⟩
    ·split at hi
     ·cases hi;exact .inl ⟨id,hb'⟩
     ·exact .inl ⟨i,hi⟩
    ·have : i ≠ id := by simpa using hp
     rw[if_neg this];exact hi
    ·by_cases he : b' = b
     ·subst he;rw[harr']at hb1;cases hb1;exact⟨_,_,hw.here,by simp;omega⟩
     ·exact⟨a1,z1,(hw.same b' he).trans hb1,rfl⟩
   have hsize':(arr.toList.take cs0.length++news.toList++arr.toList.drop (cs0.length+news.toList.length)).toArray.size=arr.size:=by simp;omega
   have hs' := hs.replace hidl (nb := b) (w' := w') (o' := .cells (V.drops (· == id) (cs0 ++ cs))) hkk (by rw [hw.size];exact aP harr') (fun j hj hjb => hj (hs.inj j id b hjb hb'))
    (fun j b' hj hjb=>hw.same b' (fun he=>hj (hs.inj j id b (he▸hjb) hb'))) (by
     refine⟨_,el',fz,hw.here,fun j hj=>g2 j (by omega),?_,?_⟩
     ·rw[aV,hsize',List.length_append];omega
     ·have hq : (V.drops (· == id) (cs0 ++ cs)).length = cs0.length + news.toList.length := by rw [aV,List.length_append];omega
      rw[hq];have e1:(arr.toList.take cs0.length++news.toList++arr.toList.drop (cs0.length+news.toList.length)).toArray.toList.take (cs0.length+news.toList.length)=arr.toList.take cs0.length++news.toList:=by
       have e2:(arr.toList.take cs0.length++news.toList).length=cs0.length+news.toList.length:=by simp only[List.length_append,List.length_take,Array.length_toList];omega
       show(arr.toList.take cs0.length++news.toList++arr.toList.drop (cs0.length+news.toList.length)).take (cs0.length+news.toList.length)=_;rw[List.take_append_of_le_length (by omega),List.take_of_length_le (by omega)]
      rw[e1];exact VList.mdrop hkk.cext _ _ (g4.append hn3))
   refine⟨(·==id),_,_,_,w',.slice (some ⟨b,0,none⟩) (len+m) cp,.inl ?_,hs',hkk,?_,hid,hk⟩
   ·rw[bJ hop,hbase];exact fU hrun
   ·simp only[VRel];exact⟨_,cp,rfl,hroom,hroom,hmax,.inr ⟨b,_,el',fz,by simp[cx],rfl,hw.here,by rw[hsize'];omega⟩⟩
 ·have hrun := gY (P := e.P) (w := w) (ty := o.type) ht0 ht1 hT hE hX hxi base len cp m (ev y) olds news (fun w' => hn1 w') (by rw [← hbase];exact ho2 _ (fun _ => rfl)) (hn2 _ (fun _ => rfl)) (by omega) hbig hbytes;obtain ⟨cap',hcap'⟩ : ∃ cap',grownCap w (len + m) cp el = cap' := ⟨_,rfl⟩;have hge := grownCap_ge w (len + m) cp el;have hle := grownCap_le_maxLen w (len + m) cp el hbig;rw [hcap'] at hrun hge hle;obtain ⟨arr,harr⟩ : ∃ arr,olds ++ news ++ Builtin.zeroCells ze.cells (cap' - (len + m)) = arr := ⟨_,rfl⟩;rw [harr] at hrun;have hzs : ze.cells.size = re.size := by have hzr := (cZ (cx ok pl w) ze).vc (by rw [← hE.zv];exact hzf);have := hzr.length;rw [← hE.zv,hzl] at this;simpa using this
  have hasz:arr.size=cap'*re.size:=by rw[←harr];simp only[Array.size_append,size_zeroCells,hzs];simp only[Array.length_toList]at hol hnl;rw[hol,hnl,ho4,hn4,←Nat.add_mul,←Nat.add_mul];congr 1;omega
  have hlist:arr.toList.take (cs0++cs).length=olds.toList++news.toList:=by rw[←harr];simp only[Array.toList_append];rw[List.take_append_of_le_length (by simp only[List.length_append];omega),List.take_of_length_le (by simp only[List.length_append];omega)]
  have x2:=(WExt.drew w).trans (WExt.alloc w.drew (.cells arr el));have hhere:(w.drew.alloc (.cells arr el)).heap[w.heap.size]? =some (.cells arr el):=World.alloc_heap_new w.drew (.cells arr el);have hkk:Keeps (·==id) pl w (fun i=>if i=id then some w.heap.size else pl i) (w.drew.alloc (.cells arr el)):=by
   refine⟨rfl,rfl,rfl,x2.size,fun b' hb1 _=>x2.same b' hb1,fun i b' hi=> ?_,fun i b' hp hi=> ?_,fun b' a1 e1 z1 hb1=>⟨a1,z1,(x2.same b' (aP hb1)).trans hb1,rfl⟩⟩
   ·split at hi
    ·cases hi;exact .inr (Nat.le_refl _)
    ·exact .inl ⟨i,hi⟩
   ·have : i ≠ id := by simpa using hp
    rw[if_neg this];exact hi
  have hs' := hs.replace hidl (nb := w.heap.size) (o' := .cells (V.drops (· == id) (cs0 ++ cs))) hkk (by simp) (fun j hj hjb => by have := hs.lt j _ hjb;omega)
   (fun j b' hj hjb=>x2.same b' (hs.lt j b' hjb)) (by
    refine⟨arr,el,(0,0),hhere,fun j _=>by simp,?_,?_⟩
    ·rw[aV,hasz,List.length_append,ho4,hn4,←Nat.add_mul];exact Nat.mul_le_mul_right _ hge
    ·rw[aV,hlist];exact VList.mdrop hkk.cext _ _ (ho3.append hn3))
  refine⟨(·==id),_,_,_,_,.slice (some ⟨w.heap.size,0,none⟩) (len+m) cap',.inl ?_,hs',hkk,?_,hid,hk⟩
  ·rw[bJ hop,hbase];exact fU hrun
  ·simp only[VRel];exact⟨_,cap',rfl,hge,hge,hle,.inr ⟨w.heap.size,arr,el,(0,0),by simp[cx],rfl,hhere,by rw[hasz];omega⟩⟩
theorem uK {x y : Operand} {t xt el : TypeId} {q re : TI} (ha : IsAppend e o x y t xt el q re) (hxc : (f.ev e x).sc) (hyc : (f.ev e y).sc)
 {id off len cap:Nat} (hx:(f.ev e x).sv= .ls id re.size off len cap) {cs0:List V} (hc:h[id]? =some (.cells cs0))
 (hst:yK e.P xt el (f.ev e y).sv=true) {m:Nat} {cs:List V} (hy:iL h re.size (f.ev e y).sv=some (m,cs)) (hyf:ng re.size (f.ev e y).sv=true) (h1:bF cs=true)
 (hcap:len+m≤cap) (hpos':0<cap) (hin:off+len*re.size+cs.length≤cs0.length)
 (hk:Kn (f.put o.dst (.ls id re.size off (len+m) cap)) (h.set id (.cells (bT cs0 (off+len*re.size) cs)))):Eff e n r o f h Kn Q:=by
 obtain⟨⟨ts,hop,ht0,ht1⟩,hti,hkind,htie,hzf,hzl,hpos⟩:=ha;refine aN ?_ (fun c=>by rw[hop];exact fun h=>by cases h);intro ok pl w ev hs hr;obtain⟨i,d,z,hT⟩:=aF hti;have hd:=hT.slice hkind;subst hd;obtain⟨ie,de,ze,hE⟩:=aF htie;obtain⟨rx,ix,dx,zx,hX,hxi⟩:=Ak hst;have hxv:=(hr x (by simp[hop,Op.operands,Call.operands])).sv hxc;have hyv:=(hr y (by simp[hop,Op.operands,Call.operands])).sv hyc;have hx':=hxv;rw[hx]at hx';obtain⟨news,hn1,hn2,hn3,hn4⟩:=jk hs hyv hy hyf;simp only[VRel]at hx';obtain⟨base,cp,hbase,hcapc,hlen,hmax,hpl⟩:=hx';rcases hpl with hcp | ⟨b,arr,el',fz,hb,hbs,harr,hsz⟩
 ·omega
 ·subst hbs;have hb':pl id=some b:=hb;obtain⟨w',hst',hs',kk⟩:=oW (off:=off+len*re.size) hs hb' hn3 h1 hc (by omega);have hrun:=dS (P:=e.P) (w:=w) (ty:=o.type) ht0 ht1 hT hE hX hxi (some ⟨b,off,none⟩) len cp m (ev y) news (fun w'=>hn1 w') (hn2 w (fun _=>rfl)) (by omega) (w':=w') (.inr ⟨_,rfl,by
   rw[dD];exact hst'⟩)
  obtain⟨arr',fz',g1,g2⟩:=kk.row b arr el' fz harr;refine⟨fun _=>false,_,_,pl,w',.slice (some ⟨b,off,none⟩) (len+m) cp,.inl ?_,hs',kk,?_,fun _ _=>rfl,by simpa using hk⟩
  ·rw[bJ hop,hbase];exact fU hrun
  ·simp only[VRel];exact⟨_,cp,rfl,hcapc,by omega,hmax,.inr ⟨b,arr',el',fz',hb,rfl,g1,by omega⟩⟩
end
inductive AEnd where
 | ret (v:V)
 | pan (v:V)
def EQ (c : C) : AEnd → Ending → Prop
 | .ret v,.returned x=>VRel c v x
 | .pan v,.panicked ch=>∃x,ch=[{v:=x,recovered:=false}]∧VRel c v x
 | _,_=>False
def ah (e:E) (g:FuncId) (args:List V) (h:H) (R:AEnd→H→(Nat→Bool)→Prop):Prop :=
 ∀ok pl w vs,HSim e ok pl h w→VList (cx ok pl w) args vs →
  Calls e.P g vs.toArray w fun en w'=>∃p pl' h' ae,HSim e ok pl' h' w'∧Keeps p pl w pl' w'∧EQ (cx ok pl' w') ae en∧R ae h' p
def Ev (e:E) (g:FuncId) (args:List V) (r:V):Prop :=
 ∀ok w vs,HSim e ok (fun _=>none) [] w→VList (cx ok (fun _=>none) w) args vs →
  Calls e.P g vs.toArray w fun en w'=>∃x,en= .returned x∧WExt w w'∧VRel (cx ok (fun _=>none) w') r x
theorem ah.mono {e:E} {g:FuncId} {args:List V} {h:H} {R R':AEnd→H→(Nat→Bool)→Prop} (hc:ah e g args h R) (hr:∀ae h' p,R ae h' p→R' ae h' p):ah e g args h R' :=
 fun ok pl w vs hs hv=>(hc ok pl w vs hs hv).mono fun en w' ⟨p,pl',h',ae,h1,h2,h3,h4⟩=>⟨p,pl',h',ae,h1,h2,h3,hr _ _ _ h4⟩
theorem nO (ok:Nat→Prop) (pl:Nat→Option Nat) (w:World):CExt (fun _=>false) (cx ok pl w).data (cx (fun b=>ok b∧∀i,pl i≠some b) (fun _=>none) w) :=
 ⟨fun b hb hok=>⟨⟨hok,fun i hi=>(by cases hi)⟩,rfl⟩,fun i b _ hi=>(by cases hi),fun b arr el fz hb=>⟨arr,fz,hb,rfl⟩⟩
theorem xA (ok:Nat→Prop) (pl:Nat→Option Nat) (w:World):CExt (fun _=>false) (cx (fun b=>ok b∧∀i,pl i≠some b) (fun _=>none) w) (cx ok pl w) :=
 ⟨fun b hb hok=>⟨hok.1,rfl⟩,fun i b _ hi=>(by cases hi),fun b arr el fz hb=>⟨arr,fz,hb,rfl⟩⟩
theorem HSim.toData {e : E} {ok : Nat → Prop} {pl : Nat → Option Nat} {h : H} {w : World} (hs : HSim e ok pl h w) : HSim e (fun b => ok b ∧ ∀ i,pl i ≠ some b) (fun _ => none) [] w where
 fresh b hb:=⟨hs.fresh b hb,fun i hi=>by have:=hs.lt i b hi;omega⟩
 lt i b hi:=by cases hi
 okl i b hi:=by cases hi
 inj i j b hi:=by cases hi
 obj i b hi:=by cases hi
 bare i o ho:=by simp at ho
 glob g v hg:=by
  have h1:=hs.glob g v hg;exact VRel.mono (nO ok pl w) _ _ (VRel.todata (.ip v) _ rfl h1)
 exa g cs hg:=Ub.next (nO ok pl w) (hs.exa g cs hg)
theorem Ev.run {e : E} {g : FuncId} {args : List V} {r : V} (hv : Ev e g args r) (hd : V.dats args = true) {ok : Nat → Prop} {pl : Nat → Option Nat} {h : H} {w : World} {vs : List Value}
 (hs:HSim e ok pl h w) (hl:VList (cx ok pl w) args vs):Calls e.P g vs.toArray w fun en w'=>∃x,en= .returned x∧WExt w w'∧VRel (cx ok pl w') r x :=
 (hv _ w vs hs.toData (VList.mono (nO ok pl w) _ _ (VList.todata _ _ hd hl))).mono fun en w' ⟨x,h1,h2,h3⟩ =>
  ⟨x,h1,h2,VRel.mono (xA ok pl w') _ _ h3⟩
theorem ah.ev {e:E} {g:FuncId} {args:List V} {r:V} {h:H} {R:AEnd→H→(Nat→Bool)→Prop} (hv:Ev e g args r) (hd:V.dats args=true) (hr:R (.ret r) h (fun _=>false)):ah e g args h R :=
 fun ok pl w vs hs hl=>(hv.run hd hs hl).mono fun en w' ⟨x,h1,h2,h3⟩=>⟨fun _=>false,pl,h,.ret r,hs.wext h2,h2.keeps hs,by rw[h1];exact h3,hr⟩
def ai (P:Program) (g:FuncId):Bool :=
 match P.funcs[g]? with
 | some fn => fn.body.isSome && !(fn.name == "runtime.NumGoroutine")
 | none=>false
theorem oz {P:Program} {g:FuncId} (h:ai P g=true) (args:Array Value) (w:World):(callFunc g args).run P w= .ok (.enter g args) w:=by
 unfold ai at h;split at h
 ·rename_i fn hfn;simp only[Bool.and_eq_true,Bool.not_eq_true']at h;unfold callFunc;have h2:¬(fn.body.isNone=true):=by
   cases hb:fn.body with
   | none=>rw[hb]at h;simp at h
   | some _=>simp
  simp only[Sem.run_bind,run_program,Result.andThen,hfn];rw[if_neg (by rw[h.2];simp),if_neg h2];rfl
 ·cases h
def lD (e:E) (ρ:Operand→V) (fx:Operand) (args:Array Operand):Option (FuncId×List V) :=
 match (ρ fx).sv with
 | .fn (.func g) first captured=>some (g,first++(args.toList.map fun x=>(ρ x).sv)++captured)
 | _=>none
def dQ (ρ:Operand→V) (fx:Operand) (args:Array Operand):Prop:=(ρ fx).sc∧je (args.toList.map ρ)
section
variable {e:E} {n:Nat} {r:Option Nat} {o:Oper} {f:Fr} {h:H} {Kn:Fr→H→Prop} {Q:XE→Fr→H→Prop}
theorem pX {ρ : Operand → V} {ok : Nat → Prop} {pl : Nat → Option Nat} {w : World} {fx : Operand} {args : Array Operand} {ts : Array TypeId} (hop : o.op = .call { callee := .value fx,args := args,argTypes := ts })
 {ev:Operand→Value} (hr:∀x∈o.op.operands,VRel (cx ok pl w) (ρ x) (ev x)) {g:FuncId} {vs:List V} (hon:lD e ρ fx args=some (g,vs)) (hsc:dQ ρ fx args) (hen:ai e.P g=true) :
 ∃xs:List Value,(execOp ev o).run e.P w= .ok (.enter g xs.toArray) w∧VList (cx ok pl w) vs xs:=by
 unfold lD at hon;split at hon
 ·rename_i g' first captured hfx
  cases hon;have h1:=(hr fx (by simp[hop,Op.operands,Call.operands])).sv hsc.1;rw[hfx]at h1;simp only[VRel]at h1;obtain⟨fs,cs,h2,h3,h4⟩:=h1;have h5:=(bZ (c:=cx ok pl w) (ρ:=ρ) (ev:=ev) args.toList fun x hx=>hr x (by simp[hop,Op.operands,Call.operands];exact .inr (Array.mem_toList_iff.1 hx))).sv hsc.2;rw[List.map_map]at h5;refine⟨fs.toList++args.toList.map ev++cs.toList,?_,(h3.append h5).append h4⟩;have:execOp ev o=(do let d ←resolve ev {callee:= .value fx,args:=args,argTypes:=ts} o.type;invoke d.target d.args):=by simp[execOp,hop]
  rw[this];have h6:(resolve ev {callee:= .value fx,args:=args,argTypes:=ts} o.type).run e.P w= .ok {target:= .fn (.func g) cs,args:=fs++args.map ev} w:=by
   simp[resolve,h2,Deferred.ofValue]
  simp only[Sem.run_bind,h6,Result.andThen,invoke];rw[oz hen]
  congr 2
  apply Array.ext';simp
 ·cases hon
theorem Oc {fx : Operand} {args : Array Operand} {ts : Array TypeId} (hop : o.op = .call { callee := .value fx,args := args,argTypes := ts }) {g : FuncId} {vs : List V}
 (hon:lD e (f.ev e) fx args=some (g,vs)) (hsc:dQ (f.ev e) fx args) (hen:ai e.P g=true)
 (hc:ah e g vs h fun ae h' p=>(∀i∈f.d,p i=false)∧match ae with
  | .ret v=>Kn ((f.drop p).put o.dst v) h'
  | .pan v=>Q (.pan v) (f.drop p) h'):Eff e n r o f h Kn Q:=by
 intro ok pl0 w0 pl w a s hd;obtain⟨xs,hrun,hl⟩:=pX (e:=e) hop (s.evs (o:=o)) hon hsc hen;refine⟨fun g _=>ig r g,?_⟩;rw[dO,Oper.semAt_eq r a.eval o (fun c=>by rw[hop];exact fun h=>by cases h),hrun];refine⟨fun hd'=>(by rw[jc]at hd';cases hd'),cu ((hc ok pl w xs s.hs hl).mono ?_)⟩;rintro en w' ⟨p,pl',h',ae,hs',k,hend,hp,hk⟩;cases ae with
 | ret v =>
  cases en with
  | returned x=>exact⟨pl',_,h',(s.next hs' k hp).put hd hend,hk⟩
  | panicked ch=>exact hend.elim
  | outgrown=>exact hend.elim
 | pan v =>
  cases en with
  | returned x=>exact hend.elim
  | panicked ch=>exact⟨pl',_,h',.pan v,s.next hs' k hp,hend,hk⟩
  | outgrown=>exact hend.elim
theorem AQ.call {fx : Operand} {args : Array Operand} {ts : Array TypeId} (hop : o.op = .call { callee := .value fx,args := args,argTypes := ts }) {ρ : Operand → V} {g : FuncId} {vs : List V} {rv : V}
 (hon:lD e ρ fx args=some (g,vs)) (hsc:dQ ρ fx args) (hen:ai e.P g=true) (hd:V.dats vs=true) (hv:Ev e g vs rv):AQ e o ρ h rv:=by
 intro ok pl w ev hs hr;obtain⟨xs,hrun,hl⟩:=pX (e:=e) hop hr hon hsc hen;rw[hrun];exact hv.run hd hs hl
def yL : V → Bool → Option Bool
 | .bool b,true=>some b
 | .bool b,false=>some (!b)
 | .grd false _,_=>some false
 | .grd true v,want=>yL v want
 | .tup [],_=>some false
 | _,_=>none
def gd (ops:Array Oper) (f:Fr) (o:Oper):Option Bool :=
 match o.guard with
 | none=>some true
 | some (j,want)=>match (ops[j]?).bind (·.dst)with
  | some d=>yL (f.t d) want
  | none=>some false
theorem JH {c : C} : ∀ {v : V} {want g : Bool} {x : Value},VRel c v x → yL v want = some g → ((match x with | .bool b => some b | _ => none) == some want) = g
 | .bool b,true,g,x,h,hg=>by simp only[VRel]at h;subst h;simp only[yL,Option.some.injEq]at hg;subst hg;cases b<;>rfl
 | .bool b,false,g,x,h,hg=>by simp only[VRel]at h;subst h;simp only[yL,Option.some.injEq]at hg;subst hg;cases b<;>rfl
 | .grd true v,want,g,x,h,hg=>by simp only[VRel]at h;simp only[yL]at hg;exact JH (h.1 trivial) hg
 | .grd false v,want,g,x,h,hg=>by simp only[VRel]at h;rw[h.2 trivial];simp only[yL,Option.some.injEq]at hg;simp[undef,←hg]
 | .tup [],want,g,x,h,hg=>by simp only[VRel,VList]at h;obtain⟨cs,rfl,_⟩:=h;simp only[yL,Option.some.injEq]at hg;subst hg;rfl
 | .tup (_::_),want,_,_,_,hg=>by simp[yL]at hg
 | .any,w,_,_,_,hg | .int _ _,w,_,_,_,hg | .str _,w,_,_,_,hg | .nilp,w,_,_,_,hg | .lp _ _,w,_,_,_,hg | .ip _,w,_,_,_,hg | .nils,w,_,_,_,hg
 | .ls _ _ _ _ _,w,_,_,_,hg | .is _ _ _,w,_,_,_,hg | .nilm,w,_,_,_,hg | .lm _,w,_,_,_,hg | .im _ _,w,_,_,_,hg | .fn _ _ _,w,_,_,_,hg
 | .yd _,w,_,_,_,hg | .nilf,w,_,_,_,hg | .iface _ _,w,_,_,_,hg | .nili,w,_,_,_,hg | .agg _,w,_,_,_,hg=>by cases w<;>simp[yL]at hg
theorem qY {ops:Array Oper} {c:C} {a:Act} (hv:∀i,VRel c (f.t i) (a.tmps.getD i undef)) {g:Bool} (hg:gd ops f o=some g):Region.wanted o (yielded ops a.tmps)=g:=by
 unfold gd at hg;unfold Region.wanted;cases ho:o.guard with
 | none=>rw[ho]at hg;simpa using hg
 | some jw =>
  obtain⟨j,want⟩:=jw;rw[ho]at hg;dsimp only at hg ⊢;unfold yielded;cases hd:(ops[j]?).bind (·.dst)with
  | none=>rw[hd]at hg;simp at hg;subst hg;rfl
  | some d =>
   rw[hd]at hg;have h1:=JH (hv d) hg;rw[←h1];cases ht:a.tmps[d]? with
   | none =>
    have h2:a.tmps.getD d undef=undef:=by rw[Array.getD_eq_getD_getElem?,ht];rfl
    rw[h2];simp[undef,ht]
   | some x =>
    have h2:a.tmps.getD d undef=x:=by rw[Array.getD_eq_getD_getElem?,ht];rfl
    rw[h2];simp only[Option.bind_some,ht];cases x<;>rfl
def V.guard (g:Bool) (v:V):V:=match g with | true=>v | false=> .grd false v
theorem Am (v:V):V.guard true v=v:=rfl
theorem Ha (g:Bool) (v:V):(V.guard g v).sv=v.sv:=by cases g<;>simp[V.guard,V.sv]
theorem He (g:Bool) (v:V):(V.guard g v).sc=(g=true∧v.sc):=by cases g<;>simp[V.guard,V.sc]
theorem Ap (g b want:Bool):yL (V.guard g (.bool b)) want=some (g&&(b==want)):=by cases g<;>cases want<;>cases b<;>rfl
def PV.go (g:Bool) (q:Prop×V) (d:Option Tmp) (Kn:Fr→H→Prop) (f:Fr) (h:H):Prop:=(g=true→q.1)∧Kn (f.put d (V.guard g q.2)) h
theorem Hf (c:Prop) (v:V) (d:Option Tmp) (Kn:Fr→H→Prop) (f:Fr) (h:H):PV.go true (c,v) d Kn f h=(c∧Kn (f.put d v) h):=by simp[PV.go,V.guard]
theorem DD (q:Prop×V) (d:Option Tmp) (Kn:Fr→H→Prop) (f:Fr) (h:H):PV.go false q d Kn f h=Kn (f.put d (.grd false q.2)) h:=by simp[PV.go,V.guard]
theorem JI (g:Bool) (c:Prop) (v:V) (d:Option Tmp) (Kn:Fr→H→Prop) (f:Fr) (h:H):PV.go g (c,v) d Kn f h=((g=true→c)∧Kn (f.put d (V.guard g v)) h):=rfl
theorem jM {c:C} {g:Bool} {v:V} {x:Value} (h1:g=true→VRel c v x) (h2:g=false→x=undef):VRel c (V.guard g v) x:=by
 cases g
 ·simp only[V.guard,VRel];exact⟨h1,fun _=>h2 rfl⟩
 ·exact h1 rfl
end
end Go.Abs
