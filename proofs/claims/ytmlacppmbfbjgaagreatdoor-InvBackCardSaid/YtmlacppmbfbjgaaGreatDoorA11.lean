/- Lemmas for this claim, part A11: each holds under what it names. -/
import Derived.Test.YtmlacppmbfbjgaaGreatDoorA10
set_option linter.unusedVariables false
set_option linter.unusedSimpArgs false
namespace Go.Abs
open Go Go.RowKit
section
variable {P:Program} {w:World}
theorem tu {ts : Array TypeId} {t xt ty el : TypeId} {r re rx : TI} {i ie ix : TypeInfo} {de : TypeDesc} {z ze zx : Value} {kx : IntKind} (h0 : ts[0]? = some t) (h1 : ts[1]? = some xt)
 (hT:TIs P t r i (.slice el) z) (hE:TIs P el re ie de ze) (hX:TIs P xt rx ix (.int kx) zx) (hsz:re.size=1)
 (base:Option Addr) (sLen sCap m:Nat) (olds:Array Value)
 (ho:(Builtin.firstCells re.size sLen (.slice base sLen sCap)).run P w.drew= .ok olds w.drew) (hm1:m≤1000000000000) (hle:sLen≤sCap)
 (hg:sCap<sLen+m) (h63:sLen+m≤maxLen) (hb:(sLen+m)*re.bytes≤140737488355328) :
 (Builtin.append_ ts ty #[.slice base sLen sCap,.int .i64 m]).run P w =
  .ok (.slice (some ⟨w.heap.size,0,none⟩) (sLen + m) (grownCap w (sLen + m) sCap el))
   (w.drew.alloc (.cells (olds++Builtin.zeroCells ze.cells m++Builtin.zeroCells ze.cells (grownCap w (sLen+m) sCap el-(sLen+m))) el)):=by
 have hn':¬(sLen+m≤sCap):=by omega
 have h48':¬(281474976710656<Builtin.nextslicecap (sLen+m) sCap*re.bytes):=by have:=growslice_fits hg hb;omega
 have hw:IntKind.i64.wrap (m:Int)=m:=aX (by omega) (by omega);have hbytes:(typeInfo el).run P w= .ok ie w:=by simp[typeInfo,hE.info]
 have hneg:¬((m:Int)<0):=by omega
 have hbig:¬((281474976710656:Int)<(m:Int)*ie.bytes):=by
  have h1:m*re.bytes≤(sLen+m)*re.bytes:=Nat.mul_le_mul_right _ (by omega);have h2:((m*re.bytes:Nat):Int)≤140737488355328:=by omega
  rw[←hE.bytes];rw[Int.natCast_mul]at h2;omega
 have h63':¬(9223372036854775807<((sLen:Int)+(m:Int))):=by simp only[maxLen]at h63;omega
 unfold Builtin.append_;simp only[h0,h1,List.getElem?_toArray,List.getElem?_cons_zero,List.getElem?_cons_succ,Sem.run_bind,hT.run_und,Result.andThen,hE.run_size,hX.run_und,Sem.run_pure];have hm:m≠0:=by omega
 rw[hsz]at ho;simp[asInt,asIntOf,hw,hneg,hbig,hbytes,Result.andThen,hn',h63',hE.bytes▸h48',Question.forced,ho,hE.run_zero,newRow,grownCap,typeInfo,hE.info,hsz,hm]
theorem ny {ts : Array TypeId} {t xt ty el : TypeId} {r re rx : TI} {i ie ix : TypeInfo} {de : TypeDesc} {z ze zx : Value} {kx : IntKind} (h0 : ts[0]? = some t) (h1 : ts[1]? = some xt)
 (hT:TIs P t r i (.slice el) z) (hE:TIs P el re ie de ze) (hX:TIs P xt rx ix (.int kx) zx) (hsz:re.size=1)
 (base:Option Addr) (sLen sCap m:Nat) (hm1:m≤1000000000000) (hb:(sLen+m)*re.bytes≤140737488355328) (hg:sLen+m≤sCap) {w':World}
 (hs:(base=none∧w'=w)∨∃a,base=some a∧(storeCells (a.add (sLen*re.size)) (Builtin.zeroCells ze.cells m).toList).run P w= .ok () w') :
 (Builtin.append_ ts ty #[.slice base sLen sCap,.int .i64 m]).run P w= .ok (.slice base (sLen+m) sCap) w':=by
 have hw:IntKind.i64.wrap (m:Int)=m:=aX (by omega) (by omega);have hbytes:(typeInfo el).run P w= .ok ie w:=by simp[typeInfo,hE.info]
 have hneg:¬((m:Int)<0):=by omega
 have hbig:¬((281474976710656:Int)<(m:Int)*ie.bytes):=by
  have h1:m*re.bytes≤(sLen+m)*re.bytes:=Nat.mul_le_mul_right _ (by omega);have h2:((m*re.bytes:Nat):Int)≤140737488355328:=by omega
  rw[←hE.bytes];rw[Int.natCast_mul]at h2;omega
 unfold Builtin.append_;simp only[h0,h1,List.getElem?_toArray,List.getElem?_cons_zero,List.getElem?_cons_succ,Sem.run_bind,hT.run_und,Result.andThen,hE.run_size,hX.run_und,Sem.run_pure];by_cases hm:m=0
 ·subst hm;have hz0 : Builtin.zeroCells ze.cells 0 = #[] := by simp [Builtin.zeroCells]
  have hw0:IntKind.i64.wrap 0=0:=by decide
  rw[hz0]at hs;rcases hs with⟨rfl,rfl⟩ | ⟨a,rfl,hs⟩
  ·simp[asInt,asIntOf,hw0,hbytes,Result.andThen,show sLen≤sCap by omega]
  ·have hs':(storeCells (a.add (sLen*re.size)) []).run P w= .ok () w':=hs;simp[asInt,asIntOf,hw0,hbytes,Result.andThen,show sLen≤sCap by omega,hs']
 ·rcases hs with ⟨rfl,rfl⟩ | ⟨a,rfl,hs⟩
  ·simp[asInt,asIntOf,hw,hneg,hbig,hbytes,Result.andThen,hg,hE.run_zero,hsz,hm]
  ·simp[asInt,asIntOf,hw,hneg,hbig,hbytes,Result.andThen,hg,hE.run_zero,hsz,hm]at hs ⊢;simp[hs,Result.andThen]
end
section
variable {e:E} {n:Nat} {r:Option Nat} {o:Oper} {f:Fr} {h:H} {Kn:Fr→H→Prop} {Q:XE→Fr→H→Prop}
theorem nz {x y : Operand} {t xt el : TypeId} {q re : TI} (ha : IsAppend e o x y t xt el q re) (hxc : (f.ev e x).sc) (hyc : (f.ev e y).sc)
 {id len cap:Nat} (hx:(f.ev e x).sv= .ls id re.size 0 len cap) {cs0:List V} (hc:h[id]? =some (.cells cs0)) (hcl:cs0.length=len*re.size)
 {m:Nat} (hy:(f.ev e y).sv= .int .i64 m) {rx:TI} {kx:IntKind} (hxt:Abs.ti e.P xt=some rx) (hkx:rx.kind= .int kx) (hm1:m≤1000000000000) (hs1:re.size=1) {zv:V} (hzv:re.zero.vc=[zv]) {cs:List V} (hcs:cs=List.replicate m zv) (h1:bF cs=true)
 (hbig:len+m≤maxLen) (hbytes:(len+m)*re.bytes≤140737488355328) (hid:∀i∈f.d,(i==id)=false)
 (hk:Kn ((f.drop (·==id)).put o.dst (.ls id re.size 0 (len+m) (len+m))) ((h.map (O.drop (·==id))).set id (.cells (V.drops (·==id) (cs0++cs))))):Eff e n r o f h Kn Q:=by
 obtain⟨⟨ts,hop,ht0,ht1⟩,hti,hkind,htie,hzf,hzl,hpos⟩:=ha;refine aN ?_ (fun c=>by rw[hop];exact fun h=>by cases h);intro ok pl w ev hs hr;obtain⟨i,d,z,hT⟩:=aF hti;have hd:=hT.slice hkind;subst hd;obtain⟨ie,de,ze,hE⟩:=aF htie;obtain⟨ix,dx,zx,hX⟩:=aF hxt;have hdx:=hX.int hkx;subst hdx;have hxv:=(hr x (by simp[hop,Op.operands,Call.operands])).sv hxc;have hyv:=(hr y (by simp[hop,Op.operands,Call.operands])).sv hyc;have hx':=hxv;rw[hx]at hx';obtain⟨olds,ho1,ho2,ho3,ho4⟩:=jk (k:=re.size) (n:=len) (cs:=cs0) hs hx' (by
  have:bH h id=cs0:=by simp[bH,hc]
  simp only[iL,this];rw[if_pos ⟨trivial,by omega⟩];simp only[List.drop_zero];rw[List.take_of_length_le (by omega)]) rfl
 rw[hy]at hyv;simp only[VRel]at hyv;have hzr:=(cZ (cx ok pl w) ze).vc (by rw[←hE.zv];exact hzf);rw[←hE.zv,hzv]at hzr;obtain⟨zc,hzc,hzrel⟩:∃zc,ze.cells.toList=[zc]∧VRel (cx ok pl w) zv zc:=by
  simp only[VList]at hzr;obtain⟨y,ys,h1,h2,rfl⟩:=hzr;exact⟨y,h1,h2⟩
 have hvz:∀k,VList (cx ok pl w) (List.replicate k zv) (List.replicate k zc):=by
  intro k
  induction k with
  | zero=>simp[VList]
  | succ k ih=>simp only[List.replicate_succ,VList];exact⟨_,_,rfl,hzrel,ih⟩
 obtain⟨news,hnews0⟩:∃news,news=Builtin.zeroCells ze.cells m:=⟨_,rfl⟩;have hnz:news.toList=List.replicate m zc:=by
  have:ze.cells=#[zc]:=Array.toList_inj.1 hzc;rw[hnews0];apply List.ext_getElem?;intro j;simp[Builtin.zeroCells,this,List.getElem?_replicate];by_cases hj:j<m
  ·rw[List.getElem?_range hj,if_pos hj];simp[Nat.mod_one]
  ·rw[List.getElem?_eq_none (by simp;omega),if_neg hj];rfl
 have hn3:VList (cx ok pl w) cs news.toList:=by rw[hcs,hnz];exact hvz m
 have hn4:cs.length=m*re.size:=by rw[hcs,hs1];simp
 simp only[VRel]at hx';obtain⟨base,cp,hbase,hcap,hlen,hmax,hpl⟩:=hx';have hol:=ho3.length;have hnl:=hn3.length;have hidl:id<h.length:=(List.getElem?_eq_some_iff.1 hc).1;by_cases hroom:len+m≤cp
 ·rcases hpl with hcp | ⟨b,arr,el',fz,hb,hbs,harr,hsz⟩
  ·have hm0 : m = 0 := by omega
   have hl0:len=0:=by omega
   subst hm0;subst hl0;subst hcp;have hcs:cs=[]:=List.length_eq_zero_iff.1 (by omega);have hcs0:cs0=[]:=List.length_eq_zero_iff.1 (by omega);subst hcs;subst hcs0;have hnews:news.toList=[]:=List.length_eq_zero_iff.1 (by omega);have hrun:=ny (P:=e.P) (w:=w) (ty:=o.type) ht0 ht1 hT hE hX hs1 base 0 0 0 hm1 (by omega) (by omega) (w':=w) (by
    cases base with
    | none=>exact .inl ⟨rfl,rfl⟩
    | some a=>exact .inr ⟨a,rfl,by rw[←hnews0,hnews];rfl⟩)
   obtain⟨hs',kk⟩:=hs.kill (·==id);have hset:(h.map (O.drop (·==id))).set id (.cells (V.drops (·==id) ([]++[])))=h.map (O.drop (·==id)):=by
    apply List.ext_getElem?;intro j;by_cases hj:j=id
    ·subst hj;rw[List.getElem?_set_self (by simpa using hidl),List.getElem?_map,hc];simp[O.drop,V.drops]
    ·rw[List.getElem?_set_ne (Ne.symm hj)]
   rw[hset]at hk;refine⟨(·==id),_,_,pl,w,.slice base 0 0,.inl ?_,hs',kk,?_,hid,hk⟩
   ·rw[bJ hop,hbase,hyv];exact fU hrun
   ·simp only[VRel];exact⟨base,0,rfl,by omega,by omega,by simp[maxLen],.inl rfl⟩
  ·subst hbs;have hb':pl id=some b:=hb;obtain⟨ob,hob,hat⟩:=hs.obj id b hb';rw[hc]at hob;cases hob;obtain⟨arr2,el2,fz2,g1,g2,g3,g4⟩:=hat;have harr':w.heap[b]? =some (.cells arr el' fz):=harr;have g1':w.heap[b]? =some (.cells arr2 el2 fz2):=g1;rw[harr']at g1';cases g1';have hfit:cs0.length+news.toList.length≤arr.size:=by
    rw[hnl,hcl,hn4,←Nat.add_mul];have:=Nat.mul_le_mul_right re.size hroom;omega
   have hfit':cs0.length+news.size≤arr.size:=by simpa using hfit
   have hnsz:news.size=cs.length:=by simpa using hnl
   have hst':=eQ (P:=e.P) (o:=cs0.length) harr' g2 hfit (hn3.oneCells h1);have hw:=fH (b:=b) news.toList cs0.length arr w harr' hfit;obtain⟨w',hw'⟩:∃w',w.setCells b cs0.length news.toList=w':=⟨_,rfl⟩;rw[hw']at hst' hw;have hrun:=ny (P:=e.P) (w:=w) (ty:=o.type) ht0 ht1 hT hE hX hs1 (some ⟨b,0,none⟩) len cp m hm1 hbytes hroom (w':=w') (.inr ⟨_,rfl,by
    rw[dD,Nat.zero_add,←hcl,←hnews0];exact hst'⟩)
   have hkk:Keeps (·==id) pl w (fun i=>if i=id then some b else pl i) w':=by
    refine⟨hw.os,hw.tape,hw.output,by rw[hw.size];exact Nat.le_refl _,fun b' hb1 hn'=>hw.same b' (fun he=>hn' id (he▸hb')),fun i b' hi=> ?_,fun i b' hp hi=> ?_,fun b' a1 e1 z1 hb1=> ?_⟩
    ·split at hi
     ·cases hi;exact .inl ⟨id,hb'⟩
     ·exact .inl ⟨i,hi⟩
    ·have : i ≠ id := by simpa using hp
     rw[if_neg this];exact hi
    ·by_cases he : b' = b
     ·subst he;rw[harr']at hb1;cases hb1;exact⟨_,_,hw.here,by simp;omega⟩
     ·exact⟨a1,z1,(hw.same b' he).trans hb1,rfl⟩
   have hsize':(arr.toList.take cs0.length++news.toList++arr.toList.drop (cs0.length+news.toList.length)).toArray.size=arr.size:=by simp;omega
   have hs' := hs.replace hidl (nb := b) (w' := w') (o' := .cells (V.drops (· == id) (cs0 ++ cs))) hkk (by rw [hw.size];exact aP harr') (fun j hj hjb => hj (hs.inj j id b hjb hb'))
    (fun j b' hj hjb=>hw.same b' (fun he=>hj (hs.inj j id b (he▸hjb) hb'))) (by
     refine⟨_,el',fz,hw.here,fun j hj=>g2 j (by omega),?_,?_⟩
     ·rw[aV,hsize',List.length_append];omega
     ·have hq : (V.drops (· == id) (cs0 ++ cs)).length = cs0.length + news.toList.length := by rw [aV,List.length_append];omega
      rw[hq];have e1:(arr.toList.take cs0.length++news.toList++arr.toList.drop (cs0.length+news.toList.length)).toArray.toList.take (cs0.length+news.toList.length)=arr.toList.take cs0.length++news.toList:=by
       have e2:(arr.toList.take cs0.length++news.toList).length=cs0.length+news.toList.length:=by simp only[List.length_append,List.length_take,Array.length_toList];omega
       show(arr.toList.take cs0.length++news.toList++arr.toList.drop (cs0.length+news.toList.length)).take (cs0.length+news.toList.length)=_;rw[List.take_append_of_le_length (by omega),List.take_of_length_le (by omega)]
      rw[e1];exact VList.mdrop hkk.cext _ _ (g4.append hn3))
   refine⟨(·==id),_,_,_,w',.slice (some ⟨b,0,none⟩) (len+m) cp,.inl ?_,hs',hkk,?_,hid,hk⟩
   ·rw[bJ hop,hbase,hyv];exact fU hrun
   ·simp only[VRel];exact⟨_,cp,rfl,hroom,hroom,hmax,.inr ⟨b,_,el',fz,by simp[cx],rfl,hw.here,by rw[hsize'];omega⟩⟩
 ·have hrun := tu (P := e.P) (w := w) (ty := o.type) ht0 ht1 hT hE hX hs1 base len cp m olds (by rw [← hbase];exact ho2 _ (fun _ => rfl)) hm1 (by omega) (by omega) hbig hbytes;rw [← hnews0] at hrun;obtain ⟨cap',hcap'⟩ : ∃ cap',grownCap w (len + m) cp el = cap' := ⟨_,rfl⟩;have hge := grownCap_ge w (len + m) cp el;have hle := grownCap_le_maxLen w (len + m) cp el hbig;rw [hcap'] at hrun hge hle;obtain ⟨arr,harr⟩ : ∃ arr,olds ++ news ++ Builtin.zeroCells ze.cells (cap' - (len + m)) = arr := ⟨_,rfl⟩;rw [harr] at hrun;have hzs : ze.cells.size = re.size := by have hzr := (cZ (cx ok pl w) ze).vc (by rw [← hE.zv];exact hzf);have := hzr.length;rw [← hE.zv,hzl] at this;simpa using this
  have hasz:arr.size=cap'*re.size:=by rw[←harr];simp only[Array.size_append,size_zeroCells,hzs];simp only[Array.length_toList]at hol hnl;rw[hol,hnl,ho4,hn4,←Nat.add_mul,←Nat.add_mul];congr 1;omega
  have hlist:arr.toList.take (cs0++cs).length=olds.toList++news.toList:=by rw[←harr];simp only[Array.toList_append];rw[List.take_append_of_le_length (by simp only[List.length_append];omega),List.take_of_length_le (by simp only[List.length_append];omega)]
  have x2:=(WExt.drew w).trans (WExt.alloc w.drew (.cells arr el));have hhere:(w.drew.alloc (.cells arr el)).heap[w.heap.size]? =some (.cells arr el):=World.alloc_heap_new w.drew (.cells arr el);have hkk:Keeps (·==id) pl w (fun i=>if i=id then some w.heap.size else pl i) (w.drew.alloc (.cells arr el)):=by
   refine⟨rfl,rfl,rfl,x2.size,fun b' hb1 _=>x2.same b' hb1,fun i b' hi=> ?_,fun i b' hp hi=> ?_,fun b' a1 e1 z1 hb1=>⟨a1,z1,(x2.same b' (aP hb1)).trans hb1,rfl⟩⟩
   ·split at hi
    ·cases hi;exact .inr (Nat.le_refl _)
    ·exact .inl ⟨i,hi⟩
   ·have : i ≠ id := by simpa using hp
    rw[if_neg this];exact hi
  have hs' := hs.replace hidl (nb := w.heap.size) (o' := .cells (V.drops (· == id) (cs0 ++ cs))) hkk (by simp) (fun j hj hjb => by have := hs.lt j _ hjb;omega)
   (fun j b' hj hjb=>x2.same b' (hs.lt j b' hjb)) (by
    refine⟨arr,el,(0,0),hhere,fun j _=>by simp,?_,?_⟩
    ·rw[aV,hasz,List.length_append,ho4,hn4,←Nat.add_mul];exact Nat.mul_le_mul_right _ hge
    ·rw[aV,hlist];exact VList.mdrop hkk.cext _ _ (ho3.append hn3))
  refine⟨(·==id),_,_,_,_,.slice (some ⟨w.heap.size,0,none⟩) (len+m) cap',.inl ?_,hs',hkk,?_,hid,hk⟩
  ·rw[bJ hop,hbase,hyv];exact fU hrun
  ·simp only[VRel];exact⟨_,cap',rfl,hge,hge,hle,.inr ⟨w.heap.size,arr,el,(0,0),by simp[cx],rfl,hhere,by rw[hasz];omega⟩⟩
end
def UI (e:E) (n:Nat) (ops:Array Oper) (Q:XE→Fr→H→Prop) (i:Nat) (Kn:Fr→H→Prop) (f:Fr) (h:H):Prop :=
 ∃o,ops[i]? =some o∧o.guard=none∧jh n o.dst=true∧∀r,Eff e n r o f h Kn Q
theorem Fb {e : E} {n : Nat} {ops : Array Oper} {Q : XE → Fr → H → Prop} {i : Nat} {Kn : Fr → H → Prop} {f : Fr} {h : H} {d : Nat} {o' : Oper} (ho : ops[i]? = some o') (hg : o'.guard = none) (hd : o'.dst = some d) (hk : jh n (some d) = true)
 (hE:∀r o,o=o'→o.dst=some d→Eff e n r o f h Kn Q):UI e n ops Q i Kn f h:=⟨o',ho,hg,by rw[hd];exact hk,fun r=>hE r o' rfl hd⟩
def Ie (e:E) (n:Nat) (ops:Array Oper) (Q:XE→Fr→H→Prop) (s i:Nat) (Ks Kn:Fr→H→Prop) (f:Fr) (h:H):Prop :=
 if i=s then UI e n ops Q i Ks f h else Dq e n ops i Kn Q f h
def mJ (e : E) (n : Nat) (ops : Array Oper) (Q : XE → Fr → H → Prop) (K : Plan → Fr → H → Prop) (s : Nat) : Plan → Fr → H → Prop
 | .fin,f,h=>Q .normal f h
 | .take i p,f,h=>Dq e n ops i (mJ e n ops Q K s p) Q f h
 | .one i p,f,h=>Ie e n ops Q s i (K p) (mJ e n ops Q K s p) f h
 | .alt i p q,f,h=>Ie e n ops Q s i (K p) (mJ e n ops Q K s p) f h∧mJ e n ops Q K s q f h
section
variable {e:E} {n:Nat} {r:Option Nat} {ops:Array Oper} {Q:XE→Fr→H→Prop} {ok:Nat→Prop} {pl0:Nat→Option Nat} {w0:World}
theorem tV {s0 i : Nat} {Ks Kn : Fr → H → Prop} {f : Fr} {h : H} (hv : Ie e n ops Q s0 i Ks Kn f h) {K' : Act → World → Prop}
 (hks:∀f h pl w a,SSim e n ok pl0 w0 f h pl w a→Ks f h→K' a w) (hk:∀f h pl w a,SSim e n ok pl0 w0 f h pl w a→Kn f h→K' a w) {pl:Nat→Option Nat} {w:World} {a:Act} (s:SSim e n ok pl0 w0 f h pl w a) :
 wpOpIn (RF r) 0 e.P ops (gJ e n ok pl0 w0 Q) i K' a w:=by
 unfold Ie at hv;split at hv
 ·obtain ⟨o,ho,hg,hd,hv⟩ := hv;have hgd : gd ops f o = some true := by unfold gd;rw [hg]
  have hw:=qY s.val hgd;unfold wpOpIn;simp only[ho];rw[if_pos hw];exact Oper.wpIn_mono (fun a' w' ⟨pl',f',h',s',hk'⟩=>hks _ _ _ _ _ s' hk') (hv r ok pl0 w0 pl w a s hd)
 ·exact rq hv hk s
theorem iG {s0:Nat} (hQ:∀v f h,¬Q (.pan v) f h) (hpl:jA ops=true):∀(p:Plan),
 (∀(fuel:Nat) (listed:Array Bool) (f:Fr) (h:H),bG e.P ops p fuel listed=true→mJ e n ops Q (gI e n ops Q) s0 p f h→∀pl w a,SSim e n ok pl0 w0 f h pl w a→wpAnyIn (RF r) 0 e.P .any ops (gJ e n ok pl0 w0 Q) fuel listed a w) ∧
 (∀(fuel:Nat) (listed:Array Bool) (f:Fr) (h:H),bG.planAlts e.P ops p fuel listed=true→mJ e n ops Q (gI e n ops Q) s0 p f h→∀pl w a,SSim e n ok pl0 w0 f h pl w a →
  ∀i∈p.heads,wpOpIn (RF r) 0 e.P ops (gJ e n ok pl0 w0 Q) i (wpAnyIn (RF r) 0 e.P .any ops (gJ e n ok pl0 w0 Q) fuel (listed.setIfInBounds i true)) a w)
 | .fin=>by refine⟨fun fuel listed f h hp hv pl w a s=> ?_,fun fuel listed f h hp hv pl w a s i hi=>(by simp[Plan.heads]at hi)⟩;simp only[bG,List.isEmpty_iff]at hp;exact wpAnyIn_done hp ⟨pl,f,h,.normal,s,trivial,hv⟩ fuel
 | .take i p=>by
  refine⟨fun fuel listed f h hp hv pl w a s=> ?_,fun fuel listed f h hp hv pl w a s i hi=>(by simp[Plan.heads]at hi)⟩;simp only[bG]at hp;split at hp
  ·rename_i fuel o ho;simp only[Bool.and_eq_true]at hp;obtain⟨⟨⟨h1,h2⟩,h3⟩,h4⟩:=hp;obtain⟨x,f',hy,s',hk⟩:=o8 ho h1 hv s;refine kW h1 ho hpl ?_ fuel listed a w (Region.free_spec ho h3) (by simpa using h2) hy ((iG hQ hpl p).1 fuel _ f' h h4 hk pl w _ s');rintro c a w ⟨pl',f',h',xe,_,hx,hq⟩;cases xe<;>first | exact hx.elim | exact(hQ _ _ _ hq).elim
  ·cases hp
 | .one i p=>by
  refine⟨fun fuel listed f h hp hv pl w a s=> ?_,fun fuel listed f h hp hv pl w a s j hj=> ?_⟩
  ·simp only [bG] at hp;split at hp
   ·rename_i fuel;simp only[Bool.and_eq_true,beq_iff_eq]at hp;refine⟨fun h0=>(by rw[hp.1]at h0;cases h0),fun j hj=> ?_⟩;rw[hp.1]at hj;simp only[List.mem_singleton]at hj;subst hj;exact tV hv (fun f h pl w a s hk=>(fA hQ hpl p).1 fuel _ f h hp.2 hk pl w a s) (fun f h pl w a s hk=>(iG hQ hpl p).1 fuel _ f h hp.2 hk pl w a s) s
   ·cases hp
  ·simp only[bG.planAlts]at hp;simp only[Plan.heads,List.mem_singleton]at hj;subst hj;exact tV hv (fun f h pl w a s hk=>(fA hQ hpl p).1 fuel _ f h hp hk pl w a s) (fun f h pl w a s hk=>(iG hQ hpl p).1 fuel _ f h hp hk pl w a s) s
 | .alt i p q=>by
  refine⟨fun fuel listed f h hp hv pl w a s=> ?_,fun fuel listed f h hp hv pl w a s j hj=> ?_⟩
  ·simp only [bG] at hp;split at hp
   ·rename_i fuel;simp only [Bool.and_eq_true,beq_iff_eq] at hp;obtain ⟨⟨h1,h2⟩,h3⟩ := hp;refine ⟨fun h0 => (by rw [h1] at h0;cases h0),fun j hj => ?_⟩;rw [h1] at hj;rcases List.mem_cons.1 hj with rfl | hj
    ·exact tV hv.1 (fun f h pl w a s hk=>(fA hQ hpl p).1 fuel _ f h h2 hk pl w a s) (fun f h pl w a s hk=>(iG hQ hpl p).1 fuel _ f h h2 hk pl w a s) s
    ·exact(iG hQ hpl q).2 fuel listed f h h3 hv.2 pl w a s j hj
   ·cases hp
  ·simp only [bG.planAlts,Bool.and_eq_true] at hp;rcases List.mem_cons.1 hj with rfl | hj
   ·exact tV hv.1 (fun f h pl w a s hk=>(fA hQ hpl p).1 fuel _ f h hp.1 hk pl w a s) (fun f h pl w a s hk=>(iG hQ hpl p).1 fuel _ f h hp.1 hk pl w a s) s
   ·exact(iG hQ hpl q).2 fuel listed f h hp.2 hv.2 pl w a s j hj
theorem Bf (hm : e.P.follows .mixedOrders = true) {id : Nat} (s0 : Nat) (p : Plan) (R : Fr → H → Prop) {f : Fr} {h : H} (hp : bG e.P ops p ops.size (Array.replicate ops.size false) = true) (hpl : jA ops = true)
 (hv:∀K:Plan→Fr→H→Prop,(∀p f h,gI e n ops (uP R) p f h→K p f h)→mJ e n ops (uP R) K s0 p f h) (hk:∀f h,R f h→Q .normal f h):awp e n r (.region id ops true) Q f h:=by
 intro ok pl0 w0 pl w a s;have hv := hv _ fun p f h hh => hh;have x : WExt w { w with drawn := w.drawn + 1 } := WExt.drew w;have := (iG (e := e) (n := n) (r := r) (ops := ops) (Q := uP R) (ok := ok) (pl0 := pl0) (w0 := w0) (fun v f h hh => hh) hpl p).1 ops.size _ f h hp hv pl _ a (s.next0 (s.hs.wext x) (x.keeps s.hs));refine wpIn_mono (wpIn_region_any hm this) ?_;rintro ex a' w' ⟨pl',f',h',xe,s',hx,hq⟩;cases xe <;> first
  | exact⟨pl',f',h',_,s',hx,hk _ _ hq⟩
  | exact hq.elim
end
section
variable {e:E} {n:Nat} {r:Option Nat} {o:Oper} {f:Fr} {h:H} {Kn:Fr→H→Prop} {Q:XE→Fr→H→Prop}
def jT (e:E) (h:H) (k:Nat) (s:V) (m n':Nat) (cs:List V):Prop :=
 ∀ok pl w xv,HSim e ok pl h w→VRel (cx ok pl w) s xv→(Builtin.lenOf xv).run e.P w= .ok m w∧∃news:Array Value,(Builtin.firstCells k n' xv).run e.P w= .ok news w∧VList (cx ok pl w) cs news.toList∧cs.length=n'*k
theorem jT.all {k m:Nat} {s:V} {cs:List V} (he:iL h k s=some (m,cs)) (hf:ng k s=true):jT e h k s m m cs:=fun ok pl w xv hs hv=>by obtain⟨news,h1,h2,h3,h4⟩:=jk (e:=e) hs hv he hf;exact⟨h1 w,news,h2 w (fun _=>rfl),h3,h4⟩
theorem Ig {P:Program} {k:Nat} {a:Option Addr} {len cp:Nat} {w:World}:(Builtin.firstCells k 0 (.slice a len cp)).run P w= .ok #[] w:=by
 cases a with
 | none=>rfl
 | some a=>simp only[Builtin.firstCells,Nat.zero_mul];rfl
theorem jT.none {k:Nat} {es:List V} {ex:Bool}:jT e h k (.is ex k es) es.length 0 []:=fun ok pl w xv hs hv=>by simp only[VRel]at hv;obtain⟨a,cp,rfl,h1,h2,h3,h4⟩:=hv;exact⟨rfl,#[],Ig,by simp[VList],by simp⟩
theorem jT.part {k id off len cap n':Nat} {cs:List V} (hn:n'≤len) (he:iL h k (.ls id k off n' cap)=some (n',cs)):jT e h k (.ls id k off len cap) len n' cs:=fun ok pl w xv hs hv=>by
 simp only[VRel]at hv;obtain⟨a,cp,rfl,h1,h2,h3,h4⟩:=hv;have hv':VRel (cx ok pl w) (.ls id k off n' cap) (.slice a n' cp):=by
  simp only[VRel];exact⟨a,cp,rfl,h1,by omega,h3,h4⟩
 obtain⟨news,g1,g2,g3,g4⟩:=jk (e:=e) hs hv' he rfl;refine⟨rfl,news,?_,g3,g4⟩;have:Builtin.firstCells k n' (.slice a len cp)=Builtin.firstCells k n' (.slice a n' cp):=by cases a<;>rfl
 rw[this];exact g2 w (fun _=>rfl)
theorem Fe {x y : Operand} {ts : Array TypeId} {t el : TypeId} {q re : TI} (hop : o.op = .call { callee := .builtin .copy,args := #[x,y],argTypes := ts }) (ht : ts[0]? = some t) (hti : Abs.ti e.P t = some q) (hkind : q.kind = .slice el) (htie : Abs.ti e.P el = some re)
 (hxc:(f.ev e x).sc) (hyc:(f.ev e y).sc) {id off len cap:Nat} (hx:(f.ev e x).sv= .ls id re.size off len cap) {cs0:List V} (hc:h[id]? =some (.cells cs0)) (hl:off+len*re.size≤cs0.length)
 {m n':Nat} {cs:List V} (hsrc:jT e h re.size (f.ev e y).sv m n' cs) (hmin:n'=min m len) (h1:bF cs=true)
 (hk:Kn (f.put o.dst (.int .i64 n')) (h.set id (.cells (bT cs0 off cs)))):Eff e n r o f h Kn Q:=by
 refine aN ?_ (fun c=>by rw[hop];exact fun h=>by cases h);intro ok pl w ev hs hr;obtain⟨i,d,z,hT⟩:=aF hti;have hd:=hT.slice hkind;subst hd;obtain⟨ie,de,ze,hE⟩:=aF htie;have hxv:=(hr x (by simp[hop,Op.operands,Call.operands])).sv hxc;have hyv:=(hr y (by simp[hop,Op.operands,Call.operands])).sv hyc;rw[hx]at hxv;simp only[VRel]at hxv;obtain⟨a,cp,hxb,hcap,hlen,hmax,hpl⟩:=hxv;obtain⟨hlm,news,hfc,hvl,hcl⟩:=hsrc ok pl w (ev y) hs hyv;have hmn:Nat.min m len=n':=hmin.symm;have hn':n'≤len:=by omega
 have hnk:n'*re.size≤len*re.size:=Nat.mul_le_mul_right _ hn';have hnl:=hvl.length;have hex:∀w',((a=none∧w'=w)∨∃b,a=some b∧(storeCells b news.toList).run e.P w= .ok () w')→(execOp ev o).run e.P w= .ok (.value (.int .i64 n')) w':=by
  intro w' hw';have hh : execOp ev o = (do
   let d ←resolve ev {callee:= .builtin .copy,args:=#[x,y],argTypes:=ts} o.type
   invoke d.target d.args):=by simp[execOp,hop]
  rw[hh];have hb:(Builtin.copy_ ts o.type #[ev x,ev y]).run e.P w= .ok (.int .i64 n') w':=by
   unfold Builtin.copy_;simp only[ht,List.getElem?_toArray,List.getElem?_cons_zero,List.getElem?_cons_succ,Sem.run_bind,hT.run_und,Result.andThen,hxb,hlm,hE.run_size,hmn,hfc];rcases hw' with⟨rfl,rfl⟩ | ⟨b,rfl,hst⟩
   ·rfl
   ·simp[hst,Result.andThen,goInt]
  simp[resolve,invoke,builtin,hb,Result.andThen]
 rcases hpl with hcp | ⟨b,arr,el',fz,hb,hbs,harr,hsz⟩
 ·have hn0 : n' = 0 := by omega
  subst hn0;have hcs:cs=[]:=List.length_eq_zero_iff.1 (by omega);subst hcs;have hnews:news.toList=[]:=List.length_eq_zero_iff.1 (hnl.trans rfl);have hset:h.set id (.cells (bT cs0 off []))=h:=by
   have:bT cs0 off []=cs0:=by unfold bT;simp
   rw[this];apply List.ext_getElem?;intro j;by_cases hj:id=j
   ·subst hj;rw[List.getElem?_set_self (List.getElem?_eq_some_iff.1 hc).1,hc]
   ·rw[List.getElem?_set_ne hj]
  rw[hset]at hk;refine⟨fun _=>false,.int .i64 (0:Nat),h,pl,w,.int .i64 (0:Nat),.inl (hex w ?_),hs,Keeps.refl _ _,by simp only[VRel],fun _ _=>rfl,by simpa using hk⟩;cases a with
  | none=>exact .inl ⟨rfl,rfl⟩
  | some a=>exact .inr ⟨a,rfl,by rw[hnews];rfl⟩
 ·subst hbs;have hb':pl id=some b:=hb;obtain⟨w',hrun,hs',k⟩:=oW (off:=off) hs hb' hvl h1 hc (by omega);exact⟨fun _=>false,.int .i64 n',h.set id (.cells (bT cs0 off cs)),pl,w',.int .i64 n',.inl (hex w' (.inr ⟨_,rfl,hrun⟩)),hs',k,by simp only[VRel],fun _ _=>rfl,by simpa using hk⟩
end
def GA (f:Fr) (l:List (Nat×V)):Prop:=∀q∈l,f.t q.1=q.2
theorem GA.put {f:Fr} {l:List (Nat×V)} {d:Nat} {v:V} (h:GA f l) (hd:(l.all fun q=>q.1 != d)=true):GA (f.put (some d) v) l:=fun q hq=>by
 have h1:=List.all_eq_true.1 hd q hq;have h2:q.1≠d:=by simpa using h1
 have:=h q hq;simpa [Fr.put,h2]using this
theorem FA.put' {L:Array Bool} {f:Fr} {l:List (Nat×Nat×V)} {i d:Nat} {v:V} (hf:FA L f l) (h1:(l.all fun q=>q.1 != i&&q.2.1 != d)=true):FA (L.setIfInBounds i true) (f.put (some d) v) l :=
 hf.put (fun q hq hqi=>by have:=List.all_eq_true.1 h1 q hq;simp[hqi]at this) (fun q hq hqd=>by have:=List.all_eq_true.1 h1 q hq;simp[hqd]at this)
def HN (L:Array Bool) (B:H) (ia is:Nat) (zc uc:List V):H:=if L.getD ia false=true then B++[.cells (if L.getD is false=true then uc else zc)]else B
theorem HN.get {L:Array Bool} {B:H} {ia is:Nat} {zc uc:List V} {k:Nat} {o:O} (h:B[k]? =some o):(HN L B ia is zc uc)[k]? =some o:=by
 unfold HN;split
 ·rw[List.getElem?_append_left (List.getElem?_eq_some_iff.1 h).1];exact h
 ·exact h
theorem HN.none {m:Nat} {B:H} {ia is:Nat} {zc uc:List V}:HN (Array.replicate m false) B ia is zc uc=B:=by
 unfold HN;rw[if_neg];intro h;rcases Nat.lt_or_ge ia m with h2 | h2
 ·simp[h2]at h
 ·simp[Array.getD,Nat.not_lt.2 h2]at h
theorem HN.skip {L:Array Bool} {B:H} {ia is i:Nat} {zc uc:List V} (h1:i≠ia) (h2:i≠is):HN (L.setIfInBounds i true) B ia is zc uc=HN L B ia is zc uc:=by unfold HN;rw[getD_set_ne false h1,getD_set_ne false h2]
theorem HN.old {L:Array Bool} {B:H} {ia is:Nat} {zc uc:List V} (h:L.getD ia false=false):HN L B ia is zc uc=B:=by unfold HN;rw[if_neg (by rw[h];decide)]
theorem mM {L:Array Bool} {i:Nat} (h:i<L.size):(L.setIfInBounds i true).getD i false=true:=by simp[Array.getD,h]
theorem HN.new {L:Array Bool} {B:H} {ia is:Nat} {zc uc:List V} (hs:ia<L.size) (hne:ia≠is) (h:L.getD is false=false):HN (L.setIfInBounds ia true) B ia is zc uc=B++[.cells zc]:=by unfold HN;rw[mM hs,getD_set_ne false hne,h];rfl
theorem HN.at {L:Array Bool} {B:H} {ia is:Nat} {zc uc:List V} (h:L.getD ia false=true) (h2:L.getD is false=false):HN L B ia is zc uc=B++[.cells zc]:=by unfold HN;rw[h,h2];rfl
theorem HN.fill {L:Array Bool} {B:H} {ia is:Nat} {zc uc:List V} (h:L.getD ia false=true) (hs:is<L.size) (hne:is≠ia):HN (L.setIfInBounds is true) B ia is zc uc=B++[.cells uc]:=by unfold HN;rw[mM hs,getD_set_ne false hne,h];rfl
theorem HN.done {L:Array Bool} {B:H} {ia is:Nat} {zc uc:List V} (h:L.getD ia false=true) (h2:L.getD is false=true):HN L B ia is zc uc=B++[.cells uc]:=by unfold HN;rw[h,h2];rfl
theorem KI {ops:Array Oper} {L:Array Bool} (hc:D8 ops L) {i:Nat} (hi:L.getD i false=true) {l:List Nat} (hl:UG ops i l=true):∀j∈l,L.getD j false=true:=by
 intro j hj;unfold UG at hl;split at hl
 ·rename_i o ho;have h1:=List.all_eq_true.1 hl j hj;rw[Array.any_eq_true]at h1;obtain⟨q,hq,h3⟩:=h1;rw[Bool.and_eq_true,beq_iff_eq]at h3;rw[←h3.2];exact hc i o ho hi _ (Array.getElem_mem hq) h3.1
 ·cases hl
theorem iO {ops:Array Oper} {L:Array Bool} (hc:D8 ops L) {i j:Nat} (hj:L.getD j false=false) (hl:UG ops i [j]=true):L.getD i false=false:=by
 cases h:L.getD i false with
 | false=>rfl
 | true=>rw[KI hc h hl j (by simp)]at hj;cases hj
theorem qy {B:H} {o o':O}:(B++[o]).set B.length o'=B++[o']:=by rw[List.set_append_right _ _ (Nat.le_refl _),Nat.sub_self];rfl
theorem jD {B:H} {o:O}:(B++[o])[B.length]? =some o:=by simp
theorem qA {p : Nat → Bool} : ∀ v : V,v.dat = true → v.drop p = v
 | .any,_ | .bool _,_ | .int _ _,_ | .str _,_ | .nilp,_ | .ip _,_ | .nils,_ | .is _ _ _,_ | .nilm,_ | .im _ _,_ | .nilf,_ | .nili,_=>by simp[V.drop]
 | .lp _ _,h | .ls _ _ _ _ _,h | .lm _,h | .yd _,h | .row _ _,h=>by simp[V.dat]at h
 | .fn f a b,h=>by simp only[V.dat,Bool.and_eq_true]at h;rw[V.drop,dats_drops a h.1,dats_drops b h.2]
 | .iface t e,h=>by rw[V.drop,qA e (by simpa [V.dat]using h)]
 | .agg vs,h=>by rw[V.drop,dats_drops vs (by simpa [V.dat]using h)]
 | .tup vs,h=>by rw[V.drop,dats_drops vs (by simpa [V.dat]using h)]
 | .grd g e,h=>by rw[V.drop,qA e (by simpa [V.dat]using h)]
where dats_drops : ∀ vs : List V,V.dats vs = true → V.drops p vs = vs
 | [],_=>by rw[V.drops]
 | v::vs,h=>by simp only[V.dats,Bool.and_eq_true]at h;rw[V.drops,qA v h.1,dats_drops vs h.2]
theorem FA.drop {L:Array Bool} {f:Fr} {l:List (Nat×Nat×V)} {p:Nat→Bool} (h:FA L f l) (hd:∀q∈l,q.2.2.drop p=q.2.2):FA L (f.drop p) l:=fun q hq hl=>by show(f.t q.2.1).drop p=q.2.2;rw[h q hq hl,hd q hq]
theorem GA.drop {f:Fr} {l:List (Nat×V)} {p:Nat→Bool} (h:GA f l) (hd:∀q∈l,q.2.drop p=q.2):GA (f.drop p) l:=fun q hq=>by show(f.t q.1).drop p=q.2;rw[h q hq,hd q hq]
end Go.Abs
