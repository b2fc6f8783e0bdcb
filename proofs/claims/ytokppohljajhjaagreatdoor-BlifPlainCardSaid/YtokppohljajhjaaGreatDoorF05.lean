/- Lemmas for this claim, part F05: each holds under what it names. -/
import Derived.Test.YtokppohljajhjaaGreatDoorF04
import Derived.Test.YtokppohljajhjaaGreatDoorA7
import Derived.Test.YtokppohljajhjaaGreatDoorA10
import Derived.Test.YtokppohljajhjaaGreatDoorA9
set_option linter.all false
set_option maxRecDepth 20000
namespace Go.Proofs.YtokppohljajhjaaGreatDoor
open Go Go.Proofs Go.Abs
abbrev nv(k:Nat):V:=vi (k:Int)
abbrev bZ(l:List Nat):List V:=l.map nv
theorem Aw{x:Bool}{id k off:Nat}:VLe (.is true k []) (.ls id k off 0 0):=fun c x h=>by simp only[VRel]at h ⊢;obtain⟨a,cp,h1,h2,h3,h4,_⟩:=h;simp only[true_imp_iff,forall_const]at h4;simp only[List.length_nil]at h1 h4;subst h4;exact⟨a,0,h1,zrb _,zrb _,Nat.zero_le _,.inl rfl⟩
theorem aZ{p:Nat->Bool}:∀l:List Nat,V.drops p (bZ l)=bZ l
 |[]=>rfl
 |a::l=>by show V.drop p (nv a)::V.drops p (bZ l)=_;rw[aZ l];rfl
theorem SN{l:List Nat}{i:Nat}(h:i<l.length)(d:V):(bZ l).getD i d=nv (l.getD i 0):=by rw[dG h,zqg,zqk h];rfl
theorem Ew{l:List Nat}{i:Nat}{v:Nat}(h:i<l.length):List.take (i*1) (bZ l)++[nv v]++List.drop (i*1+1) (bZ l)=bZ (l.set i v):=by have e:bZ (l.set i v)=(bZ l).set i (nv v):=List.map_set ..;rw[Nat.mul_one,e,List.set_eq_take_append_cons_drop,if_pos (by simpa using h),zqc];rfl
theorem Jq{l:List Nat}{i:Nat}(h:i<l.length)(d:V):(bZ l).getD (i*1) d=nv (l.getD i 0):=by rw[Nat.mul_one];exact SN h d
structure HPi(P Q:Nat)(l:List Nat)(h:H):Prop where
 p:h[P]? =some (.cells [.ls Q 1 0 l.length l.length])
 q:h[Q]? =some (.cells (bZ l))
 ne:P≠Q
theorem HPi.set{P Q:Nat}{l l':List Nat}{h:H}(k:HPi P Q l h)(hl:l'.length=l.length):HPi P Q l' (h.set Q (.cells (bZ l'))) where
 p:=by rw[zqn k.ne.symm,k.p,hl]
 q:=zqt (zqe k.q).1
 ne:=k.ne
theorem Jr [MO] {h : H} {s off : Nat} : QO TE h 170 (.lp s off) "Push" 206 (.lp s off) := by intro ok pl w x hs hx;have hx' := hx;simp only [VRel] at hx;obtain ⟨b, hb, rfl⟩ := hx;exact ⟨_, by kernel_rfl, hx'⟩
theorem Nk [MO] {h : H} {s off : Nat} : QO TE h 170 (.lp s off) "Pop" 205 (.lp s off) := by intro ok pl w x hs hx;have hx' := hx;simp only [VRel] at hx;obtain ⟨b, hb, rfl⟩ := hx;exact ⟨_, by kernel_rfl, hx'⟩
theorem Js [MO] (b off : Nat) (w : World) : ∀ (name : String) (g : FuncId), (name = "Len" ∧ g = 103) ∨ (name = "Less" ∧ g = 204) ∨ (name = "Swap" ∧ g = 207) →
 (Go.method (TE.P.types.size+Made.depth) 170 (.pointer (some ⟨b,off,none⟩)) name).run TE.P w=(do let v <-Instr.loadAt 171 (.pointer (some ⟨b,off,none⟩));pure (g,v):Sem (FuncId×Value)).run TE.P w:=by
 rintro name g (⟨rfl,rfl⟩|⟨rfl,rfl⟩|⟨rfl,rfl⟩)<;>kernel_rfl
theorem dW[MO]{h:H}{P Q:Nat}{l:List Nat}(k:HPi P Q l h){name:String}{g:FuncId}
 (hn : (name = "Len" ∧ g = 103) ∨ (name = "Less" ∧ g = 204) ∨ (name = "Swap" ∧ g = 207)) : QO TE h 170 (.lp P 0) name g (.ls Q 1 0 l.length l.length) := by
 intro ok pl w v hs hx;have hl:=sZ (P:=TE.P) hs (t:=171) hx;have hp:sW TE.P h 171 (.lp P 0)=((0+1<=[V.ls Q 1 0 l.length l.length].length/\(true=true)),.ls Q 1 0 l.length l.length):=by
  have hh:dC h P=[V.ls Q 1 0 l.length l.length]:=by simp only[dC,k.p]
  simp only[sW,TEP,tis,hh,V.sub,TI.agg,cond_false,implies_true];rfl
 rw[hp]at hl;obtain⟨y,h1,h2⟩:=hl ⟨zrb 1,rfl⟩;simp only[VRel]at hx;obtain⟨b,hb,rfl⟩:=hx;refine⟨y,?_,h2⟩;rw[Js b 0 w name g hn];simp only[Sem.run_bind];have h1':(Instr.loadAt 171 (.pointer (some ⟨b,0,none⟩))).run TE.P w= .ok y w:=h1;rw[h1'];rfl
theorem qH[MO]{Q n c:Nat}{h:H}{R:AEnd->H->(Nat->Bool)->Prop}(hr:R (.ret (vi n)) h (fun _=>false)):ag TE 103 [.ls Q 1 0 n c] h R:=by refine ax Tryz.func103 rfl (by simp[nts]) (vm ?_);simp only[wq.1,seval,Tryz.results103];exact hr
theorem jl[MO]{Q:Nat}{l:List Nat}{h:H}(hq:h[Q]? =some (.cells (bZ l))){i k:Nat}(hi:i<l.length)(hk:k<l.length){R:AEnd->H->(Nat->Bool)->Prop}
 (hr:R (.ret (.bool (decide (l.getD i 0<l.getD k 0)))) h (fun _=>false)):ag TE 204 [.ls Q 1 0 l.length l.length,vi i,vi k] h R:=by
 have e:decide (((l.getD i 0:Nat):Int)<((l.getD k 0:Nat):Int))=decide (l.getD i 0<l.getD k 0):=decide_eq_decide.2 (by omega);refine ax Tryz.func204 rfl (by simp[nts]) (vm ?_);simp only[wq.1,seval,Tryz.results204,hq,Jq hi,Jq hk,e];exact⟨by decide +kernel,⟨by omega,by omega⟩,by omega,⟨by omega,by omega⟩,by omega,hr⟩
def Jt:Plan:=tkZ [0,1,2,3,4,5,6,8,9,10]<| .alt 7 (.one 11<| .take 12<| .one 13<| .take 14<| .one 15<| .fin) (.one 11 (.one 7<| .take 12<| .one 13<| .take 14<| .one 15<| .fin))
theorem jm[MO]{Q:Nat}{l:List Nat}{h:H}(hq:h[Q]? =some (.cells (bZ l))){i k:Nat}(hi:i<l.length)(hk:k<l.length){R:AEnd->H->(Nat->Bool)->Prop}
 (hr:R (.ret (.tup [])) (h.set Q (.cells (bZ (nG l i k)))) (fun _=>false)):ag TE 207 [.ls Q 1 0 l.length l.length,vi i,vi k] h R:=by
 have hxl:Q<h.length:=(zqe hq).1;have n1:=Ew (v:=l.getD k 0) hi;have n2:=Ew (l:=l.set i (l.getD k 0)) (v:=l.getD i 0) (i:=k) (by simpa using hk);refine ax Tryz.func207 rfl (by simp[nts]) (vm ?_);simp only[wq.1,Tryz.results207];refine gV mixed Jt (fun f' h'=>f'.d=[]/\(∀j,f'.k j=false)/\h'=h.set Q (.cells (bZ (nG l i k)))) (by rw[show TE.P=P from rfl];decide +kernel) (by decide +kernel) ?_ ?_
 ·simp only[wq.1,seval,Jt,hq,Jq hi,Jq hk,n1,n2,zqt,hxl,zrn,List.set_set];have hsw:(l.set i (l.getD k 0)).set k (l.getD i 0)=nG l i k:=rfl;rw[hsw]
  and_intros<;>first|omega|rfl
 ·rintro f h ⟨hd,hkf,rfl⟩;simp only[wq.1,hd];have:f.k=fun _=>false:=funext hkf;rw[this];exact hr
theorem Ou:∀(f:Nat)(l:List Nat)(j:Nat),(upP f l j).length=l.length
 |0,_,_=>rfl
 |f+1,l,j=>by
  unfold upP;split
  ·rfl
  ·rw[Ou f,fM]
theorem Ju[MO]{P Q:Nat}{l:List Nat}{h:H}(k:HPi P Q l h)(hb:l.length<=1000000){j f:Nat}(hj:j<l.length)(hf:j<f){R:AEnd->H->(Nat->Bool)->Prop}
 (hr:R (.ret (.tup [])) (h.set Q (.cells (bZ (upP f l j)))) (fun _=>false)):ag TE 128 [.iface 170 (.lp P 0),vi j] h R:=by
 have hM:=mLx;obtain⟨U,hU⟩:∃U,U=upP f l j:=⟨_,rfl⟩;rw[<-hU]at hr;have h0:h=h.set Q (.cells (bZ l)):=by have hq:=k.q;obtain⟨h1,h2⟩:=zqe hq;rw[<-h2,List.set_getElem_self]
 refine ax Tryz.func128 rfl (by simp [nts]) (vm ?_);simp only [wq.1,↓reduceIte,Nat.reduceEqDiff,Nat.reduceLT,Nat.reduceLeDiff,Nat.reduceAdd,Nat.reduceSub,Int.reduceToNat,Nat.reduceDiv,Int.reduceLT,Int.reduceLE,Int.reduceNeg,Int.reduceBEq,Int.reduceBNe,Int.reduceAdd,Int.reduceSub,Nat.reduceBEq,reduceCtorEq,Nat.reduceMul,aj,Tryz.results128];refine aK (fun m fr h' => ∃ (l' : List Nat) (j f : Nat),m = j /\ j < l'.length /\ l'.length = l.length /\ j < f /\ U = upP f l' j /\ fr.t 0 = .iface 170 (.lp P 0) /\ fr.t 1 = vi j /\ fr.d = [] /\ (∀ j,fr.k j = false) /\ h' = h.set Q (.cells (bZ l'))) j
  ⟨l,j,f,rfl,hj,rfl,hf,hU,rfl,rfl,rfl,fun _=>rfl,h0⟩ ?_
 rintro m fr h' ⟨l',j,f,rfl,hj,hl,hf,hU,t0,t1,hd,hkf,rfl⟩;have hk':=k.set hl;have hkf':fr.k=fun _=>false:=funext hkf;obtain⟨f,rfl⟩:∃f',f=f'+1:=⟨f-1,by omega⟩;rw[upP]at hU;refine vm ?_;by_cases hm:m=0
 ·subst hm;have hq:IntKind.i64.wrap ((IntKind.i64.wrap (((0:Nat):Int)-1)).tdiv 2)=0:=by decide
  have hz:((0:Int)==((0:Nat):Int))=true:=rfl;rw[if_pos (.inl rfl)]at hU;simp only[wq.1,↓reduceIte,Nat.reduceEqDiff,Nat.reduceLT,Nat.reduceLeDiff,Nat.reduceAdd,Nat.reduceSub,Int.reduceToNat,Nat.reduceDiv,Int.reduceLT,Int.reduceLE,Int.reduceNeg,Int.reduceBEq,Int.reduceBNe,Int.reduceAdd,Int.reduceSub,Nat.reduceBEq,reduceCtorEq,Nat.reduceMul,aj,Tryz.results128,t0,t1,hd,hq,hz];refine⟨by decide,.bool false,?_⟩;simp only[wq.1,↓reduceIte,Nat.reduceEqDiff,Nat.reduceLT,Nat.reduceLeDiff,Nat.reduceAdd,Nat.reduceSub,Int.reduceToNat,Nat.reduceDiv,Int.reduceLT,Int.reduceLE,Int.reduceNeg,Int.reduceBEq,Int.reduceBNe,Int.reduceAdd,Int.reduceSub,Nat.reduceBEq,reduceCtorEq,Nat.reduceMul,aj,Tryz.results128,t0,t1,hd,hq,hz,hkf'];rw[hU]at hr;exact hr
 ·have hq:IntKind.i64.wrap ((IntKind.i64.wrap ((m:Int)-1)).tdiv 2)=(((m-1)/2:Nat):Int):=by rw[gG (n:=(m:Int)-1) (by omega) (by omega),show(m:Int)-1=((m-1:Nat):Int) by omega,show((m-1:Nat):Int).tdiv 2=(((m-1)/2:Nat):Int)from rfl,gG (by omega) (by omega)]
  have hne:((((m-1)/2:Nat):Int)==(m:Int))=false:=by rw[beq_eq_false_iff_ne];omega
  simp only[wq.1,↓reduceIte,Nat.reduceEqDiff,Nat.reduceLT,reduceCtorEq,t0,t1,hq,hne];refine⟨by decide,?_⟩;refine bF rfl (t:=170) (v:= .lp P 0) (v':= .ls Q 1 0 l'.length l'.length) (g:=204) (by simp only[wq.1,seval]) (by simp only[wq.1,↓reduceIte,Nat.reduceEqDiff,dh,iy]) (dW hk' (.inr (.inl ⟨rfl,rfl⟩))) (by simp only[wq.1]) ?_;simp only[wq.1,seval];refine jl hk'.q hj (by omega) ?_;by_cases hlt:l'.getD m 0<l'.getD ((m-1)/2) 0
  ·rw[if_neg (by omega)]at hU;simp only[wq.1,seval,t0,t1,decide_eq_true hlt];refine bF rfl (t:=170) (v:= .lp P 0) (v':= .ls Q 1 0 l'.length l'.length) (g:=207) (by simp only[wq.1,seval]) (by simp only[wq.1,seval,dh,iy]) (dW hk' (.inr (.inr ⟨rfl,rfl⟩))) (by simp only[wq.1]) ?_;simp only[wq.1,seval];refine jm hk'.q (by omega) hj ?_;simp only[wq.1,seval];exact .inl ⟨(m-1)/2,by omega,nG l' ((m-1)/2) m,(m-1)/2,f,rfl,by rw[fM];omega,by rw[fM,hl],by omega,hU,by simp only[wq.1,seval,t0],by simp only[wq.1,↓reduceIte],by simp only[wq.1,hd],hkf,by rw[List.set_set]⟩
  ·rw[if_pos (.inr hlt)]at hU;simp only[wq.1,seval,hd,decide_eq_false hlt];rw[hkf'];rw[hU]at hr;exact hr
theorem Dh[MO]{P Q:Nat}{l:List Nat}{h:H}(k:HPi P Q l h)(hb:l.length<=1000000){m f:Nat}(hm:m<=l.length)(hf:m<=f)(hf1:0<f){R:AEnd->H->(Nat->Bool)->Prop}
 (hr:∀b,R (.ret (.bool b)) (h.set Q (.cells (bZ (yw f l 0 m)))) (fun _=>false)):ag TE 129 [.iface 170 (.lp P 0),vi 0,vi m] h R:=by
 have hM:=mLx;obtain⟨U,hU⟩:∃U,U=yw f l 0 m:=⟨_,rfl⟩;rw[<-hU]at hr;have h0:h=h.set Q (.cells (bZ l)):=by have hq:=k.q;obtain⟨h1,h2⟩:=zqe hq;rw[<-h2,List.set_getElem_self]
 refine ax Tryz.func129 rfl (by simp [nts]) (vm ?_);simp only [wq.1,seval,Tryz.results129];refine aK (fun mm fr h' => ∃ (l' : List Nat) (i f : Nat),mm = m - i /\ l'.length = l.length /\ m - i <= f /\ 0 < f /\ U = yw f l' i m /\ fr.t 0 = .iface 170 (.lp P 0) /\ fr.t 1 = vi 0 /\ fr.t 2 = vi m /\ fr.t 7 = vi i /\ i <= m /\ fr.d = [] /\ (∀ j,fr.k j = false) /\ h' = h.set Q (.cells (bZ l'))) m
  ⟨l,0,f,rfl,rfl,by omega,hf1,hU,rfl,rfl,rfl,rfl,Nat.zero_le _,rfl,fun _=>rfl,h0⟩ ?_
 rintro mm fr h' ⟨l',i,f,hmm,hl,hf,hf1,hU,t0,t1,t2,t7,hi,hd,hkf,rfl⟩;have hk':=k.set hl;have hkf':fr.k=fun _=>false:=funext hkf;obtain⟨f,rfl⟩:∃f',f=f'+1:=⟨f-1,by omega⟩;rw[yw]at hU;have w1:IntKind.i64.wrap (2*(i:Int))=((2*i:Nat):Int):=by rw[gG (by omega) (by omega)];omega
 have w2:IntKind.i64.wrap (((2*i:Nat):Int)+1)=((2*i+1:Nat):Int):=by rw[gG (by omega) (by omega)];omega
 have w3:IntKind.i64.wrap (((2*i+1:Nat):Int)+1)=((2*i+2:Nat):Int):=by rw[gG (by omega) (by omega)];omega
 have z1:decide (((2*i+1:Nat):Int)<0)=false:=by rw[zqd];omega
 refine vm ?_;by_cases hge:m<=2*i+1
 ·have e1:decide ((m:Int)<=((2*i+1:Nat):Int))=true:=by rw[zqb];omega
  rw[if_pos (.inl hge)]at hU;simp only[wq.1,seval,t1,t2,t7,hd,w1,w2,e1,hkf'];rw[hU]at hr;exact hr _
 ·have e1:decide ((m:Int)<=((2*i+1:Nat):Int))=false:=by rw[zqd];omega
  by_cases hlt:2*i+2<m
  ·have e2:decide (((2*i+2:Nat):Int)<(m:Int))=true:=by rw[zqb];omega
   simp only[wq.1,seval,t0,t2,t7,w1,w2,w3,e1,z1,e2];refine bF rfl (t:=170) (v:= .lp P 0) (v':= .ls Q 1 0 l'.length l'.length) (g:=204) (by simp only[wq.1,seval]) (by simp only[wq.1,seval,dh,iy]) (dW hk' (.inr (.inl ⟨rfl,rfl⟩))) (by simp only[wq.1]) ?_;simp only[wq.1,seval];refine jl hk'.q (by omega) (by omega) ?_;by_cases hc:l'.getD (2*i+2) 0<l'.getD (2*i+1) 0
   ·have hkid:Ea l' i m=2*i+2:=by unfold Ea;rw[if_pos ⟨hlt,hc⟩]
    rw[hkid]at hU;simp only[wq.1,seval,t0,t7,decide_eq_true hc];refine bF rfl (t:=170) (v:= .lp P 0) (v':= .ls Q 1 0 l'.length l'.length) (g:=204) (by simp only[wq.1,seval]) (by simp only[wq.1,seval,dh,iy]) (dW hk' (.inr (.inl ⟨rfl,rfl⟩))) (by simp only[wq.1]) ?_;simp only[wq.1,seval];refine jl hk'.q (i:=2*i+2) (k:=i) (by omega) (by omega) ?_;by_cases hsw:l'.getD (2*i+2) 0<l'.getD i 0
    ·rw[if_neg (by omega)]at hU;simp only[wq.1,seval,t0,t7,decide_eq_true hsw];refine bF rfl (t:=170) (v:= .lp P 0) (v':= .ls Q 1 0 l'.length l'.length) (g:=207) (by simp only[wq.1,seval]) (by simp only[wq.1,seval,dh,iy]) (dW hk' (.inr (.inr ⟨rfl,rfl⟩))) (by simp only[wq.1]) ?_;simp only[wq.1,seval];refine jm hk'.q (i:=i) (k:=2*i+2) (by omega) (by omega) ?_;simp only[wq.1,seval];exact .inl ⟨m-(2*i+2),by omega,nG l' i (2*i+2),2*i+2,f,rfl,by rw[fM,hl],by omega,by omega,hU,by simp only[wq.1,seval,t0],by simp only[wq.1,seval,t1],by simp only[wq.1,seval,t2],by simp only[wq.1,↓reduceIte],by omega,by simp only[wq.1,hd],hkf,by rw[List.set_set]⟩
    ·rw[if_pos (.inr hsw)]at hU;simp only[wq.1,seval,t1,t7,hd,decide_eq_false hsw];rw[hkf'];rw[hU]at hr;exact hr _
   ·have hkid:Ea l' i m=2*i+1:=by unfold Ea;rw[if_neg (fun h=>hc h.2)]
    rw[hkid]at hU;simp only[wq.1,seval,t0,t7,decide_eq_false hc];refine bF rfl (t:=170) (v:= .lp P 0) (v':= .ls Q 1 0 l'.length l'.length) (g:=204) (by simp only[wq.1,seval]) (by simp only[wq.1,seval,dh,iy]) (dW hk' (.inr (.inl ⟨rfl,rfl⟩))) (by simp only[wq.1]) ?_;simp only[wq.1,seval];refine jl hk'.q (i:=2*i+1) (k:=i) (by omega) (by omega) ?_;by_cases hsw:l'.getD (2*i+1) 0<l'.getD i 0
    ·rw[if_neg (by omega)]at hU;simp only[wq.1,seval,t0,t7,decide_eq_true hsw];refine bF rfl (t:=170) (v:= .lp P 0) (v':= .ls Q 1 0 l'.length l'.length) (g:=207) (by simp only[wq.1,seval]) (by simp only[wq.1,seval,dh,iy]) (dW hk' (.inr (.inr ⟨rfl,rfl⟩))) (by simp only[wq.1]) ?_;simp only[wq.1,seval];refine jm hk'.q (i:=i) (k:=2*i+1) (by omega) (by omega) ?_;simp only[wq.1,seval];exact .inl ⟨m-(2*i+1),by omega,nG l' i (2*i+1),2*i+1,f,rfl,by rw[fM,hl],by omega,by omega,hU,by simp only[wq.1,seval,t0],by simp only[wq.1,seval,t1],by simp only[wq.1,seval,t2],by simp only[wq.1,↓reduceIte],by omega,by simp only[wq.1,hd],hkf,by rw[List.set_set]⟩
    ·rw[if_pos (.inr hsw)]at hU;simp only[wq.1,seval,t1,t7,hd,decide_eq_false hsw];rw[hkf'];rw[hU]at hr;exact hr _
  ·have e2:decide (((2*i+2:Nat):Int)<(m:Int))=false:=by rw[zqd];omega
   have hkid:Ea l' i m=2*i+1:=by unfold Ea;rw[if_neg (fun h=>hlt h.1)]
   rw[hkid]at hU;simp only[wq.1,seval,t0,t2,t7,w1,w2,w3,e1,z1,e2];refine⟨.bool false,?_⟩;simp only[wq.1,seval,t0,t7];refine bF rfl (t:=170) (v:= .lp P 0) (v':= .ls Q 1 0 l'.length l'.length) (g:=204) (by simp only[wq.1,seval]) (by simp only[wq.1,seval,dh,iy]) (dW hk' (.inr (.inl ⟨rfl,rfl⟩))) (by simp only[wq.1]) ?_;simp only[wq.1,seval];refine jl hk'.q (i:=2*i+1) (k:=i) (by omega) (by omega) ?_;by_cases hsw:l'.getD (2*i+1) 0<l'.getD i 0
   ·rw[if_neg (by omega)]at hU;simp only[wq.1,seval,t0,t7,decide_eq_true hsw];refine bF rfl (t:=170) (v:= .lp P 0) (v':= .ls Q 1 0 l'.length l'.length) (g:=207) (by simp only[wq.1,seval]) (by simp only[wq.1,seval,dh,iy]) (dW hk' (.inr (.inr ⟨rfl,rfl⟩))) (by simp only[wq.1]) ?_;simp only[wq.1,seval];refine jm hk'.q (i:=i) (k:=2*i+1) (by omega) (by omega) ?_;simp only[wq.1,seval];exact .inl ⟨m-(2*i+1),by omega,nG l' i (2*i+1),2*i+1,f,rfl,by rw[fM,hl],by omega,by omega,hU,by simp only[wq.1,seval,t0],by simp only[wq.1,seval,t1],by simp only[wq.1,seval,t2],by simp only[wq.1,↓reduceIte],by omega,by simp only[wq.1,hd],hkf,by rw[List.set_set]⟩
   ·rw[if_pos (.inr hsw)]at hU;simp only[wq.1,seval,t1,t7,hd,decide_eq_false hsw];rw[hkf'];rw[hU]at hr;exact hr _
def Az:Plan:=tkZ [0,1,2,4]<| .alt 3 (onZ [5,6,7]<| .take 8<| .one 9<| .fin) (.one 5 (.alt 3 (.one 6<| .one 7<| .take 8<| .one 9<| .fin) (.one 6 (.one 3<| .one 7<| .take 8<| .one 9<| .fin))))
def oD(P Q:Nat)(h:H)(l:List Nat):H:=((h.map (O.drop fun x=>x==Q)).set Q (.cells (bZ l))).set P (.cells [.ls Q 1 0 l.length l.length])
theorem HPi.push{P Q:Nat}{l:List Nat}{h:H}(k:HPi P Q l h)(l':List Nat):HPi P Q l' (oD P Q h l') where
 p:=by unfold oD;rw[zqt (by simp;exact(zqe k.p).1)]
 q:=by unfold oD;rw[zqn k.ne,zqt (by simp;exact(zqe k.q).1)]
 ne:=k.ne
theorem Jv{P Q:Nat}{l l':List Nat}{h:H}(hne:P≠Q)(hl:l'.length=l.length):(oD P Q h l).set Q (.cells (bZ l'))=oD P Q h l':=by unfold oD;rw[List.set_comm _ _ hne,List.set_set,hl]
theorem Di[MO]{P Q:Nat}{l:List Nat}{h:H}(k:HPi P Q l h)(hb:l.length<=1000000)(x:Nat){R:AEnd->H->(Nat->Bool)->Prop}
 (hr:R (.ret (.tup [])) (oD P Q h (l++[x])) (fun i=>i==Q)):ag TE 206 [.lp P 0,.iface 3 (nv x)] h R:=by
 have hM:=mLx;have hp:=k.p;have hq:=k.q;have hpl:=(zqe hp).1;have hql:=(zqe hq).1;have hne:=k.ne;have hne':=hne.symm;have b1:(P==Q)=false:=by simp[hne]
 have hp':(h.map (O.drop fun i=>i==Q))[P]? =some (.cells [.any]):=by rw[zqo,hp];simp[O.drop,V.drops,V.drop]
 have hmap:∀l:List Nat,V.drops (fun i=>i==Q) (bZ l)=bZ l:=fun l=>aZ l;refine ax Tryz.func206 rfl (by simp[nts]) (vm ?_);simp only[wq.1,Tryz.results206];refine gV mixed Az (fun f' h'=>f'.d=[]/\f'.k=(fun i=>i==Q)/\h'=oD P Q h (l++[x])) (by rw[TEP];decide +kernel) (by decide +kernel) ?_ ?_
 ·simp only[wq.1,↓reduceIte,Nat.reduceEqDiff,Nat.reduceLT,reduceCtorEq,Nat.reduceMul,Az,hp,hp',hq,zqn,ne_eq,not_false_eq_true,hne',b1,hmap];have e:bZ l++[nv x]=bZ (l++[x]):=by simp
  rw[e];refine⟨⟨rfl,by decide⟩,⟨by omega,by omega,by omega⟩,?_⟩;unfold oD;simp
 ·rintro f h' ⟨hd,hkf,rfl⟩;simp only[wq.1,hd,hkf];exact hr
theorem uS[MO]{P Q:Nat}{l:List Nat}{h:H}(k:HPi P Q l h)(hb:l.length<=900000)(x:Nat){R:AEnd->H->(Nat->Bool)->Prop}
 (hr:R (.ret (.tup [])) (oD P Q h (zU l x)) (fun i=>i==Q)):ag TE 102 [.iface 170 (.lp P 0),.iface 3 (nv x)] h R:=by
 have hM:=mLx;have hne:=k.ne;have b1:(P==Q)=false:=by simp[hne]
 have k1:=k.push (l++[x]);refine ax Tryz.func102 rfl (by simp[nts]) (vm ?_);simp only[wq.1,seval,Tryz.results102];refine bF rfl (t:=170) (v:= .lp P 0) (v':= .lp P 0) (g:=206) (by simp only[wq.1,seval]) (by simp only[wq.1,seval,dh,iy]) Jr (by simp only[wq.1]) ?_;simp only[wq.1,↓reduceIte];refine Di k (by omega) x ?_;simp only[wq.1,seval,aX,b1];refine bF rfl (t:=170) (v:= .lp P 0) (v':= .ls Q 1 0 (l++[x]).length (l++[x]).length) (g:=103) (by simp only[wq.1,↓reduceIte]) (by simp only[wq.1,↓reduceIte,dh]) (dW k1 (.inl ⟨rfl,rfl⟩)) (by simp only[wq.1]) ?_;simp only[wq.1];refine qH ?_;have hw:IntKind.i64.wrap (((l.length+1:Nat):Int)-1)=(l.length:Int):=by rw[gG (by omega) (by omega)];omega
 simp only[wq.1,seval,hw];refine Ju k1 (by simp;omega) (j:=l.length) (f:=l.length+1) (by simp) (by omega) ?_;simp only[wq.1];rw[Jv hne (Ou _ _ _)];exact hr
def AA:Plan:=tkZ [0,1,2,4,5]<| .alt 3 (.one 6<| .one 7<|tkZ [8,9,10]<| .one 11<| .fin) (.one 6 (.alt 3 (.one 7<|tkZ [8,9,10]<| .one 11<| .fin) (.one 7 (.take 8<| .one 3<| .take 9<| .take 10<| .one 11<| .fin))))
def Dj(P Q:Nat)(h:H)(l:List Nat):H:=(h.set Q (.cells (bZ l))).set P (.cells [.ls Q 1 0 l.length l.length])
theorem HPi.pop{P Q:Nat}{l:List Nat}{h:H}(k:HPi P Q l h)(l':List Nat):HPi P Q l' (Dj P Q h l') where
 p:=by unfold Dj;rw[zqt (by simp;exact(zqe k.p).1)]
 q:=by unfold Dj;rw[zqn k.ne,zqt (zqe k.q).1]
 ne:=k.ne
theorem FY[MO]{P Q:Nat}{l0:List Nat}{x:Nat}{h:H}(k:HPi P Q (l0++[x]) h)(hb:l0.length<=1000000){R:AEnd->H->(Nat->Bool)->Prop}
 (hr:R (.ret (.iface 3 (nv x))) (Dj P Q h l0) (fun _=>false)):ag TE 205 [.lp P 0] h R:=by
 have hM:=mLx;have hp:=k.p;have hq:=k.q;have hpl:=(zqe hp).1;have hql:=(zqe hq).1;have hne:=k.ne;have hne':=hne.symm;rw[zqa,zrk]at hp;have hw:IntKind.i64.wrap (((l0.length+1:Nat):Int)-1)=(l0.length:Int):=by rw[gG (by omega) (by omega)];omega
 have hgx:(List.map nv l0++[nv x]).getD (l0.length*1) .any=nv x:=by have:=Jq (l:=l0++[x]) (i:=l0.length) (by simp) .any;rw[show bZ (l0++[x])=List.map nv l0++[nv x] by simp]at this;rw[this];simp
 refine Fg ?_;refine ax Tryz.func205 rfl (by simp[nts]) (vm ?_);simp only[wq.1,seval,Tryz.results205];have hzl:(0:Int)<=(l0.length:Int):=by omega
 simp only[wq.1,seval,hp,hq,hw,hgx];refine⟨by decide +kernel,⟨by omega,by omega⟩,by omega,?_⟩;refine gV mixed AA (fun f' h2=>f'.t 3=nv x/\f'.d=[]/\(∀j,f'.k j=false)/\h2=h.set P (.cells [.ls Q 1 0 l0.length (l0.length+1)])) (by rw[TEP];decide +kernel) (by decide +kernel) ?_ ?_
 ·simp only[wq.1,seval,AA,hp,hw];exact⟨by omega,.inl (by omega)⟩
 ·rintro f h2 ⟨h3,hd,hkf,rfl⟩;have hkf':f.k=fun _=>false:=funext hkf;simp only[wq.1,seval,h3,hd,hkf'];refine⟨by simp,Dj P Q h l0,?_,hr⟩;unfold Dj;refine HLe.trans (HLe.set (i:=P) (zqt hpl) (o':= .cells [.ls Q 1 0 l0.length l0.length]) (OLe.cells (zrb _) (fP.cons (VLe.cap (by omega)) fP.nil))) ?_;rw[List.set_set,List.set_comm _ _ hne'];refine HLe.set (o:= .cells (bZ (l0++[x]))) ?_ ?_
  ·rw[zqn hne];exact hq
  ·have:=OLe.take (bZ (l0++[x])) l0.length;have e:(bZ (l0++[x])).take l0.length=bZ l0:=by rw[<-List.map_take,List.take_left' rfl]
   rw[e]at this;exact this
theorem Dk{l0:List Nat}{x:Nat}:(l0++[x]).getLastD 0=x:=by simp
theorem FZ[MO]{P Q:Nat}{l:List Nat}{h:H}(k:HPi P Q l h)(hb:l.length<=900000)(hne0:l≠[]){R:AEnd->H->(Nat->Bool)->Prop}
 (hr:R (.ret (.iface 3 (nv ((lK l).getLastD 0)))) (Dj P Q h (lK l).dropLast) (fun _=>false)):ag TE 104 [.iface 170 (.lp P 0)] h R:=by
 have hM:=mLx;have hne:=k.ne;have hpos:0<l.length:=List.length_pos_iff.2 hne0;obtain⟨m,hm⟩:∃m,l.length=m+1:=⟨l.length-1,by omega⟩;have hw:IntKind.i64.wrap ((l.length:Int)-1)=(m:Int):=by rw[gG (by omega) (by omega)];omega
 have hpop:lK l=yw l.length (nG l 0 m) 0 m:=by unfold lK;rw[hm];rfl
 have k1:=k.set (l':=nG l 0 m) (fM _ _ _);have hpl:=IZ hne0;obtain⟨l0,x,e⟩:∃l0 x,lK l=l0++[x]:=by
  have:lK l≠[]:=fun h=>by rw[h]at hpl;simp at hpl;omega
  exact⟨_,_,(List.dropLast_concat_getLast this).symm⟩
 have k2:=k1.set (l':=lK l) (by rw[hpl,fM]);rw[e,Dk,List.dropLast_concat]at hr;rw[e,List.set_set]at k2;have hl0:l0.length=m:=by rw[e,zqa,zrk]at hpl;omega
 refine ax Tryz.func104 rfl (by simp[nts]) (vm ?_);simp only[wq.1,seval,Tryz.results104];refine bF rfl (t:=170) (v:= .lp P 0) (v':= .ls Q 1 0 l.length l.length) (g:=103) (by simp only[wq.1,↓reduceIte]) (by simp only[wq.1,↓reduceIte,dh]) (dW k (.inl ⟨rfl,rfl⟩)) (by simp only[wq.1]) ?_;simp only[wq.1];refine qH ?_;simp only[wq.1,seval,hw];refine bF rfl (t:=170) (v:= .lp P 0) (v':= .ls Q 1 0 l.length l.length) (g:=207) (by simp only[wq.1,seval]) (by simp only[wq.1,seval,dh,iy]) (dW k (.inr (.inr ⟨rfl,rfl⟩))) (by simp only[wq.1]) ?_;simp only[wq.1,↓reduceIte];refine jm (i:=0) (k:=m) k.q (by omega) (by omega) ?_;simp only[wq.1,seval];refine Dh k1 (by rw[fM];omega) (m:=m) (f:=l.length) (by rw[fM];omega) (by omega) (by omega) fun b=> ?_;rw[<-hpop,e,List.set_set];simp only[wq.1,seval];refine bF rfl (t:=170) (v:= .lp P 0) (v':= .lp P 0) (g:=205) (by simp only[wq.1,↓reduceIte]) (by simp only[wq.1,↓reduceIte,dh]) Nk (by simp only[wq.1]) ?_;simp only[wq.1];rw[show List.map nv l0++[nv x]=bZ (l0++[x]) by simp];refine FY k2 (by omega) ?_;simp only[wq.1,seval];have eh:Dj P Q (h.set Q (.cells (bZ (l0++[x])))) l0=Dj P Q h l0:=by unfold Dj;rw[List.set_set]
 rw[show List.map nv l0++[nv x]=bZ (l0++[x]) by simp,eh];exact hr
abbrev aN(c:Ci):List S:=c.gates.map (·.name)
abbrev gins(c:Ci):List (List S):=c.gates.map (·.ins)
def plO(l:List S):O:= .map (l.map V.str) (bZ (List.range l.length))
abbrev ciO(c:Ci):O:= .cells [aW c.ins,aW c.outs,vM c.lat,jD c.gates]
theorem yH(l:List S)(s:S):at? l s=uH l s:=by
 unfold uH
 induction l with
 |nil=>rfl
 |cons x l ih =>
  rw[at?,List.findIdx?_cons];by_cases h:x=s
  ·rw[if_pos h];simp[h]
  ·rw[if_neg h,ih];have:(x==s)=false:=by simpa using h
   rw[this];rfl
theorem AB:∀(l acc:List S),wQ acc l=none->acc.Nodup->(acc++l).Nodup
 |[],acc,_,h=>by simpa using h
 |s::l,acc,hd,h=>by
  rw[wQ]at hd;by_cases hc:acc.contains s=true
  ·rw[if_pos hc]at hd;cases hd
  ·rw[if_neg hc]at hd;have hn:s∉acc:=fun hm=>hc (List.contains_iff_mem.2 hm);have:=AB l (acc++[s]) hd (List.nodup_append.2 ⟨h,by simp,fun a ha b hb hab=>by
    rw[zrc.1 hb]at hab;exact hn (hab▸ha)⟩)
   rwa [zqc]at this
theorem AC{c:Ci}(h:wQ [] (fU c)=none):(aN c).Nodup:=by have:=AB _ _ h List.nodup_nil;unfold fU at this;rw[List.nil_append]at this;exact(List.nodup_append.1 this).2.1
theorem Rz{l:List S}(h:l.Nodup){i:Nat}(hi:i<l.length):at? (l.take i) l[i]=none:=MZ fun hm=>by obtain⟨j,hj,e⟩:=List.mem_take_iff_getElem.1 hm;have:=(List.getElem_inj h).1 e;omega
theorem ry[MO](c:Ci)(hn:(aN c).Nodup)(hl:c.gates.length<=1000000):ag TE 63 [c.v] [] (fun ae h' _=>ae= .ret (.lm 1)/\h'=[ciO c,plO (aN c)]):=by
 have hM:=mLx;have hnl:(aN c).length=c.gates.length:=zra ..;obtain⟨BX,hBX⟩:∃BX:O,BX=ciO c:=⟨_,rfl⟩;have hBd:∀p,BX.drop p=BX:=fun p=>by rw[hBX];rfl
 obtain⟨MP,hMP⟩:∃MP:Nat->O,MP=fun i=> .map (((aN c).take i).map V.str) (bZ (List.range i)):=⟨_,rfl⟩;have hcl:∀(p:Nat->Bool) i,([BX,MP i]:H).map (O.drop p)=[BX,MP i]:=fun p i=>by show [BX.drop p,(MP i).drop p]=_;rw[hBd,hMP];show [BX,O.map (V.drops p _) (V.drops p _)]=_;rw[aA,aZ]
 have hfin:plO (aN c)=MP c.gates.length:=by rw[hMP];show _=O.map _ _;rw[<-hnl,zrx];rfl
 rw[hfin,<-hBX];refine ax Tryz.func63 rfl (by simp[nts]) ?_;refine vn ?_;simp only[wq.1,Nat.reduceLT,Tryz.results63];refine vn ?_;simp only[wq.1,seval];rw[show([O.cells [aW c.ins,aW c.outs,vM c.lat,jD c.gates],O.map [] []]:H)=[BX,MP 0] by rw[hBX,hMP];rfl];refine vn ?_;simp only[wq.1,seval,hBX];rw[<-hBX];refine aK (fun m f h=>∃(i:Nat)(X:H),m+i=c.gates.length/\i<=c.gates.length/\f.t 3= .lm 1/\f.t 8=jD c.gates/\f.t 9=vi c.gates.length/\f.t 10=vi i/\f.d=[]/\h=[BX,MP i]++X) c.gates.length ⟨0,[],by omega,by omega,by simp only[wq.1,seval],by simp only[wq.1,seval],by simp only[wq.1,seval],by simp only[wq.1,↓reduceIte];rfl,by simp only[wq.1],rfl⟩ ?_;rintro m f h ⟨i,X,hm,hil,t3,t8,t9,t10,hd,rfl⟩;refine dP (h0:=[BX,MP i]) (by rw[hd];simp) ?_;rw[hcl];obtain⟨f',hf'⟩:∃f',f'=f.drop (Abs.dV ([BX,MP i]:H).length):=⟨_,rfl⟩;have u3:f'.t 3= .lm 1:=by rw[hf'];show(f.t 3).drop _=_;rw[t3];rfl
 have u8:f'.t 8=jD c.gates:=by rw[hf'];show(f.t 8).drop _=_;rw[t8];rfl
 have u9:f'.t 9=vi c.gates.length:=by rw[hf'];show(f.t 9).drop _=_;rw[t9];rfl
 have u10:f'.t 10=vi i:=by rw[hf'];show(f.t 10).drop _=_;rw[t10];rfl
 have ud:f'.d=[]:=by rw[hf'];exact hd
 rw[<-hf'];clear hf' hd t3 t8 t9 t10 X;have hw:=aB (show i<maxLen by omega);refine vn ?_;simp only[wq.1,Nat.reduceLT,u9,u10];refine vn ?_;simp only[wq.1,↓reduceIte];refine vcB.mk (fun hlt=> ?_) (fun hlt=> ?_)
 ·have hlt:i<c.gates.length:=by have:=zqs hlt;omega
  obtain⟨g,hg⟩:∃g,g=c.gates[i]:=⟨_,rfl⟩;have hgg:=wF hlt .any;rw[<-hg]at hgg;have hat:=Rz hn (i:=i) (by omega);have hgn:(aN c)[i]'(by omega)=g.name:=by rw[hg];simp
  rw[hgn]at hat;have hms:MP (i+1)= .map (((aN c).take i).map V.str++[.str g.name]) (bZ (List.range i)++[vi i]):=by
   rw[hMP];show O.map _ _=_;rw[List.take_succ_eq_append_getElem (by omega),hgn,List.range_succ,zql];simp
  have hmi:MP i= .map (((aN c).take i).map V.str) (bZ (List.range i)):=by rw[hMP]
  simp only[wq.1];refine vn ?_;simp only[wq.1,seval,u3,u8,u10,hgg,hmi,OM,dw,K.keyOk,hat];refine⟨⟨by omega,by omega⟩,?_⟩;rw[<-hms];refine vm ?_;simp only[wq.1,seval,u10,hw];refine .inl ⟨m-1,by omega,i+1,[O.cells [V.str g.name,vi g.op,aW g.ins,aW g.rows,V.bool g.off]],by omega,by omega,?_⟩;refine⟨by simp only[wq.1,seval,u3],by simp only[wq.1,seval,u8],by simp only[wq.1,seval,u9],by simp only[wq.1,↓reduceIte],by simp only[wq.1,ud],rfl⟩
 ·have hi:i=c.gates.length:=by have:=of_decide_eq_false hlt;omega
  subst hi;refine vm ?_;simp only[wq.1,seval,u3,ud]
def w2A(n:Nat)(gs:V):List (Nat×Nat×V):=[(0,13,.lp 0 3),(1,14,gs),(2,15,vi n),(4,17,.lp 0 3),(5,18,gs),(6,19,vi n)]
def w2C(L:Array Bool):Nat:=(if L.getD 3 false=true then 1 else 0)+(if L.getD 7 false=true then 1 else 0)+(if L.getD 9 false=true then 1 else 0)
abbrev mw(n nr br:Nat):List V:=[.ls nr 1 0 n n,.ls br 1 0 n n]
structure W2(c:Ci)(B:H)(L:Array Bool)(f f0:Fr)(h:H)(nr br wr:Nat):Prop where
 len:h.length=B.length+w2C L
 base:∀i,i<B.length->h[i]? =B[i]?
 fa:FA L f (w2A c.gates.length (jD c.gates))
 t1:f.t 1= .lp 0 0
 t2:f.t 2=f0.t 2
 t3:f.t 3=f0.t 3
 d:f.d=[]
 a3:L.getD 3 false=true->f.t 16= .ls nr 1 0 c.gates.length c.gates.length/\B.length<=nr/\h[nr]? =some (.cells (List.replicate c.gates.length .nilm))
 a7:L.getD 7 false=true->f.t 20= .ls br 1 0 c.gates.length c.gates.length/\B.length<=br/\h[br]? =some (.cells (List.replicate c.gates.length .nils))
 a8:L.getD 8 false=true->f.t 21= .agg (mw c.gates.length nr br)
 a9:L.getD 9 false=true->f.t 4= .lp wr 0/\B.length<=wr/\h[wr]? =some (.cells (if L.getD 10 false=true then mw c.gates.length nr br else [.nils,.nils]))
 n37:L.getD 3 false=true->L.getD 7 false=true->nr≠br
 n39:L.getD 3 false=true->L.getD 9 false=true->nr≠wr
 n79:L.getD 7 false=true->L.getD 9 false=true->br≠wr
theorem Tj[MO](c:Ci){r:Option Nat}{Q:XE->Fr->H->Prop}{f0:Fr}{B:H}(hl:c.gates.length<=1000000)
 (g0:B[0]? =some (ciO c)) (t1:f0.t 1= .lp 0 0) (d0:f0.d=[])
 (hk:∀f h nr br wr,h.length=B.length+3->(∀i,i<B.length->h[i]? =B[i]?)->f.t 1= .lp 0 0->f.t 2=f0.t 2->f.t 3=f0.t 3->f.t 4= .lp wr 0->f.d=[]->B.length<=nr->B.length<=br->B.length<=wr->nr≠br->nr≠wr->br≠wr ->
  h[nr]? =some (.cells (List.replicate c.gates.length .nilm))->h[br]? =some (.cells (List.replicate c.gates.length .nils))->h[wr]? =some (.cells (mw c.gates.length nr br))->Q .normal f h) :
 awp TE 80 r (.region 2 (vY Tryz.f101 2) true) Q f0 B:=by
 simp only[vY,Tryz.f101,rQ,List.nil_append,zqp,List.headD_cons,Nat.reduceBEq,zrm,if_false,if_true,List.cons_append];have hM:=mLx;have l0:0<B.length:=(zqe g0).1;refine o6 mixed (fun L f h=>∃nr br wr,W2 c B L f f0 h nr br wr) (by decide +kernel) ?_ ?_ ?_
 ·refine⟨0,0,0,⟨by simp[w2C],fun _ _=>rfl,FA.none,t1,rfl,rfl,d0,?_,?_,?_,?_,?_,?_,?_⟩⟩
  all_goals (intro h;exfalso;revert h;decide +kernel)
 ·rintro L f h i hcl ⟨nr,br,wr,k⟩ hi;have hlt:i<11:=o5 hi;have no:=l7 hi;have sz:=jX hi;have t1:=k.t1;have h0:h[0]? =some (ciO c):=by rw[k.base 0 l0];exact g0
  have pu:∀(d:Nat)(v:V),(∀x∈w2A c.gates.length (jD c.gates),x.1=i->x.2.1=d/\x.2.2=v)->(∀x∈w2A c.gates.length (jD c.gates),x.2.1=d->x.1=i)->(decide (d∉([1,2,3,4,16,20,21]:List Nat))&&decide (i∉([3,7,8,9,10]:List Nat)))=true ->
   ∃nr br wr,W2 c B (L.setIfInBounds i true) (f.put (some d) v) f0 h nr br wr:=by
   intro d v h1 h2 h3;rw[zqf,zqb,zqb]at h3;simp only[zrj,zrp,or_false,not_or]at h3;obtain⟨⟨d1,d2,d3,d4,d16,d20,d21⟩,i3,i7,i8,i9,i10⟩:=h3;have g:∀j,j≠i->(L.setIfInBounds i true).getD j false=L.getD j false:=fun j hj=>getD_set_ne false (Ne.symm hj);have p:∀j,j≠d->(f.put (some d) v).t j=f.t j:=fun j hj=>by simp[Fr.put,hj]
   refine⟨nr,br,wr,⟨?_,k.base,k.fa.put h1 h2,?_,?_,?_,k.d,?_,?_,?_,?_,?_,?_,?_⟩⟩
   ·rw[k.len];unfold w2C;rw[g 3 (Ne.symm i3),g 7 (Ne.symm i7),g 9 (Ne.symm i9)]
   ·rw[p 1 (Ne.symm d1)];exact k.t1
   ·rw[p 2 (Ne.symm d2)];exact k.t2
   ·rw[p 3 (Ne.symm d3)];exact k.t3
   ·rw[g 3 (Ne.symm i3),p 16 (Ne.symm d16)];exact k.a3
   ·rw[g 7 (Ne.symm i7),p 20 (Ne.symm d20)];exact k.a7
   ·rw[g 8 (Ne.symm i8),p 21 (Ne.symm d21)];exact k.a8
   ·rw[g 9 (Ne.symm i9),g 10 (Ne.symm i10),p 4 (Ne.symm d4)];exact k.a9
   ·rw[g 3 (Ne.symm i3),g 7 (Ne.symm i7)];exact k.n37
   ·rw[g 3 (Ne.symm i3),g 9 (Ne.symm i9)];exact k.n39
   ·rw[g 7 (Ne.symm i7),g 9 (Ne.symm i9)];exact k.n79
  have hfa:=k.fa
  match i,hlt with
  |0,_=>have pu:=pu 13 (.lp 0 3) (by simp[w2A]) (by simp[w2A]) (by decide);simp only[wq.1,Nat.reduceLT,t1];exact pu
  |1,_=>have dp:=aG hi (l:=[0]) (by decide +kernel);have e13:=FAz hfa 0 13 (.lp 0 3) (by simp[w2A]) (dp 0 (by simp));have pu:=pu 14 (jD c.gates) (by simp[w2A]) (by simp[w2A]) (by decide);simp only[wq.1,seval,h0,e13];exact pu
  |2,_=>have dp:=aG hi (l:=[1]) (by decide +kernel);have e14:=FAz hfa 1 14 (jD c.gates) (by simp[w2A]) (dp 1 (by simp));have pu:=pu 15 (vi c.gates.length) (by simp[w2A]) (by simp[w2A]) (by decide);simp only[wq.1,Nat.reduceLT,e14];exact pu
  |3,_ =>
   have dp:=aG hi (l:=[2]) (by decide +kernel);have e15:=FAz hfa 2 15 (vi c.gates.length) (by simp[w2A]) (dp 2 (by simp));simp only[wq.1,seval,e15];have sf:(L.setIfInBounds 3 true).getD 3 false=true:=by simp[Array.getD,sz]
   have g:∀j,j≠3->(L.setIfInBounds 3 true).getD j false=L.getD j false:=fun j hj=>getD_set_ne false (Ne.symm hj);have p:∀(v:V) j,j≠16->(f.put (some 16) v).t j=f.t j:=fun v j hj=>by simp[Fr.put,hj]
   have ps:∀v:V,(f.put (some 16) v).t 16=v:=fun v=>by simp[Fr.put]
   have old:∀(o:O) i x,h[i]? =some x->(h++[o])[i]? =some x:=fun o i x hx=>by rw[zqj (zqe hx).1];exact hx
   have lt:∀ {i:Nat} {x:O},h[i]? =some x->i<h.length:=fun hx=>(zqe hx).1;have hB:B.length<=h.length:=by rw[k.len];omega
   have bs:∀(o:O) i,i<B.length->(h++[o])[i]? =B[i]? :=fun o i hi=>by rw[zqj (by omega)];exact k.base i hi
   have nw:∀o:O,(h++[o])[h.length]? =some o:=fun o=>by simp
   have n8:L.getD 8 false=false:=aU hcl no (by decide +kernel);have n10:L.getD 10 false=false:=aU hcl n8 (by decide +kernel);refine⟨⟨by omega,by omega⟩,h.length,br,wr,⟨?_,bs _,hfa.put (by simp[w2A]) (by simp[w2A]),?_,?_,?_,k.d,?_,?_,?_,?_,?_,?_,?_⟩⟩
   ·rw[zqa,k.len];unfold w2C;rw[sf,g 7 (by decide),g 9 (by decide),no];simp only[zrt,List.length_nil,if_true,zrm,if_false];omega
   ·rw[p _ 1 (by decide)];exact k.t1
   ·rw[p _ 2 (by decide)];exact k.t2
   ·rw[p _ 3 (by decide)];exact k.t3
   ·intro _;exact⟨ps _,hB,nw _⟩
   ·rw[g 7 (by decide),p _ 20 (by decide)];exact fun hh=>⟨(k.a7 hh).1,(k.a7 hh).2.1,old _ _ _ (k.a7 hh).2.2⟩
   ·rw[g 8 (by decide),n8];intro hh;cases hh
   ·rw[g 9 (by decide),g 10 (by decide),p _ 4 (by decide),n10,if_neg (by decide)];intro hh;have:=k.a9 hh;rw[n10,if_neg (by decide)]at this;exact⟨this.1,this.2.1,old _ _ _ this.2.2⟩
   ·rw[g 7 (by decide)];intro _ hh;have:=lt (k.a7 hh).2.2;omega
   ·rw[g 9 (by decide)];intro _ hh;have:=lt (k.a9 hh).2.2;omega
   ·rw[g 7 (by decide),g 9 (by decide)];exact k.n79
  |4,_=>have pu:=pu 17 (.lp 0 3) (by simp[w2A]) (by simp[w2A]) (by decide);simp only[wq.1,Nat.reduceLT,t1];exact pu
  |5,_=>have dp:=aG hi (l:=[4]) (by decide +kernel);have e13:f.t 17= .lp 0 3:=hfa (4,17,.lp 0 3) (by simp[w2A]) (dp 4 (by simp));have pu:=pu 18 (jD c.gates) (by simp[w2A]) (by simp[w2A]) (by decide);simp only[wq.1,seval,h0,e13];exact pu
  |6,_=>have dp:=aG hi (l:=[5]) (by decide +kernel);have e14:f.t 18=jD c.gates:=hfa (5,18,jD c.gates) (by simp[w2A]) (dp 5 (by simp));have pu:=pu 19 (vi c.gates.length) (by simp[w2A]) (by simp[w2A]) (by decide);simp only[wq.1,Nat.reduceLT,e14];exact pu
  |7,_ =>
   have dp:=aG hi (l:=[6]) (by decide +kernel);have e19:=FAz hfa 6 19 (vi c.gates.length) (by simp[w2A]) (dp 6 (by simp));simp only[wq.1,seval,e19];have sf:(L.setIfInBounds 7 true).getD 7 false=true:=by simp[Array.getD,sz]
   have g:∀j,j≠7->(L.setIfInBounds 7 true).getD j false=L.getD j false:=fun j hj=>getD_set_ne false (Ne.symm hj);have p:∀(v:V) j,j≠20->(f.put (some 20) v).t j=f.t j:=fun v j hj=>by simp[Fr.put,hj]
   have ps:∀v:V,(f.put (some 20) v).t 20=v:=fun v=>by simp[Fr.put]
   have old:∀(o:O) i x,h[i]? =some x->(h++[o])[i]? =some x:=fun o i x hx=>by rw[zqj (zqe hx).1];exact hx
   have lt:∀ {i:Nat} {x:O},h[i]? =some x->i<h.length:=fun hx=>(zqe hx).1;have hB:B.length<=h.length:=by rw[k.len];omega
   have bs:∀(o:O) i,i<B.length->(h++[o])[i]? =B[i]? :=fun o i hi=>by rw[zqj (by omega)];exact k.base i hi
   have nw:∀o:O,(h++[o])[h.length]? =some o:=fun o=>by simp
   have n8:L.getD 8 false=false:=aU hcl no (by decide +kernel);have n10:L.getD 10 false=false:=aU hcl n8 (by decide +kernel);refine⟨⟨by omega,by omega⟩,nr,h.length,wr,⟨?_,bs _,hfa.put (by simp[w2A]) (by simp[w2A]),?_,?_,?_,k.d,?_,?_,?_,?_,?_,?_,?_⟩⟩
   ·rw[zqa,k.len];unfold w2C;rw[sf,g 3 (by decide),g 9 (by decide),no];simp only[zrt,List.length_nil,if_true,zrm,if_false];omega
   ·rw[p _ 1 (by decide)];exact k.t1
   ·rw[p _ 2 (by decide)];exact k.t2
   ·rw[p _ 3 (by decide)];exact k.t3
   ·rw[g 3 (by decide),p _ 16 (by decide)];exact fun hh=>⟨(k.a3 hh).1,(k.a3 hh).2.1,old _ _ _ (k.a3 hh).2.2⟩
   ·intro _;exact⟨ps _,hB,nw _⟩
   ·rw[g 8 (by decide),n8];intro hh;cases hh
   ·rw[g 9 (by decide),g 10 (by decide),p _ 4 (by decide),n10,if_neg (by decide)];intro hh;have:=k.a9 hh;rw[n10,if_neg (by decide)]at this;exact⟨this.1,this.2.1,old _ _ _ this.2.2⟩
   ·rw[g 3 (by decide)];intro hh _;have:=lt (k.a3 hh).2.2;omega
   ·rw[g 3 (by decide),g 9 (by decide)];exact k.n39
   ·rw[g 9 (by decide)];intro _ hh;have:=lt (k.a9 hh).2.2;omega
  |8,_ =>
   have dp:=aG hi (l:=[3,7]) (by decide +kernel);obtain⟨e16,_⟩:=k.a3 (dp 3 (by simp));obtain⟨e20,_⟩:=k.a7 (dp 7 (by simp));simp only[wq.1,seval,e16,e20];have sf:(L.setIfInBounds 8 true).getD 8 false=true:=by simp[Array.getD,sz]
   have g:∀j,j≠8->(L.setIfInBounds 8 true).getD j false=L.getD j false:=fun j hj=>getD_set_ne false (Ne.symm hj);have p:∀(v:V) j,j≠21->(f.put (some 21) v).t j=f.t j:=fun v j hj=>by simp[Fr.put,hj]
   have ps:∀v:V,(f.put (some 21) v).t 21=v:=fun v=>by simp[Fr.put]
   refine⟨nr,br,wr,⟨?_,k.base,hfa.put (by simp[w2A]) (by simp[w2A]),?_,?_,?_,k.d,?_,?_,?_,?_,?_,?_,?_⟩⟩
   ·rw[k.len];unfold w2C;rw[g 3 (by decide),g 7 (by decide),g 9 (by decide)]
   ·rw[p _ 1 (by decide)];exact k.t1
   ·rw[p _ 2 (by decide)];exact k.t2
   ·rw[p _ 3 (by decide)];exact k.t3
   ·rw[g 3 (by decide),p _ 16 (by decide)];exact k.a3
   ·rw[g 7 (by decide),p _ 20 (by decide)];exact k.a7
   ·intro _;exact ps _
   ·rw[g 9 (by decide),g 10 (by decide),p _ 4 (by decide)];exact k.a9
   ·rw[g 3 (by decide),g 7 (by decide)];exact k.n37
   ·rw[g 3 (by decide),g 9 (by decide)];exact k.n39
   ·rw[g 7 (by decide),g 9 (by decide)];exact k.n79
  |9,_ =>
   simp only[wq.1,Nat.reduceLT];have sf:(L.setIfInBounds 9 true).getD 9 false=true:=by simp[Array.getD,sz]
   have g:∀j,j≠9->(L.setIfInBounds 9 true).getD j false=L.getD j false:=fun j hj=>getD_set_ne false (Ne.symm hj);have p:∀(v:V) j,j≠4->(f.put (some 4) v).t j=f.t j:=fun v j hj=>by simp[Fr.put,hj]
   have ps:∀v:V,(f.put (some 4) v).t 4=v:=fun v=>by simp[Fr.put]
   have old:∀(o:O) i x,h[i]? =some x->(h++[o])[i]? =some x:=fun o i x hx=>by rw[zqj (zqe hx).1];exact hx
   have lt:∀ {i:Nat} {x:O},h[i]? =some x->i<h.length:=fun hx=>(zqe hx).1;have hB:B.length<=h.length:=by rw[k.len];omega
   have bs:∀(o:O) i,i<B.length->(h++[o])[i]? =B[i]? :=fun o i hi=>by rw[zqj (by omega)];exact k.base i hi
   have nw:∀o:O,(h++[o])[h.length]? =some o:=fun o=>by simp
   have n10:L.getD 10 false=false:=aU hcl no (by decide +kernel);refine⟨nr,br,h.length,⟨?_,bs _,hfa.put (by simp[w2A]) (by simp[w2A]),?_,?_,?_,k.d,?_,?_,?_,?_,?_,?_,?_⟩⟩
   ·rw[zqa,k.len];unfold w2C;rw[sf,g 3 (by decide),g 7 (by decide),no];simp only[zrt,List.length_nil,if_true,zrm,if_false];omega
   ·rw[p _ 1 (by decide)];exact k.t1
   ·rw[p _ 2 (by decide)];exact k.t2
   ·rw[p _ 3 (by decide)];exact k.t3
   ·rw[g 3 (by decide),p _ 16 (by decide)];exact fun hh=>⟨(k.a3 hh).1,(k.a3 hh).2.1,old _ _ _ (k.a3 hh).2.2⟩
   ·rw[g 7 (by decide),p _ 20 (by decide)];exact fun hh=>⟨(k.a7 hh).1,(k.a7 hh).2.1,old _ _ _ (k.a7 hh).2.2⟩
   ·rw[g 8 (by decide),p _ 21 (by decide)];exact k.a8
   ·intro _;rw[g 10 (by decide),n10,if_neg (by decide)];exact⟨ps _,hB,nw _⟩
   ·rw[g 3 (by decide),g 7 (by decide)];exact k.n37
   ·rw[g 3 (by decide)];intro hh _;have:=lt (k.a3 hh).2.2;omega
   ·rw[g 7 (by decide)];intro hh _;have:=lt (k.a7 hh).2.2;omega
  |10,_ =>
   have dp:=aG hi (l:=[8,9]) (by decide +kernel);obtain⟨e4,_,hw⟩:=k.a9 (dp 9 (by simp));have e21:=k.a8 (dp 8 (by simp));rw[no,if_neg (by decide)]at hw;simp only[wq.1,Nat.reduceAdd,e4,e21,hw];have sf:(L.setIfInBounds 10 true).getD 10 false=true:=by simp[Array.getD,sz]
   have g:∀j,j≠10->(L.setIfInBounds 10 true).getD j false=L.getD j false:=fun j hj=>getD_set_ne false (Ne.symm hj);have d37:L.getD 3 false=true/\L.getD 7 false=true:=⟨l9 hcl (dp 8 (by simp)) (l:=[3,7]) (by decide +kernel) 3 (by simp),l9 hcl (dp 8 (by simp)) (l:=[3,7]) (by decide +kernel) 7 (by simp)⟩;have wl:=(zqe hw).1;have w4:=(k.a9 (dp 9 (by simp))).2.1;refine⟨nr,br,wr,⟨?_,fun i hi=> ?_,hfa.skip (by simp[w2A]),k.t1,k.t2,k.t3,k.d,?_,?_,?_,?_,?_,?_,?_⟩⟩
   ·rw[zrn,k.len];unfold w2C;rw[g 3 (by decide),g 7 (by decide),g 9 (by decide)]
   ·rw[zqn (by omega)];exact k.base i hi
   ·rw[g 3 (by decide),zqn (Ne.symm (k.n39 d37.1 (dp 9 (by simp))))];exact k.a3
   ·rw[g 7 (by decide),zqn (Ne.symm (k.n79 d37.2 (dp 9 (by simp))))];exact k.a7
   ·rw[g 8 (by decide)];exact k.a8
   ·intro _;rw[sf,if_pos rfl];exact⟨e4,w4,zqt wl⟩
   ·rw[g 3 (by decide),g 7 (by decide)];exact k.n37
   ·rw[g 3 (by decide),g 9 (by decide)];exact k.n39
   ·rw[g 7 (by decide),g 9 (by decide)];exact k.n79
 ·rintro L f h hall ⟨nr,br,wr,k⟩;have hs:∀i,i<11->L.getD i false=true:=fun i hi=>hall i hi;obtain⟨_,b1,b2⟩:=k.a3 (hs 3 (by omega));obtain⟨_,b3,b4⟩:=k.a7 (hs 7 (by omega));obtain⟨b5,b6,b7⟩:=k.a9 (hs 9 (by omega));rw[if_pos (hs 10 (by omega))]at b7;refine hk f h nr br wr ?_ k.base k.t1 k.t2 k.t3 b5 k.d b1 b3 b6 (k.n37 (hs 3 (by omega)) (hs 7 (by omega))) (k.n39 (hs 3 (by omega)) (hs 9 (by omega))) (k.n79 (hs 7 (by omega)) (hs 9 (by omega))) b2 b4 b7;rw[k.len];unfold w2C;rw[if_pos (hs 3 (by omega)),if_pos (hs 7 (by omega)),if_pos (hs 9 (by omega))]
def AL:List Nat->Nat->Option Nat
 |[],_=>none
 |x::l,s=>if x=s then some 0 else(AL l s).map (·+1)
theorem kG(s:Nat):∀(ks:List Nat),gY (.int .i64) (nv s) (bZ ks)=some (AL ks s)
 |[]=>rfl
 |k::ks=>by
  simp only[zrd,gY,keq,AL];by_cases h:k=s
  ·subst h;simp
  ·have:((s:Int)==(k:Int))=false:=by rw[beq_eq_false_iff_ne];omega
   rw[this,kG s ks,if_neg h];cases AL ks s<;>rfl
theorem AO:∀ {l:List Nat} {s n:Nat},AL l s=some n->∃h:n<l.length,l[n]=s
 |[],s,n,h=>by cases h
 |x::l,s,n,h=>by
  simp only[AL]at h;by_cases e:x=s
  ·rw[if_pos e]at h;cases h;exact⟨by simp,e⟩
  ·rw[if_neg e]at h;cases h1:AL l s with
   |none=>rw[h1]at h;cases h
   |some m=>rw[h1]at h;cases h;obtain⟨a,b⟩:=AO h1;exact⟨by simpa using a,by simpa using b⟩
theorem sK:∀ {l:List Nat} {s:Nat},AL l s=none↔l.contains s=false
 |[],s=>by simp[AL]
 |x::l,s=>by
  rw[AL,List.contains_cons];by_cases e:x=s
  ·simp[e]
  ·have:(s==x)=false:=by simpa using fun h=>e h.symm
   rw[if_neg e,this,Bool.false_or,<-sK (l:=l)];cases AL l s<;>simp
abbrev pI(n:Nat):List V:=List.replicate n (.bool true)
abbrev Kt(l:List Nat):O:= .map (bZ l) (pI l.length)
theorem Jw{l:List Nat}{k:Nat}(h:l.contains k=false):OM (.int .i64) (nv k) (.bool true) (bZ l) (pI l.length)=some (bZ (l++[k]),pI (l++[k]).length):=by
 unfold OM;rw[kG,sK.2 h];show some (bZ l++[nv k],pI l.length++[V.bool true])=_;have e1:pI (l++[k]).length=pI l.length++[V.bool true]:=by rw[zqa];exact List.replicate_succ'
 have e2:bZ (l++[k])=bZ l++[nv k]:=zql;rw[e1,e2]
def iP(n i:Nat):List V:=(List.range n).map fun j=>if j<i then .lm (7+n+2*j+1)else .nilm
def byC(B:List (List Nat)):List V:=(List.range B.length).map fun k=> .ls (7+k) 1 0 (B.getD k []).length (B.getD k []).length
structure WS(c:Ci)(h:H)(nr br wr n i:Nat)(N B:List (List Nat)):Prop where
 len:h.length=7+n+2*i
 x0:h[0]? =some (ciO c)
 x1:h[1]? =some (.cells [.nils,.nils])
 x3:h[3]? =some (plO (aN c))
 xw:h[wr]? =some (.cells (mw n nr br))
 xn:h[nr]? =some (.cells (iP n i))
 xm:∀j,j<i->h[7+n+2*j+1]? =some (Kt (N.getD j []))
 xb:h[br]? =some (.cells (byC B))
 xr:∀k,k<n->h[7+k]? =some (.cells (bZ (B.getD k [])))
 lN:N.length=n
 lB:B.length=n
 r:4<=nr/\nr<7/\4<=br/\br<7/\4<=wr/\wr<7/\nr≠br/\nr≠wr/\br≠wr
theorem jo{n i:Nat}:(iP n i).length=n:=by simp[iP]
theorem Jy{n i j:Nat}(h:j<n)(d:V):(iP n i).getD j d=if j<i then .lm (7+n+2*j+1)else .nilm:=by unfold iP;rw[zqg,zqo,List.getElem?_range h];rfl
theorem Jz{n i:Nat}(h:i<n):(iP n i).take (i*1)++[V.lm (7+n+2*i+1)]++(iP n i).drop (i*1+1)=iP n (i+1):=by
 have e:iP n (i+1)=(iP n i).set i (V.lm (7+n+2*i+1)):=by
  apply List.ext_getElem?;intro j;by_cases hj:j<n
  ·by_cases hji:i=j
   ·subst hji;rw[zqt (by rw[jo];exact h)];simp[iP,hj]
   ·rw[zqn hji];simp only[iP,zqo,List.getElem?_range hj,zrw];by_cases h1:j<i
    ·rw[if_pos h1,if_pos (by omega)]
    ·rw[if_neg h1,if_neg (by omega)]
  ·rw[zsj (by rw[jo];omega),zsj (by rw[zrn,jo];omega)]
 rw[Nat.mul_one,e,List.set_eq_take_append_cons_drop,if_pos (by rw[jo];exact h),zqc];rfl
theorem jP{B:List (List Nat)}:(byC B).length=B.length:=by simp[byC]
theorem PZ{B:List (List Nat)}{k:Nat}(h:k<B.length)(d:V):(byC B).getD k d= .ls (7+k) 1 0 (B.getD k []).length (B.getD k []).length:=by unfold byC;rw[zqg,zqo,List.getElem?_range h];rfl
theorem P5{B:List (List Nat)}{k:Nat}{l:List Nat}(h:k<B.length):(byC B).take (k*1)++[V.ls (7+k) 1 0 l.length l.length]++(byC B).drop (k*1+1)=byC (B.set k l):=by
 have e:byC (B.set k l)=(byC B).set k (V.ls (7+k) 1 0 l.length l.length):=by
  apply List.ext_getElem?;intro j;by_cases hj:j<B.length
  ·by_cases hji:k=j
   ·subst hji;rw[zqt (by rw[jP];exact h)];simp[byC,hj]
   ·rw[zqn hji];simp only[byC,zrn,zqo,List.getElem?_range hj,zrw];rw[zqg,zqn hji,<-zqg]
  ·rw[zsj (by rw[jP,zrn];omega),zsj (by rw[zrn,jP];omega)]
 rw[Nat.mul_one,e,List.set_eq_take_append_cons_drop,if_pos (by rw[jP];exact h),zqc];rfl
theorem WS.step{c:Ci}{h:H}{nr br wr n i:Nat}{N B:List (List Nat)}(k:WS c h nr br wr n i N B)(hi:i<n)(hN:N.getD i []=[])(cp:O) :
 WS c ((h++[cp,.map [] []]).set nr (.cells (iP n (i+1)))) nr br wr n (i+1) N B:=by
 obtain⟨r1,r2,r3,r4,r5,r6,r7,r8,r9⟩:=k.r;have hl:=k.len;have old:∀j,j<h.length->nr≠j->((h++[cp,.map [] []]).set nr (.cells (iP n (i+1))))[j]? =h[j]? :=fun j h1 h2=>by rw[zqn h2,zqj h1]
 refine⟨?_,?_,?_,?_,?_,?_,?_,?_,?_,k.lN,k.lB,k.r⟩
 ·simp only[zrn,zqa,zrt,List.length_nil];omega
 ·rw[old 0 (by omega) (by omega)];exact k.x0
 ·rw[old 1 (by omega) (by omega)];exact k.x1
 ·rw[old 3 (by omega) (by omega)];exact k.x3
 ·rw[old wr (by omega) (by omega)];exact k.xw
 ·exact zqt (by simp;omega)
 ·intro j hj;by_cases hji:j=i
  ·subst hji;rw[zqn (by omega),zsb (by omega),show 7+n+2*j+1-h.length=1 by omega,hN];rfl
  ·rw[old _ (by omega) (by omega)];exact k.xm j (by omega)
 ·rw[old br (by omega) (by omega)];exact k.xb
 ·intro j hj;rw[old _ (by omega) (by omega)];exact k.xr j hj
theorem WS.add{c:Ci}{h:H}{nr br wr n i:Nat}{N B:List (List Nat)}(w:WS c h nr br wr n i N B){g k:Nat}(hg:g<i)(hi:i<=n)(hk:k<n) :
 WS c (((h.set (7+n+2*g+1) (Kt (N.getD g []++[k]))).set (7+k) (.cells (bZ (B.getD k []++[g])))).set br (.cells (byC (B.set k (B.getD k []++[g]))))) nr br wr n i (N.set g (N.getD g []++[k])) (B.set k (B.getD k []++[g])):=by
 obtain⟨r1,r2,r3,r4,r5,r6,r7,r8,r9⟩:=w.r;have hl:=w.len;have lN:=w.lN;have lB:=w.lB;have old:∀(x y z:O) j,br≠j->7+k≠j->7+n+2*g+1≠j->(((h.set (7+n+2*g+1) x).set (7+k) y).set br z)[j]? =h[j]? :=fun x y z j h1 h2 h3=>by rw[zqn h1,zqn h2,zqn h3]
 refine⟨?_,?_,?_,?_,?_,?_,?_,?_,?_,by rw[zrn];exact lN,by rw[zrn];exact lB,w.r⟩
 ·simp only[zrn];exact hl
 ·rw[old _ _ _ 0 (by omega) (by omega) (by omega)];exact w.x0
 ·rw[old _ _ _ 1 (by omega) (by omega) (by omega)];exact w.x1
 ·rw[old _ _ _ 3 (by omega) (by omega) (by omega)];exact w.x3
 ·rw[old _ _ _ wr (by omega) (by omega) (by omega)];exact w.xw
 ·rw[old _ _ _ nr (by omega) (by omega) (by omega)];exact w.xn
 ·intro j hj;by_cases hji:g=j
  ·subst hji;rw[zqn (by omega),zqn (by omega),zqt (by omega),zqg (l:=N.set _ _),zqt (by omega)];rfl
  ·rw[old _ _ _ _ (by omega) (by omega) (by omega),w.xm j hj,zqg,zqg,zqn hji]
 ·exact zqt (by simp;omega)
 ·intro j hj;by_cases hji:k=j
  ·subst hji;rw[zqn (by omega),zqt (by simp;omega),zqg (l:=B.set _ _),zqt (by omega)];rfl
  ·rw[old _ _ _ _ (by omega) (by omega) (by omega),w.xr j hj,zqg,zqg,zqn hji]
theorem AP{e:E}{n:Nat}{r:Option Nat}{c:Code}{Q:XE->Fr->H->Prop}{f:Fr}:∀(m:Nat) {h:H},awp e n r c Q f (h++List.replicate m (.cells []))->awp e n r c Q f h
 |0,h,hw=>by simpa using hw
 |m+1,h,hw=>gz (AP m (by rw[zqc];exact hw))
theorem Nl{n:Nat}:fP (List.replicate n .nils) (byC (List.replicate n [])):=by
 have:∀(m:Nat)(g:Nat->Nat),fP (List.replicate m .nils) ((List.range m).map fun k=> .ls (g k) 1 0 0 0):=by
  intro m
  induction m with
  |zero=>exact fun _=>fP.nil
  |succ m ih=>intro g;rw[List.replicate_succ,List.range_succ_eq_map,zrd,List.map_map];exact fP.cons dO (ih fun k=>g (k+1))
 have e:byC (List.replicate n [])=(List.range n).map fun k=> .ls (7+k) 1 0 0 0:=by unfold byC;rw[zsc];refine zsd fun k hk=> ?_;rw[zqg,List.getElem?_replicate];split<;>rfl
 rw[e];exact this n _
theorem WS.first{c:Ci}{h:H}{nr br wr:Nat}(h0:h[0]? =some (ciO c))(h1:h[1]? =some (.cells [.nils,.nils]))(h3:h[3]? =some (plO (aN c)))(hl:h.length=7)
 (a1:4<=nr) (a2:4<=br) (a3:4<=wr) (n1:nr≠br) (n2:nr≠wr) (n3:br≠wr)
 (b1:h[nr]? =some (.cells (List.replicate c.gates.length .nilm))) (b2:h[br]? =some (.cells (List.replicate c.gates.length .nils))) (b3:h[wr]? =some (.cells (mw c.gates.length nr br))) :
 WS c ((h++List.replicate c.gates.length (O.cells [])).set br (.cells (byC (List.replicate c.gates.length [])))) nr br wr c.gates.length 0 (List.replicate c.gates.length []) (List.replicate c.gates.length []):=by
 have lt:∀ {i:Nat} {x:O},h[i]? =some x->i<h.length:=fun hx=>(zqe hx).1;have l1:=lt b1;have l2:=lt b2;have l3:=lt b3;have old:∀(x:O) j,j<7->br≠j->((h++List.replicate c.gates.length (O.cells [])).set br x)[j]? =h[j]? :=fun x j h1 h2=>by rw[zqn h2,zqj (by omega)]
 refine⟨?_,?_,?_,?_,?_,?_,?_,?_,?_,by simp,by simp,by omega,by omega,by omega,by omega,by omega,by omega,n1,n2,n3⟩
 ·simp;omega
 ·rw[old _ 0 (by omega) (by omega)];exact h0
 ·rw[old _ 1 (by omega) (by omega)];exact h1
 ·rw[old _ 3 (by omega) (by omega)];exact h3
 ·rw[old _ wr (by omega) (by omega)];exact b3
 ·rw[old _ nr (by omega) (by omega),b1];have:iP c.gates.length 0=List.replicate c.gates.length .nilm:=by
   rw[List.eq_replicate_iff];refine⟨jo,fun v hv=> ?_⟩;obtain⟨j,_,rfl⟩:=zrh.1 hv;exact if_neg (by omega)
  rw[this]
 ·intro j hj;omega
 ·exact zqt (by simp;omega)
 ·intro j hj;rw[zqn (by omega),zsb (by omega),List.getElem?_replicate,if_pos (by omega),zqg,List.getElem?_replicate,if_pos hj];rfl
end Go.Proofs.YtokppohljajhjaaGreatDoor
