/- Lemmas for this claim, part F05: each holds under what it names. -/
import Derived.Test.YtmlacppmbfbjgaaGreatDoorF04
set_option linter.unusedVariables false
set_option linter.unusedSimpArgs false
set_option linter.unnecessarySimpa false
set_option maxRecDepth 20000
namespace Go.Proofs.YtmlacppmbfbjgaaGreatDoor
open Go Go.Proofs Go.Abs
section
variable {n:Nat} {bud:Int} {L:Lay} {S:St} {h:H} {a:Int} {j:Nat}
def QA:Plan:= .take 0<| .take 1<| .take 2<| .take 3<| .take 4<| .take 5<| .take 6<| .take 8<| .take 9<| .take 10<| .alt 7 (.one 11<| .one 12<| .take 13<| .one 14<| .fin) (.one 11 (.one 7<| .one 12<| .take 13<| .one 14<| .fin))
def QB:Plan:= .take 0<| .take 1<| .take 2<| .take 3<| .take 4<| .take 6<| .take 8<| .take 9<| .take 10<| .take 12<| .alt 5 (.take 7<| .one 11<| .take 13<| .take 14<| .take 15<| .one 16<| .take 17<| .take 18<| .one 19<| .fin) (.one 11 (.take 13<| .one 5<| .take 7<| .take 14<| .take 15<| .one 16<| .take 17<| .take 18<| .one 19<| .fin))
def iw (S:St) (ts:Cl) (nx:List (Int×Int)):St :=
 {S with v:=fun i=>if i∈ts.map Int.natAbs then {S.v i with last:=(S.v i).value,value:=0,reason:=none} else S.v i,nx:=nx}
theorem O8:iw S [] S.nx=S:=by unfold iw;simp
theorem Iw {ts:Cl} {nx:List (Int×Int)} (h1:a.natAbs≤n) (h2:¬a.natAbs∈ts.map Int.natAbs) :
 ((((di L (iw S ts nx) n).set (a.natAbs*5+3) (vi (S.v a.natAbs).value)).set (a.natAbs*5) (vi 0)).set (a.natAbs*5+2) .nils)=di L (iw S (ts++[a]) nx) n:=by
 have hf:∀i,(fG L (iw S ts nx) ((iw S ts nx).v i)).length=5:=fun _=>rfl;rw[iH,iH,kK hf h1 (by omega)];have hf1:=vM hf (k:=a.natAbs) (l:=(fG L (iw S ts nx) ((iw S ts nx).v a.natAbs)).set 3 (vi (S.v a.natAbs).value)) rfl;have e2:=kK (n:=n) (k:=a.natAbs) (j:=0) (v:=vi 0) hf1 h1 (by omega);rw[Nat.add_zero]at e2;rw[e2];have hf2:=vM hf1 (k:=a.natAbs) (l:=(upd (fun i=>fG L (iw S ts nx) ((iw S ts nx).v i)) a.natAbs ((fG L (iw S ts nx) ((iw S ts nx).v a.natAbs)).set 3 (vi (S.v a.natAbs).value)) a.natAbs).set 0 (vi 0)) (by rw[aO];rfl);rw[kK (n:=n) (k:=a.natAbs) (j:=2) (v:= .nils) hf2 h1 (by omega)];refine lM fun i hi=> ?_;by_cases he:i=a.natAbs
 ·subst he;simp only[aO];have e3:(iw S ts nx).v a.natAbs=S.v a.natAbs:=if_neg h2;have e4:(iw S (ts++[a]) nx).v a.natAbs={S.v a.natAbs with last:=(S.v a.natAbs).value,value:=0,reason:=none}:=if_pos (by simp);rw[e3,e4];rfl
 ·simp only[aU he];have e3:(iw S (ts++[a]) nx).v i=(iw S ts nx).v i:=by
   show(if _ then _ else _)=(if _ then _ else _);by_cases hm:i∈ts.map Int.natAbs
   ·rw[if_pos hm,if_pos (by rw[List.map_append];exact List.mem_append_left _ hm)]
   ·rw[if_neg hm,if_neg (by rw[List.map_append];simp only[List.map_cons,List.map_nil,List.mem_append,List.mem_singleton];exact fun h=>h.elim hm he)]
  rw[e3];rfl
theorem HS.undo {ts:Cl} {nx:List (Int×Int)} (hs:HS n bud L (iw S ts nx) h):HS n bud L (iw S (ts++[a]) nx) (h.set L.v (.cells (di L (iw S (ts++[a]) nx) n))):=by
 have k1:=hs.toHR.setV (iw S (ts++[a]) nx).v (fun i hi j hj=>by
  have hj:(if i∈(ts++[a]).map Int.natAbs then {S.v i with last:=(S.v i).value,value:=0,reason:=none} else S.v i).reason=some j:=hj;by_cases hm:i∈(ts++[a]).map Int.natAbs
  ·rw[if_pos hm]at hj;cases hj
  ·rw[if_neg hm]at hj;refine hs.fre i hi j ?_;show(if i∈ts.map Int.natAbs then {S.v i with last:=(S.v i).value,value:=0,reason:=none} else S.v i).reason=some j;rw[if_neg fun h=>hm (by rw[List.map_append];exact List.mem_append_left _ h)];exact hj)
 refine⟨k1,?_⟩;rw[aK hs.rv hs.rs (by simp)];exact hs.sol
theorem Ls (hs:HS n bud L S h) {k:Nat} (hk:S.lv.length≤k) (hk2:k≤100000000) {R:AEnd→H→(Nat→Bool)→Prop} (hr:R (.ret (.tup [])) h (fun _=>false)):ah TE 156 [.lp L.s 0,vi k] h R:=by
 have hsol:=hs.sol;have e:decide ((S.lv.length:Int)≤(k:Int))=true:=by rw[decide_eq_true_eq];omega
 refine au Tryz.func156 rfl (by simp[nts]) (vm ?_);simp only[wq.1,seval,Tryz.results156,hsol,ax,e];exact hr
theorem rM (hs : HS n bud L S h) (hn : n ≤ 20000) {k b : Nat} (hk : k < S.lv.length) (eb : S.lv.getD k 0 = b) (hb : b ≤ S.tr.length) (htr : S.tr.length ≤ 20000) (hlv : S.lv.length ≤ 20000)
 (hnd:(S.tr.map Int.natAbs).Nodup) (hlit:∀a∈S.tr,a.natAbs≤n) (hnx:S.nx.length≤10000000000) {R:AEnd→H→(Nat→Bool)→Prop}
 (hr:∀nx h' p,nx.Perm (S.nx++(S.tr.drop b).map fun a=>((a.natAbs:Int),(S.v a.natAbs).score))→HS n bud L (dV S k nx) h'→h.length≤h'.length→(∀q,p q=true→q=L.x)→R (.ret (.tup [])) h' p) :
 ah TE 156 [.lp L.s 0,vi k] h R:=by
 have hM:maxLen=9223372036854775807:=rfl;have hsol:=hs.sol;have hlvl:=hs.lvl;have e1:decide ((S.lv.length:Int)≤(k:Int))=false:=by rw[decide_eq_false_iff_not];omega
 have eg:(fM S.lv).getD (k*1) .any=vi b:=by unfold fM;rw[Nat.mul_one,List.getD_eq_getElem?_getD,List.getElem?_map,List.getElem?_eq_getElem hk,←eb,List.getD_eq_getElem?_getD,List.getElem?_eq_getElem hk];rfl
 have el:(fM S.lv).length=S.lv.length:=List.length_map ..;refine ru ?_;refine au Tryz.func156 rfl (by simp[nts]) (vm ?_);simp only[wq.1,seval,Tryz.results156,hsol,ax,e1,hlvl,eg,el];refine⟨⟨by omega,by omega⟩,by omega,⟨by omega,by omega⟩,?_⟩;obtain⟨tl,etl⟩:∃tl,tl=S.tr.drop b:=⟨_,rfl⟩;have hltl:tl.length=S.tr.length-b:=by rw[etl,List.length_drop]
 have hndt:(tl.map Int.natAbs).Nodup:=by rw[etl];exact(List.Nodup.sublist ((List.drop_sublist b S.tr).map _) hnd)
 refine aA (fun m f' h'=>∃(i:Nat) (nx:List (Int×Int)),m+i=S.tr.length-b∧f'.t 0= .lp L.s 0∧f'.t 1=vi k∧f'.t 4=vi b∧f'.t 27= .ls L.t 1 b (S.tr.length-b) (S.tr.length-b)∧f'.t 28=vi (S.tr.length-b:Nat)∧f'.t 29=vi i∧f'.d=[]∧(∀q,f'.k q=true→q=L.x) ∧
  nx.Perm (S.nx++(tl.take i).map fun a=>((a.natAbs:Int),(S.v a.natAbs).score))∧HS n bud L (iw S (tl.take i) nx) h'∧h.length≤h'.length) (S.tr.length-b)
  ⟨0,S.nx,rfl,by simp only[wq.1,seval],by simp only[wq.1,seval],by simp only[wq.1,seval];try rfl,by simp only[wq.1,seval];try simp,by simp only[wq.1,seval];try simp,by simp only[wq.1,↓reduceIte];try rfl,by simp only[wq.1];try rfl,(fun q hq=>absurd hq Bool.false_ne_true),by simp,by rw[List.take_zero,O8];exact hs,Nat.le_refl _⟩ ?_
 rintro m f h2 ⟨i,nx,hm,g0,g1,g4,g27,g28,g29,gd,gk,hp,hs2,hl2⟩;have hsol2:=hs2.sol;have htrl2:h2[L.t]? =some (.cells (S.tr.map vi)):=hs2.trl;have hpl:=hp.length_eq;rw[List.length_append,List.length_map,List.length_take]at hpl;by_cases hi:i<S.tr.length-b
 ·have eb1 : decide ((i : Int) < ((S.tr.length - b : Nat) : Int)) = true := by rw [decide_eq_true_eq];omega
  have hib:b+i<S.tr.length:=by omega
  obtain⟨a,ea⟩:∃a,a=S.tr[b+i]:=⟨_,rfl⟩;have hga:(S.tr.map vi).getD (b+i*1) .any=vi a:=by rw[ea];simp[List.getD_eq_getElem?_getD,hib]
  have ha:a.natAbs≤n:=hlit a (by rw[ea];exact List.getElem_mem hib);have eta:tl[i]'(by omega)=a:=by simp only[etl,ea,List.getElem_drop]
  have etk:tl.take (i+1)=tl.take i++[a]:=by rw[List.take_add_one,List.getElem?_eq_getElem (by omega),eta];rfl
  have hnm:¬a.natAbs∈(tl.take i).map Int.natAbs:=by intro hm2;have h3:((tl.take (i+1)).map Int.natAbs).Nodup:=List.Nodup.sublist ((List.take_sublist _ _).map _) hndt;rw[etk,List.map_append,List.nodup_append]at h3;exact h3.2.2 _ hm2 a.natAbs (by simp) rfl
  have ev:(iw S (tl.take i) nx).v a.natAbs=S.v a.natAbs:=if_neg hnm;have hvar:=hs2.var;have c0:=vc0 (L:=L) (S:=iw S (tl.take i) nx) ha;have c4:=vc4 (L:=L) (S:=iw S (tl.take i) nx) ha;rw[ev]at c0 c4;have bH:=Iw (L:=L) (S:=S) (nx:=nx) ha hnm;have hlv2:=hs2.rlt _ _ hs2.rv;have hsU:=hs2.undo (a:=a);have c4n:(di L (iw S (tl.take i++[a]) nx) n).getD (a.natAbs*5+4) .any=vi (S.v a.natAbs).score:=by rw[vc4 ha];have:(iw S (tl.take i++[a]) nx).v a.natAbs={S.v a.natAbs with last:=(S.v a.natAbs).value,value:=0,reason:=none}:=if_pos (by simp);rw[this]
  have hvs:L.v≠L.s:=aY L hs2.rv hs2.rs (by simp);have hpl2:nx.length≤20000000000:=by omega
  refine ag (vm ?_);simp only[wq.1,Nat.reduceLT,g28,g29];refine ag (vm ?_);simp only[wq.1,↓reduceIte,eb1];refine ag (aI ?_);refine ag (vm ?_);simp only[wq.1,seval,g27,g29,htrl2,hga];refine⟨by omega,by omega,?_⟩;refine ag (vm ?_);simp only[wq.1,seval,g0];refine mQ hs2 hn ha ?_;simp only[wq.1,seval];refine ag (vm ?_);simp only[wq.1,seval,hvar,bf,c0,VU ha,RQ ha,RS ha,hlv2,List.getElem?_set_self,List.set_set,List.length_set,bH];refine⟨by omega,by omega,by omega,by omega,?_⟩;refine bY mixed QA (fun f' h'=>∃nx2,nx2.Perm (nx++[((a.natAbs:Int),(S.v a.natAbs).score)])∧HS n bud L (iw S (tl.take i++[a]) nx2) h'∧h2.length≤h'.length∧f'.t 0= .lp L.s 0∧f'.t 1=vi k∧f'.t 4=vi b∧f'.t 27= .ls L.t 1 b (S.tr.length-b) (S.tr.length-b)∧f'.t 28=vi (S.tr.length-b:Nat)∧f'.t 29=vi i∧f'.d=[]∧(∀q,f'.k q=true→q=L.x)) (by decide +kernel) (by decide +kernel) ?_ ?_
  ·simp only[wq.1,seval,QA,g0,bf,c4n,Qy hn ha,List.getElem?_set_self,hlv2];have fin:∀nx2 h3 (p:Nat→Bool),nx2.Perm (nx++[((a.natAbs:Int),(S.v a.natAbs).score)])→HS n bud L (iw S (tl.take i++[a]) nx2) h3→h3.length=(h2.set L.v (.cells (di L (iw S (tl.take i++[a]) nx) n))).length→(∀q,p q=true→q=L.x)→p L.s=false∧p L.t=false:=fun nx2 h3 p q1 q2 q3 q4=>by
    refine⟨?_,?_⟩
    ·cases e:p L.s with
     | false=>rfl
     | true=>exact absurd (q4 _ e) (aY L hs2.rs hs2.rx (by simp))
    ·cases e:p L.t with
     | false=>rfl
     | true=>exact absurd (q4 _ e) (aY L hs2.rt hs2.rx (by simp))
   refine⟨by decide,⟨by omega,by decide,rJ hsU (by show nx.length≤_;omega) _ _ fun nx2 h3 p q1 q2 q3 q4=> ?_⟩,⟨by omega,by decide,rJ hsU (by show nx.length≤_;omega) _ _ fun nx2 h3 p q1 q2 q3 q4=> ?_⟩⟩
   all_goals
    obtain⟨p1,p2⟩:=fin nx2 h3 p q1 q2 q3 q4;simp only[wq.1,seval,aZ,p1,p2,g0,g1,g4,g27,g28,g29,gd];refine⟨nx2,q1,q2,by rw[q3,List.length_set];exact Nat.le_refl _,fun q hq=> ?_⟩;rcases Bool.or_eq_true_iff.1 hq with hq | hq
    ·exact gk q hq
    ·exact q4 q hq
  ·rintro f2 h3 ⟨nx2,q1,q2,q3,e0,e1,e4,e27,e28,e29,ed,ek⟩;have hw2 : IntKind.i64.wrap ((i : Int) + 1) = ((i + 1 : Nat) : Int) := by rw [aX (by omega) (by omega)];omega
   simp only[wq.1];refine vm ?_;simp only[wq.1,seval,e29,hw2];refine .inl ⟨m-1,by omega,i+1,nx2,by omega,by simp only[wq.1,seval,e0],by simp only[wq.1,seval,e1],by simp only[wq.1,seval,e4],by simp only[wq.1,seval,e27],by simp only[wq.1,seval,e28],by simp only[wq.1,↓reduceIte],by simp only[wq.1,ed],ek,q1.trans ?_,by rw[etk];exact q2,by omega⟩;rw[etk,List.map_append,←List.append_assoc];exact hp.append_right _
 ·have eb1 : decide ((i : Int) < ((S.tr.length - b : Nat) : Int)) = false := by rw [decide_eq_false_iff_not];omega
  have hit:tl.take i=tl:=List.take_of_length_le (by omega);rw[hit]at hp hs2;have hsol3:h2[L.s]? =some (.cells [.ls L.v 5 0 (n+1) (n+1),.lm L.m,.ls L.t 1 0 S.tr.length S.tr.length,vi S.hd,.ls L.l 1 0 S.lv.length S.lv.length,.ls L.x 2 0 nx.length nx.length,.ls L.g 1 0 S.ln.length S.ln.length,vi bud]):=hs2.sol;have hls:=hs2.rlt _ _ hs2.rs;refine vm ?_;simp only[wq.1,seval,g28,g29,eb1];refine bY mixed QB (fun f' h'=>f'.t 0= .lp L.s 0∧f'.t 4=vi b∧f'.d=[]∧(∀q,f'.k q=true→q=L.x)∧h'=h2.set L.s (.cells [.ls L.v 5 0 (n+1) (n+1),.lm L.m,.ls L.t 1 0 b S.tr.length,vi S.hd,.ls L.l 1 0 k S.lv.length,.ls L.x 2 0 nx.length nx.length,.ls L.g 1 0 S.ln.length S.ln.length,vi bud])) (by decide +kernel) (by decide +kernel) ?_ ?_
  ·simp only[wq.1,seval,QB,g0,g1,g4,gd,hsol3,hls,List.getElem?_set_self,List.set_set];exact⟨⟨⟨by omega,by omega⟩,⟨by omega,by omega⟩,gk⟩,⟨by omega,by omega⟩,⟨by omega,by omega⟩,gk⟩
  ·rintro f2 h3 ⟨e0,e4,ed,ek,rfl⟩;simp only [wq.1,seval,e0,e4,ed,hls,List.getElem?_set_self,List.set_set];have hlen0 : h.length ≤ h2.length := hl2;have htl : tl = S.tr.drop (S.lv.getD k 0) := by rw [etl,eb]
   have eS:dV S k nx={iw S tl nx with tr:=S.tr.take b,lv:=S.lv.take k,hd:=b}:=by unfold dV iw;rw[←htl,eb]
   have k1:=hs2.toHR.setRow (id:=L.t) (cs:=(S.tr.take b).map vi) hs2.rt (S.tr.take b) S.lv nx (.inl ⟨rfl,rfl,rfl,rfl,rfl⟩);have k2:=k1.setRow (id:=L.l) (cs:=fM (S.lv.take k)) hs2.rl (S.tr.take b) (S.lv.take k) nx (.inr (.inl ⟨rfl,rfl,rfl,rfl,rfl⟩));have k3:=k2.setS (.cells (ax n bud L (dV S k nx)));have hst:L.s≠L.t:=aY L hs2.rs hs2.rt (by simp);have hsl:L.s≠L.l:=aY L hs2.rs hs2.rl (by simp);have htl2:L.t≠L.l:=aY L hs2.rt hs2.rl (by simp);have hB:HS n bud L (dV S k nx) (((h2.set L.t (.cells ((S.tr.take b).map vi))).set L.l (.cells (fM (S.lv.take k)))).set L.s (.cells (ax n bud L (dV S k nx)))):=by refine⟨?_,List.getElem?_set_self (by simpa using hls)⟩;rw[eS]at k3 ⊢;exact⟨k3.var,k3.map,k3.trl,k3.lvl,k3.nxl,k3.lnl,k3.lnk,k3.cla,k3.wat,k3.fre,k3.fwt,k3.rs,k3.rv,k3.rm,k3.rt,k3.rl,k3.rx,k3.rg,k3.rlt,k3.ext⟩
   refine⟨_,?_,hr nx _ f2.k (by rw[←etl];exact hp) hB (by simpa using hlen0) ek⟩;have hlk:(S.lv.take k).length=k:=by rw[List.length_take];omega
   have hlb:(S.tr.take b).length=b:=by rw[List.length_take];omega
   refine HLe.trans (HLe.set (i:=L.s) (List.getElem?_set_self hls) (o':= .cells (ax n bud L (dV S k nx))) (OLe.cells (Nat.le_refl _) ?_)) ?_
   ·simp only[ax,dV,List.length_cons,List.length_nil,List.take_succ_cons,List.take_nil,List.take_zero,eb,hlk,hlb];exact .cons (.refl _)<| .cons (.refl _)<| .cons (VLe.cap (by omega))<| .cons (.refl _)<| .cons (VLe.cap (by omega))<| .refl _
   ·rw [List.set_set,List.set_comm _ _ hsl.symm,List.set_comm _ _ hst.symm];have t1 : (h2.set L.s (.cells (ax n bud L (dV S k nx))))[L.t]? = some (.cells (S.tr.map vi)) := by rw [List.getElem?_set_ne hst];exact hs2.trl
    have t2:((h2.set L.s (.cells (ax n bud L (dV S k nx)))).set L.t (.cells ((S.tr.take b).map vi)))[L.l]? =some (.cells (fM S.lv)):=by rw[List.getElem?_set_ne htl2,List.getElem?_set_ne hsl];exact hs2.lvl
    refine HLe.trans (HLe.set t1 (o':= .cells ((S.tr.take b).map vi)) ?_) (HLe.set t2 ?_)
    ·have := OLe.take (S.tr.map vi) b
     rwa [←List.map_take]at this
    ·have := OLe.take (fM S.lv) k;unfold fM at this ⊢
     rwa [←List.map_take]at this
end
def gG (S:St) (a:Int) (F:List Nat):St:={S with wt:=fun b=>if b=a then F else S.wt b}
section
variable {n:Nat} {bud:Int} {L:Lay} {S:St} {h:H} {a:Int} {j:Nat}
theorem jX (S:St) (a:Int):gG S a (S.wt a)=S:=by
 have:(fun b=>if b=a then S.wt a else S.wt b)=S.wt:=funext fun b=>by
  by_cases he:b=a
  ·subst he;rw[if_pos rfl]
  ·rw[if_neg he]
 show {S with wt:=fun b=>if b=a then S.wt a else S.wt b}=S;rw[this]
theorem lS (S:St) (a:Int) (F G:List Nat):gG (gG S a F) a G=gG S a G:=by
 have:(fun b=>if b=a then G else if b=a then F else S.wt b)=fun b=>if b=a then G else S.wt b:=funext fun b=>by
  by_cases he:b=a
  ·simp only[he,if_true]
  ·simp only[he,if_false]
 show {S with wt:=fun b=>if b=a then G else if b=a then F else S.wt b}={S with wt:=fun b=>if b=a then G else S.wt b};rw[this]
theorem HR.wput (k : HR n L S h) {id : Nat} (hw : L.w a = some id) {F : List Nat} (hF : ∀ q ∈ F,q < S.nc) {h' : H} (hh : ∀ i r,L.ro i = some r → r ≠ .w a → r ≠ .m → h'[i]? = h[i]?)
 (hid:h'[id]? =some (.cells (F.map (clV L S))))
 (hm:∃ks:List Int,h'[L.m]? =some (.map (ks.map vi) (ks.map fun b=>if b=a then .ls id 1 0 F.length F.length else mwV L S b))∧ks.Nodup∧∀b,¬b∈ks→L.w b=none∧S.wt b=[])
 (hl:h.length≤h'.length):HR n L (gG S a F) h' where
 var:=by rw[hh _ _ k.rv (by simp) (by simp)];exact k.var
 map:=by
  obtain⟨ks,h1,h2,h3⟩:=hm;refine⟨ks,?_,h2,fun b hb=> ?_⟩
  ·rw [h1]
   congr 2
   refine List.map_congr_left fun b hb=> ?_;show _=FB (L.w b) 1 (if b=a then F else S.wt b).length;by_cases he:b=a
   ·subst he;rw[if_pos rfl,if_pos rfl,hw];rfl
   ·rw[if_neg he,if_neg he];rfl
  ·have he : b ≠ a := fun e => by have := (h3 b hb).1;rw [e,hw] at this;cases this
   show L.w b=none∧(if b=a then F else S.wt b)=[];rw[if_neg he];exact h3 b hb
 trl:=by rw[hh _ _ k.rt (by simp) (by simp)];exact k.trl
 lvl:=by rw[hh _ _ k.rl (by simp) (by simp)];exact k.lvl
 nxl:=by rw[hh _ _ k.rx (by simp) (by simp)];exact k.nxl
 lnl:=by rw[hh _ _ k.rg (by simp) (by simp)];exact k.lnl
 lnk i hi:=by
  obtain⟨h1,h2⟩:=k.lnk i hi;exact⟨by rw[hh _ _ h2 (by simp) (by simp)];exact h1,h2⟩
 cla q hq:=by
  obtain⟨h1,h2⟩:=k.cla q hq;exact⟨by rw[hh _ _ h2 (by simp) (by simp)];exact h1,h2⟩
 wat b:=by
  have kw:=k.wat b;unfold fK at kw ⊢;by_cases he:b=a
  ·subst he;rw[hw]at kw ⊢;show h'[id]? =some (.cells ((if b=b then F else S.wt b).map (clV L S)))∧_;rw[if_pos rfl];exact⟨hid,kw.2⟩
  ·have e:(gG S a F).wt b=S.wt b:=if_neg he;rw[e];cases hwb:L.w b with
   | none=>rw[hwb]at kw;exact kw
   | some i=>rw[hwb]at kw;exact⟨by rw[hh _ _ kw.2 (by simpa using he) (by simp)];exact kw.1,kw.2⟩
 fre:=k.fre
 fwt b q hq:=by
  have hq:q∈(if b=a then F else S.wt b):=hq;split at hq
  ·exact hF q hq
  ·exact k.fwt b q hq
 rs:=k.rs
 rv:=k.rv
 rm:=k.rm
 rt:=k.rt
 rl:=k.rl
 rx:=k.rx
 rg:=k.rg
 rlt i r hr:=Nat.lt_of_lt_of_le (k.rlt i r hr) hl
 ext i o ho:=⟨by rw[hh _ _ ho (by simp) (by simp)];exact(k.ext i o ho).1,(k.ext i o ho).2⟩
theorem HS.wover (hs:HS n bud L S h) {id:Nat} (hw:L.w a=some id) {F:List Nat} (hF:∀q∈F,q<S.nc) (hl:F.length=(S.wt a).length):HS n bud L (gG S a F) (h.set id (.cells (F.map (clV L S)))):=by
 have hrow:=hs.wat a;unfold fK at hrow;rw[hw]at hrow;refine⟨hs.toHR.wput hw hF (fun i r hi h1 h2=>aK hrow.2 hi (Ne.symm h1)) (List.getElem?_set_self (hs.rlt _ _ hrow.2)) ?_ (by simp),by rw[aK hrow.2 hs.rs (by simp)];exact hs.sol⟩;obtain⟨ks,h1,h2,h3⟩:=hs.mapv;refine⟨ks,?_,h2,h3⟩;rw[aK hrow.2 hs.rm (by simp),h1]
 congr 2
 refine List.map_congr_left fun b hb=> ?_;by_cases he:b=a
 ·subst he;rw[if_pos rfl,hl];unfold mwV;rw[hw];rfl
 ·rw[if_neg he]
theorem OLe.map {ks vs vs':List V} (hv:gK vs vs'):OLe (.map ks vs) (.map ks vs'):=by refine⟨fun c b ho=> ?_,fun h=>by rcases h with h | h<;>cases h⟩;obtain⟨es,clk,h1,h2,h3,h4⟩:=ho;exact⟨es,clk,h1,h2,hv _ _ h3,h4⟩
theorem oQ {f g : Int → V} : ∀ (ks : List Int),(∀ b,VLe (f b) (g b)) → gK (ks.map f) (ks.map g)
 | [],_=>gK.nil
 | b::ks,h=>gK.cons (h b) (oQ ks h)
theorem HS.wtrim (hs : HS n bud L S h) {id : Nat} (hw : L.w a = some id) {k cap : Nat} (hk : k ≤ (S.wt a).length) (hc : k ≤ cap) {ks2 : List Int}
 (hn:ks2.Nodup) (h0:∀b,¬b∈ks2→L.w b=none∧S.wt b=[]) :
 ∃h2,HLe (h.set L.m (.map (ks2.map vi) (ks2.map fun b=>if b=a then .ls id 1 0 k cap else mwV L S b))) h2∧HS n bud L (gG S a ((S.wt a).take k)) h2∧h2.length=h.length:=by
 have hrow:=hs.wat a;unfold fK at hrow;rw[hw]at hrow;have hlm:=hs.rlt _ _ hs.rm;have hil:=hs.rlt _ _ hrow.2;have hmi:L.m≠id:=aY L hs.rm hrow.2 (by simp);have hF:((S.wt a).take k).length=k:=by rw[List.length_take];omega
 refine⟨(h.set L.m (.map (ks2.map vi) (ks2.map fun b=>if b=a then .ls id 1 0 k k else mwV L S b))).set id (.cells (((S.wt a).take k).map (clV L S))),?_,⟨hs.toHR.wput hw (fun q hq=>hs.fwt a q (List.mem_of_mem_take hq)) (fun i r hi h1 h2=> ?_) ?_ ⟨ks2,?_,hn,h0⟩ (by simp),?_⟩,by simp⟩
 ·refine HLe.trans (HLe.set (i := L.m) (List.getElem?_set_self hlm) (o' := .map (ks2.map vi) (ks2.map fun b => if b = a then .ls id 1 0 k k else mwV L S b)) (OLe.map (oQ ks2 fun b => ?_))) ?_
  ·by_cases he : b = a
   ·rw[if_pos he,if_pos he];exact VLe.cap hc
   ·rw[if_neg he,if_neg he];exact VLe.refl _
  ·rw [List.set_set];refine HLe.set (o := .cells ((S.wt a).map (clV L S))) ?_ ?_
   ·rw[List.getElem?_set_ne hmi];exact hrow.1
   ·have := OLe.take ((S.wt a).map (clV L S)) k
    rwa [←List.map_take]at this
 ·rw[aK hrow.2 hi (Ne.symm h1),aK hs.rm hi (Ne.symm h2)]
 ·rw[List.getElem?_set_self (by simpa using hil)]
 ·rw[aK hrow.2 hs.rm (by simp),List.getElem?_set_self hlm,hF]
 ·rw[aK hrow.2 hs.rs (by simp),aK hs.rm hs.rs (by simp)];exact hs.sol
theorem HS.wopen (hs:HS n bud L S h) (hw:L.w a=none) {ks2:List Int} (hn:ks2.Nodup) (ha:a∈ks2) (h0:∀b,¬b∈ks2→L.w b=none∧S.wt b=[]) :
 HS n bud (wZ L a h.length) S (List.set (h++[O.cells []]) L.m (.map (ks2.map vi) (ks2.map fun b=>if b=a then .ls h.length 1 0 0 0 else mwV L S b))):=by
 have hlm:=hs.rlt _ _ hs.rm;have k:=hs.toHR;have hwt:S.wt a=[]:=by have:=hs.wat a;unfold fK at this;rw[hw]at this;simpa using this
 have ne:∀ {i:Nat} {r:Ro},L.ro i=some r→r≠ .m→∀o:O,(List.set (h++[O.cells []]) L.m o)[i]? =h[i]? :=fun {i r} hi hr o=>by rw[List.getElem?_set_ne (aY L hs.rm hi (Ne.symm hr)),List.getElem?_append_left (hs.rlt _ _ hi)]
 have RO:∀ {i:Nat} {r:Ro},L.ro i=some r→(wZ L a h.length).ro i=some r:=fun {i r} hi=>by show(if i=h.length then some (Ro.w a)else L.ro i)=_;rw[if_neg (by have:=hs.rlt _ _ hi;omega)];exact hi
 refine⟨{var:=(ne k.rv (by simp) _).trans k.var,map:=⟨ks2,?_,hn,fun b hb=> ?_⟩,trl:=(ne k.rt (by simp) _).trans k.trl,lvl:=(ne k.rl (by simp) _).trans k.lvl,nxl:=(ne k.rx (by simp) _).trans k.nxl,lnl:=(ne k.rg (by simp) _).trans k.lnl,lnk:=fun i hi=>⟨(ne (k.lnk i hi).2 (by simp) _).trans (k.lnk i hi).1,RO (k.lnk i hi).2⟩,cla:=fun q hq=>⟨(ne (k.cla q hq).2 (by simp) _).trans (k.cla q hq).1,RO (k.cla q hq).2⟩,wat:=fun b=> ?_,fre:=k.fre,fwt:=k.fwt,rs:=RO k.rs,rv:=RO k.rv,rm:=RO k.rm,rt:=RO k.rt,rl:=RO k.rl,rx:=RO k.rx,rg:=RO k.rg,rlt:=fun i r hr=> ?_,ext:=fun i o ho=> ?_},by rw[show(wZ L a h.length).s=L.s from rfl,ne hs.rs (by simp)];exact hs.sol⟩
 ·rw [show (wZ L a h.length).m = L.m from rfl,List.getElem?_set_self (by simp;omega)]
  congr 2
  refine List.map_congr_left fun b hb=> ?_;show _=FB (if b=a then some h.length else L.w b) 1 (S.wt b).length;by_cases he:b=a
  ·subst he;rw[if_pos rfl,if_pos rfl,hwt];rfl
  ·rw[if_neg he,if_neg he];rfl
 ·have he:b≠a:=fun e=>hb (e▸ha);refine⟨?_,(h0 b hb).2⟩;show(if b=a then some h.length else L.w b)=none;rw[if_neg he];exact(h0 b hb).1
 ·have kw := k.wat b;unfold fK at kw ⊢;by_cases he : b = a
  ·subst he;rw[show(wZ L b h.length).w b=some h.length from if_pos rfl,hwt];refine⟨?_,if_pos rfl⟩;rw[List.getElem?_set_ne (by omega)];simp
  ·rw[show(wZ L a h.length).w b=L.w b from if_neg he];cases hwb:L.w b with
   | none=>rw[hwb]at kw;exact kw
   | some i=>rw[hwb]at kw;exact⟨(ne kw.2 (by simp) _).trans kw.1,RO kw.2⟩
 ·have hr : (if i = h.length then some (Ro.w a) else L.ro i) = some r := hr;rw [List.length_set,List.length_append,List.length_singleton];split at hr
  ·omega
  ·have:=hs.rlt _ _ hr;omega
 ·have ho : (if i = h.length then some (Ro.w a) else L.ro i) = some (.e o) := ho;split at ho
  ·cases ho
  ·exact⟨(ne ho (by simp) _).trans (k.ext i o ho).1,(k.ext i o ho).2.mono fun i r hi=>RO hi⟩
theorem HR.wputD (k : HR n L S h) {id : Nat} (hw : L.w a = some id) {F : List Nat} (hF : ∀ q ∈ F,q < S.nc) {h' : H}
 (get:∀i o,h[i]? =some o→o.drop (fun x=>x==id)=o→i≠id→i≠L.m→h'[i]? =some o)
 (hid:h'[id]? =some (.cells (F.map (clV L S))))
 (hm:∃ks:List Int,h'[L.m]? =some (.map (ks.map vi) (ks.map fun b=>if b=a then .ls id 1 0 F.length F.length else mwV L S b))∧ks.Nodup∧∀b,¬b∈ks→L.w b=none∧S.wt b=[])
 (hl:h.length≤h'.length):HR n L (gG S a F) h':=by
 have hr0:L.ro id=some (.w a):=by have kw:=k.wat a;unfold fK at kw;rw[hw]at kw;exact kw.2
 have ne:∀ {i:Nat} {r:Ro},L.ro i=some r→r≠ .w a→i≠id:=fun hi hr=>aY L hi hr0 hr;have G:∀ {i:Nat} {r:Ro} {cs:List V},L.ro i=some r→r≠ .w a→h[i]? =some (.cells cs)→(∀v∈cs,v.drop (fun x=>x==id)=v)→h'[i]? =some (.cells cs) :=
  fun hi hr hc hv=>get _ _ hc (by rw[bD,dw hv]) (ne hi hr) (fun e=>by have:=k.map;obtain⟨ks,h1,_⟩:=this;rw[←e,hc]at h1;cases h1)
 have GI:∀ {i:Nat} {r:Ro} {c:Cl},L.ro i=some r→r≠ .w a→h[i]? =some (.cells (c.map vi))→h'[i]? =some (.cells (c.map vi)) :=
  fun hi hr hc=>G hi hr hc fun v hv=>by
   obtain⟨a,_,rfl⟩:=List.mem_map.1 hv;exact dC
 have pc:∀q,q<S.nc→((fun x=>x==id) (L.c q))=false:=fun q hq=>by simpa using ne (k.cla q hq).2 (by simp)
 have pk:∀q,q<S.ln.length→((fun x=>x==id) (L.k q))=false:=fun q hq=>by simpa using ne (k.lnk q hq).2 (by simp)
 refine {var:=G k.rv (by simp) k.var ?_,map:= ?_,trl:=GI k.rt (by simp) k.trl,lvl:=G k.rl (by simp) k.lvl ?_,nxl:=G k.rx (by simp) k.nxl ?_,lnl:=G k.rg (by simp) k.lnl ?_,lnk:=fun i hi=>⟨GI (k.lnk i hi).2 (by simp) (k.lnk i hi).1,(k.lnk i hi).2⟩,cla:=fun q hq=>⟨GI (k.cla q hq).2 (by simp) (k.cla q hq).1,(k.cla q hq).2⟩,wat:= ?_,fre:=k.fre,fwt:= ?_,rs:=k.rs,rv:=k.rv,rm:=k.rm,rt:=k.rt,rl:=k.rl,rx:=k.rx,rg:=k.rg,rlt:=fun i r hr=>Nat.lt_of_lt_of_le (k.rlt i r hr) hl,ext:=fun i o ho=>⟨get i o (k.ext i o ho).1 ((k.ext i o ho).2 _ fun q r hq hpq=>by
  have e:q=id:=by simpa using hpq
  subst e;rw[hq]at hr0;cases hr0;exact .inr (.inr (.inr (.inr ⟨a,rfl⟩)))) (ne ho (by simp)) (aY L ho k.rm (by simp)),(k.ext i o ho).2⟩}
 ·intro v hv;unfold di at hv;obtain ⟨i,hi,hv⟩ := List.mem_flatMap.1 hv;have hi : i ≤ n := by have := List.mem_range.1 hi;omega
  simp only[fG,List.mem_cons,List.not_mem_nil,or_false]at hv;rcases hv with rfl | rfl | rfl | rfl | rfl<;>try exact dC
  show V.drop _ (reV L S (S.v i).reason)=reV L S (S.v i).reason;cases hr:(S.v i).reason with
  | none=>simp only[reV,V.drop]
  | some j=>exact aW (pc j (k.fre i hi j hr))
 ·obtain ⟨ks,h1,h2,h3⟩ := hm;refine ⟨ks,?_,h2,fun b hb => ?_⟩
  ·rw [h1]
   congr 2
   refine List.map_congr_left fun b hb=> ?_;show _=FB (L.w b) 1 (if b=a then F else S.wt b).length;by_cases he:b=a
   ·subst he;rw[if_pos rfl,if_pos rfl,hw];rfl
   ·rw[if_neg he,if_neg he];rfl
  ·have he : b ≠ a := fun e => by have := (h3 b hb).1;rw [e,hw] at this;cases this
   show L.w b=none∧(if b=a then F else S.wt b)=[];rw[if_neg he];exact h3 b hb
 ·intro v hv;obtain⟨a,_,rfl⟩:=List.mem_map.1 hv;exact dC
 ·intro v hv;obtain⟨t,_,hv⟩:=List.mem_flatMap.1 hv;simp only[List.mem_cons,List.not_mem_nil,or_false]at hv;rcases hv with rfl | rfl<;>exact dC
 ·intro v hv;obtain⟨i,hi,rfl⟩:=List.mem_map.1 hv;exact aW (pk i (List.mem_range.1 hi))
 ·intro b;have kw := k.wat b;unfold fK at kw ⊢;by_cases he : b = a
  ·subst he;rw[hw]at kw ⊢;show h'[id]? =some (.cells ((if b=b then F else S.wt b).map (clV L S)))∧_;rw[if_pos rfl];exact⟨hid,kw.2⟩
  ·have e:(gG S a F).wt b=S.wt b:=if_neg he;rw[e];cases hwb:L.w b with
   | none=>rw[hwb]at kw;exact kw
   | some i=>rw[hwb]at kw;refine⟨G kw.2 (by simpa using he) kw.1 fun v hv=> ?_,kw.2⟩;obtain⟨q,hq,rfl⟩:=List.mem_map.1 hv;exact aW (pc q (k.fwt b q hq))
 ·intro b q hq;have hq : q ∈ (if b = a then F else S.wt b) := hq;split at hq
  ·exact hF q hq
  ·exact k.fwt b q hq
theorem HS.wanew (hs:HS n bud L S h) {id:Nat} (hw:L.w a=some id) {ks2:List Int} (hn:ks2.Nodup) (h0:∀b,¬b∈ks2→L.w b=none∧S.wt b=[]) :
 (∀o:O,((List.map (O.drop fun x=>x==id) h).set id o)[L.m]? =(h[L.m]?).map (O.drop fun x=>x==id)) ∧
 (∀o:O,((List.map (O.drop fun x=>x==id) h).set id o)[L.s]? =some (.cells (ax n bud L S)))∧(L.m==id)=false∧(L.s==id)=false∧(∀j,j<S.nc→(L.c j==id)=false) ∧
 V.drops (fun x=>x==id) ((S.wt a).map (clV L S))=(S.wt a).map (clV L S) ∧
 HS n bud L S (((List.map (O.drop fun x=>x==id) h).set id (.cells ((S.wt a).map (clV L S)))).set L.m (.map (ks2.map vi) (ks2.map fun b=>if b=a then .ls id 1 0 (S.wt a).length (S.wt a).length else(mwV L S b).drop fun x=>x==id))):=by
 have hrow:=hs.wat a;unfold fK at hrow;rw[hw]at hrow;obtain⟨hr1,hr2⟩:=hrow;have hsol:=hs.sol;have hil:=hs.rlt _ _ hr2;have hlm:=hs.rlt _ _ hs.rm;have hms:L.m≠L.s:=aY L hs.rm hs.rs (by simp);have hmi:L.m≠id:=aY L hs.rm hr2 (by simp);have hsi:L.s≠id:=aY L hs.rs hr2 (by simp);have nb:∀ {i r},L.ro i=some r→r≠ .w a→(i==id)=false:=fun hi hr=>by simp[aY L hi hr2 hr]
 have b2:=nb hs.rm (by simp);have hsol2:∀v∈ax n bud L S,v.drop (fun x=>x==id)=v:=fun v hv=>by
  simp only[ax,List.mem_cons,List.not_mem_nil,or_false]at hv;rcases hv with rfl | rfl | rfl | rfl | rfl | rfl | rfl | rfl<;>first | exact dC | exact aW (nb hs.rv (by simp)) | exact aW (nb hs.rt (by simp)) | exact aW (nb hs.rl (by simp)) | exact aW (nb hs.rx (by simp)) | exact aW (nb hs.rg (by simp)) | skip
  rw[V.drop,b2];rfl
 have q2:∀o:O,((List.map (O.drop fun x=>x==id) h).set id o)[L.s]? =some (.cells (ax n bud L S)):=fun o=>by rw[List.getElem?_set_ne hsi.symm];exact Lm hsol hsol2
 refine⟨fun o=>by rw[List.getElem?_set_ne hmi.symm,List.getElem?_map],q2,b2,nb hs.rs (by simp),fun j hj=>nb (hs.cla j hj).2 (by simp),dw fun v hv=> ?_,?_,?_⟩
 ·obtain⟨q,hq,rfl⟩:=List.mem_map.1 hv;exact aW (nb (hs.cla q (hs.fwt a q hq)).2 (by simp))
 ·have := hs.toHR.wputD hw (F := S.wt a) (hs.fwt a) (h' := ((List.map (O.drop fun x => x == id) h).set id (.cells ((S.wt a).map (clV L S)))).set L.m (.map (ks2.map vi) (ks2.map fun b => if b = a then .ls id 1 0 (S.wt a).length (S.wt a).length else (mwV L S b).drop fun x => x == id))) ?_ ?_ ⟨ks2,?_,hn,h0⟩ (by simp)
  ·rwa [jX]at this
  ·intro i cs hi hv hne hqm;have hqm:=hqm.symm;rw[List.getElem?_set_ne hqm,List.getElem?_set_ne (Ne.symm hne)];exact Ll hi hv
  ·rw[List.getElem?_set_ne hmi,List.getElem?_set_self (by simpa using hil)]
  ·rw [List.getElem?_set_self (by simpa using hlm)]
   congr 2
   refine List.map_congr_left fun b hb=> ?_;by_cases he:b=a
   ·rw[if_pos he,if_pos he]
   ·rw[if_neg he,if_neg he];unfold mwV;have kw:=hs.wat b;unfold fK at kw;cases hwb:L.w b with
    | none=>simp only[FB,V.drop]
    | some i=>rw[hwb]at kw;exact aW (nb kw.2 (by simpa using he))
 ·rw[List.getElem?_set_ne hms];exact q2 _
end
end Go.Proofs.YtmlacppmbfbjgaaGreatDoor
