/- Lemmas for this claim, part F03: each holds under what it names. -/
import Derived.Test.YtmlacppmbfbjgaaGreatDoorF02
import Derived.Test.YtmlacppmbfbjgaaGreatDoorA8
set_option linter.unusedVariables false
set_option linter.unusedSimpArgs false
set_option linter.unnecessarySimpa false
set_option maxRecDepth 20000
namespace Go.Proofs.YtmlacppmbfbjgaaGreatDoor
open Go Go.Proofs Go.Abs
section
variable {n:Nat} {l d Lc:List Cl} {S:St}
theorem sK.mono {seen seen':List Nat} {i:Nat} (h:sK S seen i) (hs:∀v∈seen,v∈seen') (hn:∀(hi:i<S.tr.length),(S.tr[i]).natAbs∈seen'→(S.tr[i]).natAbs∈seen):sK S seen' i:=by intro hi h1 h2;obtain⟨k,k1,k2,k3⟩:=h hi (hn hi h1) h2;exact⟨k,k1,k2,fun b hb hne=>⟨(k3 b hb hne).1,(k3 b hb hne).2.mono hs⟩⟩
theorem Io (t:Tr n S) {i q:Nat} (hi:i<S.tr.length) {a:Int} (ha:-a∈S.tr.take q) (he:(S.tr[i]).natAbs=a.natAbs):i<q:=by
 obtain⟨p,hp,hpq,e⟩:=iY ha;have h1:S.tr[i]=S.tr[p]:=qB t.nd _ (List.getElem_mem hi) _ (List.getElem_mem hp) (by rw[he,e,Int.natAbs_neg]);have hnd:=List.pairwise_iff_getElem.1 t.nodup;rcases Nat.lt_trichotomy i p with h2 | h2 | h2
 ·omega
 ·omega
 ·exact absurd h1.symm (hnd p i hp hi h2)
structure LA (S : St) (j0 q : Nat) (p : Int) (j : Nat) (seen : List Nat) (rest : Cl) : Prop where
 li:LI S seen rest
 dn:∀i,q<i→sK S seen i
 qn:q≤S.tr.length
 jn:j<S.nc
 jf:∀b∈S.cl j,b≠p→-b∈S.tr.take q
 pp:(p=0∧q=S.tr.length∧j=j0)∨((∃hq:q<S.tr.length,p=S.tr[q])∧p∈S.cl j∧cO S seen q≠0∧∀b∈S.cl j0,Acc S seen b)
structure LC (S : St) (j0 q : Nat) (seen : List Nat) (rest : Cl) : Prop where
 li:LI S seen rest
 dn:∀i,q≤i→sK S seen i
 qn:q≤S.tr.length
 op:cO S seen q≠0
 ac:∀b∈S.cl j0,Acc S seen b
theorem LA.mark {j0 q j:Nat} {p:Int} {seen:List Nat} {rest:Cl} (k:LA S j0 q p j seen rest) (t:Tr n S) {a:Int} (ha:a∈S.cl j) (hap:a≠p) (h0:eH S a≠0) (hs:¬a.natAbs∈seen) :
 (eH S a=S.lv.length→LA S j0 q p j (seen++[a.natAbs]) rest∧cO S (seen++[a.natAbs]) q=cO S seen q+1) ∧
 (eH S a≠S.lv.length→LA S j0 q p j (seen++[a.natAbs]) (rest++[a])∧cO S (seen++[a.natAbs]) q=cO S seen q):=by
 have hat:=k.jf a ha hap;obtain⟨m1,m2⟩:=k.li.mark t hat h0 hs;have hsub:∀v∈seen,v∈seen++[a.natAbs]:=fun v hv=>List.mem_append_left _ hv;have dn:∀i,q<i→sK S (seen++[a.natAbs]) i:=fun i hi=>(k.dn i hi).mono hsub fun hil hm=>by
  rcases List.mem_append.1 hm with hm | hm
  ·exact hm
  ·have:=Io t hil hat (List.mem_singleton.1 hm);omega
 refine⟨fun h=>⟨⟨(m1 h).1,dn,k.qn,k.jn,k.jf,?_⟩,(m1 h).2⟩,fun h=>⟨⟨(m2 h).1,dn,k.qn,k.jn,k.jf,?_⟩,(m2 h).2⟩⟩
 ·rcases k.pp with h1 | ⟨h1,h2,h3,h4⟩
  ·exact .inl h1
  ·exact .inr ⟨h1,h2,by rw[(m1 h).2];omega,fun b hb=>(h4 b hb).mono hsub⟩
 ·rcases k.pp with h1 | ⟨h1,h2,h3,h4⟩
  ·exact .inl h1
  ·exact .inr ⟨h1,h2,by rw[(m2 h).2];exact h3,fun b hb=>(h4 b hb).mono hsub⟩
theorem LA.done {j0 q j : Nat} {p : Int} {seen : List Nat} {rest : Cl} (k : LA S j0 q p j seen rest) (t : Tr n S) (h0 : ∀ b ∈ S.cl j0,b ≠ 0) (hlv : 0 < S.lv.length) (htop : ∃ b ∈ S.cl j0,eH S b = S.lv.length)
 (hac:∀b∈S.cl j,b≠p→Acc S seen b):LC S j0 q seen rest:=by
 rcases k.pp with⟨rfl,hq,rfl⟩ | ⟨⟨hq,hp⟩,h2,h3,h4⟩
 ·have hac:∀b∈S.cl j,Acc S seen b:=fun b hb=>hac b hb (h0 b hb);refine⟨k.li,fun i hi h=>by omega,k.qn,?_,hac⟩;obtain⟨b,hb,hl⟩:=htop;have h1:=k.jf b hb (h0 b hb);have h2:b.natAbs∈seen:=(hac b hb).resolve_left (by omega);unfold cO;have:0<(S.tr.take q).countP fun a=>decide (a.natAbs∈seen)&&decide (eH S a=S.lv.length):=List.countP_pos_iff.2 ⟨-b,h1,by simp[h2,eP,hl]⟩;omega
 ·refine ⟨k.li,fun i hi => ?_,k.qn,h3,h4⟩;rcases Nat.lt_or_eq_of_le hi with hi | rfl
  ·exact k.dn i hi
  ·intro _ _ _;exact⟨j,k.jn,hp▸h2,fun b hb hne=>by
    rw[←hp]at hne;exact⟨k.jf b hb hne,hac b hb hne⟩⟩
theorem LC.next {j0 q q':Nat} {seen:List Nat} {rest:Cl} (k:LC S j0 q seen rest) (i:Inv n l d Lc S) (hlv:0<S.lv.length) (hj0:j0<S.nc) (hf:∀b∈S.cl j0,-b∈S.tr) (h1:q'+1≤q) (h2:q'<S.tr.length) (hg:Gap S seen (q'+1) q) (hs:(S.tr[q']).natAbs∈seen) :
 eH S S.tr[q']=S.lv.length∧cO S seen q=cO S seen q'+1∧(cO S seen q'=0→Bad (l++S.ln) (zo (-S.tr[q']::rest))) ∧
 (cO S seen q'≠0→∃c,(S.v (S.tr[q']).natAbs).reason=some c∧LA S j0 q' S.tr[q'] c seen rest):=by
 obtain⟨hD,ho⟩:=Ij i.t h1 h2 hg k.op hs;have dn:∀p,q'<p→sK S seen p:=by
  intro p hp hpl hps hpd;by_cases hpq:p<q
  ·exact absurd hps (hg p hpl (by omega) hpq)
  ·exact k.dn p (by omega) hpl hps hpd
 refine⟨hD,ho,fun h=>KZ i k.li h2 hs hD h dn hj0 fun b hb=>⟨hf b hb,k.ac b hb⟩,fun h=> ?_⟩;obtain⟨c,c1,c2,c3,c4⟩:=KY (seen:=seen) i.r i.t h2 hlv hD h;exact⟨c,c1,k.li,dn,by omega,c2,c4,.inr ⟨⟨h2,rfl⟩,c3,h,k.ac⟩⟩
theorem LA.start (t:Tr n S) {j0:Nat} (hj:j0<S.nc) (hf:∀b∈S.cl j0,-b∈S.tr):LA S j0 S.tr.length 0 j0 [] [] :=
 ⟨LI.start,fun i hi h=>by omega,Nat.le_refl _,hj,fun b hb _=>by rw[List.take_length];exact hf b hb,.inl ⟨rfl,rfl,rfl⟩⟩
theorem Fz {seen:List Nat} {q:Nat} (h:q≤S.tr.length):cO S seen q≤q:=by unfold cO;refine Nat.le_trans List.countP_le_length ?_;rw[List.length_take];omega
end
theorem aZ {dst:Option Tmp} {Kn:Fr→H→Prop} {Q:XE→Fr→H→Prop} {f:Fr} {v:V} {h:H} {p:Nat→Bool}:Hg dst Kn Q f (.ret v) h p=((∀i∈f.d,p i=false)∧Kn ((f.drop p).put dst v) h):=rfl
inductive Ro where
 | s | v | m | t | l | x | g
 | c (j:Nat)
 | w (a:Int)
 | k (i:Nat)
 | e (o:O)
structure Lay where
 s:Nat
 v:Nat
 m:Nat
 t:Nat
 l:Nat
 x:Nat
 g:Nat
 c:Nat→Nat
 w:Int→Option Nat
 k:Nat→Nat
 ro:Nat→Option Ro
def FB (o:Option Nat) (k len:Nat):V:=match o with | none=> .nils | some id=> .ls id k 0 len len
def fK (h:H) (L:Lay) (r:Ro) (o:Option Nat) (cs:List V):Prop:=match o with | none=>cs=[] | some id=>h[id]? =some (.cells cs)∧L.ro id=some r
def clV (L:Lay) (S:St) (j:Nat):V:= .ls (L.c j) 1 0 (S.cl j).length (S.cl j).length
def reV (L:Lay) (S:St) (r:Option Nat):V:=match r with | none=> .nils | some j=>clV L S j
def fG (L:Lay) (S:St) (x:VS):List V:=[vi x.value,vi x.level,reV L S x.reason,vi x.last,vi x.score]
def di (L:Lay) (S:St) (n:Nat):List V:=(List.range (n+1)).flatMap fun i=>fG L S (S.v i)
def aS (nx:List (Int×Int)):List V:=nx.flatMap fun t=>[vi t.1,vi t.2]
def lnV (L:Lay) (S:St) (i:Nat):V:= .ls (L.k i) 1 0 (S.ln.getD i []).length (S.ln.getD i []).length
def ax (n:Nat) (bud:Int) (L:Lay) (S:St):List V :=
 [.ls L.v 5 0 (n+1) (n+1),.lm L.m,.ls L.t 1 0 S.tr.length S.tr.length,vi S.hd,.ls L.l 1 0 S.lv.length S.lv.length,.ls L.x 2 0 S.nx.length S.nx.length,.ls L.g 1 0 S.ln.length S.ln.length,vi bud]
def fM (lv:List Nat):List V:=lv.map fun(x:Nat)=>vi (x:Int)
def Ext (L:Lay) (o:O):Prop:=∀p:Nat→Bool,(∀q r,L.ro q=some r→p q=true→r= .t∨r= .l∨r= .x∨r= .g∨∃a,r= .w a)→o.drop p=o
theorem Ext.mono {L L':Lay} {o:O} (h:Ext L o) (hl:∀i r,L.ro i=some r→L'.ro i=some r):Ext L' o:=fun p hp=>h p fun q r hq=>hp q r (hl q r hq)
structure HR (n : Nat) (L : Lay) (S : St) (h : H) : Prop where
 var:h[L.v]? =some (.cells (di L S n))
 map:∃ks:List Int,h[L.m]? =some (.map (ks.map vi) (ks.map fun a=>FB (L.w a) 1 (S.wt a).length))∧ks.Nodup∧∀a,¬a∈ks→L.w a=none∧S.wt a=[]
 trl:h[L.t]? =some (.cells (S.tr.map vi))
 lvl:h[L.l]? =some (.cells (fM S.lv))
 nxl:h[L.x]? =some (.cells (aS S.nx))
 lnl:h[L.g]? =some (.cells ((List.range S.ln.length).map (lnV L S)))
 lnk:∀i,i<S.ln.length→h[L.k i]? =some (.cells ((S.ln.getD i []).map vi))∧L.ro (L.k i)=some (.k i)
 cla:∀j,j<S.nc→h[L.c j]? =some (.cells ((S.cl j).map vi))∧L.ro (L.c j)=some (.c j)
 wat:∀a,fK h L (.w a) (L.w a) ((S.wt a).map (clV L S))
 fre:∀i,i≤n→∀j,(S.v i).reason=some j→j<S.nc
 fwt:∀a,∀j∈S.wt a,j<S.nc
 rs:L.ro L.s=some .s
 rv:L.ro L.v=some .v
 rm:L.ro L.m=some .m
 rt:L.ro L.t=some .t
 rl:L.ro L.l=some .l
 rx:L.ro L.x=some .x
 rg:L.ro L.g=some .g
 rlt:∀i r,L.ro i=some r→i<h.length
 ext:∀i o,L.ro i=some (.e o)→h[i]? =some o∧Ext L o
structure HS (n : Nat) (bud : Int) (L : Lay) (S : St) (h : H) : Prop extends HR n L S h where
 sol:h[L.s]? =some (.cells (ax n bud L S))
section
variable {n:Nat} {bud:Int} {L:Lay} {S:St} {h:H}
theorem bf:(di L S n).length=5*(n+1):=by
 unfold di;generalize n+1=m
 induction m with
 | zero=>rfl
 | succ m ih=>rw[List.range_succ,List.flatMap_append,List.length_append,ih];simp[fG];omega
theorem BC {α : Type} (f : Nat → List α) (k : Nat) (hk : ∀ i,(f i).length = k) (d : α) : ∀ (m i j : Nat),i < m → j < k → ((List.range m).flatMap f).getD (i * k + j) d = (f i).getD j d
 | 0,i,j,hi,_=>by omega
 | m+1,i,j,hi,hj=>by
  have hlen:∀m,((List.range m).flatMap f).length=m*k:=by
   intro m
   induction m with
   | zero=>simp
   | succ m ih=>rw[List.range_succ,List.flatMap_append,List.length_append,ih];simp[hk,Nat.succ_mul]
  rw[List.range_succ,List.flatMap_append,List.getD_eq_getElem?_getD];by_cases h:i<m
  ·have : i * k + j < m * k := by have := Nat.mul_le_mul_right k (show i + 1 ≤ m by omega);rw [Nat.succ_mul] at this;omega
   rw[List.getElem?_append_left (by rw[hlen];exact this),←List.getD_eq_getElem?_getD];exact BC f k hk d m i j h hj
  ·have : i = m := by omega
   subst this;rw[List.getElem?_append_right (by rw[hlen];omega),hlen,show i*k+j-i*k=j by omega];simp[List.getD_eq_getElem?_getD]
theorem lK {i j:Nat} (hi:i≤n) (hj:j<5):(di L S n).getD (i*5+j) .any=(fG L S (S.v i)).getD j .any :=
 BC (fun i=>fG L S (S.v i)) 5 (fun _=>rfl) .any (n+1) i j (by omega) hj
theorem Qy {n:Nat} {a:Int} (hn:n≤20000) (h1:a.natAbs≤n):uz [vi a,.int .i64 (IntKind.i64.wrap (0-a))]=(True,vi (a.natAbs:Int)):=by
 rw[aX (by omega) (by omega)];simp only[uz];split
 ·rw[show 0-a=(a.natAbs:Int) by omega]
 ·rw[show a=(a.natAbs:Int) by omega];rfl
theorem mQ (hs:HS n bud L S h) (hn:n≤20000) {a:Int} (h1:a.natAbs≤n) {R:AEnd→H→(Nat→Bool)→Prop} (hr:R (.ret (.lp L.v (a.natAbs*5))) h (fun _=>false)):ah TE 168 [.lp L.s 0,vi a] h R:=by have hsol:=hs.sol;refine au Tryz.func168 rfl (by simp[nts]) (vm ?_);simp only[wq.1,seval,Tryz.results168,hsol,ax,Qy hn h1];exact⟨⟨by omega,by omega⟩,hr⟩
theorem vc0 {i:Nat} (hi:i≤n):(di L S n).getD (i*5) .any=vi (S.v i).value:=lK hi (j:=0) (by omega)
theorem vc1 {i:Nat} (hi:i≤n):(di L S n).getD (i*5+1) .any=vi (S.v i).level:=lK hi (by omega)
theorem vc2 {i:Nat} (hi:i≤n):(di L S n).getD (i*5+2) .any=reV L S (S.v i).reason:=lK hi (by omega)
theorem vc3 {i:Nat} (hi:i≤n):(di L S n).getD (i*5+3) .any=vi (S.v i).last:=lK hi (by omega)
theorem vc4 {i:Nat} (hi:i≤n):(di L S n).getD (i*5+4) .any=vi (S.v i).score:=lK hi (by omega)
theorem jW (hs:HS n bud L S h) (hn:n≤20000) {a:Int} (h1:a.natAbs≤n) (hv:-1≤(S.v a.natAbs).value∧(S.v a.natAbs).value≤1) {R:AEnd→H→(Nat→Bool)→Prop} (hr:R (.ret (vi (lh S a))) h (fun _=>false)):ah TE 150 [.lp L.s 0,vi a] h R:=by
 have hvar:=hs.var;have hw:IntKind.i64.wrap (0-(S.v a.natAbs).value)=-(S.v a.natAbs).value:=by rw[aX (by omega) (by omega)];omega
 refine au Tryz.func150 rfl (by simp[nts]) (vm ?_);simp only[wq.1,seval,Tryz.results150];refine vcB.mk (fun hc=> ?_) (fun hc=> ?_)
 ·have hl : lh S a = -(S.v a.natAbs).value := by unfold lh;rw [if_pos (by simpa using hc)]
  simp only[wq.1,seval];refine mQ hs hn h1 ?_;simp only[wq.1,seval,hvar,bf,vc0 h1,hw];rw[hl]at hr;exact⟨by omega,hr⟩
 ·have hl : lh S a = (S.v a.natAbs).value := by unfold lh;rw [if_neg (by simpa using hc)]
  simp only[wq.1,seval];refine mQ hs hn h1 ?_;simp only[wq.1,seval,hvar,bf,vc0 h1];rw[hl]at hr;exact⟨by omega,hr⟩
end
section
variable {n:Nat} {bud:Int} {L:Lay} {S:St} {h:H}
theorem aY (L:Lay) {i j:Nat} {r q:Ro} (hi:L.ro i=some r) (hj:L.ro j=some q) (hne:r≠q):i≠j:=fun e=>hne (by
 rw[e,hj]at hi;exact(Option.some.inj hi).symm)
theorem mV {cs:List V} {i:Nat} {v:V} (h:i<cs.length):List.take i cs++[v]++List.drop (i+1) cs=cs.set i v:=by rw[List.append_assoc,List.singleton_append];exact((List.set_eq_take_append_cons_drop).trans (if_pos h)).symm
theorem RQ {k:Nat} (hk:k≤n) (cs:List V) (v:V) (h:cs.length=5*(n+1)):List.take (k*5) cs++[v]++List.drop (k*5+1) cs=cs.set (k*5) v:=mV (by omega)
theorem UO {k:Nat} (hk:k≤n) (cs:List V) (v:V) (h:cs.length=5*(n+1)):List.take (k*5+1) cs++[v]++List.drop (k*5+2) cs=cs.set (k*5+1) v:=mV (by omega)
theorem RS {k:Nat} (hk:k≤n) (cs:List V) (v:V) (h:cs.length=5*(n+1)):List.take (k*5+2) cs++[v]++List.drop (k*5+3) cs=cs.set (k*5+2) v:=mV (by omega)
theorem VU {k:Nat} (hk:k≤n) (cs:List V) (v:V) (h:cs.length=5*(n+1)):List.take (k*5+3) cs++[v]++List.drop (k*5+4) cs=cs.set (k*5+3) v:=mV (by omega)
theorem VV {k:Nat} (hk:k≤n) (cs:List V) (v:V) (h:cs.length=5*(n+1)):List.take (k*5+4) cs++[v]++List.drop (k*5+5) cs=cs.set (k*5+4) v:=mV (by omega)
def TY (f:Nat→List V) (n:Nat):List V:=(List.range (n+1)).flatMap f
theorem iH:di L S n=TY (fun i=>fG L S (S.v i)) n:=rfl
theorem kK {f:Nat→List V} (hf:∀i,(f i).length=5) {k j:Nat} {v:V} (hk:k≤n) (hj:j<5):(TY f n).set (k*5+j) v=TY (upd f k ((f k).set j v)) n:=by
 have hlen:∀m,((List.range m).flatMap f).length=m*5:=by
  intro m
  induction m with
  | zero=>simp
  | succ m ih=>rw[List.range_succ,List.flatMap_append,List.length_append,ih];simp[hf,Nat.succ_mul]
 have key:∀m,k<m→((List.range m).flatMap f).set (k*5+j) v=(List.range m).flatMap (upd f k ((f k).set j v)):=by
  intro m
  induction m with
  | zero=>intro h;omega
  | succ m ih =>
   intro h;rw[List.range_succ,List.flatMap_append,List.flatMap_append];by_cases hkm:k<m
   ·rw[List.set_append_left _ _ (by rw[hlen];omega),ih hkm];simp only[List.flatMap_cons,List.flatMap_nil,List.append_nil,aU (show m≠k by omega)]
   ·have : k = m := by omega
    subst this;rw[List.set_append_right _ _ (by rw[hlen];omega),hlen,show k*5+j-k*5=j by omega];have e:(List.range k).flatMap f=(List.range k).flatMap (upd f k ((f k).set j v)):=by
     rw[List.flatMap_def,List.flatMap_def]
     congr 1
     refine List.map_congr_left fun x hx=> ?_;rw[aU (by have:=List.mem_range.1 hx;omega)]
    rw[←e];simp only[List.flatMap_cons,List.flatMap_nil,List.append_nil,aO]
 exact key (n+1) (by omega)
theorem lM {f g:Nat→List V} (h:∀i,i≤n→f i=g i):TY f n=TY g n:=by
 unfold TY;rw[List.flatMap_def,List.flatMap_def]
 congr 1
 exact List.map_congr_left fun x hx=>h x (by have:=List.mem_range.1 hx;omega)
theorem vM {f:Nat→List V} (hf:∀i,(f i).length=5) {k:Nat} {l:List V} (hl:l.length=5):∀i,(upd f k l i).length=5:=by
 intro i;unfold upd;split
 ·exact hl
 ·exact hf i
theorem BD (L:Lay) (S:St) (r:Option Nat):reV L S r= .nils∨∃id len,reV L S r= .ls id 1 0 len len:=by
 cases r with
 | none=>exact .inl rfl
 | some j=>exact .inr ⟨_,_,rfl⟩
theorem aK {i j:Nat} {o:O} {r q:Ro} (hi:L.ro i=some r) (hj:L.ro j=some q) (hne:r≠q):(h.set i o)[j]? =h[j]? :=List.getElem?_set_ne (aY L hi hj hne)
theorem HR.setS (k : HR n L S h) (o : O) : HR n L S (h.set L.s o) where
 var:=by rw[aK k.rs k.rv (by simp)];exact k.var
 map:=by
  obtain⟨ks,h1,h2⟩:=k.map;exact⟨ks,by rw[aK k.rs k.rm (by simp)];exact h1,h2⟩
 trl:=by rw[aK k.rs k.rt (by simp)];exact k.trl
 lvl:=by rw[aK k.rs k.rl (by simp)];exact k.lvl
 nxl:=by rw[aK k.rs k.rx (by simp)];exact k.nxl
 lnl:=by rw[aK k.rs k.rg (by simp)];exact k.lnl
 lnk i hi:=by
  obtain⟨h1,h2⟩:=k.lnk i hi;exact⟨by rw[aK k.rs h2 (by simp)];exact h1,h2⟩
 cla j hj:=by
  obtain⟨h1,h2⟩:=k.cla j hj;exact⟨by rw[aK k.rs h2 (by simp)];exact h1,h2⟩
 wat a:=by
  have:=k.wat a;unfold fK at this ⊢;cases hw:L.w a with
  | none=>rw[hw]at this;exact this
  | some id=>rw[hw]at this;exact⟨by rw[aK k.rs this.2 (by simp)];exact this.1,this.2⟩
 fre:=k.fre
 fwt:=k.fwt
 rs:=k.rs
 rv:=k.rv
 rm:=k.rm
 rt:=k.rt
 rl:=k.rl
 rx:=k.rx
 rg:=k.rg
 rlt i r hr:=by rw[List.length_set];exact k.rlt i r hr
 ext i o ho:=⟨by rw[aK k.rs ho (by simp)];exact(k.ext i o ho).1,(k.ext i o ho).2⟩
theorem HR.setV (k : HR n L S h) (v' : Nat → VS) (hv : ∀ i,i ≤ n → ∀ j,(v' i).reason = some j → j < S.nc) : HR n L { S with v := v' } (h.set L.v (.cells (di L { S with v := v' } n))) where
 var:=List.getElem?_set_self (k.rlt _ _ k.rv)
 map:=by
  obtain⟨ks,h1,h2⟩:=k.map;exact⟨ks,by rw[aK k.rv k.rm (by simp)];exact h1,h2⟩
 trl:=by rw[aK k.rv k.rt (by simp)];exact k.trl
 lvl:=by rw[aK k.rv k.rl (by simp)];exact k.lvl
 nxl:=by rw[aK k.rv k.rx (by simp)];exact k.nxl
 lnl:=by rw[aK k.rv k.rg (by simp)];exact k.lnl
 lnk i hi:=by
  obtain⟨h1,h2⟩:=k.lnk i hi;exact⟨by rw[aK k.rv h2 (by simp)];exact h1,h2⟩
 cla j hj:=by
  obtain⟨h1,h2⟩:=k.cla j hj;exact⟨by rw[aK k.rv h2 (by simp)];exact h1,h2⟩
 wat a:=by
  have:=k.wat a;unfold fK at this ⊢;cases hw:L.w a with
  | none=>rw[hw]at this;exact this
  | some id=>rw[hw]at this;exact⟨by rw[aK k.rv this.2 (by simp)];exact this.1,this.2⟩
 fre:=hv
 fwt:=k.fwt
 rs:=k.rs
 rv:=k.rv
 rm:=k.rm
 rt:=k.rt
 rl:=k.rl
 rx:=k.rx
 rg:=k.rg
 rlt i r hr:=by rw[List.length_set];exact k.rlt i r hr
 ext i o ho:=⟨by rw[aK k.rv ho (by simp)];exact(k.ext i o ho).1,(k.ext i o ho).2⟩
theorem HR.setRow (k : HR n L S h) {id : Nat} {cs : List V} {r : Ro} (hid : L.ro id = some r) (tr : Cl) (lv : List Nat) (nx : List (Int × Int))
 (hr:(r= .t∧cs=tr.map vi∧lv=S.lv∧nx=S.nx∧id=L.t)∨(r= .l∧cs=fM lv∧tr=S.tr∧nx=S.nx∧id=L.l)∨(r= .x∧cs=aS nx∧tr=S.tr∧lv=S.lv∧id=L.x)) :
 HR n L {S with tr:=tr,lv:=lv,nx:=nx} (h.set id (.cells cs)):=by
 have hlt:=k.rlt _ _ hid;have oth:∀ {j:Nat} {q:Ro},L.ro j=some q→q≠ .t→q≠ .l→q≠ .x→(h.set id (.cells cs))[j]? =h[j]? :=by
  intro j q hj h1 h2 h3;rcases hr with⟨rfl,_⟩ | ⟨rfl,_⟩ | ⟨rfl,_⟩
  ·exact aK hid hj (Ne.symm h1)
  ·exact aK hid hj (Ne.symm h2)
  ·exact aK hid hj (Ne.symm h3)
 refine {var:= ?_,map:= ?_,trl:= ?_,lvl:= ?_,nxl:= ?_,lnl:= ?_,lnk:= ?_,cla:= ?_,wat:= ?_,fre:=k.fre,fwt:=k.fwt,rs:=k.rs,rv:=k.rv,rm:=k.rm,rt:=k.rt,rl:=k.rl,rx:=k.rx,rg:=k.rg,rlt:=fun i q hq=>by rw[List.length_set];exact k.rlt i q hq,ext:=fun i o ho=>⟨by rw[oth ho (by simp) (by simp) (by simp)];exact(k.ext i o ho).1,(k.ext i o ho).2⟩}
 ·rw[oth k.rv (by simp) (by simp) (by simp)];exact k.var
 ·obtain⟨ks,h1,h2⟩:=k.map;exact⟨ks,by rw[oth k.rm (by simp) (by simp) (by simp)];exact h1,h2⟩
 ·show (h.set id (.cells cs))[L.t]? = some (.cells (tr.map vi));rcases hr with ⟨rfl,h1,h2,h3,rfl⟩ | ⟨rfl,h1,h2,h3,rfl⟩ | ⟨rfl,h1,h2,h3,rfl⟩
  ·rw[List.getElem?_set_self hlt,h1]
  ·rw[aK k.rl k.rt (by simp),h2];exact k.trl
  ·rw[aK k.rx k.rt (by simp),h2];exact k.trl
 ·show (h.set id (.cells cs))[L.l]? = some (.cells (fM lv));rcases hr with ⟨rfl,h1,h2,h3,rfl⟩ | ⟨rfl,h1,h2,h3,rfl⟩ | ⟨rfl,h1,h2,h3,rfl⟩
  ·rw[aK k.rt k.rl (by simp),h2];exact k.lvl
  ·rw[List.getElem?_set_self hlt,h1]
  ·rw[aK k.rx k.rl (by simp),h3];exact k.lvl
 ·show (h.set id (.cells cs))[L.x]? = some (.cells (aS nx));rcases hr with ⟨rfl,h1,h2,h3,rfl⟩ | ⟨rfl,h1,h2,h3,rfl⟩ | ⟨rfl,h1,h2,h3,rfl⟩
  ·rw[aK k.rt k.rx (by simp),h3];exact k.nxl
  ·rw[aK k.rl k.rx (by simp),h3];exact k.nxl
  ·rw[List.getElem?_set_self hlt,h1]
 ·rw[oth k.rg (by simp) (by simp) (by simp)];exact k.lnl
 ·intro i hi;obtain⟨h1,h2⟩:=k.lnk i hi;exact⟨by rw[oth h2 (by simp) (by simp) (by simp)];exact h1,h2⟩
 ·intro j hj;obtain⟨h1,h2⟩:=k.cla j hj;exact⟨by rw[oth h2 (by simp) (by simp) (by simp)];exact h1,h2⟩
 ·intro a;have:=k.wat a;unfold fK at this ⊢;cases hw:L.w a with
  | none=>rw[hw]at this;exact this
  | some id2=>rw[hw]at this;exact⟨by rw[oth this.2 (by simp) (by simp) (by simp)];exact this.1,this.2⟩
theorem dw {p : Nat → Bool} : ∀ {vs : List V},(∀ v ∈ vs,v.drop p = v) → V.drops p vs = vs
 | [],_=>by rw[V.drops]
 | v::vs,h=>by rw[V.drops,h v (by simp),dw fun u hu=>h u (by simp[hu])]
theorem aW {p:Nat→Bool} {i k o l c:Nat} (h:p i=false):V.drop p (.ls i k o l c)= .ls i k o l c:=by rw[V.drop,h];rfl
theorem dC {p:Nat→Bool} {a:Int}:V.drop p (vi a)=vi a:=by simp only[V.drop]
theorem HR.drop (k:HR n L S h) {p:Nat→Bool} (hp:∀i r,L.ro i=some r→p i=true→r= .t∨r= .l∨r= .x∨r= .g):HR n L S (h.map (O.drop p)):=by
 have hcl:=k.fre;have hwt:=k.fwt;have pc:∀j,j<S.nc→p (L.c j)=false:=fun j hj=>by
  cases hpp:p (L.c j)with
  | false=>rfl
  | true=>have:=hp _ _ (k.cla j hj).2 hpp;simp at this
 have pk:∀i,i<S.ln.length→p (L.k i)=false:=fun i hi=>by
  cases hpp:p (L.k i)with
  | false=>rfl
  | true=>have:=hp _ _ (k.lnk i hi).2 hpp;simp at this
 have pw:∀a id,L.w a=some id→p id=false:=fun a id hw=>by
  have:=k.wat a;unfold fK at this;rw[hw]at this;cases hpp:p id with
  | false=>rfl
  | true=>have:=hp _ _ this.2 hpp;simp at this
 have get:∀ {j:Nat} {cs:List V},h[j]? =some (.cells cs)→(∀v∈cs,v.drop p=v)→(h.map (O.drop p))[j]? =some (.cells cs):=by intro j cs hj hv;rw[List.getElem?_map,hj,Option.map_some,bD,dw hv]
 have gi:∀ {j:Nat} {c:Cl},h[j]? =some (.cells (c.map vi))→(h.map (O.drop p))[j]? =some (.cells (c.map vi)):=fun hj=>get hj fun v hv=>by obtain⟨a,_,rfl⟩:=List.mem_map.1 hv;exact dC
 refine {var:= ?_,map:= ?_,trl:=gi k.trl,lvl:= ?_,nxl:= ?_,lnl:= ?_,lnk:=fun i hi=>⟨gi (k.lnk i hi).1,(k.lnk i hi).2⟩,cla:=fun j hj=>⟨gi (k.cla j hj).1,(k.cla j hj).2⟩,wat:= ?_,fre:=k.fre,fwt:=k.fwt,rs:=k.rs,rv:=k.rv,rm:=k.rm,rt:=k.rt,rl:=k.rl,rx:=k.rx,rg:=k.rg,rlt:=fun i q hq=>by rw[List.length_map];exact k.rlt i q hq,ext:=fun i o ho=>⟨by rw[List.getElem?_map,(k.ext i o ho).1,Option.map_some,(k.ext i o ho).2 p fun q r hq hpq=>(hp q r hq hpq).imp id (.imp id (.imp id .inl))],(k.ext i o ho).2⟩}
 ·refine get k.var fun v hv => ?_;unfold di at hv;obtain ⟨i,hi,hv⟩ := List.mem_flatMap.1 hv;have hi : i ≤ n := by have := List.mem_range.1 hi;omega
  simp only[fG,List.mem_cons,List.not_mem_nil,or_false]at hv;rcases hv with rfl | rfl | rfl | rfl | rfl<;>try exact dC
  cases hr:(S.v i).reason with
  | none=>simp only[reV,V.drop]
  | some j=>exact aW (pc j (hcl i hi j hr))
 ·obtain ⟨ks,h1,h2,h3⟩ := k.map;refine ⟨ks,?_,h2,h3⟩;rw [List.getElem?_map,h1,Option.map_some,jI,dw (fun v hv => ?_),dw (fun v hv => ?_)]
  ·obtain⟨a,_,rfl⟩:=List.mem_map.1 hv;cases hw:L.w a with
   | none=>simp only[FB,V.drop]
   | some id=>exact aW (pw a id hw)
  ·obtain⟨a,_,rfl⟩:=List.mem_map.1 hv;exact dC
 ·refine get k.lvl fun v hv=> ?_;obtain⟨a,_,rfl⟩:=List.mem_map.1 hv;exact dC
 ·refine get k.nxl fun v hv=> ?_;obtain⟨t,_,hv⟩:=List.mem_flatMap.1 hv;simp only[List.mem_cons,List.not_mem_nil,or_false]at hv;rcases hv with rfl | rfl<;>exact dC
 ·refine get k.lnl fun v hv=> ?_;obtain⟨i,hi,rfl⟩:=List.mem_map.1 hv;exact aW (pk i (List.mem_range.1 hi))
 ·intro a;have:=k.wat a;unfold fK at this ⊢;cases hw:L.w a with
  | none=>rw[hw]at this;exact this
  | some id=>rw[hw]at this;refine⟨get this.1 fun v hv=> ?_,this.2⟩;obtain⟨j,hj,rfl⟩:=List.mem_map.1 hv;exact aW (pc j (hwt a j hj))
theorem Ip {a:Int} {r:Option Nat} (h1:a.natAbs≤n) (neg:Bool) (hneg:neg=decide (a<0)) :
 (bif neg then ((((di L S n).set (a.natAbs * 5) (vi 1)).set (a.natAbs * 5 + 1) (vi S.lv.length)).set (a.natAbs * 5 + 2) (reV L S r)).set (a.natAbs * 5) (vi (-1))
  else(((di L S n).set (a.natAbs*5) (vi 1)).set (a.natAbs*5+1) (vi S.lv.length)).set (a.natAbs*5+2) (reV L S r))=di L {S with v:=(jF S a r).v} n:=by
 subst hneg;have hf:∀i,(fG L S (S.v i)).length=5:=fun _=>rfl;rw[iH,iH];have e0:=kK (n:=n) (k:=a.natAbs) (j:=0) (v:=vi 1) hf h1 (by omega);rw[Nat.add_zero]at e0;have hf1:=vM hf (k:=a.natAbs) (l:=(fG L S (S.v a.natAbs)).set 0 (vi 1)) rfl;have e1:=kK (n:=n) (k:=a.natAbs) (j:=1) (v:=vi S.lv.length) hf1 h1 (by omega);have hf2:=vM hf1 (k:=a.natAbs) (l:=(upd (fun i=>fG L S (S.v i)) a.natAbs ((fG L S (S.v a.natAbs)).set 0 (vi 1)) a.natAbs).set 1 (vi S.lv.length)) (by rw[aO];rfl);have e2:=kK (n:=n) (k:=a.natAbs) (j:=2) (v:=reV L S r) hf2 h1 (by omega);rw[e0,e1,e2];have hf3:=vM hf2 (k:=a.natAbs) (l:=(upd (upd (fun i=>fG L S (S.v i)) a.natAbs ((fG L S (S.v a.natAbs)).set 0 (vi 1))) a.natAbs ((upd (fun i=>fG L S (S.v i)) a.natAbs ((fG L S (S.v a.natAbs)).set 0 (vi 1)) a.natAbs).set 1 (vi S.lv.length)) a.natAbs).set 2 (reV L S r)) (by simp only[aO];rfl);have e3:=kK (n:=n) (k:=a.natAbs) (j:=0) (v:=vi (-1)) hf3 h1 (by omega);rw[Nat.add_zero]at e3;rw[e3];by_cases ha:a<0
 ·simp only [ha,decide_true,cond_true];refine lM fun i hi => ?_;by_cases he : i = a.natAbs
  ·subst he;simp only[aO];show _=fG L S ((jF S a r).v a.natAbs);rw[mO,if_pos ha];rfl
  ·simp only[aU he];show _=fG L S ((jF S a r).v i);rw[sJ he]
 ·simp only [ha,decide_false,cond_false];refine lM fun i hi => ?_;by_cases he : i = a.natAbs
  ·subst he;simp only[aO];show _=fG L S ((jF S a r).v a.natAbs);rw[mO,if_neg ha];rfl
  ·simp only[aU he];show _=fG L S ((jF S a r).v i);rw[sJ he]
theorem O1 (L:Lay) {id:Nat} {r0:Ro} (hid:L.ro id=some r0) (h0:r0= .t∨r0= .l∨r0= .x∨r0= .g):∀i r,L.ro i=some r→(fun x=>x==id) i=true→r= .t∨r= .l∨r= .x∨r= .g:=by
 intro i r hi hp;have:i=id:=by simpa using hp
 subst this;rw[hid]at hi;cases hi;exact h0
theorem HS.letS (hs:HS n bud L S h) {a:Int} {r:Option Nat} (hr:∀j,r=some j→j<S.nc) (h1:a.natAbs≤n) :
 HS n bud L (jF S a r) (((List.map (O.drop fun x => x == L.t) (h.set L.v (.cells (di L { S with v := (jF S a r).v } n)))).set L.t (.cells (List.map vi S.tr ++ [vi a]))).set L.s
  (.cells [.ls L.v 5 0 (n+1) (n+1),.lm L.m,.ls L.t 1 0 (S.tr.length+1) (S.tr.length+1),vi S.hd,.ls L.l 1 0 S.lv.length S.lv.length,.ls L.x 2 0 S.nx.length S.nx.length,.ls L.g 1 0 S.ln.length S.ln.length,vi bud])):=by
 have k1:=hs.toHR.setV (Go.Proofs.YtmlacppmbfbjgaaGreatDoor.jF S a r).v (fun i hi j hj=>by
  by_cases he:i=a.natAbs
  ·subst he;rw[mO]at hj;exact hr j hj
  ·rw[sJ he]at hj;exact hs.fre i hi j hj)
 have k2:=k1.drop (p:=fun x=>x==L.t) (O1 L hs.rt (.inl rfl));have k3:=k2.setRow (cs:=List.map vi S.tr++[vi a]) hs.rt (S.tr++[a]) S.lv S.nx (.inl ⟨rfl,by simp,rfl,rfl,rfl⟩);have k4:=k3.setS (.cells [.ls L.v 5 0 (n+1) (n+1),.lm L.m,.ls L.t 1 0 (S.tr.length+1) (S.tr.length+1),vi S.hd,.ls L.l 1 0 S.lv.length S.lv.length,.ls L.x 2 0 S.nx.length S.nx.length,.ls L.g 1 0 S.ln.length S.ln.length,vi bud]);refine⟨k4,?_⟩;rw[List.getElem?_set_self (by simpa using hs.rlt _ _ hs.rs)];have e:(Go.Proofs.YtmlacppmbfbjgaaGreatDoor.jF S a r).tr.length=S.tr.length+1:=by show(S.tr++[a]).length=_;simp
 unfold ax;rw[e];rfl
theorem jJ (hs : HS n bud L S h) (hn : n ≤ 20000) {a : Int} (h1 : a.natAbs ≤ n) (htr : S.tr.length ≤ 20000) (r : Option Nat) (hr : ∀ j,r = some j → j < S.nc) {R : AEnd → H → (Nat → Bool) → Prop}
 (hk:∀h' p,HS n bud L (jF S a r) h'→(∀i,p i=true→i=L.t)→h.length≤h'.length→R (.ret (.tup [])) h' p):ah TE 151 [.lp L.s 0,vi a,reV L S r] h R:=by
 have hM:maxLen=9223372036854775807:=rfl;have hvar:=hs.var;have hsol:=hs.sol;have htrl:=hs.trl;have hvs:L.v≠L.s:=aY L hs.rv hs.rs (by simp);have hvt:L.v≠L.t:=aY L hs.rv hs.rt (by simp);have hst:L.s≠L.t:=aY L hs.rs hs.rt (by simp);have hts:=hst.symm;have hsv:L.s≠L.v:=hvs.symm;have hlv:=hs.rlt _ _ hs.rv;have hls:=hs.rlt _ _ hs.rs;have hlt:=hs.rlt _ _ hs.rt;have b1:(L.s==L.t)=false:=by simp[hst]
 have b2:(L.v==L.t)=false:=by simp[hvt]
 have b3:(L.m==L.t)=false:=by simp[aY L hs.rm hs.rt (by simp)]
 have b4:(L.l==L.t)=false:=by simp[aY L hs.rl hs.rt (by simp)]
 have b5:(L.x==L.t)=false:=by simp[aY L hs.rx hs.rt (by simp)]
 have b6:(L.g==L.t)=false:=by simp[aY L hs.rg hs.rt (by simp)]
 have hdv:V.drops (fun x=>x==L.t) (S.tr.map vi)=S.tr.map vi:=bg _;have bH:=Ip (L:=L) (S:=S) (r:=r) h1 (decide (a<0)) rfl;have hS:=hs.letS (r:=r) hr h1;rcases BD L S r with e | ⟨id,len,e⟩
 all_goals
  rw[e]at bH ⊢;refine au Tryz.func151 rfl (by simp[nts]) (vm ?_);simp only[wq.1,seval,Tryz.results151];refine mQ hs hn h1 ?_;simp only[wq.1,seval,-Int.reduceNatCast,-Int.reduceNatCast',ay,Tryz.results151,hsol,ax,hvar,bf,List.getElem?_set_self,List.length_set,hlv,RQ h1,UO h1,RS h1];refine⟨by omega,by omega,by omega,vcB.mk (fun hc=> ?_) (fun hc=> ?_)⟩
  all_goals
   simp only[wq.1,↓reduceIte,Nat.reduceEqDiff,Nat.reduceLT,Nat.reduceLeDiff,Nat.reduceAdd,Nat.reduceSub,Int.reduceToNat,Nat.reduceDiv,Int.reduceLT,Int.reduceLE,Int.reduceNeg,Int.reduceBEq,Int.reduceBNe,Int.reduceAdd,Int.reduceSub,Nat.reduceBEq,reduceCtorEq,Nat.reduceMul,ay,Tryz.results151,hsol,ax,hvar,bf,List.getElem?_set_self,List.length_set,hlv,RQ h1,UO h1,RS h1,List.getElem?_set_ne,hvs,hvt,hst,hts,hsv,ne_eq,not_false_eq_true,htrl,List.set_set,b1,b2,b3,b4,b5,b6,hdv,List.getElem?_map,List.length_map,hls,hlt];rw[hc]at bH;simp only[cond_true,cond_false]at bH;rw[bH]
   first
    | exact⟨by omega,⟨rfl,by decide⟩,⟨by omega,by omega,by omega⟩,hk _ _ hS (fun i hi=>by simpa using hi) (by simp)⟩
    | exact⟨⟨rfl,by decide⟩,⟨by omega,by omega,by omega⟩,hk _ _ hS (fun i hi=>by simpa using hi) (by simp)⟩
end
section
variable {n:Nat} {bud:Int} {L:Lay} {S:St} {h:H}
theorem HS.bump (hs:HS n bud L S h) {k:Nat} (hk:k≤n) {s:Int}:HS n bud L (rG S k s) (h.set L.v (.cells ((di L S n).set (k*5+4) (vi s)))):=by
 have e:(di L S n).set (k*5+4) (vi s)=di L {S with v:=(rG S k s).v} n:=by
  rw[iH,iH,kK (fun _=>rfl) hk (by omega)];refine lM fun i hi=> ?_;by_cases he:i=k
  ·subst he;rw[aO];show _=fG L S (upd S.v i _ i);rw[aO];rfl
  ·rw[aU he];show _=fG L S (upd S.v k _ i);rw[aU he]
 rw[e];have k1:=hs.toHR.setV (rG S k s).v (fun i hi j hj=>hs.fre i hi j (((mP i).2.2.1).symm.trans hj));refine⟨k1,?_⟩;rw[aK hs.rv hs.rs (by simp)];exact hs.sol
def sw {α:Type} (l:List α) (i k:Nat) (d:α):List α:=(l.set i (l.getD k d)).set k (l.getD i d)
theorem zB {α : Type} : ∀ {l : List α} {i : Nat} (h : i < l.length) (x : α),(x :: l).Perm (l[i] :: l.set i x)
 | [],i,h,_=>by simp at h
 | a::l,0,h,x=>List.Perm.swap _ _ _
 | a::l,i+1,h,x=>by
  have hh:i<l.length:=by simpa using h
  have:=zB hh x;show(x::a::l).Perm (l[i]::a::l.set i x);exact(List.Perm.swap _ _ _).trans ((List.Perm.cons a this).trans (List.Perm.swap _ _ _))
theorem rH {α:Type} {l:List α} {i k:Nat} {d:α} (hi:i<l.length) (hk:k<l.length):(sw l i k d).Perm l:=by
 unfold sw;rw[show l.getD k d=l[k] by simp[List.getD_eq_getElem?_getD,hk],show l.getD i d=l[i] by simp[List.getD_eq_getElem?_getD,hi]];by_cases he:i=k
 ·subst he;rw[List.set_set];simp
 ·have h1 := zB hi l[k];have h2 := zB (l := l.set i l[k]) (i := k) (by simpa using hk) l[i];have e : (l.set i l[k])[k]'(by simpa using hk) = l[k] := by rw [List.getElem_set_ne he]
  rw[e]at h2;exact((List.perm_cons _).1 (h1.trans h2)).symm
theorem vN {x len:Nat} (R:AEnd→H→(Nat→Bool)→Prop) (hr:R (.ret (vi len)) h (fun _=>false)):ah TE 174 [.ls x 2 0 len len] h R:=by refine au Tryz.func174 rfl (by simp[nts]) (vm ?_);simp only[wq.1,seval,Tryz.results174];exact hr
theorem fE : ∀ {nx : List (Int × Int)},(aS nx).length = 2 * nx.length
 | []=>rfl
 | t::nx=>by have:=fE (nx:=nx);simp only[aS]at this;simp only[aS,List.flatMap_cons,List.length_append,List.length_cons,List.length_nil];omega
theorem nx0 : ∀ {nx : List (Int × Int)} {i : Nat} (h : i < nx.length),(aS nx).getD (i * 2) .any = vi nx[i].1
 | [],i,h=>by simp at h
 | t::nx,0,h=>rfl
 | t::nx,i+1,h=>by have:=nx0 (nx:=nx) (i:=i) (by simpa using h);rw[show(i+1)*2=i*2+1+1 by omega];simpa [aS]using this
theorem nx1 : ∀ {nx : List (Int × Int)} {i : Nat} (h : i < nx.length),(aS nx).getD (i * 2 + 1) .any = vi nx[i].2
 | [],i,h=>by simp at h
 | t::nx,0,h=>rfl
 | t::nx,i+1,h=>by have:=nx1 (nx:=nx) (i:=i) (by simpa using h);rw[show(i+1)*2+1=i*2+1+1+1 by omega];simpa [aS]using this
theorem lN {x:Nat} {nx:List (Int×Int)} (hx:h[x]? =some (.cells (aS nx))) {i k:Nat} (hi:i<nx.length) (hk:k<nx.length) {R:AEnd→H→(Nat→Bool)→Prop} (hr:∀b,R (.ret (.bool b)) h (fun _=>false)) :
 ah TE 201 [.ls x 2 0 nx.length nx.length,vi i,vi k] h R:=by
 refine au Tryz.func201 rfl (by simp[nts]) (vm ?_);simp only[wq.1,seval,Tryz.results201,hx,fE,nx1 hi,nx1 hk];refine⟨by decide +kernel,⟨by omega,by omega⟩,by omega,⟨by omega,by omega⟩,by omega,vcB.mk (fun hc=> ?_) (fun hc=> ?_)⟩
 all_goals
  simp only[wq.1,seval,hx,fE,nx0 hi,nx1 hi,nx0 hk,nx1 hk];exact⟨by decide +kernel,⟨by omega,by omega⟩,by omega,⟨by omega,by omega⟩,by omega,hr _⟩
end
theorem O3 {h : H} {s off : Nat} : VJ TE h 202 (.lp s off) "Push" 204 (.lp s off) := by intro ok pl w x hs hx;have hx' := hx;simp only [VRel] at hx;obtain ⟨b, hb, rfl⟩ := hx;exact ⟨_, by kernel_rfl, hx'⟩
theorem RU {h : H} {s off : Nat} : VJ TE h 202 (.lp s off) "Pop" 203 (.lp s off) := by intro ok pl w x hs hx;have hx' := hx;simp only [VRel] at hx;obtain ⟨b, hb, rfl⟩ := hx;exact ⟨_, by kernel_rfl, hx'⟩
theorem O4 (b off : Nat) (w : World) : ∀ (name : String) (g : FuncId), (name = "Len" ∧ g = 174) ∨ (name = "Less" ∧ g = 201) ∨ (name = "Swap" ∧ g = 202) →
 (Go.method (TE.P.types.size+Made.depth) 202 (.pointer (some ⟨b,off,none⟩)) name).run TE.P w=(do let v ←Instr.loadAt 193 (.pointer (some ⟨b,off,none⟩));pure (g,v):Sem (FuncId×Value)).run TE.P w:=by
 rintro name g (⟨rfl,rfl⟩ | ⟨rfl,rfl⟩ | ⟨rfl,rfl⟩)<;>kernel_rfl
theorem gZ {h : H} {s off x len : Nat} {cs : List V} (hc : h[s]? = some (.cells cs)) (ho : cs[off]? = some (.ls x 2 0 len len)) {name : String} {g : FuncId}
 (hn : (name = "Len" ∧ g = 174) ∨ (name = "Less" ∧ g = 201) ∨ (name = "Swap" ∧ g = 202)) : VJ TE h 202 (.lp s off) name g (.ls x 2 0 len len) := by
 intro ok pl w v hs hx;have hl:=uy (P:=TE.P) hs (t:=193) hx;have hp:uw TE.P h 193 (.lp s off)=((off+1≤cs.length∧(true=true)),.ls x 2 0 len len):=by
  have hh:bH h s=cs:=by simp only[bH,hc]
  have hg:cs.getD off .any= .ls x 2 0 len len:=by rw[List.getD_eq_getElem?_getD,ho];rfl
  simp only[uw,TEP,tis,hh,V.sub,TI.agg,hg,cond_false,implies_true]
 rw[hp]at hl;obtain⟨y,h1,h2⟩:=hl ⟨(List.getElem?_eq_some_iff.1 ho).1,rfl⟩;simp only[VRel]at hx;obtain⟨b,hb,rfl⟩:=hx;refine⟨y,?_,h2⟩;rw[O4 b off w name g hn];simp only[Sem.run_bind];have h1':(Instr.loadAt 193 (.pointer (some ⟨b,off,none⟩))).run TE.P w= .ok y w:=h1;rw[h1'];rfl
section
variable {n:Nat} {bud:Int} {L:Lay} {S:St} {h:H}
theorem FC : ∀ {nx : List (Int × Int)} {i : Nat} (h : i < nx.length),List.take 2 (List.drop (i * 2) (aS nx)) = [vi nx[i].1,vi nx[i].2]
 | [],i,h=>by simp at h
 | t::nx,0,h=>rfl
 | t::nx,i+1,h=>by have:=FC (nx:=nx) (i:=i) (by simpa using h);rw[show(i+1)*2=i*2+1+1 by omega];simpa [aS]using this
theorem Le : ∀ {nx : List (Int × Int)} {i : Nat} (h : i < nx.length) (t : Int × Int),List.take (i * 2) (aS nx) ++ [vi t.1,vi t.2] ++ List.drop (i * 2 + 2) (aS nx) = aS (nx.set i t)
 | [],i,h,t=>by simp at h
 | u::nx,0,h,t=>by simp[aS]
 | u::nx,i+1,h,t=>by have:=Le (nx:=nx) (i:=i) (by simpa using h) t;rw[show(i+1)*2=i*2+1+1 by omega];simp only[aS,List.flatMap_cons,List.cons_append,List.nil_append,List.take_succ_cons,List.drop_succ_cons,List.set_cons_succ]at this ⊢;rw[←this]
def Qz:Plan:= .take 0<| .take 1<| .take 2<| .take 3<| .take 4<| .take 5<| .take 6<| .take 8<| .take 9<| .take 10<| .alt 7 (.one 11<| .take 12<| .one 13<| .take 14<| .one 15<| .fin) (.one 11 (.one 7<| .take 12<| .one 13<| .take 14<| .one 15<| .fin))
theorem lQ {x : Nat} {nx : List (Int × Int)} (hx : h[x]? = some (.cells (aS nx))) {i k : Nat} (hi : i < nx.length) (hk : k < nx.length) {R : AEnd → H → (Nat → Bool) → Prop}
 (hr:R (.ret (.tup [])) (h.set x (.cells (aS (sw nx i k (0,0))))) (fun _=>false)):ah TE 202 [.ls x 2 0 nx.length nx.length,vi i,vi k] h R:=by
 have hxl:x<h.length:=(List.getElem?_eq_some_iff.1 hx).1;have e1:nx.getD k (0,0)=nx[k]:=by simp[List.getD_eq_getElem?_getD,hk]
 have e2:nx.getD i (0,0)=nx[i]:=by simp[List.getD_eq_getElem?_getD,hi]
 have n1:=Le hi nx[k];have n2:=Le (nx:=nx.set i nx[k]) (i:=k) (by simpa using hk) nx[i];have l1:=fE (nx:=nx);have l2:=fE (nx:=nx.set i nx[k]);rw[List.length_set]at l2;refine au Tryz.func202 rfl (by simp[nts]) (vm ?_);simp only[wq.1,Tryz.results202];refine bY mixed Qz (fun f' h'=>f'.d=[]∧(∀j,f'.k j=false)∧h'=h.set x (.cells (aS (sw nx i k (0,0))))) (by decide +kernel) (by decide +kernel) ?_ ?_
 ·simp only [wq.1,seval,Qz,hx,FC hi,FC hk,n1,n2,l1,l2,List.getElem?_set_self,hxl,List.set_set];have hsw : (nx.set i nx[k]).set k nx[i] = sw nx i k (0,0) := by unfold sw;rw [e1,e2]
  rw[hsw]
  and_intros<;>first | omega | rfl
 ·rintro f h ⟨hd,hkf,rfl⟩;simp only[wq.1,hd];have:f.k=fun _=>false:=funext hkf;rw[this];exact hr
theorem HS.setX (hs:HS n bud L S h) {nx:List (Int×Int)} (hl:nx.length=S.nx.length):HS n bud L (nxS S nx) (h.set L.x (.cells (aS nx))):=by have k:=hs.toHR.setRow (id:=L.x) (cs:=aS nx) hs.rx S.tr S.lv nx (.inr (.inr ⟨rfl,rfl,rfl,rfl,rfl⟩));refine⟨k,?_⟩;rw[aK hs.rx hs.rs (by simp),hs.sol];simp only[ax,nxS,hl]
theorem Jg (hs:HS n bud L S h):(ax n bud L S)[5]? =some (.ls L.x 2 0 S.nx.length S.nx.length):=rfl
theorem O5 (hs : HS n bud L S h) (hb : S.nx.length ≤ 1000000000000) : ∀ {k : Nat} (hk : k < S.nx.length) {R : AEnd → H → (Nat → Bool) → Prop}
 (hr:∀nx h',nx.Perm S.nx→HS n bud L (nxS S nx) h'→h'.length=h.length→R (.ret (.tup [])) h' (fun _=>false)),ah TE 147 [.iface 202 (.lp L.s 5),vi k] h R:=by
 intro k hk R hr;have hM : maxLen = 9223372036854775807 := rfl;refine au Tryz.func147 rfl (by simp [nts]) (vm ?_);simp only [wq.1,seval,-Int.reduceNatCast,-Int.reduceNatCast',ay,Tryz.results147];refine aA (fun m f h' => ∃ (nx : List (Int × Int)) (k : Nat),m = k ∧ k < S.nx.length ∧ f.t 0 = .iface 202 (.lp L.s 5) ∧ f.t 1 = vi k ∧ f.d = [] ∧ (∀ j,f.k j = false) ∧ nx.Perm S.nx ∧ HS n bud L (nxS S nx) h' ∧ h'.length = h.length) k
  ⟨S.nx,k,rfl,hk,rfl,rfl,rfl,fun _=>rfl,List.Perm.refl _,hs,rfl⟩ ?_
 rintro m f h' ⟨nx,k,rfl,hk,h0,h1,hd,hkf,hp,hs',hlen⟩;have hl:=hp.length_eq;refine vm ?_;by_cases hm:m=0
 ·subst hm;have hq : IntKind.i64.wrap ((IntKind.i64.wrap (((0 : Nat) : Int) - 1)).tdiv 2) = 0 := by decide
  have hz:((0:Int)==((0:Nat):Int))=true:=rfl;simp only[wq.1,seval,-Int.reduceNatCast,-Int.reduceNatCast',-Int.reduceNe,ay,Tryz.results147,h0,h1,hd,hq,hz];refine⟨by decide,.bool false,?_⟩;simp only[wq.1,seval,-Int.reduceNatCast,-Int.reduceNatCast',ay,Tryz.results147,h0,h1,hd,hq,hz];have:f.k=fun _=>false:=funext hkf;rw[this];exact hr nx h' hp hs' hlen
 ·have hq : IntKind.i64.wrap ((IntKind.i64.wrap ((m : Int) - 1)).tdiv 2) = (((m - 1) / 2 : Nat) : Int) := by rw [aX (n := (m : Int) - 1) (by omega) (by omega),show (m : Int) - 1 = ((m - 1 : Nat) : Int) by omega,show ((m - 1 : Nat) : Int).tdiv 2 = (((m - 1) / 2 : Nat) : Int) from rfl,aX (by omega) (by omega)]
  have hne:((((m-1)/2:Nat):Int)==(m:Int))=false:=by rw[beq_eq_false_iff_ne];omega
  simp only[wq.1,↓reduceIte,Nat.reduceEqDiff,Nat.reduceLT,reduceCtorEq,h0,h1,hq,hne];refine⟨by decide,?_⟩;refine dh rfl (t:=202) (v:= .lp L.s 5) (v':= .ls L.x 2 0 nx.length nx.length) (g:=201) (by simp only[wq.1,seval]) (by simp only[wq.1,↓reduceIte,Nat.reduceEqDiff,dQ,je]) (gZ hs'.sol (Jg hs') (.inr (.inl ⟨rfl,rfl⟩))) (by simp only[wq.1]) ?_;simp only[wq.1,seval];refine lN hs'.nxl (by show m<nx.length;omega) (by show(m-1)/2<nx.length;omega) fun b=> ?_;cases b with
  | false=>simp only[wq.1,seval,hd];have:f.k=fun _=>false:=funext hkf;rw[this];exact hr nx h' hp hs' hlen
  | true=>simp only[wq.1,seval,h0,h1];refine dh rfl (t:=202) (v:= .lp L.s 5) (v':= .ls L.x 2 0 nx.length nx.length) (g:=202) (by simp only[wq.1,seval]) (by simp only[wq.1,seval,dQ,je]) (gZ hs'.sol (Jg hs') (.inr (.inr ⟨rfl,rfl⟩))) (by simp only[wq.1]) ?_;simp only[wq.1,seval];refine lQ (nx:=nx) hs'.nxl (by show(m-1)/2<nx.length;omega) (by show m<nx.length;omega) ?_;have hsp:=rH (l:=nx) (i:=(m-1)/2) (k:=m) (d:=((0:Int),(0:Int))) (by omega) (by omega);have hs2:=hs'.setX (nx:=sw nx ((m-1)/2) m (0,0)) hsp.length_eq;simp only[wq.1,seval];exact .inl ⟨(m-1)/2,by omega,sw nx ((m-1)/2) m (0,0),(m-1)/2,rfl,by omega,by simp only[wq.1,seval,h0],by simp only[wq.1,↓reduceIte],by simp only[wq.1,hd],hkf,hsp.trans hp,hs2,by rw[List.length_set];exact hlen⟩
end
section
variable {n:Nat} {bud:Int} {L:Lay} {S:St} {h:H}
theorem zC {α:Type} {l:List α} {i k q:Nat} {d:α} (h1:q≠i) (h2:q≠k):(sw l i k d).getD q d=l.getD q d:=by unfold sw;rw[List.getD_eq_getElem?_getD,List.getElem?_set_ne (Ne.symm h2),List.getElem?_set_ne (Ne.symm h1),←List.getD_eq_getElem?_getD]
theorem Iq (hs : HS n bud L S h) (hb : S.nx.length ≤ 1000000000000) {m : Nat} (hm : m ≤ S.nx.length) {R : AEnd → H → (Nat → Bool) → Prop}
 (hr:∀nx h' b,nx.Perm S.nx→HS n bud L (nxS S nx) h'→h'.length=h.length→(∀i,m≤i→nx.getD i (0,0)=S.nx.getD i (0,0))→R (.ret (.bool b)) h' (fun _=>false)):ah TE 180 [.iface 202 (.lp L.s 5),vi 0,vi m] h R:=by
 have hM : maxLen = 9223372036854775807 := rfl;refine au Tryz.func180 rfl (by simp [nts]) (vm ?_);simp only [wq.1,seval,Tryz.results180];refine aA (fun k f h' => ∃ (nx : List (Int × Int)) (i : Nat),k = m - i ∧ f.t 0 = .iface 202 (.lp L.s 5) ∧ f.t 1 = vi 0 ∧ f.t 2 = vi m ∧ f.t 7 = vi i ∧ i ≤ m ∧ f.d = [] ∧ (∀ j,f.k j = false) ∧ nx.Perm S.nx ∧ HS n bud L (nxS S nx) h' ∧ h'.length = h.length ∧ ∀ i,m ≤ i → nx.getD i (0,0) = S.nx.getD i (0,0)) m
  ⟨S.nx,0,rfl,rfl,rfl,rfl,rfl,Nat.zero_le _,rfl,fun _=>rfl,List.Perm.refl _,hs,rfl,fun _ _=>rfl⟩ ?_
 rintro k f h' ⟨nx,i,hk,h0,h1,h2,h7,hi,hd,hkf,hp,hs',hlen,hsame⟩;have hl:=hp.length_eq;have hkf':f.k=fun _=>false:=funext hkf;have w1:IntKind.i64.wrap (2*(i:Int))=((2*i:Nat):Int):=by rw[aX (by omega) (by omega)];omega
 have w2:IntKind.i64.wrap (((2*i:Nat):Int)+1)=((2*i+1:Nat):Int):=by rw[aX (by omega) (by omega)];omega
 have w3:IntKind.i64.wrap (((2*i+1:Nat):Int)+1)=((2*i+2:Nat):Int):=by rw[aX (by omega) (by omega)];omega
 have z1:decide (((2*i+1:Nat):Int)<0)=false:=by rw[decide_eq_false_iff_not];omega
 /- behind the choice of a child -/
 have fin:∀b:Bool,R (.ret (.bool b)) h' f.k:=fun b=>by rw[hkf'];exact hr nx h' b hp hs' hlen hsame
 refine vm ?_;by_cases hge:m≤2*i+1
 ·have e1 : decide ((m : Int) ≤ ((2 * i + 1 : Nat) : Int)) = true := by rw [decide_eq_true_eq];omega
  simp only[wq.1,seval,h1,h2,h7,hd,w1,w2,e1];exact fin _
 ·have e1 : decide ((m : Int) ≤ ((2 * i + 1 : Nat) : Int)) = false := by rw [decide_eq_false_iff_not];omega
  /- what follows when the child is told -/
  by_cases hlt:2*i+2<m
  ·have e2 : decide (((2 * i + 2 : Nat) : Int) < (m : Int)) = true := by rw [decide_eq_true_eq];omega
   simp only[wq.1,seval,h0,h2,h7,w1,w2,w3,e1,z1,e2];refine dh rfl (t:=202) (v:= .lp L.s 5) (v':= .ls L.x 2 0 nx.length nx.length) (g:=201) (by simp only[wq.1,seval]) (by simp only[wq.1,seval,dQ,je]) (gZ hs'.sol (Jg hs') (.inr (.inl ⟨rfl,rfl⟩))) (by simp only[wq.1]) ?_;simp only[wq.1,seval];refine lN hs'.nxl (by show 2*i+2<nx.length;omega) (by show 2*i+1<nx.length;omega) fun b=> ?_;cases b with
   | true =>
    simp only[wq.1,seval,h0,h7];refine dh rfl (t:=202) (v:= .lp L.s 5) (v':= .ls L.x 2 0 nx.length nx.length) (g:=201) (by simp only[wq.1,seval]) (by simp only[wq.1,seval,dQ,je]) (gZ hs'.sol (Jg hs') (.inr (.inl ⟨rfl,rfl⟩))) (by simp only[wq.1]) ?_;simp only[wq.1,seval];refine lN hs'.nxl (by show 2*i+2<nx.length;omega) (by show i<nx.length;omega) fun b=> ?_;cases b with
    | false=>simp only[wq.1,seval,h1,h7,hd];exact fin _
    | true=>simp only[wq.1,seval,h0,h7];refine dh rfl (t:=202) (v:= .lp L.s 5) (v':= .ls L.x 2 0 nx.length nx.length) (g:=202) (by simp only[wq.1,seval]) (by simp only[wq.1,seval,dQ,je]) (gZ hs'.sol (Jg hs') (.inr (.inr ⟨rfl,rfl⟩))) (by simp only[wq.1]) ?_;simp only[wq.1,seval];refine lQ (nx:=nx) hs'.nxl (by show i<nx.length;omega) (by show 2*i+2<nx.length;omega) ?_;have hsp:=rH (l:=nx) (i:=i) (k:=2*i+2) (d:=((0:Int),(0:Int))) (by omega) (by omega);have hs2:=hs'.setX (nx:=sw nx i (2*i+2) (0,0)) hsp.length_eq;simp only[wq.1,seval];exact .inl ⟨m-(2*i+2),by omega,sw nx i (2*i+2) (0,0),2*i+2,rfl,by simp only[wq.1,seval,h0],by simp only[wq.1,seval,h1],by simp only[wq.1,seval,h2],by simp only[wq.1,↓reduceIte],by omega,by simp only[wq.1,hd],hkf,hsp.trans hp,hs2,by rw[List.length_set];exact hlen,fun q hq=>by rw[zC (by omega) (by omega)];exact hsame q hq⟩
   | false =>
    simp only[wq.1,seval,h0,h7];refine dh rfl (t:=202) (v:= .lp L.s 5) (v':= .ls L.x 2 0 nx.length nx.length) (g:=201) (by simp only[wq.1,seval]) (by simp only[wq.1,seval,dQ,je]) (gZ hs'.sol (Jg hs') (.inr (.inl ⟨rfl,rfl⟩))) (by simp only[wq.1]) ?_;simp only[wq.1,seval];refine lN hs'.nxl (by show 2*i+1<nx.length;omega) (by show i<nx.length;omega) fun b=> ?_;cases b with
    | false=>simp only[wq.1,seval,h1,h7,hd];exact fin _
    | true=>simp only[wq.1,seval,h0,h7];refine dh rfl (t:=202) (v:= .lp L.s 5) (v':= .ls L.x 2 0 nx.length nx.length) (g:=202) (by simp only[wq.1,seval]) (by simp only[wq.1,seval,dQ,je]) (gZ hs'.sol (Jg hs') (.inr (.inr ⟨rfl,rfl⟩))) (by simp only[wq.1]) ?_;simp only[wq.1,seval];refine lQ (nx:=nx) hs'.nxl (by show i<nx.length;omega) (by show 2*i+1<nx.length;omega) ?_;have hsp:=rH (l:=nx) (i:=i) (k:=2*i+1) (d:=((0:Int),(0:Int))) (by omega) (by omega);have hs2:=hs'.setX (nx:=sw nx i (2*i+1) (0,0)) hsp.length_eq;simp only[wq.1,seval];exact .inl ⟨m-(2*i+1),by omega,sw nx i (2*i+1) (0,0),2*i+1,rfl,by simp only[wq.1,seval,h0],by simp only[wq.1,seval,h1],by simp only[wq.1,seval,h2],by simp only[wq.1,↓reduceIte],by omega,by simp only[wq.1,hd],hkf,hsp.trans hp,hs2,by rw[List.length_set];exact hlen,fun q hq=>by rw[zC (by omega) (by omega)];exact hsame q hq⟩
  ·have e2 : decide (((2 * i + 2 : Nat) : Int) < (m : Int)) = false := by rw [decide_eq_false_iff_not];omega
   simp only[wq.1,seval,h0,h2,h7,w1,w2,w3,e1,z1,e2];refine⟨.bool false,?_⟩;simp only[wq.1,seval,h0,h7];refine dh rfl (t:=202) (v:= .lp L.s 5) (v':= .ls L.x 2 0 nx.length nx.length) (g:=201) (by simp only[wq.1,seval]) (by simp only[wq.1,seval,dQ,je]) (gZ hs'.sol (Jg hs') (.inr (.inl ⟨rfl,rfl⟩))) (by simp only[wq.1]) ?_;simp only[wq.1,seval];refine lN hs'.nxl (by show 2*i+1<nx.length;omega) (by show i<nx.length;omega) fun b=> ?_;cases b with
   | false=>simp only[wq.1,seval,h1,h7,hd];exact fin _
   | true=>simp only[wq.1,seval,h0,h7];refine dh rfl (t:=202) (v:= .lp L.s 5) (v':= .ls L.x 2 0 nx.length nx.length) (g:=202) (by simp only[wq.1,seval]) (by simp only[wq.1,seval,dQ,je]) (gZ hs'.sol (Jg hs') (.inr (.inr ⟨rfl,rfl⟩))) (by simp only[wq.1]) ?_;simp only[wq.1,seval];refine lQ (nx:=nx) hs'.nxl (by show i<nx.length;omega) (by show 2*i+1<nx.length;omega) ?_;have hsp:=rH (l:=nx) (i:=i) (k:=2*i+1) (d:=((0:Int),(0:Int))) (by omega) (by omega);have hs2:=hs'.setX (nx:=sw nx i (2*i+1) (0,0)) hsp.length_eq;simp only[wq.1,seval];exact .inl ⟨m-(2*i+1),by omega,sw nx i (2*i+1) (0,0),2*i+1,rfl,by simp only[wq.1,seval,h0],by simp only[wq.1,seval,h1],by simp only[wq.1,seval,h2],by simp only[wq.1,↓reduceIte],by omega,by simp only[wq.1,hd],hkf,hsp.trans hp,hs2,by rw[List.length_set];exact hlen,fun q hq=>by rw[zC (by omega) (by omega)];exact hsame q hq⟩
end
section
variable {n:Nat} {bud:Int} {L:Lay} {S:St} {h:H}
theorem vO (nx:List (Int×Int)) (t:Int×Int):aS nx++[vi t.1,vi t.2]=aS (nx++[t]):=by simp[aS]
theorem O6 {p:Nat→Bool} (nx:List (Int×Int)):V.drops p (aS nx)=aS nx:=dw fun v hv=>by obtain⟨t,_,hv⟩:=List.mem_flatMap.1 hv;simp only[List.mem_cons,List.not_mem_nil,or_false]at hv;rcases hv with rfl | rfl<;>exact dC
theorem HS.pushX (hs : HS n bud L S h) (nx : List (Int × Int)) : HS n bud L (nxS S nx) (((h.map (O.drop fun x => x == L.x)).set L.x (.cells (aS nx))).set L.s
 (.cells [.ls L.v 5 0 (n+1) (n+1),.lm L.m,.ls L.t 1 0 S.tr.length S.tr.length,vi S.hd,.ls L.l 1 0 S.lv.length S.lv.length,.ls L.x 2 0 nx.length nx.length,.ls L.g 1 0 S.ln.length S.ln.length,vi bud])):=by
 have k2:=hs.toHR.drop (p:=fun x=>x==L.x) (O1 L hs.rx (.inr (.inr (.inl rfl))));have k3:=k2.setRow (id:=L.x) (cs:=aS nx) hs.rx S.tr S.lv nx (.inr (.inr ⟨rfl,rfl,rfl,rfl,rfl⟩));refine⟨k3.setS _,?_⟩;rw[List.getElem?_set_self (by simpa using hs.rlt _ _ hs.rs)];rfl
def FD:Plan:= .take 0<| .take 1<| .take 2<| .take 4<| .alt 3 (.one 5<| .one 6<| .one 7<| .take 8<| .one 9<| .fin) (.one 5 (.alt 3 (.one 6<| .one 7<| .take 8<| .one 9<| .fin) (.one 6 (.one 3<| .one 7<| .take 8<| .one 9<| .fin))))
theorem Eh (hs : HS n bud L S h) (hb : S.nx.length ≤ 1000000000000) (a b : Int) {R : AEnd → H → (Nat → Bool) → Prop}
 (hr:∀h' p,HS n bud L (nxS S (S.nx++[(a,b)])) h'→h'.length=h.length→(∀i,p i=true→i=L.x)→R (.ret (.tup [])) h' p):ah TE 204 [.lp L.s 5,.iface 204 (.agg [vi a,vi b])] h R:=by
 have hM:maxLen=9223372036854775807:=rfl;have hsol:=hs.sol;have hnx:=hs.nxl;have hls:=hs.rlt _ _ hs.rs;have hlx:=hs.rlt _ _ hs.rx;have hsx:L.s≠L.x:=aY L hs.rs hs.rx (by simp);have hxs:=hsx.symm;have b1:(L.s==L.x)=false:=by simp[hsx]
 have b2:(L.v==L.x)=false:=by simp[aY L hs.rv hs.rx (by simp)]
 have b3:(L.m==L.x)=false:=by simp[aY L hs.rm hs.rx (by simp)]
 have b4:(L.l==L.x)=false:=by simp[aY L hs.rl hs.rx (by simp)]
 have b5:(L.t==L.x)=false:=by simp[aY L hs.rt hs.rx (by simp)]
 have b6:(L.g==L.x)=false:=by simp[aY L hs.rg hs.rx (by simp)]
 have hH:=hs.pushX (S.nx++[(a,b)]);have hne:aS S.nx++[vi a,vi b]=aS (S.nx++[(a,b)]):=vO S.nx (a,b);have hfm:List.flatMap V.vc [V.agg [vi a,vi b]]=[vi a,vi b]:=rfl;have hft:nN [V.agg [vi a,vi b]]=true:=rfl;rw[List.length_append,List.length_singleton]at hH;refine au Tryz.func204 rfl (by simp[nts]) (vm ?_);simp only[wq.1,Tryz.results204];refine bY mixed FD (fun f' h'=>f'.d=[]∧(∀j,f'.k j=true→j=L.x)∧HS n bud L (nxS S (S.nx++[(a,b)])) h'∧h'.length=h.length) (by decide +kernel) (by decide +kernel) ?_ ?_
 ·simp only[wq.1,↓reduceIte,Nat.reduceEqDiff,Nat.reduceLT,Nat.reduceLeDiff,Nat.reduceAdd,reduceCtorEq,Nat.reduceMul,FD,hsol,ax,hnx,List.length_set,List.getElem?_set_ne,hxs,ne_eq,not_false_eq_true,b1,b2,b3,b4,b5,b6,O6,fE,List.getElem?_map,hne,hfm,hft];exact⟨⟨rfl,by decide⟩,⟨by omega,by omega,by omega⟩,fun j hj=>by simpa using hj,hH⟩
 ·rintro f h' ⟨hd,hkf,hs',hl⟩;simp only[wq.1,hd];exact hr h' f.k hs' hl hkf
theorem rJ (hs : HS n bud L S h) (hb : S.nx.length ≤ 100000000000) (a b : Int) {R : AEnd → H → (Nat → Bool) → Prop}
 (hr:∀nx h' p,nx.Perm (S.nx++[(a,b)])→HS n bud L (nxS S nx) h'→h'.length=h.length→(∀i,p i=true→i=L.x)→R (.ret (.tup [])) h' p):ah TE 122 [.iface 202 (.lp L.s 5),.iface 204 (.agg [vi a,vi b])] h R:=by
 have hM:maxLen=9223372036854775807:=rfl;have hsx:L.s≠L.x:=aY L hs.rs hs.rx (by simp);refine au Tryz.func122 rfl (by simp[nts]) (vm ?_);simp only[wq.1,seval,Tryz.results122];refine dh rfl (t:=202) (v:= .lp L.s 5) (v':= .lp L.s 5) (g:=204) (by simp only[wq.1,seval]) (by simp only[wq.1,seval,dQ,je]) O3 (by simp only[wq.1]) ?_;refine Eh hs (by omega) a b fun h1 p hs1 hl1 hp=> ?_;have hps:p L.s=false:=by
  cases hps:p L.s with
  | false=>rfl
  | true=>exact absurd (hp _ hps) hsx
 simp only[wq.1,seval,hps,aZ];refine dh rfl (t:=202) (v:= .lp L.s 5) (v':= .ls L.x 2 0 (S.nx.length+1) (S.nx.length+1)) (g:=174) (by simp only[wq.1,↓reduceIte]) (by simp only[wq.1,↓reduceIte,dQ]) (gZ hs1.sol (by have:=Jg hs1;simpa [nxS]using this) (.inl ⟨rfl,rfl⟩)) (by simp only[wq.1]) ?_;simp only[wq.1];refine vN _ ?_;have hw:IntKind.i64.wrap (((S.nx.length+1:Nat):Int)-1)=(S.nx.length:Int):=by rw[aX (by omega) (by omega)];omega
 simp only[wq.1,seval,hw];refine O5 hs1 (by show(S.nx++[(a,b)]).length≤_;simp;omega) (k:=S.nx.length) (by show _<(S.nx++[(a,b)]).length;simp) fun nx h2 hp2 hs2 hl2=> ?_;simp only[wq.1];exact hr nx h2 p (show nx.Perm (S.nx++[(a,b)])from hp2) hs2 (hl2.trans hl1) hp
end
end Go.Proofs.YtmlacppmbfbjgaaGreatDoor
