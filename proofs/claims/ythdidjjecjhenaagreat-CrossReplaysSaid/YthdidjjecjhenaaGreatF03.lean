/- Lemmas for this claim, part F03: each holds under what it names. -/
import Derived.Test.YthdidjjecjhenaaGreatF02
import Derived.Test.YthdidjjecjhenaaGreatA7
set_option linter.unusedVariables false
set_option linter.unusedSimpArgs false
set_option linter.unnecessarySimpa false
set_option maxRecDepth 20000
namespace Go.Proofs.YthdidjjecjhenaaGreat
open Go Go.Proofs Go.Abs
section
variable{n:Nat}{bud:Int}{L:Lay}{S:St}{h:H}
theorem bT(L:Lay){i j:Nat}{r q:Ro}(hi:L.ro i=some r)(hj:L.ro j=some q)(hne:r≠q):i≠j:=fun e=>hne (by
 rw[e,hj]at hi;exact(Option.some.inj hi).symm)
variable{cs:List V}{i:Nat}
theorem oK{v:V}(h:i<cs.length):List.take i cs++[v]++List.drop (i+1) cs=cs.set i v:=by rw[zqc,List.singleton_append];exact((List.set_eq_take_append_cons_drop).trans (if_pos h)).symm
variable{k:Nat}
theorem Vd(hk:k<=n)(cs:List V)(v:V)(h:cs.length=5*(n+1)):List.take (k*5) cs++[v]++List.drop (k*5+1) cs=cs.set (k*5) v:=oK (by omega)
theorem Xe(hk:k<=n)(cs:List V)(v:V)(h:cs.length=5*(n+1)):List.take (k*5+1) cs++[v]++List.drop (k*5+2) cs=cs.set (k*5+1) v:=oK (by omega)
theorem Ve(hk:k<=n)(cs:List V)(v:V)(h:cs.length=5*(n+1)):List.take (k*5+2) cs++[v]++List.drop (k*5+3) cs=cs.set (k*5+2) v:=oK (by omega)
theorem Yc(hk:k<=n)(cs:List V)(v:V)(h:cs.length=5*(n+1)):List.take (k*5+3) cs++[v]++List.drop (k*5+4) cs=cs.set (k*5+3) v:=oK (by omega)
theorem Yd(hk:k<=n)(cs:List V)(v:V)(h:cs.length=5*(n+1)):List.take (k*5+4) cs++[v]++List.drop (k*5+5) cs=cs.set (k*5+4) v:=oK (by omega)
def V8(f:Nat->List V)(n:Nat):List V:=(List.range (n+1)).flatMap f
theorem jd:dP L S n=V8 (fun i=>gV L S (S.v i)) n:=rfl
variable{f:Nat->List V}
theorem lY(hf:∀i,(f i).length=5){k j:Nat}{v:V}(hk:k<=n)(hj:j<5):(V8 f n).set (k*5+j) v=V8 (upd f k ((f k).set j v)) n:=by
 have hlen:∀m,((List.range m).flatMap f).length=m*5:=by
  intro m
  induction m with
  |zero=>simp
  |succ m ih=>rw[List.range_succ,List.flatMap_append,zqa,ih];simp[hf,Nat.succ_mul]
 have key:∀m,k<m->((List.range m).flatMap f).set (k*5+j) v=(List.range m).flatMap (upd f k ((f k).set j v)):=by
  intro m
  induction m with
  |zero=>intro h;omega
  |succ m ih =>
   intro h;rw[List.range_succ,List.flatMap_append,List.flatMap_append];by_cases hkm:k<m
   ·rw[List.set_append_left _ _ (by rw[hlen];omega),ih hkm];simp only[List.flatMap_cons,List.flatMap_nil,zqp,bI (show m≠k by omega)]
   ·have:k=m:=by omega
    subst this;rw[List.set_append_right _ _ (by rw[hlen];omega),hlen,show k*5+j-k*5=j by omega];have e:(List.range k).flatMap f=(List.range k).flatMap (upd f k ((f k).set j v)):=by
     rw[List.flatMap_def,List.flatMap_def]
     congr 1
     refine zsd fun x hx=> ?_;rw[bI (by have:=List.mem_range.1 hx;omega)]
    rw[<-e];simp only[List.flatMap_cons,List.flatMap_nil,zqp,bC]
 exact key (n+1) (by omega)
theorem nH{g:Nat->List V}(h:∀i,i<=n->f i=g i):V8 f n=V8 g n:=by
 unfold V8;rw[List.flatMap_def,List.flatMap_def]
 congr 1
 exact zsd fun x hx=>h x (by have:=List.mem_range.1 hx;omega)
theorem yJ(hf:∀i,(f i).length=5){k:Nat}{l:List V}(hl:l.length=5):∀i,(upd f k l i).length=5:=by
 intro i;unfold upd;split
 ·exact hl
 ·exact hf i
theorem EK(L:Lay)(S:St)(r:Option Nat):reV L S r= .nils\/∃id len,reV L S r= .ls id 1 0 len len:=by
 cases r with
 |none=>exact .inl rfl
 |some j=>exact .inr ⟨_,_,rfl⟩
theorem bu{j:Nat}{o:O}{r q:Ro}(hi:L.ro i=some r)(hj:L.ro j=some q)(hne:r≠q):(h.set i o)[j]? =h[j]? :=zqn (bT L hi hj hne)
theorem HR.setS(k:HR n L S h)(o:O):HR n L S (h.set L.s o) where
 var:=by rw[bu k.rs k.rv (by simp)];exact k.var
 map:=by
  obtain⟨ks,h1,h2⟩:=k.map;exact⟨ks,by rw[bu k.rs k.rm (by simp)];exact h1,h2⟩
 trl:=by rw[bu k.rs k.rt (by simp)];exact k.trl
 lvl:=by rw[bu k.rs k.rl (by simp)];exact k.lvl
 nxl:=by rw[bu k.rs k.rx (by simp)];exact k.nxl
 lnl:=by rw[bu k.rs k.rg (by simp)];exact k.lnl
 lnk i hi:=by
  obtain⟨h1,h2⟩:=k.lnk i hi;exact⟨by rw[bu k.rs h2 (by simp)];exact h1,h2⟩
 cla j hj:=by
  obtain⟨h1,h2⟩:=k.cla j hj;exact⟨by rw[bu k.rs h2 (by simp)];exact h1,h2⟩
 wat a:=by
  have:=k.wat a;unfold gX at this ⊢;cases hw:L.w a with
  |none=>rw[hw]at this;exact this
  |some id=>rw[hw]at this;exact⟨by rw[bu k.rs this.2 (by simp)];exact this.1,this.2⟩
 fre:=k.fre
 fwt:=k.fwt
 rs:=k.rs
 rv:=k.rv
 rm:=k.rm
 rt:=k.rt
 rl:=k.rl
 rx:=k.rx
 rg:=k.rg
 rlt i r hr:=by rw[zrn];exact k.rlt i r hr
 ext i o ho:=⟨by rw[bu k.rs ho (by simp)];exact(k.ext i o ho).1,(k.ext i o ho).2⟩
theorem HR.setV (k : HR n L S h) (v' : Nat -> VS) (hv : ∀ i,i <= n -> ∀ j,(v' i).reason = some j -> j < S.nc) : HR n L { S with v := v' } (h.set L.v (.cells (dP L { S with v := v' } n))) where
 var:=zqt (k.rlt _ _ k.rv)
 map:=by
  obtain⟨ks,h1,h2⟩:=k.map;exact⟨ks,by rw[bu k.rv k.rm (by simp)];exact h1,h2⟩
 trl:=by rw[bu k.rv k.rt (by simp)];exact k.trl
 lvl:=by rw[bu k.rv k.rl (by simp)];exact k.lvl
 nxl:=by rw[bu k.rv k.rx (by simp)];exact k.nxl
 lnl:=by rw[bu k.rv k.rg (by simp)];exact k.lnl
 lnk i hi:=by
  obtain⟨h1,h2⟩:=k.lnk i hi;exact⟨by rw[bu k.rv h2 (by simp)];exact h1,h2⟩
 cla j hj:=by
  obtain⟨h1,h2⟩:=k.cla j hj;exact⟨by rw[bu k.rv h2 (by simp)];exact h1,h2⟩
 wat a:=by
  have:=k.wat a;unfold gX at this ⊢;cases hw:L.w a with
  |none=>rw[hw]at this;exact this
  |some id=>rw[hw]at this;exact⟨by rw[bu k.rv this.2 (by simp)];exact this.1,this.2⟩
 fre:=hv
 fwt:=k.fwt
 rs:=k.rs
 rv:=k.rv
 rm:=k.rm
 rt:=k.rt
 rl:=k.rl
 rx:=k.rx
 rg:=k.rg
 rlt i r hr:=by rw[zrn];exact k.rlt i r hr
 ext i o ho:=⟨by rw[bu k.rv ho (by simp)];exact(k.ext i o ho).1,(k.ext i o ho).2⟩
theorem HR.setRow(k:HR n L S h){id:Nat}{cs:List V}{r:Ro}(hid:L.ro id=some r)(tr:Cl)(lv:List Nat)(nx:List (Int×Int))
 (hr:(r= .t/\cs=tr.map vi/\lv=S.lv/\nx=S.nx/\id=L.t)\/(r= .l/\cs=gY lv/\tr=S.tr/\nx=S.nx/\id=L.l)\/(r= .x/\cs=bD nx/\tr=S.tr/\lv=S.lv/\id=L.x)) :
 HR n L {S with tr:=tr,lv:=lv,nx:=nx} (h.set id (.cells cs)):=by
 have hlt:=k.rlt _ _ hid;have oth:∀ {j:Nat} {q:Ro},L.ro j=some q->q≠ .t->q≠ .l->q≠ .x->(h.set id (.cells cs))[j]? =h[j]? :=by
  intro j q hj h1 h2 h3;rcases hr with⟨rfl,_⟩|⟨rfl,_⟩|⟨rfl,_⟩
  ·exact bu hid hj (Ne.symm h1)
  ·exact bu hid hj (Ne.symm h2)
  ·exact bu hid hj (Ne.symm h3)
 refine {var:= ?_,map:= ?_,trl:= ?_,lvl:= ?_,nxl:= ?_,lnl:= ?_,lnk:= ?_,cla:= ?_,wat:= ?_,fre:=k.fre,fwt:=k.fwt,rs:=k.rs,rv:=k.rv,rm:=k.rm,rt:=k.rt,rl:=k.rl,rx:=k.rx,rg:=k.rg,rlt:=fun i q hq=>by rw[zrn];exact k.rlt i q hq,ext:=fun i o ho=>⟨by rw[oth ho (by simp) (by simp) (by simp)];exact(k.ext i o ho).1,(k.ext i o ho).2⟩}
 ·rw[oth k.rv (by simp) (by simp) (by simp)];exact k.var
 ·obtain⟨ks,h1,h2⟩:=k.map;exact⟨ks,by rw[oth k.rm (by simp) (by simp) (by simp)];exact h1,h2⟩
 ·show(h.set id (.cells cs))[L.t]? =some (.cells (tr.map vi));rcases hr with⟨rfl,h1,h2,h3,rfl⟩|⟨rfl,h1,h2,h3,rfl⟩|⟨rfl,h1,h2,h3,rfl⟩
  ·rw[zqt hlt,h1]
  ·rw[bu k.rl k.rt (by simp),h2];exact k.trl
  ·rw[bu k.rx k.rt (by simp),h2];exact k.trl
 ·show(h.set id (.cells cs))[L.l]? =some (.cells (gY lv));rcases hr with⟨rfl,h1,h2,h3,rfl⟩|⟨rfl,h1,h2,h3,rfl⟩|⟨rfl,h1,h2,h3,rfl⟩
  ·rw[bu k.rt k.rl (by simp),h2];exact k.lvl
  ·rw[zqt hlt,h1]
  ·rw[bu k.rx k.rl (by simp),h3];exact k.lvl
 ·show(h.set id (.cells cs))[L.x]? =some (.cells (bD nx));rcases hr with⟨rfl,h1,h2,h3,rfl⟩|⟨rfl,h1,h2,h3,rfl⟩|⟨rfl,h1,h2,h3,rfl⟩
  ·rw[bu k.rt k.rx (by simp),h3];exact k.nxl
  ·rw[bu k.rl k.rx (by simp),h3];exact k.nxl
  ·rw[zqt hlt,h1]
 ·rw[oth k.rg (by simp) (by simp) (by simp)];exact k.lnl
 ·intro i hi;obtain⟨h1,h2⟩:=k.lnk i hi;exact⟨by rw[oth h2 (by simp) (by simp) (by simp)];exact h1,h2⟩
 ·intro j hj;obtain⟨h1,h2⟩:=k.cla j hj;exact⟨by rw[oth h2 (by simp) (by simp) (by simp)];exact h1,h2⟩
 ·intro a;have:=k.wat a;unfold gX at this ⊢;cases hw:L.w a with
  |none=>rw[hw]at this;exact this
  |some id2=>rw[hw]at this;exact⟨by rw[oth this.2 (by simp) (by simp) (by simp)];exact this.1,this.2⟩
theorem dQ{p:Nat->Bool}:∀ {vs:List V},(∀v∈vs,v.drop p=v)->V.drops p vs=vs
 |[],_=>by rw[V.drops]
 |v::vs,h=>by rw[V.drops,h v (by simp),dQ fun u hu=>h u (by simp[hu])]
variable{p:Nat->Bool}
theorem bK{o l c:Nat}(h:p i=false):V.drop p (.ls i k o l c)= .ls i k o l c:=by rw[V.drop,h];rfl
variable{a:Int}
theorem dY:V.drop p (vi a)=vi a:=by simp only[V.drop]
theorem HR.drop(k:HR n L S h){p:Nat->Bool}(hp:∀i r,L.ro i=some r->p i=true->r= .t\/r= .l\/r= .x\/r= .g):HR n L S (h.map (O.drop p)):=by
 have hcl:=k.fre;have hwt:=k.fwt;have pc:∀j,j<S.nc->p (L.c j)=false:=fun j hj=>by
  cases hpp:p (L.c j)with
  |false=>rfl
  |true=>have:=hp _ _ (k.cla j hj).2 hpp;simp at this
 have pk:∀i,i<S.ln.length->p (L.k i)=false:=fun i hi=>by
  cases hpp:p (L.k i)with
  |false=>rfl
  |true=>have:=hp _ _ (k.lnk i hi).2 hpp;simp at this
 have pw:∀a id,L.w a=some id->p id=false:=fun a id hw=>by
  have:=k.wat a;unfold gX at this;rw[hw]at this;cases hpp:p id with
  |false=>rfl
  |true=>have:=hp _ _ this.2 hpp;simp at this
 have get:∀ {j:Nat} {cs:List V},h[j]? =some (.cells cs)->(∀v∈cs,v.drop p=v)->(h.map (O.drop p))[j]? =some (.cells cs):=by intro j cs hj hv;rw[zqo,hj,zrw,aZ,dQ hv]
 have gi:∀ {j:Nat} {c:Cl},h[j]? =some (.cells (c.map vi))->(h.map (O.drop p))[j]? =some (.cells (c.map vi)):=fun hj=>get hj fun v hv=>by obtain⟨a,_,rfl⟩:=zrh.1 hv;exact dY
 refine {var:= ?_,map:= ?_,trl:=gi k.trl,lvl:= ?_,nxl:= ?_,lnl:= ?_,lnk:=fun i hi=>⟨gi (k.lnk i hi).1,(k.lnk i hi).2⟩,cla:=fun j hj=>⟨gi (k.cla j hj).1,(k.cla j hj).2⟩,wat:= ?_,fre:=k.fre,fwt:=k.fwt,rs:=k.rs,rv:=k.rv,rm:=k.rm,rt:=k.rt,rl:=k.rl,rx:=k.rx,rg:=k.rg,rlt:=fun i q hq=>by rw[zra];exact k.rlt i q hq,ext:=fun i o ho=>⟨by rw[zqo,(k.ext i o ho).1,zrw,(k.ext i o ho).2 p fun q r hq hpq=>(hp q r hq hpq).imp id (.imp id (.imp id .inl))],(k.ext i o ho).2⟩}
 ·refine get k.var fun v hv=> ?_;unfold dP at hv;obtain⟨i,hi,hv⟩:=List.mem_flatMap.1 hv;have hi:i<=n:=by have:=List.mem_range.1 hi;omega
  simp only[gV,zrj,zrp,or_false]at hv;rcases hv with rfl|rfl|rfl|rfl|rfl<;>try exact dY
  cases hr:(S.v i).reason with
  |none=>simp only[reV,V.drop]
  |some j=>exact bK (pc j (hcl i hi j hr))
 ·obtain⟨ks,h1,h2,h3⟩:=k.map;refine⟨ks,?_,h2,h3⟩;rw[zqo,h1,zrw,kM,dQ (fun v hv=> ?_),dQ (fun v hv=> ?_)]
  ·obtain⟨a,_,rfl⟩:=zrh.1 hv;cases hw:L.w a with
   |none=>simp only[IZ,V.drop]
   |some id=>exact bK (pw a id hw)
  ·obtain⟨a,_,rfl⟩:=zrh.1 hv;exact dY
 ·refine get k.lvl fun v hv=> ?_;obtain⟨a,_,rfl⟩:=zrh.1 hv;exact dY
 ·refine get k.nxl fun v hv=> ?_;obtain⟨t,_,hv⟩:=List.mem_flatMap.1 hv;simp only[zrj,zrp,or_false]at hv;rcases hv with rfl|rfl<;>exact dY
 ·refine get k.lnl fun v hv=> ?_;obtain⟨i,hi,rfl⟩:=zrh.1 hv;exact bK (pk i (List.mem_range.1 hi))
 ·intro a;have:=k.wat a;unfold gX at this ⊢;cases hw:L.w a with
  |none=>rw[hw]at this;exact this
  |some id=>rw[hw]at this;refine⟨get this.1 fun v hv=> ?_,this.2⟩;obtain⟨j,hj,rfl⟩:=zrh.1 hv;exact bK (pc j (hwt a j hj))
theorem La{r:Option Nat}(h1:a.natAbs<=n)(neg:Bool)(hneg:neg=decide (a<0)) :
 (bif neg then ((((dP L S n).set (a.natAbs * 5) (vi 1)).set (a.natAbs * 5 + 1) (vi S.lv.length)).set (a.natAbs * 5 + 2) (reV L S r)).set (a.natAbs * 5) (vi (-1))
  else(((dP L S n).set (a.natAbs*5) (vi 1)).set (a.natAbs*5+1) (vi S.lv.length)).set (a.natAbs*5+2) (reV L S r))=dP L {S with v:=(kK S a r).v} n:=by
 subst hneg;have hf:∀i,(gV L S (S.v i)).length=5:=fun _=>rfl;rw[jd,jd];have e0:=lY (n:=n) (k:=a.natAbs) (j:=0) (v:=vi 1) hf h1 (by omega);rw[Nat.add_zero]at e0;have hf1:=yJ hf (k:=a.natAbs) (l:=(gV L S (S.v a.natAbs)).set 0 (vi 1)) rfl;have e1:=lY (n:=n) (k:=a.natAbs) (j:=1) (v:=vi S.lv.length) hf1 h1 (by omega);have hf2:=yJ hf1 (k:=a.natAbs) (l:=(upd (fun i=>gV L S (S.v i)) a.natAbs ((gV L S (S.v a.natAbs)).set 0 (vi 1)) a.natAbs).set 1 (vi S.lv.length)) (by rw[bC];rfl);have e2:=lY (n:=n) (k:=a.natAbs) (j:=2) (v:=reV L S r) hf2 h1 (by omega);rw[e0,e1,e2];have hf3:=yJ hf2 (k:=a.natAbs) (l:=(upd (upd (fun i=>gV L S (S.v i)) a.natAbs ((gV L S (S.v a.natAbs)).set 0 (vi 1))) a.natAbs ((upd (fun i=>gV L S (S.v i)) a.natAbs ((gV L S (S.v a.natAbs)).set 0 (vi 1)) a.natAbs).set 1 (vi S.lv.length)) a.natAbs).set 2 (reV L S r)) (by simp only[bC];rfl);have e3:=lY (n:=n) (k:=a.natAbs) (j:=0) (v:=vi (-1)) hf3 h1 (by omega);rw[Nat.add_zero]at e3;rw[e3];by_cases ha:a<0
 ·simp only[ha,decide_true,cond_true];refine nH fun i hi=> ?_;by_cases he:i=a.natAbs
  ·subst he;simp only[bC];show _=gV L S ((kK S a r).v a.natAbs);rw[oH,if_pos ha];rfl
  ·simp only[bI he];show _=gV L S ((kK S a r).v i);rw[vY he]
 ·simp only[ha,decide_false,cond_false];refine nH fun i hi=> ?_;by_cases he:i=a.natAbs
  ·subst he;simp only[bC];show _=gV L S ((kK S a r).v a.natAbs);rw[oH,if_neg ha];rfl
  ·simp only[bI he];show _=gV L S ((kK S a r).v i);rw[vY he]
theorem RX(L:Lay){id:Nat}{r0:Ro}(hid:L.ro id=some r0)(h0:r0= .t\/r0= .l\/r0= .x\/r0= .g):∀i r,L.ro i=some r->(fun x=>x==id) i=true->r= .t\/r= .l\/r= .x\/r= .g:=by
 intro i r hi hp;have:i=id:=by simpa using hp
 subst this;rw[hid]at hi;cases hi;exact h0
theorem HS.letS(hs:HS n bud L S h){a:Int}{r:Option Nat}(hr:∀j,r=some j->j<S.nc)(h1:a.natAbs<=n) :
 HS n bud L (kK S a r) (((List.map (O.drop fun x => x == L.t) (h.set L.v (.cells (dP L { S with v := (kK S a r).v } n)))).set L.t (.cells (List.map vi S.tr ++ [vi a]))).set L.s
  (.cells [.ls L.v 5 0 (n+1) (n+1),.lm L.m,.ls L.t 1 0 (S.tr.length+1) (S.tr.length+1),vi S.hd,.ls L.l 1 0 S.lv.length S.lv.length,.ls L.x 2 0 S.nx.length S.nx.length,.ls L.g 1 0 S.ln.length S.ln.length,vi bud])):=by
 have k1:=hs.toHR.setV (Go.Proofs.YthdidjjecjhenaaGreat.kK S a r).v (fun i hi j hj=>by
  by_cases he:i=a.natAbs
  ·subst he;rw[oH]at hj;exact hr j hj
  ·rw[vY he]at hj;exact hs.fre i hi j hj)
 have k2:=k1.drop (p:=fun x=>x==L.t) (RX L hs.rt (.inl rfl));have k3:=k2.setRow (cs:=List.map vi S.tr++[vi a]) hs.rt (S.tr++[a]) S.lv S.nx (.inl ⟨rfl,by simp,rfl,rfl,rfl⟩);have k4:=k3.setS (.cells [.ls L.v 5 0 (n+1) (n+1),.lm L.m,.ls L.t 1 0 (S.tr.length+1) (S.tr.length+1),vi S.hd,.ls L.l 1 0 S.lv.length S.lv.length,.ls L.x 2 0 S.nx.length S.nx.length,.ls L.g 1 0 S.ln.length S.ln.length,vi bud]);refine⟨k4,?_⟩;rw[zqt (by simpa using hs.rlt _ _ hs.rs)];have e:(Go.Proofs.YthdidjjecjhenaaGreat.kK S a r).tr.length=S.tr.length+1:=by show(S.tr++[a]).length=_;simp
 unfold ax;rw[e];rfl
theorem kQ(hs:HS n bud L S h)(hn:n<=20000){a:Int}(h1:a.natAbs<=n)(htr:S.tr.length<=20000)(r:Option Nat)(hr:∀j,r=some j->j<S.nc){R:AEnd->H->(Nat->Bool)->Prop}
 (hk:∀h' p,HS n bud L (kK S a r) h'->(∀i,p i=true->i=L.t)->h.length<=h'.length->R (.ret (.tup [])) h' p):ag TE 98 [.lp L.s 0,vi a,reV L S r] h R:=by
 have hM:=mLx;have hvar:=hs.var;have hsol:=hs.sol;have htrl:=hs.trl;have hvs:L.v≠L.s:=bT L hs.rv hs.rs (by simp);have hvt:L.v≠L.t:=bT L hs.rv hs.rt (by simp);have hst:L.s≠L.t:=bT L hs.rs hs.rt (by simp);have hts:=hst.symm;have hsv:L.s≠L.v:=hvs.symm;have hlv:=hs.rlt _ _ hs.rv;have hls:=hs.rlt _ _ hs.rs;have hlt:=hs.rlt _ _ hs.rt;have b1:(L.s==L.t)=false:=by simp[hst]
 have b2:(L.v==L.t)=false:=by simp[hvt]
 have b3:(L.m==L.t)=false:=by simp[bT L hs.rm hs.rt (by simp)]
 have b4:(L.l==L.t)=false:=by simp[bT L hs.rl hs.rt (by simp)]
 have b5:(L.x==L.t)=false:=by simp[bT L hs.rx hs.rt (by simp)]
 have b6:(L.g==L.t)=false:=by simp[bT L hs.rg hs.rt (by simp)]
 have hdv:V.drops (fun x=>x==L.t) (S.tr.map vi)=S.tr.map vi:=aI _;have dN:=La (L:=L) (S:=S) (r:=r) h1 (decide (a<0)) rfl;have hS:=hs.letS (r:=r) hr h1;rcases EK L S r with e|⟨id,len,e⟩
 all_goals
  rw[e]at dN ⊢;refine ah Tryz.func98 rfl (by simp[nts]) (vm ?_);simp only[wq.1,seval,Tryz.results98];refine oJ hs hn h1 ?_;simp only[wq.1,seval,-Int.reduceNatCast,-Int.reduceNatCast',aG,Tryz.results98,hsol,ax,hvar,bV,zqt,zrn,hlv,Vd h1,Xe h1,Ve h1];refine⟨by omega,by omega,by omega,vcB.mk (fun hc=> ?_) (fun hc=> ?_)⟩
  all_goals
   simp only[wq.1,↓reduceIte,Nat.reduceEqDiff,Nat.reduceLT,Nat.reduceLeDiff,Nat.reduceAdd,Nat.reduceSub,Int.reduceToNat,Nat.reduceDiv,Int.reduceLT,Int.reduceLE,Int.reduceNeg,Int.reduceBEq,Int.reduceBNe,Int.reduceAdd,Int.reduceSub,Nat.reduceBEq,reduceCtorEq,Nat.reduceMul,aG,Tryz.results98,hsol,ax,hvar,bV,zqt,zrn,hlv,Vd h1,Xe h1,Ve h1,zqn,hvs,hvt,hst,hts,hsv,ne_eq,not_false_eq_true,htrl,List.set_set,b1,b2,b3,b4,b5,b6,hdv,zqo,zra,hls,hlt];rw[hc]at dN;simp only[cond_true,cond_false]at dN;rw[dN]
   first
    |exact⟨by omega,⟨rfl,by decide⟩,⟨by omega,by omega,by omega⟩,hk _ _ hS (fun i hi=>by simpa using hi) (by simp)⟩
    |exact⟨⟨rfl,by decide⟩,⟨by omega,by omega,by omega⟩,hk _ _ hS (fun i hi=>by simpa using hi) (by simp)⟩
end
section
variable{n:Nat}{bud:Int}{L:Lay}{S:St}{h:H}
theorem HS.bump(hs:HS n bud L S h){k:Nat}(hk:k<=n){s:Int}:HS n bud L (uU S k s) (h.set L.v (.cells ((dP L S n).set (k*5+4) (vi s)))):=by
 have e:(dP L S n).set (k*5+4) (vi s)=dP L {S with v:=(uU S k s).v} n:=by
  rw[jd,jd,lY (fun _=>rfl) hk (by omega)];refine nH fun i hi=> ?_;by_cases he:i=k
  ·subst he;rw[bC];show _=gV L S (upd S.v i _ i);rw[bC];rfl
  ·rw[bI he];show _=gV L S (upd S.v k _ i);rw[bI he]
 rw[e];have k1:=hs.toHR.setV (uU S k s).v (fun i hi j hj=>hs.fre i hi j (((oI i).2.2.1).symm.trans hj));refine⟨k1,?_⟩;rw[bu hs.rv hs.rs (by simp)];exact hs.sol
def sw{α:Type}(l:List α)(i k:Nat)(d:α):List α:=(l.set i (l.getD k d)).set k (l.getD i d)
theorem CO{α:Type}:∀ {l:List α} {i:Nat} (h:i<l.length) (x:α),(x::l).Perm (l[i]::l.set i x)
 |[],i,h,_=>by simp at h
 |a::l,0,h,x=>List.Perm.swap _ _ _
 |a::l,i+1,h,x=>by
  have hh:i<l.length:=by simpa using h
  have:=CO hh x;show(x::a::l).Perm (l[i]::a::l.set i x);exact(List.Perm.swap _ _ _).trans ((List.Perm.cons a this).trans (List.Perm.swap _ _ _))
variable{i k:Nat}
theorem uX{α:Type}{l:List α}{d:α}(hi:i<l.length)(hk:k<l.length):(sw l i k d).Perm l:=by
 unfold sw;rw[show l.getD k d=l[k] by simp[zqg,hk],show l.getD i d=l[i] by simp[zqg,hi]];by_cases he:i=k
 ·subst he;rw[List.set_set];simp
 ·have h1:=CO hi l[k];have h2:=CO (l:=l.set i l[k]) (i:=k) (by simpa using hk) l[i];have e:(l.set i l[k])[k]'(by simpa using hk)=l[k]:=by rw[List.getElem_set_ne he]
  rw[e]at h2;exact((List.perm_cons _).1 (h1.trans h2)).symm
variable{x len:Nat}
theorem yK(R:AEnd->H->(Nat->Bool)->Prop)(hr:R (.ret (vi len)) h (fun _=>false)):ag TE 122 [.ls x 2 0 len len] h R:=by refine ah Tryz.func122 rfl (by simp[nts]) (vm ?_);simp only[wq.1,seval,Tryz.results122];exact hr
theorem gJ:∀ {nx:List (Int×Int)},(bD nx).length=2*nx.length
 |[]=>rfl
 |t::nx=>by have:=gJ (nx:=nx);simp only[bD]at this;simp only[bD,List.flatMap_cons,zqa,zrt,List.length_nil];omega
theorem nx0:∀ {nx:List (Int×Int)} {i:Nat} (h:i<nx.length),(bD nx).getD (i*2) .any=vi nx[i].1
 |[],i,h=>by simp at h
 |t::nx,0,h=>rfl
 |t::nx,i+1,h=>by have:=nx0 (nx:=nx) (i:=i) (by simpa using h);rw[show(i+1)*2=i*2+1+1 by omega];simpa [bD]using this
theorem nx1:∀ {nx:List (Int×Int)} {i:Nat} (h:i<nx.length),(bD nx).getD (i*2+1) .any=vi nx[i].2
 |[],i,h=>by simp at h
 |t::nx,0,h=>rfl
 |t::nx,i+1,h=>by have:=nx1 (nx:=nx) (i:=i) (by simpa using h);rw[show(i+1)*2+1=i*2+1+1+1 by omega];simpa [bD]using this
variable{nx:List (Int×Int)}
theorem nI(hx:h[x]? =some (.cells (bD nx))){i k:Nat}(hi:i<nx.length)(hk:k<nx.length){R:AEnd->H->(Nat->Bool)->Prop}(hr:∀b,R (.ret (.bool b)) h (fun _=>false)) :
 ag TE 151 [.ls x 2 0 nx.length nx.length,vi i,vi k] h R:=by
 refine ah Tryz.func151 rfl (by simp[nts]) (vm ?_);simp only[wq.1,seval,Tryz.results151,hx,gJ,nx1 hi,nx1 hk];refine⟨by decide +kernel,⟨by omega,by omega⟩,by omega,⟨by omega,by omega⟩,by omega,vcB.mk (fun hc=> ?_) (fun hc=> ?_)⟩
 all_goals
  simp only[wq.1,seval,hx,gJ,nx0 hi,nx1 hi,nx0 hk,nx1 hk];exact⟨by decide +kernel,⟨by omega,by omega⟩,by omega,⟨by omega,by omega⟩,by omega,hr _⟩
end
variable{h:H}{s off:Nat}
theorem RY : XY TE h 140 (.lp s off) "Push" 154 (.lp s off) := by intro ok pl w x hs hx;have hx' := hx;simp only [VRel] at hx;obtain ⟨b, hb, rfl⟩ := hx;exact ⟨_, by kernel_rfl, hx'⟩
theorem Vf : XY TE h 140 (.lp s off) "Pop" 153 (.lp s off) := by intro ok pl w x hs hx;have hx' := hx;simp only [VRel] at hx;obtain ⟨b, hb, rfl⟩ := hx;exact ⟨_, by kernel_rfl, hx'⟩
theorem RZ (b off : Nat) (w : World) : ∀ (name : String) (g : FuncId), (name = "Len" ∧ g = 122) ∨ (name = "Less" ∧ g = 151) ∨ (name = "Swap" ∧ g = 152) →
 (Go.method (TE.P.types.size+Made.depth) 140 (.pointer (some ⟨b,off,none⟩)) name).run TE.P w=(do let v <-Instr.loadAt 130 (.pointer (some ⟨b,off,none⟩));pure (g,v):Sem (FuncId×Value)).run TE.P w:=by
 rintro name g (⟨rfl,rfl⟩|⟨rfl,rfl⟩|⟨rfl,rfl⟩)<;>kernel_rfl
variable{x len:Nat}{cs:List V}
theorem iO(hc:h[s]? =some (.cells cs))(ho:cs[off]? =some (.ls x 2 0 len len)){name:String}{g:FuncId}
 (hn : (name = "Len" ∧ g = 122) ∨ (name = "Less" ∧ g = 151) ∨ (name = "Swap" ∧ g = 152)) : XY TE h 140 (.lp s off) name g (.ls x 2 0 len len) := by
 intro ok pl w v hs hx;have hl:=xG (P:=TE.P) hs (t:=130) hx;have hp:xF TE.P h 130 (.lp s off)=((off+1<=cs.length/\(true=true)),.ls x 2 0 len len):=by
  have hh:dN h s=cs:=by simp only[dN,hc]
  have hg:cs.getD off .any= .ls x 2 0 len len:=by rw[zqg,ho];rfl
  simp only[xF,TEP,tis,hh,V.sub,TI.agg,hg,cond_false,implies_true]
 rw[hp]at hl;obtain⟨y,h1,h2⟩:=hl ⟨(zqe ho).1,rfl⟩;simp only[VRel]at hx;obtain⟨b,hb,rfl⟩:=hx;refine⟨y,?_,h2⟩;rw[RZ b off w name g hn];simp only[Sem.run_bind];have h1':(Instr.loadAt 130 (.pointer (some ⟨b,off,none⟩))).run TE.P w= .ok y w:=h1;rw[h1'];rfl
section
variable{n:Nat}{bud:Int}{L:Lay}{S:St}{h:H}
theorem I4:∀ {nx:List (Int×Int)} {i:Nat} (h:i<nx.length),List.take 2 (List.drop (i*2) (bD nx))=[vi nx[i].1,vi nx[i].2]
 |[],i,h=>by simp at h
 |t::nx,0,h=>rfl
 |t::nx,i+1,h=>by have:=I4 (nx:=nx) (i:=i) (by simpa using h);rw[show(i+1)*2=i*2+1+1 by omega];simpa [bD]using this
theorem OH:∀ {nx:List (Int×Int)} {i:Nat} (h:i<nx.length) (t:Int×Int),List.take (i*2) (bD nx)++[vi t.1,vi t.2]++List.drop (i*2+2) (bD nx)=bD (nx.set i t)
 |[],i,h,t=>by simp at h
 |u::nx,0,h,t=>by simp[bD]
 |u::nx,i+1,h,t=>by have:=OH (nx:=nx) (i:=i) (by simpa using h) t;rw[show(i+1)*2=i*2+1+1 by omega];simp only[bD,List.flatMap_cons,List.cons_append,List.nil_append,List.take_succ_cons,List.drop_succ_cons,List.set_cons_succ]at this ⊢;rw[<-this]
def Uc:Plan:=tkZ [0,1,2,3,4,5,6,8,9,10]<| .alt 7 (.one 11<| .take 12<| .one 13<| .take 14<| .one 15<| .fin) (.one 11 (.one 7<| .take 12<| .one 13<| .take 14<| .one 15<| .fin))
variable{nx:List (Int×Int)}
theorem nJ(hx:h[x]? =some (.cells (bD nx))){i k:Nat}(hi:i<nx.length)(hk:k<nx.length){R:AEnd->H->(Nat->Bool)->Prop}
 (hr:R (.ret (.tup [])) (h.set x (.cells (bD (sw nx i k (0,0))))) (fun _=>false)):ag TE 152 [.ls x 2 0 nx.length nx.length,vi i,vi k] h R:=by
 have hxl:x<h.length:=(zqe hx).1;have e1:nx.getD k (0,0)=nx[k]:=by simp[zqg,hk]
 have e2:nx.getD i (0,0)=nx[i]:=by simp[zqg,hi]
 have n1:=OH hi nx[k];have n2:=OH (nx:=nx.set i nx[k]) (i:=k) (by simpa using hk) nx[i];have l1:=gJ (nx:=nx);have l2:=gJ (nx:=nx.set i nx[k]);rw[zrn]at l2;refine ah Tryz.func152 rfl (by simp[nts]) (vm ?_);simp only[wq.1,Tryz.results152];refine bM dV Uc (fun f' h'=>f'.d=[]/\(∀j,f'.k j=false)/\h'=h.set x (.cells (bD (sw nx i k (0,0))))) (by decide +kernel) (by decide +kernel) ?_ ?_
 ·simp only[wq.1,seval,Uc,hx,I4 hi,I4 hk,n1,n2,l1,l2,zqt,hxl,List.set_set];have hsw:(nx.set i nx[k]).set k nx[i]=sw nx i k (0,0):=by unfold sw;rw[e1,e2]
  rw[hsw]
  and_intros<;>first|omega|rfl
 ·rintro f h ⟨hd,hkf,rfl⟩;simp only[wq.1,hd];have:f.k=fun _=>false:=funext hkf;rw[this];exact hr
theorem HS.setX(hs:HS n bud L S h){nx:List (Int×Int)}(hl:nx.length=S.nx.length):HS n bud L (nxS S nx) (h.set L.x (.cells (bD nx))):=by have k:=hs.toHR.setRow (id:=L.x) (cs:=bD nx) hs.rx S.tr S.lv nx (.inr (.inr ⟨rfl,rfl,rfl,rfl,rfl⟩));refine⟨k,?_⟩;rw[bu hs.rx hs.rs (by simp),hs.sol];simp only[ax,nxS,hl]
theorem MI(hs:HS n bud L S h):(ax n bud L S)[5]? =some (.ls L.x 2 0 S.nx.length S.nx.length):=rfl
theorem Si(hs:HS n bud L S h)(hb:S.nx.length<=4000000000000):∀ {k:Nat} (hk:k<S.nx.length) {R:AEnd->H->(Nat->Bool)->Prop}
 (hr:∀nx h',nx.Perm S.nx->HS n bud L (nxS S nx) h'->h'.length=h.length->R (.ret (.tup [])) h' (fun _=>false)),ag TE 94 [.iface 140 (.lp L.s 5),vi k] h R:=by
 intro k hk R hr;have hM := mLx;refine ah Tryz.func94 rfl (by simp [nts]) (vm ?_);simp only [wq.1,seval,-Int.reduceNatCast,-Int.reduceNatCast',aG,Tryz.results94];refine aC (fun m f h' => ∃ (nx : List (Int × Int)) (k : Nat),m = k /\ k < S.nx.length /\ f.t 0 = .iface 140 (.lp L.s 5) /\ f.t 1 = vi k /\ f.d = [] /\ (∀ j,f.k j = false) /\ nx.Perm S.nx /\ HS n bud L (nxS S nx) h' /\ h'.length = h.length) k
  ⟨S.nx,k,rfl,hk,rfl,rfl,rfl,fun _=>rfl,List.Perm.refl _,hs,rfl⟩ ?_
 rintro m f h' ⟨nx,k,rfl,hk,h0,h1,hd,hkf,hp,hs',hlen⟩;have hl:=hp.length_eq;refine vm ?_;by_cases hm:m=0
 ·subst hm;have hq:IntKind.i64.wrap ((IntKind.i64.wrap (((0:Nat):Int)-1)).tdiv 2)=0:=by decide
  have hz:((0:Int)==((0:Nat):Int))=true:=rfl;simp only[wq.1,seval,-Int.reduceNatCast,-Int.reduceNatCast',-Int.reduceNe,aG,Tryz.results94,h0,h1,hd,hq,hz];refine⟨by decide,.bool false,?_⟩;simp only[wq.1,seval,-Int.reduceNatCast,-Int.reduceNatCast',aG,Tryz.results94,h0,h1,hd,hq,hz];have:f.k=fun _=>false:=funext hkf;rw[this];exact hr nx h' hp hs' hlen
 ·have hq:IntKind.i64.wrap ((IntKind.i64.wrap ((m:Int)-1)).tdiv 2)=(((m-1)/2:Nat):Int):=by rw[aU (n:=(m:Int)-1) (by omega) (by omega),show(m:Int)-1=((m-1:Nat):Int) by omega,show((m-1:Nat):Int).tdiv 2=(((m-1)/2:Nat):Int)from rfl,aU (by omega) (by omega)]
  have hne:((((m-1)/2:Nat):Int)==(m:Int))=false:=by rw[beq_eq_false_iff_ne];omega
  simp only[wq.1,↓reduceIte,Nat.reduceEqDiff,Nat.reduceLT,reduceCtorEq,h0,h1,hq,hne];refine⟨by decide,?_⟩;refine dO rfl (t:=140) (v:= .lp L.s 5) (v':= .ls L.x 2 0 nx.length nx.length) (g:=151) (rfl) (by simp only[wq.1,↓reduceIte,Nat.reduceEqDiff,eU,jV]) (iO hs'.sol (MI hs') (.inr (.inl ⟨rfl,rfl⟩))) (rfl) ?_;simp only[wq.1,seval];refine nI hs'.nxl (by show m<nx.length;omega) (by show(m-1)/2<nx.length;omega) fun b=> ?_;cases b with
  |false=>simp only[wq.1,seval,hd];have:f.k=fun _=>false:=funext hkf;rw[this];exact hr nx h' hp hs' hlen
  |true=>simp only[wq.1,seval,h0,h1];refine dO rfl (t:=140) (v:= .lp L.s 5) (v':= .ls L.x 2 0 nx.length nx.length) (g:=152) (rfl) (by simp only[wq.1,seval,eU,jV]) (iO hs'.sol (MI hs') (.inr (.inr ⟨rfl,rfl⟩))) (rfl) ?_;simp only[wq.1,seval];refine nJ (nx:=nx) hs'.nxl (by show(m-1)/2<nx.length;omega) (by show m<nx.length;omega) ?_;have hsp:=uX (l:=nx) (i:=(m-1)/2) (k:=m) (d:=((0:Int),(0:Int))) (by omega) (by omega);have hs2:=hs'.setX (nx:=sw nx ((m-1)/2) m (0,0)) hsp.length_eq;simp only[wq.1,seval];exact .inl ⟨(m-1)/2,by omega,sw nx ((m-1)/2) m (0,0),(m-1)/2,rfl,by omega,h0,rfl,hd,hkf,hsp.trans hp,hs2,by rw[zrn];exact hlen⟩
end
section
variable{n:Nat}{bud:Int}{L:Lay}{S:St}{h:H}
variable{i k:Nat}
theorem CP{α:Type}{l:List α}{q:Nat}{d:α}(h1:q≠i)(h2:q≠k):(sw l i k d).getD q d=l.getD q d:=by unfold sw;rw[zqg,zqn (Ne.symm h2),zqn (Ne.symm h1),<-zqg]
theorem Ld(hs:HS n bud L S h)(hb:S.nx.length<=4000000000000){m:Nat}(hm:m<=S.nx.length){R:AEnd->H->(Nat->Bool)->Prop}
 (hr:∀nx h' b,nx.Perm S.nx->HS n bud L (nxS S nx) h'->h'.length=h.length->(∀i,m<=i->nx.getD i (0,0)=S.nx.getD i (0,0))->R (.ret (.bool b)) h' (fun _=>false)):ag TE 130 [.iface 140 (.lp L.s 5),vi 0,vi m] h R:=by
 have hM := mLx;refine ah Tryz.func130 rfl (by simp [nts]) (vm ?_);simp only [wq.1,seval,Tryz.results130];refine aC (fun k f h' => ∃ (nx : List (Int × Int)) (i : Nat),k = m - i /\ f.t 0 = .iface 140 (.lp L.s 5) /\ f.t 1 = vi 0 /\ f.t 2 = vi m /\ f.t 7 = vi i /\ i <= m /\ f.d = [] /\ (∀ j,f.k j = false) /\ nx.Perm S.nx /\ HS n bud L (nxS S nx) h' /\ h'.length = h.length /\ ∀ i,m <= i -> nx.getD i (0,0) = S.nx.getD i (0,0)) m
  ⟨S.nx,0,rfl,rfl,rfl,rfl,rfl,Nat.zero_le _,rfl,fun _=>rfl,List.Perm.refl _,hs,rfl,fun _ _=>rfl⟩ ?_
 rintro k f h' ⟨nx,i,hk,h0,h1,h2,h7,hi,hd,hkf,hp,hs',hlen,hsame⟩;have hl:=hp.length_eq;have hkf':f.k=fun _=>false:=funext hkf;have w1:IntKind.i64.wrap (2*(i:Int))=((2*i:Nat):Int):=by rw[aU (by omega) (by omega)];omega
 have w2:IntKind.i64.wrap (((2*i:Nat):Int)+1)=((2*i+1:Nat):Int):=by rw[aU (by omega) (by omega)];omega
 have w3:IntKind.i64.wrap (((2*i+1:Nat):Int)+1)=((2*i+2:Nat):Int):=by rw[aU (by omega) (by omega)];omega
 have z1:decide (((2*i+1:Nat):Int)<0)=false:=by rw[zqd];omega
 /- behind the choice of a child -/
 have fin:∀b:Bool,R (.ret (.bool b)) h' f.k:=fun b=>by rw[hkf'];exact hr nx h' b hp hs' hlen hsame
 refine vm ?_;by_cases hge:m<=2*i+1
 ·have e1:decide ((m:Int)<=((2*i+1:Nat):Int))=true:=by rw[zqb];omega
  simp only[wq.1,seval,h1,h2,h7,hd,w1,w2,e1];exact fin _
 ·have e1:decide ((m:Int)<=((2*i+1:Nat):Int))=false:=by rw[zqd];omega
  /- what follows when the child is told -/
  by_cases hlt:2*i+2<m
  ·have e2:decide (((2*i+2:Nat):Int)<(m:Int))=true:=by rw[zqb];omega
   simp only[wq.1,seval,h0,h2,h7,w1,w2,w3,e1,z1,e2];refine dO rfl (t:=140) (v:= .lp L.s 5) (v':= .ls L.x 2 0 nx.length nx.length) (g:=151) (rfl) (by simp only[wq.1,seval,eU,jV]) (iO hs'.sol (MI hs') (.inr (.inl ⟨rfl,rfl⟩))) (rfl) ?_;simp only[wq.1,seval];refine nI hs'.nxl (by show 2*i+2<nx.length;omega) (by show 2*i+1<nx.length;omega) fun b=> ?_;cases b with
   |true =>
    simp only[wq.1,seval,h0,h7];refine dO rfl (t:=140) (v:= .lp L.s 5) (v':= .ls L.x 2 0 nx.length nx.length) (g:=151) (rfl) (by simp only[wq.1,seval,eU,jV]) (iO hs'.sol (MI hs') (.inr (.inl ⟨rfl,rfl⟩))) (rfl) ?_;simp only[wq.1,seval];refine nI hs'.nxl (by show 2*i+2<nx.length;omega) (by show i<nx.length;omega) fun b=> ?_;cases b with
    |false=>simp only[wq.1,seval,h1,h7,hd];exact fin _
    |true=>simp only[wq.1,seval,h0,h7];refine dO rfl (t:=140) (v:= .lp L.s 5) (v':= .ls L.x 2 0 nx.length nx.length) (g:=152) (rfl) (by simp only[wq.1,seval,eU,jV]) (iO hs'.sol (MI hs') (.inr (.inr ⟨rfl,rfl⟩))) (rfl) ?_;simp only[wq.1,seval];refine nJ (nx:=nx) hs'.nxl (by show i<nx.length;omega) (by show 2*i+2<nx.length;omega) ?_;have hsp:=uX (l:=nx) (i:=i) (k:=2*i+2) (d:=((0:Int),(0:Int))) (by omega) (by omega);have hs2:=hs'.setX (nx:=sw nx i (2*i+2) (0,0)) hsp.length_eq;simp only[wq.1,seval];exact .inl ⟨m-(2*i+2),by omega,sw nx i (2*i+2) (0,0),2*i+2,rfl,h0,h1,h2,rfl,by omega,hd,hkf,hsp.trans hp,hs2,by rw[zrn];exact hlen,fun q hq=>by rw[CP (by omega) (by omega)];exact hsame q hq⟩
   |false =>
    simp only[wq.1,seval,h0,h7];refine dO rfl (t:=140) (v:= .lp L.s 5) (v':= .ls L.x 2 0 nx.length nx.length) (g:=151) (rfl) (by simp only[wq.1,seval,eU,jV]) (iO hs'.sol (MI hs') (.inr (.inl ⟨rfl,rfl⟩))) (rfl) ?_;simp only[wq.1,seval];refine nI hs'.nxl (by show 2*i+1<nx.length;omega) (by show i<nx.length;omega) fun b=> ?_;cases b with
    |false=>simp only[wq.1,seval,h1,h7,hd];exact fin _
    |true=>simp only[wq.1,seval,h0,h7];refine dO rfl (t:=140) (v:= .lp L.s 5) (v':= .ls L.x 2 0 nx.length nx.length) (g:=152) (rfl) (by simp only[wq.1,seval,eU,jV]) (iO hs'.sol (MI hs') (.inr (.inr ⟨rfl,rfl⟩))) (rfl) ?_;simp only[wq.1,seval];refine nJ (nx:=nx) hs'.nxl (by show i<nx.length;omega) (by show 2*i+1<nx.length;omega) ?_;have hsp:=uX (l:=nx) (i:=i) (k:=2*i+1) (d:=((0:Int),(0:Int))) (by omega) (by omega);have hs2:=hs'.setX (nx:=sw nx i (2*i+1) (0,0)) hsp.length_eq;simp only[wq.1,seval];exact .inl ⟨m-(2*i+1),by omega,sw nx i (2*i+1) (0,0),2*i+1,rfl,h0,h1,h2,rfl,by omega,hd,hkf,hsp.trans hp,hs2,by rw[zrn];exact hlen,fun q hq=>by rw[CP (by omega) (by omega)];exact hsame q hq⟩
  ·have e2:decide (((2*i+2:Nat):Int)<(m:Int))=false:=by rw[zqd];omega
   simp only[wq.1,seval,h0,h2,h7,w1,w2,w3,e1,z1,e2];refine⟨.bool false,?_⟩;simp only[wq.1,seval,h0,h7];refine dO rfl (t:=140) (v:= .lp L.s 5) (v':= .ls L.x 2 0 nx.length nx.length) (g:=151) (rfl) (by simp only[wq.1,seval,eU,jV]) (iO hs'.sol (MI hs') (.inr (.inl ⟨rfl,rfl⟩))) (rfl) ?_;simp only[wq.1,seval];refine nI hs'.nxl (by show 2*i+1<nx.length;omega) (by show i<nx.length;omega) fun b=> ?_;cases b with
   |false=>simp only[wq.1,seval,h1,h7,hd];exact fin _
   |true=>simp only[wq.1,seval,h0,h7];refine dO rfl (t:=140) (v:= .lp L.s 5) (v':= .ls L.x 2 0 nx.length nx.length) (g:=152) (rfl) (by simp only[wq.1,seval,eU,jV]) (iO hs'.sol (MI hs') (.inr (.inr ⟨rfl,rfl⟩))) (rfl) ?_;simp only[wq.1,seval];refine nJ (nx:=nx) hs'.nxl (by show i<nx.length;omega) (by show 2*i+1<nx.length;omega) ?_;have hsp:=uX (l:=nx) (i:=i) (k:=2*i+1) (d:=((0:Int),(0:Int))) (by omega) (by omega);have hs2:=hs'.setX (nx:=sw nx i (2*i+1) (0,0)) hsp.length_eq;simp only[wq.1,seval];exact .inl ⟨m-(2*i+1),by omega,sw nx i (2*i+1) (0,0),2*i+1,rfl,h0,h1,h2,rfl,by omega,hd,hkf,hsp.trans hp,hs2,by rw[zrn];exact hlen,fun q hq=>by rw[CP (by omega) (by omega)];exact hsame q hq⟩
end
section
variable{n:Nat}{bud:Int}{L:Lay}{S:St}{h:H}
theorem yL(nx:List (Int×Int))(t:Int×Int):bD nx++[vi t.1,vi t.2]=bD (nx++[t]):=by simp[bD]
variable{p:Nat->Bool}
theorem Sj(nx:List (Int×Int)):V.drops p (bD nx)=bD nx:=dQ fun v hv=>by obtain⟨t,_,hv⟩:=List.mem_flatMap.1 hv;simp only[zrj,zrp,or_false]at hv;rcases hv with rfl|rfl<;>exact dY
theorem HS.pushX(hs:HS n bud L S h)(nx:List (Int×Int)):HS n bud L (nxS S nx) (((h.map (O.drop fun x=>x==L.x)).set L.x (.cells (bD nx))).set L.s
 (.cells [.ls L.v 5 0 (n+1) (n+1),.lm L.m,.ls L.t 1 0 S.tr.length S.tr.length,vi S.hd,.ls L.l 1 0 S.lv.length S.lv.length,.ls L.x 2 0 nx.length nx.length,.ls L.g 1 0 S.ln.length S.ln.length,vi bud])):=by
 have k2:=hs.toHR.drop (p:=fun x=>x==L.x) (RX L hs.rx (.inr (.inr (.inl rfl))));have k3:=k2.setRow (id:=L.x) (cs:=bD nx) hs.rx S.tr S.lv nx (.inr (.inr ⟨rfl,rfl,rfl,rfl,rfl⟩));refine⟨k3.setS _,?_⟩;rw[zqt (by simpa using hs.rlt _ _ hs.rs)];rfl
def I5:Plan:=tkZ [0,1,2,4]<| .alt 3 (onZ [5,6,7]<| .take 8<| .one 9<| .fin) (.one 5 (.alt 3 (.one 6<| .one 7<| .take 8<| .one 9<| .fin) (.one 6 (.one 3<| .one 7<| .take 8<| .one 9<| .fin))))
theorem Hg(hs:HS n bud L S h)(hb:S.nx.length<=4000000000000)(a b:Int){R:AEnd->H->(Nat->Bool)->Prop}
 (hr:∀h' p,HS n bud L (nxS S (S.nx++[(a,b)])) h'->h'.length=h.length->(∀i,p i=true->i=L.x)->R (.ret (.tup [])) h' p):ag TE 154 [.lp L.s 5,.iface 142 (.agg [vi a,vi b])] h R:=by
 have hM:=mLx;have hsol:=hs.sol;have hnx:=hs.nxl;have hls:=hs.rlt _ _ hs.rs;have hlx:=hs.rlt _ _ hs.rx;have hsx:L.s≠L.x:=bT L hs.rs hs.rx (by simp);have hxs:=hsx.symm;have b1:(L.s==L.x)=false:=by simp[hsx]
 have b2:(L.v==L.x)=false:=by simp[bT L hs.rv hs.rx (by simp)]
 have b3:(L.m==L.x)=false:=by simp[bT L hs.rm hs.rx (by simp)]
 have b4:(L.l==L.x)=false:=by simp[bT L hs.rl hs.rx (by simp)]
 have b5:(L.t==L.x)=false:=by simp[bT L hs.rt hs.rx (by simp)]
 have b6:(L.g==L.x)=false:=by simp[bT L hs.rg hs.rx (by simp)]
 have hH:=hs.pushX (S.nx++[(a,b)]);have hne:bD S.nx++[vi a,vi b]=bD (S.nx++[(a,b)]):=yL S.nx (a,b);have hfm:List.flatMap V.vc [V.agg [vi a,vi b]]=[vi a,vi b]:=rfl;have hft:mg [V.agg [vi a,vi b]]=true:=rfl;rw[zqa,zrk]at hH;refine ah Tryz.func154 rfl (by simp[nts]) (vm ?_);simp only[wq.1,Tryz.results154];refine bM dV I5 (fun f' h'=>f'.d=[]/\(∀j,f'.k j=true->j=L.x)/\HS n bud L (nxS S (S.nx++[(a,b)])) h'/\h'.length=h.length) (by decide +kernel) (by decide +kernel) ?_ ?_
 ·simp only[wq.1,↓reduceIte,Nat.reduceEqDiff,Nat.reduceLT,Nat.reduceLeDiff,Nat.reduceAdd,reduceCtorEq,Nat.reduceMul,I5,hsol,ax,hnx,zrn,zqn,hxs,ne_eq,not_false_eq_true,b1,b2,b3,b4,b5,b6,Sj,gJ,zqo,hne,hfm,hft];exact⟨⟨rfl,by decide⟩,⟨by omega,by omega,by omega⟩,fun j hj=>by simpa using hj,hH⟩
 ·rintro f h' ⟨hd,hkf,hs',hl⟩;simp only[wq.1,hd];exact hr h' f.k hs' hl hkf
theorem uY(hs:HS n bud L S h)(hb:S.nx.length<=3000000000000)(a b:Int){R:AEnd->H->(Nat->Bool)->Prop}
 (hr:∀nx h' p,nx.Perm (S.nx++[(a,b)])->HS n bud L (nxS S nx) h'->h'.length=h.length->(∀i,p i=true->i=L.x)->R (.ret (.tup [])) h' p):ag TE 66 [.iface 140 (.lp L.s 5),.iface 142 (.agg [vi a,vi b])] h R:=by
 have hM:=mLx;have hsx:L.s≠L.x:=bT L hs.rs hs.rx (by simp);refine ah Tryz.func66 rfl (by simp[nts]) (vm ?_);simp only[wq.1,seval,Tryz.results66];refine dO rfl (t:=140) (v:= .lp L.s 5) (v':= .lp L.s 5) (g:=154) (rfl) (by simp only[wq.1,seval,eU,jV]) RY (rfl) ?_;refine Hg hs (by omega) a b fun h1 p hs1 hl1 hp=> ?_;have hps:p L.s=false:=by
  cases hps:p L.s with
  |false=>rfl
  |true=>exact absurd (hp _ hps) hsx
 simp only[wq.1,seval,hps,bJ];refine dO rfl (t:=140) (v:= .lp L.s 5) (v':= .ls L.x 2 0 (S.nx.length+1) (S.nx.length+1)) (g:=122) (by simp only[wq.1,↓reduceIte]) (by simp only[wq.1,↓reduceIte,eU]) (iO hs1.sol (by have:=MI hs1;simpa [nxS]using this) (.inl ⟨rfl,rfl⟩)) (by simp only[wq.1]) ?_;simp only[wq.1];refine yK _ ?_;have hw:IntKind.i64.wrap (((S.nx.length+1:Nat):Int)-1)=(S.nx.length:Int):=by rw[aU (by omega) (by omega)];omega
 simp only[wq.1,seval,hw];refine Si hs1 (by show(S.nx++[(a,b)]).length<=_;simp;omega) (k:=S.nx.length) (by show _<(S.nx++[(a,b)]).length;simp) fun nx h2 hp2 hs2 hl2=> ?_;simp only[wq.1];exact hr nx h2 p (show nx.Perm (S.nx++[(a,b)])from hp2) hs2 (hl2.trans hl1) hp
end
section
variable{n:Nat}{bud:Int}{L:Lay}{S:St}{h:H}
theorem HR.congr(k:HR n L S h){h':H}(he:∀i r,L.ro i=some r->r≠ .s->h'[i]? =h[i]?)(hl:h.length<=h'.length):HR n L S h' where
 var:=by rw[he _ _ k.rv (by simp)];exact k.var
 map:=by
  obtain⟨ks,h1,h2⟩:=k.map;exact⟨ks,by rw[he _ _ k.rm (by simp)];exact h1,h2⟩
 trl:=by rw[he _ _ k.rt (by simp)];exact k.trl
 lvl:=by rw[he _ _ k.rl (by simp)];exact k.lvl
 nxl:=by rw[he _ _ k.rx (by simp)];exact k.nxl
 lnl:=by rw[he _ _ k.rg (by simp)];exact k.lnl
 lnk i hi:=by
  obtain⟨h1,h2⟩:=k.lnk i hi;exact⟨by rw[he _ _ h2 (by simp)];exact h1,h2⟩
 cla j hj:=by
  obtain⟨h1,h2⟩:=k.cla j hj;exact⟨by rw[he _ _ h2 (by simp)];exact h1,h2⟩
 wat a:=by
  have:=k.wat a;unfold gX at this ⊢;cases hw:L.w a with
  |none=>rw[hw]at this;exact this
  |some id=>rw[hw]at this;exact⟨by rw[he _ _ this.2 (by simp)];exact this.1,this.2⟩
 fre:=k.fre
 fwt:=k.fwt
 rs:=k.rs
 rv:=k.rv
 rm:=k.rm
 rt:=k.rt
 rl:=k.rl
 rx:=k.rx
 rg:=k.rg
 rlt i r hr:=Nat.lt_of_lt_of_le (k.rlt i r hr) hl
 ext i o ho:=⟨by rw[he _ _ ho (by simp)];exact(k.ext i o ho).1,(k.ext i o ho).2⟩
theorem HS.app(hs:HS n bud L S h)(k:H):HS n bud L S (h++k) :=
 ⟨hs.toHR.congr (fun i r hr _=>zqj (hs.rlt i r hr)) (by simp),by rw[zqj (hs.rlt _ _ hs.rs)];exact hs.sol⟩
def I7:Plan:=tkZ [0,1,3,4]<| .alt 2 (.alt 5 (.alt 6 (.take 7<| .take 8<| .alt 9 (.one 10<| .one 11<| .fin) (.one 10 (.one 9<| .one 11<| .fin))) (.one 10 (.one 6<| .take 7<| .take 8<| .one 9<| .one 11<| .fin))) (.one 10 (.one 5<| .one 6<| .take 7<| .take 8<| .one 9<| .one 11<| .fin))) (.alt 5 (.alt 2 (.alt 6 (.take 7<| .take 8<| .alt 9 (.one 10<| .one 11<| .fin) (.one 10 (.one 9<| .one 11<| .fin))) (.one 10 (.one 6<| .take 7<| .take 8<| .one 9<| .one 11<| .fin))) (.alt 6 (.take 7<| .alt 2 (.take 8<| .alt 9 (.one 10<| .one 11<| .fin) (.one 10 (.one 9<| .one 11<| .fin))) (.one 10 (.one 2<| .take 8<| .one 9<| .one 11<| .fin))) (.one 10 (.alt 2 (.one 6<| .take 7<| .take 8<| .one 9<| .one 11<| .fin) (.one 6 (.take 7<| .one 2<| .take 8<| .one 9<| .one 11<| .fin)))))) (.one 10 (.alt 2 (.one 5<| .one 6<| .take 7<| .take 8<| .one 9<| .one 11<| .fin) (.one 5 (.alt 2 (.one 6<| .take 7<| .take 8<| .one 9<| .one 11<| .fin) (.one 6 (.take 7<| .one 2<| .take 8<| .one 9<| .one 11<| .fin)))))))
def I8:Plan:=tkZ [0,1,2,4,5]<| .alt 3 (.one 6<| .one 7<|tkZ [8,9,10]<| .one 11<| .fin) (.one 6 (.alt 3 (.one 7<|tkZ [8,9,10]<| .one 11<| .fin) (.one 7 (.take 8<| .one 3<| .take 9<| .take 10<| .one 11<| .fin))))
theorem EL(nx:List (Int×Int))(t:Int×Int):List.take (2*nx.length) (bD (nx++[t]))=bD nx:=by rw[<-yL,List.take_append_of_le_length (by rw[gJ];exact zrb _),zqh (by rw[gJ];exact zrb _)]
theorem Le(hs:HS n bud L S h){nx:List (Int×Int)}{t:Int×Int}(hx:S.nx=nx++[t])(hb:S.nx.length<=4000000000000){R:AEnd->H->(Nat->Bool)->Prop}
 (hr:∀h',HS n bud L (nxS S nx) h'->h.length<=h'.length->R (.ret (.iface 142 (.agg [vi t.1,vi t.2]))) h' (fun _=>false)):ag TE 153 [.lp L.s 5] h R:=by
 have hM:=mLx;have hsol:=hs.sol;have hnx:=hs.nxl;have hls:=hs.rlt _ _ hs.rs;have hlx:=hs.rlt _ _ hs.rx;have hsx:L.s≠L.x:=bT L hs.rs hs.rx (by simp);have hlen:S.nx.length=nx.length+1:=by rw[hx];simp
 have hw:IntKind.i64.wrap (((nx.length+1:Nat):Int)-1)=(nx.length:Int):=by rw[aU (by omega) (by omega)];omega
 have ht2:List.take 2 (List.drop (nx.length*2) (bD S.nx))=[vi t.1,vi t.2]:=by have:=I4 (nx:=S.nx) (i:=nx.length) (by omega);rw[this];simp[hx]
 have e1:∀o:O,(h++[o])[List.length h]? =some o:=fun o=>by simp
 have e2:∀o o':O,List.set (h++[o]) (List.length h) o'=h++[o']:=fun o o'=>by rw[List.set_append_right _ _ (zrb _)];simp
 have e3:∀o:O,(h++[o])[L.s]? =some (.cells (ax n bud L S)):=fun o=>by rw[zqj hls];exact hsol
 have e4:∀o:O,(h++[o])[L.x]? =some (.cells (bD S.nx)):=fun o=>by rw[zqj hlx];exact hnx
 refine uM ?_;refine ah Tryz.func153 rfl (by simp[nts]) (vm ?_);simp only[wq.1,Nat.reduceLT,Tryz.results153];refine bM dV I7 (fun f' h'=>f'.t 0= .lp L.s 5/\f'.t 3= .lp h.length 0/\f'.d=[]/\(∀j,f'.k j=false)/\h'=h++[.cells [vi t.1,vi t.2]]) (by decide +kernel) (by decide +kernel) ?_ ?_
 ·simp only[wq.1,seval,I7,hsol,ax,hnx,hlen,hw,gJ,ht2,e1,e2,e3,e4]
  and_intros<;>first|omega|rfl|trivial
 ·rintro f h' ⟨h0,h3,hd,hkf,rfl⟩;simp only [wq.1];refine bM dV I8 (fun f' h' => f'.t 3 = .lp h.length 0 /\ f'.d = [] /\ (∀ j,f'.k j = false) /\ h' = (h ++ [O.cells [vi t.1,vi t.2]]).set L.s
   (O.cells [.ls L.v 5 0 (n+1) (n+1),.lm L.m,.ls L.t 1 0 S.tr.length S.tr.length,vi S.hd,.ls L.l 1 0 S.lv.length S.lv.length,.ls L.x 2 0 nx.length (nx.length+1),.ls L.g 1 0 S.ln.length S.ln.length,vi bud])) (by decide +kernel) (by decide +kernel) ?_ ?_
  ·simp only[wq.1,seval,I8,h0,h3,hd,ax,hlen,hw,e3];exact⟨⟨by omega,by omega⟩,hkf⟩
  ·rintro f h' ⟨h3,hd,hkf,rfl⟩;have hne:L.s≠List.length h:=by omega
   simp only[wq.1,seval,h3,hd,zqn hne,e1];have hkf':f.k=fun _=>false:=funext hkf;rw[hkf'];have hls2:L.s<(h++[O.cells [vi t.1,vi t.2]]).length:=by simp;omega
   have hH:=(hs.app [O.cells [vi t.1,vi t.2]]);have kX:=hH.toHR.setRow (id:=L.x) (cs:=bD nx) hs.rx S.tr S.lv nx (.inr (.inr ⟨rfl,rfl,rfl,rfl,rfl⟩));have kS:=kX.setS (.cells (ax n bud L (nxS S nx)));refine⟨by simp,(((h++[O.cells [vi t.1,vi t.2]]).set L.x (.cells (bD nx))).set L.s (.cells (ax n bud L (nxS S nx)))),?_,hr _ ⟨kS,?_⟩ ?_⟩
   ·rw[List.set_comm _ _ hsx.symm];refine HLe.trans (HLe.set (i:=L.s) (zqt hls2) (o':= .cells (ax n bud L (nxS S nx))) (OLe.cells (zrb _) ?_)) ?_
    ·simp only[ax,nxS,zrt,List.length_nil,List.take_succ_cons,List.take_nil,List.take_zero];exact .cons (.refl _)<| .cons (.refl _)<| .cons (.refl _)<| .cons (.refl _)<| .cons (.refl _)<| .cons (VLe.cap (by omega))<| .refl _
    ·rw[List.set_set];refine HLe.set (o:= .cells (bD S.nx)) ?_ ?_
     ·rw[zqn hsx];exact e4 _
     ·have:=OLe.take (bD S.nx) (2*nx.length);rw[hx,EL]at this
      rwa [<-hx]at this
   ·exact zqt (by simp;omega)
   ·simp
variable{m:Nat}
theorem Vg{α:Type}{l:List α}(h:l.length=m+1):∃l0 x,l=l0++[x]/\l0.length=m:=by
 have hne:l≠[]:=by rintro rfl;simp at h
 exact⟨l.dropLast,l.getLast hne,(List.dropLast_concat_getLast hne).symm,by simp[h]⟩
theorem OI(hs:HS n bud L S h)(hb:S.nx.length<=3000000000000)(hne:S.nx≠[]){R:AEnd->H->(Nat->Bool)->Prop}
 (hr:∀nx t h',(nx++[t]).Perm S.nx->HS n bud L (nxS S nx) h'->h.length<=h'.length->R (.ret (.iface 142 (.agg [vi t.1,vi t.2]))) h' (fun _=>false)):ag TE 123 [.iface 140 (.lp L.s 5)] h R:=by
 have hM:=mLx;obtain⟨m,hm⟩:∃m,S.nx.length=m+1:=⟨S.nx.length-1,by have:=List.length_pos_iff.2 hne;omega⟩;have hw:IntKind.i64.wrap ((S.nx.length:Int)-1)=(m:Int):=by rw[aU (by omega) (by omega)];omega
 refine ah Tryz.func123 rfl (by simp[nts]) (vm ?_);simp only[wq.1,seval,Tryz.results123];refine dO rfl (t:=140) (v:= .lp L.s 5) (v':= .ls L.x 2 0 S.nx.length S.nx.length) (g:=122) (by simp only[wq.1,↓reduceIte]) (by simp only[wq.1,↓reduceIte,eU]) (iO hs.sol (MI hs) (.inl ⟨rfl,rfl⟩)) (by simp only[wq.1]) ?_;simp only[wq.1];refine yK _ ?_;simp only[wq.1,seval,hw];refine dO rfl (t:=140) (v:= .lp L.s 5) (v':= .ls L.x 2 0 S.nx.length S.nx.length) (g:=152) (rfl) (by simp only[wq.1,seval,eU,jV]) (iO hs.sol (MI hs) (.inr (.inr ⟨rfl,rfl⟩))) (rfl) ?_;simp only[wq.1,↓reduceIte];refine nJ (nx:=S.nx) (i:=0) (k:=m) hs.nxl (by omega) (by omega) ?_;have hsp:=uX (l:=S.nx) (i:=0) (k:=m) (d:=((0:Int),(0:Int))) (by omega) (by omega);have hs1:=hs.setX (nx:=sw S.nx 0 m (0,0)) hsp.length_eq;simp only[wq.1,seval];refine Ld hs1 (by show(sw S.nx 0 m (0,0)).length<=_;rw[hsp.length_eq];omega) (m:=m) (by show m<=(sw S.nx 0 m (0,0)).length;rw[hsp.length_eq];omega) fun nx2 h2 b hp2 hs2 hl2 hsame=> ?_;have hp2':nx2.Perm S.nx:=hp2.trans hsp;simp only[wq.1,seval];refine dO rfl (t:=140) (v:= .lp L.s 5) (v':= .lp L.s 5) (g:=153) (by simp only[wq.1,↓reduceIte]) (by simp only[wq.1,↓reduceIte,eU]) Vf (by simp only[wq.1]) ?_;obtain⟨nx,t,e,hl⟩:=Vg (l:=nx2) (m:=m) (by rw[hp2'.length_eq,hm]);refine Le hs2 (nx:=nx) (t:=t) e (by show nx2.length<=_;rw[hp2'.length_eq];omega) fun h3 hs3 hl3=> ?_;simp only[wq.1,seval];exact hr nx t h3 (by rw[<-e];exact hp2') hs3 (by rw[zrn]at hl2;rw[<-hl2];exact hl3)
end
section
variable{n:Nat}{bud:Int}{L:Lay}{S:St}{h:H}
def Gp(S:St)(a:Int)(j:Nat):St:={S with wt:=fun b=>if b=a then S.wt a++[j]else S.wt b}
def zW(L:Lay)(a:Int)(id:Nat):Lay:={L with w:=fun b=>if b=a then some id else L.w b,ro:=fun i=>if i=id then some (.w a)else L.ro i}
structure LX(nc:Nat)(L L':Lay):Prop where
 s:L'.s=L.s
 v:L'.v=L.v
 m:L'.m=L.m
 t:L'.t=L.t
 l:L'.l=L.l
 x:L'.x=L.x
 g:L'.g=L.g
 c:∀j,j<nc->L'.c j=L.c j
 w:∀a id,L.w a=some id->L'.w a=some id
 ro:∀i r,L.ro i=some r->L'.ro i=some r
theorem LX.refl(m:Nat)(L:Lay):LX m L L:=⟨rfl,rfl,rfl,rfl,rfl,rfl,rfl,fun _ _=>rfl,fun _ _ h=>h,fun _ _ h=>h⟩
variable{m:Nat}
theorem LX.trans{A B C:Lay}(p:LX m A B)(q:LX m B C):LX m A C :=
 ⟨q.s.trans p.s,q.v.trans p.v,q.m.trans p.m,q.t.trans p.t,q.l.trans p.l,q.x.trans p.x,q.g.trans p.g,fun j hj=>(q.c j hj).trans (p.c j hj),fun a id h=>q.w a id (p.w a id h),fun i r h=>q.ro i r (p.ro i r h)⟩
variable{a:Int}
theorem oL{id:Nat}(h:(L.ro id=none/\L.w a=none)\/(L.ro id=some (.w a)/\L.w a=some id)):LX m L (zW L a id) :=
 ⟨rfl,rfl,rfl,rfl,rfl,rfl,rfl,fun _ _=>rfl,fun b i hb=>by
  show(if b=a then some id else L.w b)=some i;split
  ·rename_i e;subst e;rcases h with⟨_,h⟩|⟨_,h⟩
   ·rw[h]at hb;cases hb
   ·rw[h]at hb;exact hb
  ·exact hb,fun i r hi=>by
  show(if i=id then some (Ro.w a)else L.ro i)=some r;split
  ·rename_i e;subst e;rcases h with⟨h,_⟩|⟨h,_⟩
   ·rw[h]at hi;cases hi
   ·rw[h]at hi;exact hi
  ·exact hi⟩
theorem HR.wstep(k:HR n L S h){h':H}{a:Int}{j id:Nat}(hj:j<S.nc)(hid0:(L.ro id=none/\L.w a=none)\/(L.ro id=some (.w a)/\L.w a=some id))
 (get:∀i o,h[i]? =some o->o.drop (fun x=>x==id)=o->L.ro i≠none->i≠id->i≠L.m->h'[i]? =some o)
 (hid:h'[id]? =some (.cells ((S.wt a).map (clV L S)++[clV L S j])))
 (hmap:∃ks:List Int,h'[L.m]? =some (.map (ks.map vi) (ks.map fun b=>if b=a then .ls id 1 0 ((S.wt a).length+1) ((S.wt a).length+1)else IZ (L.w b) 1 (S.wt b).length))/\ks.Nodup/\a∈ks/\∀b,¬b∈ks->L.w b=none/\S.wt b=[])
 (hl:h.length<=h'.length) (hil:id<h'.length):HR n (zW L a id) (Gp S a j) h':=by
 have ne:∀ {i:Nat} {r:Ro},L.ro i=some r->r≠ .w a->i≠id:=by
  rintro i r hi hr rfl;rcases hid0 with h0|⟨h0,_⟩
  ·rw[hi]at h0;simp at h0
  ·rw[hi]at h0;cases h0;exact hr rfl
 have G:∀ {i:Nat} {r:Ro} {cs:List V},L.ro i=some r->r≠ .w a->h[i]? =some (.cells cs)->(∀v∈cs,v.drop (fun x=>x==id)=v)->h'[i]? =some (.cells cs) :=
  fun hi hr hc hv=>get _ _ hc (by rw[aZ,dQ hv]) (by rw[hi];simp) (ne hi hr) (fun e=>by have:=k.map;obtain⟨ks,h1,_⟩:=this;rw[<-e,hc]at h1;cases h1)
 have GI:∀ {i:Nat} {r:Ro} {c:Cl},L.ro i=some r->r≠ .w a->h[i]? =some (.cells (c.map vi))->h'[i]? =some (.cells (c.map vi)) :=
  fun hi hr hc=>G hi hr hc fun v hv=>by
   obtain⟨a,_,rfl⟩:=zrh.1 hv;exact dY
 have RO:∀ {i:Nat} {r:Ro},L.ro i=some r->r≠ .w a->(zW L a id).ro i=some r:=fun hi hr=>by show(if _=id then some (Ro.w a)else L.ro _)=_;rw[if_neg (ne hi hr)];exact hi
 have pc:∀q,q<S.nc->((fun x=>x==id) (L.c q))=false:=fun q hq=>by simpa using ne (k.cla q hq).2 (by simp)
 have pk:∀q,q<S.ln.length->((fun x=>x==id) (L.k q))=false:=fun q hq=>by simpa using ne (k.lnk q hq).2 (by simp)
 refine {var:=G k.rv (by simp) k.var ?_,map:= ?_,trl:=GI k.rt (by simp) k.trl,lvl:=G k.rl (by simp) k.lvl ?_,nxl:=G k.rx (by simp) k.nxl ?_,lnl:=G k.rg (by simp) k.lnl ?_,lnk:=fun i hi=>⟨GI (k.lnk i hi).2 (by simp) (k.lnk i hi).1,RO (k.lnk i hi).2 (by simp)⟩,cla:=fun q hq=>⟨GI (k.cla q hq).2 (by simp) (k.cla q hq).1,RO (k.cla q hq).2 (by simp)⟩,wat:= ?_,fre:=k.fre,fwt:= ?_,rs:=RO k.rs (by simp),rv:=RO k.rv (by simp),rm:=RO k.rm (by simp),rt:=RO k.rt (by simp),rl:=RO k.rl (by simp),rx:=RO k.rx (by simp),rg:=RO k.rg (by simp),rlt:= ?_,ext:=fun i o ho=> ?_}
 ·intro v hv;unfold dP at hv;obtain⟨i,hi,hv⟩:=List.mem_flatMap.1 hv;have hi:i<=n:=by have:=List.mem_range.1 hi;omega
  simp only[gV,zrj,zrp,or_false]at hv;rcases hv with rfl|rfl|rfl|rfl|rfl<;>try exact dY
  show V.drop _ (reV L S (S.v i).reason)=reV L S (S.v i).reason;cases hr:(S.v i).reason with
  |none=>simp only[reV,V.drop]
  |some j=>exact bK (pc j (k.fre i hi j hr))
 ·obtain⟨ks,h1,h2,h3,h4⟩:=hmap;refine⟨ks,?_,h2,fun b hb=> ?_⟩
  ·rw[show(zW L a id).m=L.m from rfl,h1]
   congr 2
   refine zsd fun b hb=> ?_;by_cases he:b=a
   ·subst he;rw[if_pos rfl];show _=IZ (if b=b then some id else L.w b) 1 (if b=b then S.wt b++[j]else S.wt b).length;rw[if_pos rfl,if_pos rfl,zqa];rfl
   ·rw[if_neg he];show _=IZ (if b=a then some id else L.w b) 1 (if b=a then S.wt a++[j]else S.wt b).length;rw[if_neg he,if_neg he]
  ·have he:b≠a:=fun e=>hb (e▸h3);refine⟨?_,?_⟩
   ·show(if b=a then some id else L.w b)=none;rw[if_neg he];exact(h4 b hb).1
   ·show(if b=a then S.wt a++[j]else S.wt b)=[];rw[if_neg he];exact(h4 b hb).2
 ·intro v hv;obtain⟨a,_,rfl⟩:=zrh.1 hv;exact dY
 ·intro v hv;obtain⟨t,_,hv⟩:=List.mem_flatMap.1 hv;simp only[zrj,zrp,or_false]at hv;rcases hv with rfl|rfl<;>exact dY
 ·intro v hv;obtain⟨i,hi,rfl⟩:=zrh.1 hv;exact bK (pk i (List.mem_range.1 hi))
 ·intro b;by_cases he:b=a
  ·subst he;unfold gX;rw[show(zW L b id).w b=some id from if_pos rfl];show h'[id]? =some (.cells ((if b=b then S.wt b++[j]else S.wt b).map (clV L S)))/\(if id=id then some (Ro.w b)else L.ro id)=some (.w b);rw[if_pos rfl,zql,if_pos rfl];exact⟨hid,rfl⟩
  ·have kw:=k.wat b;unfold gX at kw ⊢;rw[show(zW L a id).w b=L.w b from if_neg he];cases hw:L.w b with
   |none=>rw[hw]at kw;show(if b=a then S.wt a++[j]else S.wt b).map (clV L S)=[];rw[if_neg he];exact kw
   |some i =>
    rw[hw]at kw;have hr:(Ro.w b)≠ .w a:=by simpa using he
    show h'[i]? =some (.cells ((if b=a then S.wt a++[j]else S.wt b).map (clV L S)))/\_;rw[if_neg he];refine⟨G kw.2 hr kw.1 fun v hv=> ?_,RO kw.2 hr⟩;obtain⟨q,hq,rfl⟩:=zrh.1 hv;exact bK (pc q (k.fwt b q hq))
 ·intro b q hq;by_cases he:b=a
  ·subst he;have hq:q∈(if b=b then S.wt b++[j]else S.wt b):=hq;rw[if_pos rfl]at hq;rcases zrf.1 hq with hq|hq
   ·exact k.fwt b q hq
   ·rw[zrc.1 hq];exact hj
  ·have hq:q∈(if b=a then S.wt a++[j]else S.wt b):=hq;rw[if_neg he]at hq;exact k.fwt b q hq
 ·intro i r hi;have hi:(if i=id then some (Ro.w a)else L.ro i)=some r:=hi;split at hi
  ·rename_i e;rw[e];exact hil
  ·exact Nat.lt_of_lt_of_le (k.rlt i r hi) hl
 ·have ho:(if i=id then some (Ro.w a)else L.ro i)=some (.e o):=ho;split at ho
  ·cases ho
  ·rename_i hne;obtain⟨k1,k2⟩:=k.ext i o ho;have hd:o.drop (fun x=>x==id)=o:=k2 _ fun q r hq hpq=>by
    have e:q=id:=by simpa using hpq
    subst e;rcases hid0 with⟨h0,_⟩|⟨h0,_⟩
    ·rw[hq]at h0;cases h0
    ·rw[hq]at h0;cases h0;exact .inr (.inr (.inr (.inr ⟨a,rfl⟩)))
   exact⟨get i o k1 hd (by rw[ho];simp) hne (bT L ho k.rm (by simp)),k2.mono (oL (m:=0) hid0).ro⟩
variable{ks:List Int}
theorem wW{f:Int->V}{zero:V}(a:Int)(hz:¬a∈ks->f a=zero):qp (.int .i64) (vi a) (ks.map vi) (ks.map f) zero false=(True,f a):=by
 unfold qp;rw[Ew];cases hf:ks.findIdx? (·==a)with
 |none =>
  have:¬a∈ks:=fun hm=>by have:=List.findIdx?_eq_none_iff.1 hf a hm;simp at this
  simp only[cond_false,hz this]
 |some q =>
  obtain⟨h1,h2,_⟩:=List.findIdx?_eq_some_iff_getElem.1 hf;have h2:ks[q]=a:=by simpa using h2
  simp only[cond_false,zqg,zqo,zqk h1,zrw,Option.getD_some,h2]
theorem lZ(hn:ks.Nodup)(f:Int->V)(a:Int)(v:V) :
 ∃ks':List Int,Iw (.int .i64) (vi a) v (ks.map vi) (ks.map f)=some (ks'.map vi,ks'.map fun b=>if b=a then v else f b)/\ks'.Nodup/\a∈ks'/\∀b∈ks,b∈ks':=by
 unfold Iw;rw[Ew];cases hf:ks.findIdx? (·==a)with
 |none =>
  have hm:¬a∈ks:=fun hm=>by have:=List.findIdx?_eq_none_iff.1 hf a hm;simp at this
  refine⟨ks++[a],?_,?_,by simp,fun b hb=>by simp[hb]⟩
  ·simp only[zql,zrd,List.map_nil,if_true]
   congr 3
   exact zsd fun b hb=>(if_neg fun(e:b=a)=>hm (e▸hb)).symm
  ·rw[List.nodup_append];exact⟨hn,by simp,fun x hx y hy=>by rw[zrc.1 hy];exact fun e=>hm (e▸hx)⟩
 |some q =>
  obtain⟨h1,h2,_⟩:=List.findIdx?_eq_some_iff_getElem.1 hf;have h2:ks[q]=a:=by simpa using h2
  refine⟨ks,?_,hn,h2▸zqu h1,fun b hb=>hb⟩;show some ((ks.map vi).set q (vi a),(ks.map f).set q v)=_
  congr 2
  ·rw[<-List.map_set,<-h2,List.set_getElem_self h1]
  ·refine List.ext_getElem (by simp) fun i hi1 hi2=> ?_;rw[List.getElem_set];simp only[List.getElem_map];have hik:i<ks.length:=by simpa using hi2
   split
   ·rename_i e;subst e;rw[if_pos h2]
   ·rename_i e;rw[if_neg fun e2=>e ?_];exact(List.getElem_inj (h₀:=h1) (h₁:=hik) hn).1 (h2.trans e2.symm)
end
end Go.Proofs.YthdidjjecjhenaaGreat
