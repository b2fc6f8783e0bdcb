/- Lemmas for this claim, part F03: each holds under what it names. -/
import Derived.Test.YthdidjjecjhenaaGreatAF02
import Derived.Test.YthdidjjecjhenaaGreatAA7
set_option linter.all false
set_option maxRecDepth 20000
namespace Go.Proofs.YthdidjjecjhenaaGreat
open Go Go.Proofs Go.Abs
open List renaming length → aa, replicate → aD
open Bool renaming true → ab, false → am
open Option renaming some → ar, none → aL
open Decidable renaming decide → aM
open Go.IntKind renaming wrap → a5
open Go.Result renaming andThen → a8
open Go.Abs.O renaming cells → aw
open Go.Abs.V renaming drops → aE, dat → a6, dats → a7
section
variable{n:Nat}{bud:Int}{L:Lay}{S:St}{h:H}
theorem bW(L:Lay){i j:Nat}{r q:Ro}(hi:L.ro i=ar r)(hj:L.ro j=ar q)(hne:r≠q):i≠j:=λe=>hne (by
 rw[e,hj]at hi;exact(Option.some.inj hi).symm)
variable{cs:List V}{i:Nat}
theorem oP{v:V}(h:i<aa cs):List.take i cs++[v]++List.drop (i+1) cs=cs.set i v:=by rw[zqc,List.singleton_append];exact((List.set_eq_take_append_cons_drop).trans (if_pos h)).symm
variable{k:Nat}
theorem VJ(hk:k<=n)(cs:List V)(v:V)(h:aa cs=5*(n+1)):List.take (k*5) cs++[v]++List.drop (k*5+1) cs=cs.set (k*5) v:=oP (by omega)
theorem XK(hk:k<=n)(cs:List V)(v:V)(h:aa cs=5*(n+1)):List.take (k*5+1) cs++[v]++List.drop (k*5+2) cs=cs.set (k*5+1) v:=oP (by omega)
theorem VK(hk:k<=n)(cs:List V)(v:V)(h:aa cs=5*(n+1)):List.take (k*5+2) cs++[v]++List.drop (k*5+3) cs=cs.set (k*5+2) v:=oP (by omega)
theorem YH(hk:k<=n)(cs:List V)(v:V)(h:aa cs=5*(n+1)):List.take (k*5+3) cs++[v]++List.drop (k*5+4) cs=cs.set (k*5+3) v:=oP (by omega)
theorem YI(hk:k<=n)(cs:List V)(v:V)(h:aa cs=5*(n+1)):List.take (k*5+4) cs++[v]++List.drop (k*5+5) cs=cs.set (k*5+4) v:=oP (by omega)
def WR(f:Nat->List V)(n:Nat):List V:=(List.range (n+1)).flatMap f
theorem jy:eH L S n=WR (λi=>iE L S (S.v i)) n:=rfl
variable{f:Nat->List V}
theorem mr(hf:∀i,aa (f i)=5){k j:Nat}{v:V}(hk:k<=n)(hj:j<5):(WR f n).set (k*5+j) v=WR (upd f k ((f k).set j v)) n:=by
 have hlen:∀m,aa ((List.range m).flatMap f)=m*5:=by
  intro m
  induction m with
  |zero=>simp
  |succ m ih=>rw[List.range_succ,List.flatMap_append,zqa,ih];simp[hf,Nat.succ_mul]
 have key:∀m,k<m->((List.range m).flatMap f).set (k*5+j) v=(List.range m).flatMap (upd f k ((f k).set j v)):=by
  intro m
  induction m with
  |zero=>intro h;omega
  |succ m ih =>
   intro h;rw[List.range_succ,List.flatMap_append,List.flatMap_append];by_cases hkm:k<m
   ·rw[List.set_append_left _ _ (by rw[hlen];omega),ih hkm];simp only[List.flatMap_cons,List.flatMap_nil,zqp,bM (show m≠k by omega)]
   ·have:k=m:=by omega
    subst this;rw[List.set_append_right _ _ (by rw[hlen];omega),hlen,show k*5+j-k*5=j by omega];have e:(List.range k).flatMap f=(List.range k).flatMap (upd f k ((f k).set j v)):=by
     rw[List.flatMap_def,List.flatMap_def]
     congr 1
     refine zsd λx hx=> ?_;rw[bM (by have:=List.mem_range.1 hx;omega)]
    rw[<-e];simp only[List.flatMap_cons,List.flatMap_nil,zqp,bD]
 exact key (n+1) (by omega)
theorem nO{g:Nat->List V}(h:∀i,i<=n->f i=g i):WR f n=WR g n:=by
 unfold WR;rw[List.flatMap_def,List.flatMap_def]
 congr 1
 exact zsd λx hx=>h x (by have:=List.mem_range.1 hx;omega)
theorem y9(hf:∀i,aa (f i)=5){k:Nat}{l:List V}(hl:aa l=5):∀i,aa (upd f k l i)=5:=by
 intro i;unfold upd;split
 ·exact hl
 ·exact hf i
theorem Fe(L:Lay)(S:St)(r:Option Nat):reV L S r= .nils\/∃id len,reV L S r= .ls id 1 0 len len:=by
 cases r with
 |none=>exact .inl rfl
 |some j=>exact .inr ⟨_,_,rfl⟩
theorem bu{j:Nat}{o:O}{r q:Ro}(hi:L.ro i=ar r)(hj:L.ro j=ar q)(hne:r≠q):(h.set i o)[j]? =h[j]? :=zqn (bW L hi hj hne)
theorem HR.setS(k:HR n L S h)(o:O):HR n L S (h.set L.s o) where
 var:=by rw[bu k.rs k.rv (by simp)];exact k.var
 map:=by
  obtain⟨ks,h1,h2⟩:=k.map;exact⟨ks,by rw[bu k.rs k.rm (by simp)];exact h1,h2⟩
 trl:=by rw[bu k.rs k.rt (by simp)];exact k.trl
 lvl:=by rw[bu k.rs k.rl (by simp)];exact k.lvl
 nxl:=by rw[bu k.rs k.rx (by simp)];exact k.nxl
 lnl:=by rw[bu k.rs k.rg (by simp)];exact k.lnl
 lnk i hi:=by
  obtain⟨h1,h2⟩:=k.lnk i hi;exact⟨by rw[bu k.rs h2 (by simp)];exact h1,h2⟩
 cla j hj:=by
  obtain⟨h1,h2⟩:=k.cla j hj;exact⟨by rw[bu k.rs h2 (by simp)];exact h1,h2⟩
 wat a:=by
  have:=k.wat a;unfold iG at this ⊢;cases hw:L.w a with
  |none=>rw[hw]at this;exact this
  |some id=>rw[hw]at this;exact⟨by rw[bu k.rs this.2 (by simp)];exact this.1,this.2⟩
 fre:=k.fre
 fwt:=k.fwt
 rs:=k.rs
 rv:=k.rv
 rm:=k.rm
 rt:=k.rt
 rl:=k.rl
 rx:=k.rx
 rg:=k.rg
 rlt i r hr:=by rw[zrn];exact k.rlt i r hr
 ext i o ho:=⟨by rw[bu k.rs ho (by simp)];exact(k.ext i o ho).1,(k.ext i o ho).2⟩
theorem HR.setV (k : HR n L S h) (v' : Nat -> VS) (hv : ∀ i,i <= n -> ∀ j,(v' i).reason = ar j -> j < S.nc) : HR n L { S with v := v' } (h.set L.v (aw (eH L { S with v := v' } n))) where
 var:=zqt (k.rlt _ _ k.rv)
 map:=by
  obtain⟨ks,h1,h2⟩:=k.map;exact⟨ks,by rw[bu k.rv k.rm (by simp)];exact h1,h2⟩
 trl:=by rw[bu k.rv k.rt (by simp)];exact k.trl
 lvl:=by rw[bu k.rv k.rl (by simp)];exact k.lvl
 nxl:=by rw[bu k.rv k.rx (by simp)];exact k.nxl
 lnl:=by rw[bu k.rv k.rg (by simp)];exact k.lnl
 lnk i hi:=by
  obtain⟨h1,h2⟩:=k.lnk i hi;exact⟨by rw[bu k.rv h2 (by simp)];exact h1,h2⟩
 cla j hj:=by
  obtain⟨h1,h2⟩:=k.cla j hj;exact⟨by rw[bu k.rv h2 (by simp)];exact h1,h2⟩
 wat a:=by
  have:=k.wat a;unfold iG at this ⊢;cases hw:L.w a with
  |none=>rw[hw]at this;exact this
  |some id=>rw[hw]at this;exact⟨by rw[bu k.rv this.2 (by simp)];exact this.1,this.2⟩
 fre:=hv
 fwt:=k.fwt
 rs:=k.rs
 rv:=k.rv
 rm:=k.rm
 rt:=k.rt
 rl:=k.rl
 rx:=k.rx
 rg:=k.rg
 rlt i r hr:=by rw[zrn];exact k.rlt i r hr
 ext i o ho:=⟨by rw[bu k.rv ho (by simp)];exact(k.ext i o ho).1,(k.ext i o ho).2⟩
theorem HR.setRow(k:HR n L S h){id:Nat}{cs:List V}{r:Ro}(hid:L.ro id=ar r)(tr:Cl)(lv:List Nat)(nx:List (Int×Int))
 (hr:(r= .t/\cs=tr.map vi/\lv=S.lv/\nx=S.nx/\id=L.t)\/(r= .l/\cs=iH lv/\tr=S.tr/\nx=S.nx/\id=L.l)\/(r= .x/\cs=bG nx/\tr=S.tr/\lv=S.lv/\id=L.x)) :
 HR n L {S with tr:=tr,lv:=lv,nx:=nx} (h.set id (aw cs)):=by
 have hlt:=k.rlt _ _ hid;have oth:∀ {j:Nat} {q:Ro},L.ro j=ar q->q≠ .t->q≠ .l->q≠ .x->(h.set id (aw cs))[j]? =h[j]? :=by
  intro j q hj h1 h2 h3;rcases hr with⟨rfl,_⟩|⟨rfl,_⟩|⟨rfl,_⟩
  ·exact bu hid hj (Ne.symm h1)
  ·exact bu hid hj (Ne.symm h2)
  ·exact bu hid hj (Ne.symm h3)
 refine {var:= ?_,map:= ?_,trl:= ?_,lvl:= ?_,nxl:= ?_,lnl:= ?_,lnk:= ?_,cla:= ?_,wat:= ?_,fre:=k.fre,fwt:=k.fwt,rs:=k.rs,rv:=k.rv,rm:=k.rm,rt:=k.rt,rl:=k.rl,rx:=k.rx,rg:=k.rg,rlt:=λi q hq=>by rw[zrn];exact k.rlt i q hq,ext:=λi o ho=>⟨by rw[oth ho (by simp) (by simp) (by simp)];exact(k.ext i o ho).1,(k.ext i o ho).2⟩}
 ·rw[oth k.rv (by simp) (by simp) (by simp)];exact k.var
 ·obtain⟨ks,h1,h2⟩:=k.map;exact⟨ks,by rw[oth k.rm (by simp) (by simp) (by simp)];exact h1,h2⟩
 ·show(h.set id (aw cs))[L.t]? =ar (aw (tr.map vi));rcases hr with⟨rfl,h1,h2,h3,rfl⟩|⟨rfl,h1,h2,h3,rfl⟩|⟨rfl,h1,h2,h3,rfl⟩
  ·rw[zqt hlt,h1]
  ·rw[bu k.rl k.rt (by simp),h2];exact k.trl
  ·rw[bu k.rx k.rt (by simp),h2];exact k.trl
 ·show(h.set id (aw cs))[L.l]? =ar (aw (iH lv));rcases hr with⟨rfl,h1,h2,h3,rfl⟩|⟨rfl,h1,h2,h3,rfl⟩|⟨rfl,h1,h2,h3,rfl⟩
  ·rw[bu k.rt k.rl (by simp),h2];exact k.lvl
  ·rw[zqt hlt,h1]
  ·rw[bu k.rx k.rl (by simp),h3];exact k.lvl
 ·show(h.set id (aw cs))[L.x]? =ar (aw (bG nx));rcases hr with⟨rfl,h1,h2,h3,rfl⟩|⟨rfl,h1,h2,h3,rfl⟩|⟨rfl,h1,h2,h3,rfl⟩
  ·rw[bu k.rt k.rx (by simp),h3];exact k.nxl
  ·rw[bu k.rl k.rx (by simp),h3];exact k.nxl
  ·rw[zqt hlt,h1]
 ·rw[oth k.rg (by simp) (by simp) (by simp)];exact k.lnl
 ·intro i hi;obtain⟨h1,h2⟩:=k.lnk i hi;exact⟨by rw[oth h2 (by simp) (by simp) (by simp)];exact h1,h2⟩
 ·intro j hj;obtain⟨h1,h2⟩:=k.cla j hj;exact⟨by rw[oth h2 (by simp) (by simp) (by simp)];exact h1,h2⟩
 ·intro a;have:=k.wat a;unfold iG at this ⊢;cases hw:L.w a with
  |none=>rw[hw]at this;exact this
  |some id2=>rw[hw]at this;exact⟨by rw[oth this.2 (by simp) (by simp) (by simp)];exact this.1,this.2⟩
theorem eP{p:Nat->Bool}:∀ {vs:List V},(∀v∈vs,v.drop p=v)->aE p vs=vs
 |[],_=>by rw[aE]
 |v::vs,h=>by rw[aE,h v (by simp),eP λu hu=>h u (by simp[hu])]
variable{p:Nat->Bool}
theorem bV{o l c:Nat}(h:p i=am):V.drop p (.ls i k o l c)= .ls i k o l c:=by rw[V.drop,h];rfl
variable{a:Int}
theorem fA:V.drop p (vi a)=vi a:=by simp only[V.drop]
theorem HR.drop(k:HR n L S h){p:Nat->Bool}(hp:∀i r,L.ro i=ar r->p i=ab->r= .t\/r= .l\/r= .x\/r= .g):HR n L S (h.map (O.drop p)):=by
 have hcl:=k.fre;have hwt:=k.fwt;have pc:∀j,j<S.nc->p (L.c j)=am:=λj hj=>by
  cases hpp:p (L.c j)with
  |false=>rfl
  |true=>have:=hp _ _ (k.cla j hj).2 hpp;simp at this
 have pk:∀i,i<aa S.ln->p (L.k i)=am:=λi hi=>by
  cases hpp:p (L.k i)with
  |false=>rfl
  |true=>have:=hp _ _ (k.lnk i hi).2 hpp;simp at this
 have pw:∀a id,L.w a=ar id->p id=am:=λa id hw=>by
  have:=k.wat a;unfold iG at this;rw[hw]at this;cases hpp:p id with
  |false=>rfl
  |true=>have:=hp _ _ this.2 hpp;simp at this
 have get:∀ {j:Nat} {cs:List V},h[j]? =ar (aw cs)->(∀v∈cs,v.drop p=v)->(h.map (O.drop p))[j]? =ar (aw cs):=by intro j cs hj hv;rw[zqo,hj,zrw,aZ,eP hv]
 have gi:∀ {j:Nat} {c:Cl},h[j]? =ar (aw (c.map vi))->(h.map (O.drop p))[j]? =ar (aw (c.map vi)):=λhj=>get hj λv hv=>by obtain⟨a,_,rfl⟩:=zrh.1 hv;exact fA
 refine {var:= ?_,map:= ?_,trl:=gi k.trl,lvl:= ?_,nxl:= ?_,lnl:= ?_,lnk:=λi hi=>⟨gi (k.lnk i hi).1,(k.lnk i hi).2⟩,cla:=λj hj=>⟨gi (k.cla j hj).1,(k.cla j hj).2⟩,wat:= ?_,fre:=k.fre,fwt:=k.fwt,rs:=k.rs,rv:=k.rv,rm:=k.rm,rt:=k.rt,rl:=k.rl,rx:=k.rx,rg:=k.rg,rlt:=λi q hq=>by rw[zra];exact k.rlt i q hq,ext:=λi o ho=>⟨by rw[zqo,(k.ext i o ho).1,zrw,(k.ext i o ho).2 p λq r hq hpq=>(hp q r hq hpq).imp id (.imp id (.imp id .inl))],(k.ext i o ho).2⟩}
 ·refine get k.var λv hv=> ?_;unfold eH at hv;obtain⟨i,hi,hv⟩:=List.mem_flatMap.1 hv;have hi:i<=n:=by have:=List.mem_range.1 hi;omega
  simp only[iE,zrj,zrp,or_false]at hv;rcases hv with rfl|rfl|rfl|rfl|rfl<;>try exact fA
  cases hr:(S.v i).reason with
  |none=>simp only[reV,V.drop]
  |some j=>exact bV (pc j (hcl i hi j hr))
 ·obtain⟨ks,h1,h2,h3⟩:=k.map;refine⟨ks,?_,h2,h3⟩;rw[zqo,h1,zrw,kU,eP (λv hv=> ?_),eP (λv hv=> ?_)]
  ·obtain⟨a,_,rfl⟩:=zrh.1 hv;cases hw:L.w a with
   |none=>simp only[Jp,V.drop]
   |some id=>exact bV (pw a id hw)
  ·obtain⟨a,_,rfl⟩:=zrh.1 hv;exact fA
 ·refine get k.lvl λv hv=> ?_;obtain⟨a,_,rfl⟩:=zrh.1 hv;exact fA
 ·refine get k.nxl λv hv=> ?_;obtain⟨t,_,hv⟩:=List.mem_flatMap.1 hv;simp only[zrj,zrp,or_false]at hv;rcases hv with rfl|rfl<;>exact fA
 ·refine get k.lnl λv hv=> ?_;obtain⟨i,hi,rfl⟩:=zrh.1 hv;exact bV (pk i (List.mem_range.1 hi))
 ·intro a;have:=k.wat a;unfold iG at this ⊢;cases hw:L.w a with
  |none=>rw[hw]at this;exact this
  |some id=>rw[hw]at this;refine⟨get this.1 λv hv=> ?_,this.2⟩;obtain⟨j,hj,rfl⟩:=zrh.1 hv;exact bV (pc j (hwt a j hj))
theorem L6{r:Option Nat}(h1:a.natAbs<=n)(neg:Bool)(hneg:neg=aM (a<0)) :
 (bif neg then ((((eH L S n).set (a.natAbs * 5) (vi 1)).set (a.natAbs * 5 + 1) (vi (aa S.lv))).set (a.natAbs * 5 + 2) (reV L S r)).set (a.natAbs * 5) (vi (-1))
  else(((eH L S n).set (a.natAbs*5) (vi 1)).set (a.natAbs*5+1) (vi (aa S.lv))).set (a.natAbs*5+2) (reV L S r))=eH L {S with v:=(kR S a r).v} n:=by
 subst hneg;have hf:∀i,aa (iE L S (S.v i))=5:=λ_=>rfl;rw[jy,jy];have e0:=mr (n:=n) (k:=a.natAbs) (j:=0) (v:=vi 1) hf h1 (by omega);rw[Nat.add_zero]at e0;have hf1:=y9 hf (k:=a.natAbs) (l:=(iE L S (S.v a.natAbs)).set 0 (vi 1)) rfl;have e1:=mr (n:=n) (k:=a.natAbs) (j:=1) (v:=vi (aa S.lv)) hf1 h1 (by omega);have hf2:=y9 hf1 (k:=a.natAbs) (l:=(upd (λi=>iE L S (S.v i)) a.natAbs ((iE L S (S.v a.natAbs)).set 0 (vi 1)) a.natAbs).set 1 (vi (aa S.lv))) (by rw[bD];rfl);have e2:=mr (n:=n) (k:=a.natAbs) (j:=2) (v:=reV L S r) hf2 h1 (by omega);rw[e0,e1,e2];have hf3:=y9 hf2 (k:=a.natAbs) (l:=(upd (upd (λi=>iE L S (S.v i)) a.natAbs ((iE L S (S.v a.natAbs)).set 0 (vi 1))) a.natAbs ((upd (λi=>iE L S (S.v i)) a.natAbs ((iE L S (S.v a.natAbs)).set 0 (vi 1)) a.natAbs).set 1 (vi (aa S.lv))) a.natAbs).set 2 (reV L S r)) (by simp only[bD];rfl);have e3:=mr (n:=n) (k:=a.natAbs) (j:=0) (v:=vi (-1)) hf3 h1 (by omega);rw[Nat.add_zero]at e3;rw[e3];by_cases ha:a<0
 ·simp only[ha,decide_true,cond_true];refine nO λi hi=> ?_;by_cases he:i=a.natAbs
  ·subst he;simp only[bD];show _=iE L S ((kR S a r).v a.natAbs);rw[oM,if_pos ha];rfl
  ·simp only[bM he];show _=iE L S ((kR S a r).v i);rw[wO he]
 ·simp only[ha,decide_false,cond_false];refine nO λi hi=> ?_;by_cases he:i=a.natAbs
  ·subst he;simp only[bD];show _=iE L S ((kR S a r).v a.natAbs);rw[oM,if_neg ha];rfl
  ·simp only[bM he];show _=iE L S ((kR S a r).v i);rw[wO he]
theorem Tf(L:Lay){id:Nat}{r0:Ro}(hid:L.ro id=ar r0)(h0:r0= .t\/r0= .l\/r0= .x\/r0= .g):∀i r,L.ro i=ar r->(λx=>x==id) i=ab->r= .t\/r= .l\/r= .x\/r= .g:=by
 intro i r hi hp;have:i=id:=by simpa using hp
 subst this;rw[hid]at hi;cases hi;exact h0
theorem HS.letS(hs:HS n bud L S h){a:Int}{r:Option Nat}(hr:∀j,r=ar j->j<S.nc)(h1:a.natAbs<=n) :
 HS n bud L (kR S a r) (((List.map (O.drop λx => x == L.t) (h.set L.v (aw (eH L { S with v := (kR S a r).v } n)))).set L.t (aw (List.map vi S.tr ++ [vi a]))).set L.s
  (aw [.ls L.v 5 0 (n+1) (n+1),.lm L.m,.ls L.t 1 0 (aa S.tr+1) (aa S.tr+1),vi S.hd,.ls L.l 1 0 (aa S.lv) (aa S.lv),.ls L.x 2 0 (aa S.nx) (aa S.nx),.ls L.g 1 0 (aa S.ln) (aa S.ln),vi bud])):=by
 have k1:=hs.toHR.setV (Go.Proofs.YthdidjjecjhenaaGreat.kR S a r).v (λi hi j hj=>by
  by_cases he:i=a.natAbs
  ·subst he;rw[oM]at hj;exact hr j hj
  ·rw[wO he]at hj;exact hs.fre i hi j hj)
 have k2:=k1.drop (p:=λx=>x==L.t) (Tf L hs.rt (.inl rfl));have k3:=k2.setRow (cs:=List.map vi S.tr++[vi a]) hs.rt (S.tr++[a]) S.lv S.nx (.inl ⟨rfl,by simp,rfl,rfl,rfl⟩);have k4:=k3.setS (aw [.ls L.v 5 0 (n+1) (n+1),.lm L.m,.ls L.t 1 0 (aa S.tr+1) (aa S.tr+1),vi S.hd,.ls L.l 1 0 (aa S.lv) (aa S.lv),.ls L.x 2 0 (aa S.nx) (aa S.nx),.ls L.g 1 0 (aa S.ln) (aa S.ln),vi bud]);refine⟨k4,?_⟩;rw[zqt (by simpa using hs.rlt _ _ hs.rs)];have e:(Go.Proofs.YthdidjjecjhenaaGreat.kR S a r).tr.length=aa S.tr+1:=by show aa (S.tr++[a])=_;simp
 unfold ay;rw[e];rfl
theorem kW(hs:HS n bud L S h)(hn:n<=20000){a:Int}(h1:a.natAbs<=n)(htr:aa S.tr<=20000)(r:Option Nat)(hr:∀j,r=ar j->j<S.nc){R:AEnd->H->(Nat->Bool)->Prop}
 (hk:∀h' p,HS n bud L (kR S a r) h'->(∀i,p i=ab->i=L.t)->aa h<=aa h'->R (.ret (.tup [])) h' p):ag TE 98 [.lp L.s 0,vi a,reV L S r] h R:=by
 have hM:=mLx;have hvar:=hs.var;have hsol:=hs.sol;have htrl:=hs.trl;have hvs:L.v≠L.s:=bW L hs.rv hs.rs (by simp);have hvt:L.v≠L.t:=bW L hs.rv hs.rt (by simp);have hst:L.s≠L.t:=bW L hs.rs hs.rt (by simp);have hts:=hst.symm;have hsv:L.s≠L.v:=hvs.symm;have hlv:=hs.rlt _ _ hs.rv;have hls:=hs.rlt _ _ hs.rs;have hlt:=hs.rlt _ _ hs.rt;have b1:(L.s==L.t)=am:=by simp[hst]
 have b2:(L.v==L.t)=am:=by simp[hvt]
 have b3:(L.m==L.t)=am:=by simp[bW L hs.rm hs.rt (by simp)]
 have b4:(L.l==L.t)=am:=by simp[bW L hs.rl hs.rt (by simp)]
 have b5:(L.x==L.t)=am:=by simp[bW L hs.rx hs.rt (by simp)]
 have b6:(L.g==L.t)=am:=by simp[bW L hs.rg hs.rt (by simp)]
 have hdv:aE (λx=>x==L.t) (S.tr.map vi)=S.tr.map vi:=aN _;have dZ:=L6 (L:=L) (S:=S) (r:=r) h1 (aM (a<0)) rfl;have hS:=hs.letS (r:=r) hr h1;rcases Fe L S r with e|⟨id,len,e⟩
 all_goals
  rw[e]at dZ ⊢;refine ah Tryz.func98 rfl (by simp[nts]) (vm ?_);simp only[wq.1,seval,Tryz.results98];refine oO hs hn h1 ?_;simp only[wq.1,seval,-Int.reduceNatCast,-Int.reduceNatCast',aG,Tryz.results98,hsol,ay,hvar,bY,zqt,zrn,hlv,VJ h1,XK h1,VK h1];refine⟨by omega,by omega,by omega,vcB.mk (λhc=> ?_) (λhc=> ?_)⟩
  all_goals
   simp only[wq.1,↓reduceIte,Nat.reduceEqDiff,Nat.reduceLT,Nat.reduceLeDiff,Nat.reduceAdd,Nat.reduceSub,Int.reduceToNat,Nat.reduceDiv,Int.reduceLT,Int.reduceLE,Int.reduceNeg,Int.reduceBEq,Int.reduceBNe,Int.reduceAdd,Int.reduceSub,Nat.reduceBEq,reduceCtorEq,Nat.reduceMul,aG,Tryz.results98,hsol,ay,hvar,bY,zqt,zrn,hlv,VJ h1,XK h1,VK h1,zqn,hvs,hvt,hst,hts,hsv,ne_eq,not_false_eq_true,htrl,List.set_set,b1,b2,b3,b4,b5,b6,hdv,zqo,zra,hls,hlt];rw[hc]at dZ;simp only[cond_true,cond_false]at dZ;rw[dZ]
   first
    |exact⟨by omega,⟨rfl,by decide⟩,⟨by omega,by omega,by omega⟩,hk _ _ hS (λi hi=>by simpa using hi) (by simp)⟩
    |exact⟨⟨rfl,by decide⟩,⟨by omega,by omega,by omega⟩,hk _ _ hS (λi hi=>by simpa using hi) (by simp)⟩
end
section
variable{n:Nat}{bud:Int}{L:Lay}{S:St}{h:H}
theorem HS.bump(hs:HS n bud L S h){k:Nat}(hk:k<=n){s:Int}:HS n bud L (vJ S k s) (h.set L.v (aw ((eH L S n).set (k*5+4) (vi s)))):=by
 have e:(eH L S n).set (k*5+4) (vi s)=eH L {S with v:=(vJ S k s).v} n:=by
  rw[jy,jy,mr (λ_=>rfl) hk (by omega)];refine nO λi hi=> ?_;by_cases he:i=k
  ·subst he;rw[bD];show _=iE L S (upd S.v i _ i);rw[bD];rfl
  ·rw[bM he];show _=iE L S (upd S.v k _ i);rw[bM he]
 rw[e];have k1:=hs.toHR.setV (vJ S k s).v (λi hi j hj=>hs.fre i hi j (((oN i).2.2.1).symm.trans hj));refine⟨k1,?_⟩;rw[bu hs.rv hs.rs (by simp)];exact hs.sol
def sw{α:Type}(l:List α)(i k:Nat)(d:α):List α:=(l.set i (l.getD k d)).set k (l.getD i d)
theorem Dv{α:Type}:∀ {l:List α} {i:Nat} (h:i<aa l) (x:α),(x::l).Perm (l[i]::l.set i x)
 |[],i,h,_=>by simp at h
 |a::l,0,h,x=>List.Perm.swap _ _ _
 |a::l,i+1,h,x=>by
  have hh:i<aa l:=by simpa using h
  have:=Dv hh x;show(x::a::l).Perm (l[i]::a::l.set i x);exact(List.Perm.swap _ _ _).trans ((List.Perm.cons a this).trans (List.Perm.swap _ _ _))
variable{i k:Nat}
theorem vK{α:Type}{l:List α}{d:α}(hi:i<aa l)(hk:k<aa l):(sw l i k d).Perm l:=by
 unfold sw;rw[show l.getD k d=l[k] by simp[zqg,hk],show l.getD i d=l[i] by simp[zqg,hi]];by_cases he:i=k
 ·subst he;rw[List.set_set];simp
 ·have h1:=Dv hi l[k];have h2:=Dv (l:=l.set i l[k]) (i:=k) (by simpa using hk) l[i];have e:(l.set i l[k])[k]'(by simpa using hk)=l[k]:=by rw[List.getElem_set_ne he]
  rw[e]at h2;exact((List.perm_cons _).1 (h1.trans h2)).symm
variable{x len:Nat}
theorem zf(R:AEnd->H->(Nat->Bool)->Prop)(hr:R (.ret (vi len)) h (λ_=>am)):ag TE 122 [.ls x 2 0 len len] h R:=by refine ah Tryz.func122 rfl (by simp[nts]) (vm ?_);simp only[wq.1,seval,Tryz.results122];exact hr
theorem gZ:∀ {nx:List (Int×Int)},aa (bG nx)=2*aa nx
 |[]=>rfl
 |t::nx=>by have:=gZ (nx:=nx);simp only[bG]at this;simp only[bG,List.flatMap_cons,zqa,zrt,List.length_nil];omega
theorem nx0:∀ {nx:List (Int×Int)} {i:Nat} (h:i<aa nx),(bG nx).getD (i*2) .any=vi nx[i].1
 |[],i,h=>by simp at h
 |t::nx,0,h=>rfl
 |t::nx,i+1,h=>by have:=nx0 (nx:=nx) (i:=i) (by simpa using h);rw[show(i+1)*2=i*2+1+1 by omega];simpa [bG]using this
theorem nx1:∀ {nx:List (Int×Int)} {i:Nat} (h:i<aa nx),(bG nx).getD (i*2+1) .any=vi nx[i].2
 |[],i,h=>by simp at h
 |t::nx,0,h=>rfl
 |t::nx,i+1,h=>by have:=nx1 (nx:=nx) (i:=i) (by simpa using h);rw[show(i+1)*2+1=i*2+1+1+1 by omega];simpa [bG]using this
variable{nx:List (Int×Int)}
theorem nP(hx:h[x]? =ar (aw (bG nx))){i k:Nat}(hi:i<aa nx)(hk:k<aa nx){R:AEnd->H->(Nat->Bool)->Prop}(hr:∀b,R (.ret (.bool b)) h (λ_=>am)) :
 ag TE 151 [.ls x 2 0 (aa nx) (aa nx),vi i,vi k] h R:=by
 refine ah Tryz.func151 rfl (by simp[nts]) (vm ?_);simp only[wq.1,seval,Tryz.results151,hx,gZ,nx1 hi,nx1 hk];refine⟨by decide +kernel,⟨by omega,by omega⟩,by omega,⟨by omega,by omega⟩,by omega,vcB.mk (λhc=> ?_) (λhc=> ?_)⟩
 all_goals
  simp only[wq.1,seval,hx,gZ,nx0 hi,nx1 hi,nx0 hk,nx1 hk];exact⟨by decide +kernel,⟨by omega,by omega⟩,by omega,⟨by omega,by omega⟩,by omega,hr _⟩
end
variable{h:H}{s off:Nat}
theorem Ti : Yw TE h 140 (.lp s off) "Push" 154 (.lp s off) := by intro ok pl w x hs hx;have hx' := hx;simp only [VRel] at hx;obtain ⟨b, hb, rfl⟩ := hx;exact ⟨_, by kernel_rfl, hx'⟩
theorem VL : Yw TE h 140 (.lp s off) "Pop" 153 (.lp s off) := by intro ok pl w x hs hx;have hx' := hx;simp only [VRel] at hx;obtain ⟨b, hb, rfl⟩ := hx;exact ⟨_, by kernel_rfl, hx'⟩
theorem Tj (b off : Nat) (w : World) : ∀ (name : String) (g : FuncId), (name = "Len" ∧ g = 122) ∨ (name = "Less" ∧ g = 151) ∨ (name = "Swap" ∧ g = 152) →
 (Go.method (TE.P.types.size+Made.depth) 140 (.pointer (ar ⟨b,off,aL⟩)) name).run TE.P w=(do let v <-Instr.loadAt 130 (.pointer (ar ⟨b,off,aL⟩));pure (g,v):Sem (FuncId×Value)).run TE.P w:=by
 rintro name g (⟨rfl,rfl⟩|⟨rfl,rfl⟩|⟨rfl,rfl⟩)<;>kernel_rfl
variable{x len:Nat}{cs:List V}
theorem ja(hc:h[s]? =ar (aw cs))(ho:cs[off]? =ar (.ls x 2 0 len len)){name:String}{g:FuncId}
 (hn : (name = "Len" ∧ g = 122) ∨ (name = "Less" ∧ g = 151) ∨ (name = "Swap" ∧ g = 152)) : Yw TE h 140 (.lp s off) name g (.ls x 2 0 len len) := by
 intro ok pl w v hs hx;have hl:=yf (P:=TE.P) hs (t:=130) hx;have hp:yc TE.P h 130 (.lp s off)=((off+1<=aa cs/\(ab=ab)),.ls x 2 0 len len):=by
  have hh:dZ h s=cs:=by simp only[dZ,hc]
  have hg:cs.getD off .any= .ls x 2 0 len len:=by rw[zqg,ho];rfl
  simp only[yc,TEP,tis,hh,V.sub,TI.agg,hg,cond_false,implies_true]
 rw[hp]at hl;obtain⟨y,h1,h2⟩:=hl ⟨(zqe ho).1,rfl⟩;simp only[VRel]at hx;obtain⟨b,hb,rfl⟩:=hx;refine⟨y,?_,h2⟩;rw[Tj b off w name g hn];simp only[Sem.run_bind];have h1':(Instr.loadAt 130 (.pointer (ar ⟨b,off,aL⟩))).run TE.P w= .ok y w:=h1;rw[h1'];rfl
section
variable{n:Nat}{bud:Int}{L:Lay}{S:St}{h:H}
theorem Jq:∀ {nx:List (Int×Int)} {i:Nat} (h:i<aa nx),List.take 2 (List.drop (i*2) (bG nx))=[vi nx[i].1,vi nx[i].2]
 |[],i,h=>by simp at h
 |t::nx,0,h=>rfl
 |t::nx,i+1,h=>by have:=Jq (nx:=nx) (i:=i) (by simpa using h);rw[show(i+1)*2=i*2+1+1 by omega];simpa [bG]using this
theorem Pm:∀ {nx:List (Int×Int)} {i:Nat} (h:i<aa nx) (t:Int×Int),List.take (i*2) (bG nx)++[vi t.1,vi t.2]++List.drop (i*2+2) (bG nx)=bG (nx.set i t)
 |[],i,h,t=>by simp at h
 |u::nx,0,h,t=>by simp[bG]
 |u::nx,i+1,h,t=>by have:=Pm (nx:=nx) (i:=i) (by simpa using h) t;rw[show(i+1)*2=i*2+1+1 by omega];simp only[bG,List.flatMap_cons,List.cons_append,List.nil_append,List.take_succ_cons,List.drop_succ_cons,List.set_cons_succ]at this ⊢;rw[<-this]
def UJ:Plan:=tkZ [0,1,2,3,4,5,6,8,9,10]<| .alt 7 (.one 11<| .take 12<| .one 13<| .take 14<| .one 15<| .fin) (.one 11 (.one 7<| .take 12<| .one 13<| .take 14<| .one 15<| .fin))
variable{nx:List (Int×Int)}
theorem nR(hx:h[x]? =ar (aw (bG nx))){i k:Nat}(hi:i<aa nx)(hk:k<aa nx){R:AEnd->H->(Nat->Bool)->Prop}
 (hr:R (.ret (.tup [])) (h.set x (aw (bG (sw nx i k (0,0))))) (λ_=>am)):ag TE 152 [.ls x 2 0 (aa nx) (aa nx),vi i,vi k] h R:=by
 have hxl:x<aa h:=(zqe hx).1;have e1:nx.getD k (0,0)=nx[k]:=by simp[zqg,hk]
 have e2:nx.getD i (0,0)=nx[i]:=by simp[zqg,hi]
 have n1:=Pm hi nx[k];have n2:=Pm (nx:=nx.set i nx[k]) (i:=k) (by simpa using hk) nx[i];have l1:=gZ (nx:=nx);have l2:=gZ (nx:=nx.set i nx[k]);rw[zrn]at l2;refine ah Tryz.func152 rfl (by simp[nts]) (vm ?_);simp only[wq.1,Tryz.results152];refine bK dV UJ (λf' h'=>f'.d=[]/\(∀j,f'.k j=am)/\h'=h.set x (aw (bG (sw nx i k (0,0))))) (by decide +kernel) (by decide +kernel) ?_ ?_
 ·simp only[wq.1,seval,UJ,hx,Jq hi,Jq hk,n1,n2,l1,l2,zqt,hxl,List.set_set];have hsw:(nx.set i nx[k]).set k nx[i]=sw nx i k (0,0):=by unfold sw;rw[e1,e2]
  rw[hsw]
  and_intros<;>first|omega|rfl
 ·rintro f h ⟨hd,hkf,rfl⟩;simp only[wq.1,hd];have:f.k=λ_=>am:=funext hkf;rw[this];exact hr
theorem HS.setX(hs:HS n bud L S h){nx:List (Int×Int)}(hl:aa nx=aa S.nx):HS n bud L (nxS S nx) (h.set L.x (aw (bG nx))):=by have k:=hs.toHR.setRow (id:=L.x) (cs:=bG nx) hs.rx S.tr S.lv nx (.inr (.inr ⟨rfl,rfl,rfl,rfl,rfl⟩));refine⟨k,?_⟩;rw[bu hs.rx hs.rs (by simp),hs.sol];simp only[ay,nxS,hl]
theorem Nv(hs:HS n bud L S h):(ay n bud L S)[5]? =ar (.ls L.x 2 0 (aa S.nx) (aa S.nx)):=rfl
theorem Tm(hs:HS n bud L S h)(hb:aa S.nx<=4000000000000):∀ {k:Nat} (hk:k<aa S.nx) {R:AEnd->H->(Nat->Bool)->Prop}
 (hr:∀nx h',nx.Perm S.nx->HS n bud L (nxS S nx) h'->aa h'=aa h->R (.ret (.tup [])) h' (λ_=>am)),ag TE 94 [.iface 140 (.lp L.s 5),vi k] h R:=by
 intro k hk R hr;have hM := mLx;refine ah Tryz.func94 rfl (by simp [nts]) (vm ?_);simp only [wq.1,seval,-Int.reduceNatCast,-Int.reduceNatCast',aG,Tryz.results94];refine aA (λm f h' => ∃ (nx : List (Int × Int)) (k : Nat),m = k /\ k < aa S.nx /\ f.t 0 = .iface 140 (.lp L.s 5) /\ f.t 1 = vi k /\ f.d = [] /\ (∀ j,f.k j = am) /\ nx.Perm S.nx /\ HS n bud L (nxS S nx) h' /\ aa h' = aa h) k
  ⟨S.nx,k,rfl,hk,rfl,rfl,rfl,λ_=>rfl,List.Perm.refl _,hs,rfl⟩ ?_
 rintro m f h' ⟨nx,k,rfl,hk,h0,h1,hd,hkf,hp,hs',hlen⟩;have hl:=hp.length_eq;refine vm ?_;by_cases hm:m=0
 ·subst hm;have hq:a5 .i64 ((a5 .i64 (((0:Nat):Int)-1)).tdiv 2)=0:=by decide
  have hz:((0:Int)==((0:Nat):Int))=ab:=rfl;simp only[wq.1,seval,-Int.reduceNatCast,-Int.reduceNatCast',-Int.reduceNe,aG,Tryz.results94,h0,h1,hd,hq,hz];refine⟨by decide,.bool am,?_⟩;simp only[wq.1,seval,-Int.reduceNatCast,-Int.reduceNatCast',aG,Tryz.results94,h0,h1,hd,hq,hz];have:f.k=λ_=>am:=funext hkf;rw[this];exact hr nx h' hp hs' hlen
 ·have hq:a5 .i64 ((a5 .i64 ((m:Int)-1)).tdiv 2)=(((m-1)/2:Nat):Int):=by rw[aV (n:=(m:Int)-1) (by omega) (by omega),show(m:Int)-1=((m-1:Nat):Int) by omega,show((m-1:Nat):Int).tdiv 2=(((m-1)/2:Nat):Int)from rfl,aV (by omega) (by omega)]
  have hne:((((m-1)/2:Nat):Int)==(m:Int))=am:=by rw[beq_eq_false_iff_ne];omega
  simp only[wq.1,↓reduceIte,Nat.reduceEqDiff,Nat.reduceLT,reduceCtorEq,h0,h1,hq,hne];refine⟨by decide,?_⟩;refine eG rfl (t:=140) (v:= .lp L.s 5) (v':= .ls L.x 2 0 (aa nx) (aa nx)) (g:=151) (rfl) (by simp only[wq.1,↓reduceIte,Nat.reduceEqDiff,fK,kz]) (ja hs'.sol (Nv hs') (.inr (.inl ⟨rfl,rfl⟩))) (rfl) ?_;simp only[wq.1,seval];refine nP hs'.nxl (by show m<aa nx;omega) (by show(m-1)/2<aa nx;omega) λb=> ?_;cases b with
  |false=>simp only[wq.1,seval,hd];have:f.k=λ_=>am:=funext hkf;rw[this];exact hr nx h' hp hs' hlen
  |true=>simp only[wq.1,seval,h0,h1];refine eG rfl (t:=140) (v:= .lp L.s 5) (v':= .ls L.x 2 0 (aa nx) (aa nx)) (g:=152) (rfl) (by simp only[wq.1,seval,fK,kz]) (ja hs'.sol (Nv hs') (.inr (.inr ⟨rfl,rfl⟩))) (rfl) ?_;simp only[wq.1,seval];refine nR (nx:=nx) hs'.nxl (by show(m-1)/2<aa nx;omega) (by show m<aa nx;omega) ?_;have hsp:=vK (l:=nx) (i:=(m-1)/2) (k:=m) (d:=((0:Int),(0:Int))) (by omega) (by omega);have hs2:=hs'.setX (nx:=sw nx ((m-1)/2) m (0,0)) hsp.length_eq;simp only[wq.1,seval];exact .inl ⟨(m-1)/2,by omega,sw nx ((m-1)/2) m (0,0),(m-1)/2,rfl,by omega,h0,rfl,hd,hkf,hsp.trans hp,hs2,by rw[zrn];exact hlen⟩
end
section
variable{n:Nat}{bud:Int}{L:Lay}{S:St}{h:H}
variable{i k:Nat}
theorem Dw{α:Type}{l:List α}{q:Nat}{d:α}(h1:q≠i)(h2:q≠k):(sw l i k d).getD q d=l.getD q d:=by unfold sw;rw[zqg,zqn (Ne.symm h2),zqn (Ne.symm h1),<-zqg]
theorem L8(hs:HS n bud L S h)(hb:aa S.nx<=4000000000000){m:Nat}(hm:m<=aa S.nx){R:AEnd->H->(Nat->Bool)->Prop}
 (hr:∀nx h' b,nx.Perm S.nx->HS n bud L (nxS S nx) h'->aa h'=aa h->(∀i,m<=i->nx.getD i (0,0)=S.nx.getD i (0,0))->R (.ret (.bool b)) h' (λ_=>am)):ag TE 130 [.iface 140 (.lp L.s 5),vi 0,vi m] h R:=by
 have hM := mLx;refine ah Tryz.func130 rfl (by simp [nts]) (vm ?_);simp only [wq.1,seval,Tryz.results130];refine aA (λk f h' => ∃ (nx : List (Int × Int)) (i : Nat),k = m - i /\ f.t 0 = .iface 140 (.lp L.s 5) /\ f.t 1 = vi 0 /\ f.t 2 = vi m /\ f.t 7 = vi i /\ i <= m /\ f.d = [] /\ (∀ j,f.k j = am) /\ nx.Perm S.nx /\ HS n bud L (nxS S nx) h' /\ aa h' = aa h /\ ∀ i,m <= i -> nx.getD i (0,0) = S.nx.getD i (0,0)) m
  ⟨S.nx,0,rfl,rfl,rfl,rfl,rfl,Nat.zero_le _,rfl,λ_=>rfl,List.Perm.refl _,hs,rfl,λ_ _=>rfl⟩ ?_
 rintro k f h' ⟨nx,i,hk,h0,h1,h2,h7,hi,hd,hkf,hp,hs',hlen,hsame⟩;have hl:=hp.length_eq;have hkf':f.k=λ_=>am:=funext hkf;have w1:a5 .i64 (2*(i:Int))=((2*i:Nat):Int):=by rw[aV (by omega) (by omega)];omega
 have w2:a5 .i64 (((2*i:Nat):Int)+1)=((2*i+1:Nat):Int):=by rw[aV (by omega) (by omega)];omega
 have w3:a5 .i64 (((2*i+1:Nat):Int)+1)=((2*i+2:Nat):Int):=by rw[aV (by omega) (by omega)];omega
 have z1:aM (((2*i+1:Nat):Int)<0)=am:=by rw[zqd];omega
 /- behind the choice of a child -/
 have fin:∀b:Bool,R (.ret (.bool b)) h' f.k:=λb=>by rw[hkf'];exact hr nx h' b hp hs' hlen hsame
 refine vm ?_;by_cases hge:m<=2*i+1
 ·have e1:aM ((m:Int)<=((2*i+1:Nat):Int))=ab:=by rw[zqb];omega
  simp only[wq.1,seval,h1,h2,h7,hd,w1,w2,e1];exact fin _
 ·have e1:aM ((m:Int)<=((2*i+1:Nat):Int))=am:=by rw[zqd];omega
  /- what follows when the child is told -/
  by_cases hlt:2*i+2<m
  ·have e2:aM (((2*i+2:Nat):Int)<(m:Int))=ab:=by rw[zqb];omega
   simp only[wq.1,seval,h0,h2,h7,w1,w2,w3,e1,z1,e2];refine eG rfl (t:=140) (v:= .lp L.s 5) (v':= .ls L.x 2 0 (aa nx) (aa nx)) (g:=151) (rfl) (by simp only[wq.1,seval,fK,kz]) (ja hs'.sol (Nv hs') (.inr (.inl ⟨rfl,rfl⟩))) (rfl) ?_;simp only[wq.1,seval];refine nP hs'.nxl (by show 2*i+2<aa nx;omega) (by show 2*i+1<aa nx;omega) λb=> ?_;cases b with
   |true =>
    simp only[wq.1,seval,h0,h7];refine eG rfl (t:=140) (v:= .lp L.s 5) (v':= .ls L.x 2 0 (aa nx) (aa nx)) (g:=151) (rfl) (by simp only[wq.1,seval,fK,kz]) (ja hs'.sol (Nv hs') (.inr (.inl ⟨rfl,rfl⟩))) (rfl) ?_;simp only[wq.1,seval];refine nP hs'.nxl (by show 2*i+2<aa nx;omega) (by show i<aa nx;omega) λb=> ?_;cases b with
    |false=>simp only[wq.1,seval,h1,h7,hd];exact fin _
    |true=>simp only[wq.1,seval,h0,h7];refine eG rfl (t:=140) (v:= .lp L.s 5) (v':= .ls L.x 2 0 (aa nx) (aa nx)) (g:=152) (rfl) (by simp only[wq.1,seval,fK,kz]) (ja hs'.sol (Nv hs') (.inr (.inr ⟨rfl,rfl⟩))) (rfl) ?_;simp only[wq.1,seval];refine nR (nx:=nx) hs'.nxl (by show i<aa nx;omega) (by show 2*i+2<aa nx;omega) ?_;have hsp:=vK (l:=nx) (i:=i) (k:=2*i+2) (d:=((0:Int),(0:Int))) (by omega) (by omega);have hs2:=hs'.setX (nx:=sw nx i (2*i+2) (0,0)) hsp.length_eq;simp only[wq.1,seval];exact .inl ⟨m-(2*i+2),by omega,sw nx i (2*i+2) (0,0),2*i+2,rfl,h0,h1,h2,rfl,by omega,hd,hkf,hsp.trans hp,hs2,by rw[zrn];exact hlen,λq hq=>by rw[Dw (by omega) (by omega)];exact hsame q hq⟩
   |false =>
    simp only[wq.1,seval,h0,h7];refine eG rfl (t:=140) (v:= .lp L.s 5) (v':= .ls L.x 2 0 (aa nx) (aa nx)) (g:=151) (rfl) (by simp only[wq.1,seval,fK,kz]) (ja hs'.sol (Nv hs') (.inr (.inl ⟨rfl,rfl⟩))) (rfl) ?_;simp only[wq.1,seval];refine nP hs'.nxl (by show 2*i+1<aa nx;omega) (by show i<aa nx;omega) λb=> ?_;cases b with
    |false=>simp only[wq.1,seval,h1,h7,hd];exact fin _
    |true=>simp only[wq.1,seval,h0,h7];refine eG rfl (t:=140) (v:= .lp L.s 5) (v':= .ls L.x 2 0 (aa nx) (aa nx)) (g:=152) (rfl) (by simp only[wq.1,seval,fK,kz]) (ja hs'.sol (Nv hs') (.inr (.inr ⟨rfl,rfl⟩))) (rfl) ?_;simp only[wq.1,seval];refine nR (nx:=nx) hs'.nxl (by show i<aa nx;omega) (by show 2*i+1<aa nx;omega) ?_;have hsp:=vK (l:=nx) (i:=i) (k:=2*i+1) (d:=((0:Int),(0:Int))) (by omega) (by omega);have hs2:=hs'.setX (nx:=sw nx i (2*i+1) (0,0)) hsp.length_eq;simp only[wq.1,seval];exact .inl ⟨m-(2*i+1),by omega,sw nx i (2*i+1) (0,0),2*i+1,rfl,h0,h1,h2,rfl,by omega,hd,hkf,hsp.trans hp,hs2,by rw[zrn];exact hlen,λq hq=>by rw[Dw (by omega) (by omega)];exact hsame q hq⟩
  ·have e2:aM (((2*i+2:Nat):Int)<(m:Int))=am:=by rw[zqd];omega
   simp only[wq.1,seval,h0,h2,h7,w1,w2,w3,e1,z1,e2];refine⟨.bool am,?_⟩;simp only[wq.1,seval,h0,h7];refine eG rfl (t:=140) (v:= .lp L.s 5) (v':= .ls L.x 2 0 (aa nx) (aa nx)) (g:=151) (rfl) (by simp only[wq.1,seval,fK,kz]) (ja hs'.sol (Nv hs') (.inr (.inl ⟨rfl,rfl⟩))) (rfl) ?_;simp only[wq.1,seval];refine nP hs'.nxl (by show 2*i+1<aa nx;omega) (by show i<aa nx;omega) λb=> ?_;cases b with
   |false=>simp only[wq.1,seval,h1,h7,hd];exact fin _
   |true=>simp only[wq.1,seval,h0,h7];refine eG rfl (t:=140) (v:= .lp L.s 5) (v':= .ls L.x 2 0 (aa nx) (aa nx)) (g:=152) (rfl) (by simp only[wq.1,seval,fK,kz]) (ja hs'.sol (Nv hs') (.inr (.inr ⟨rfl,rfl⟩))) (rfl) ?_;simp only[wq.1,seval];refine nR (nx:=nx) hs'.nxl (by show i<aa nx;omega) (by show 2*i+1<aa nx;omega) ?_;have hsp:=vK (l:=nx) (i:=i) (k:=2*i+1) (d:=((0:Int),(0:Int))) (by omega) (by omega);have hs2:=hs'.setX (nx:=sw nx i (2*i+1) (0,0)) hsp.length_eq;simp only[wq.1,seval];exact .inl ⟨m-(2*i+1),by omega,sw nx i (2*i+1) (0,0),2*i+1,rfl,h0,h1,h2,rfl,by omega,hd,hkf,hsp.trans hp,hs2,by rw[zrn];exact hlen,λq hq=>by rw[Dw (by omega) (by omega)];exact hsame q hq⟩
end
section
variable{n:Nat}{bud:Int}{L:Lay}{S:St}{h:H}
theorem zh(nx:List (Int×Int))(t:Int×Int):bG nx++[vi t.1,vi t.2]=bG (nx++[t]):=by simp[bG]
variable{p:Nat->Bool}
theorem Tn(nx:List (Int×Int)):aE p (bG nx)=bG nx:=eP λv hv=>by obtain⟨t,_,hv⟩:=List.mem_flatMap.1 hv;simp only[zrj,zrp,or_false]at hv;rcases hv with rfl|rfl<;>exact fA
theorem HS.pushX(hs:HS n bud L S h)(nx:List (Int×Int)):HS n bud L (nxS S nx) (((h.map (O.drop λx=>x==L.x)).set L.x (aw (bG nx))).set L.s
 (aw [.ls L.v 5 0 (n+1) (n+1),.lm L.m,.ls L.t 1 0 (aa S.tr) (aa S.tr),vi S.hd,.ls L.l 1 0 (aa S.lv) (aa S.lv),.ls L.x 2 0 (aa nx) (aa nx),.ls L.g 1 0 (aa S.ln) (aa S.ln),vi bud])):=by
 have k2:=hs.toHR.drop (p:=λx=>x==L.x) (Tf L hs.rx (.inr (.inr (.inl rfl))));have k3:=k2.setRow (id:=L.x) (cs:=bG nx) hs.rx S.tr S.lv nx (.inr (.inr ⟨rfl,rfl,rfl,rfl,rfl⟩));refine⟨k3.setS _,?_⟩;rw[zqt (by simpa using hs.rlt _ _ hs.rs)];rfl
def Jr:Plan:=tkZ [0,1,2,4]<| .alt 3 (onZ [5,6,7]<| .take 8<| .one 9<| .fin) (.one 5 (.alt 3 (.one 6<| .one 7<| .take 8<| .one 9<| .fin) (.one 6 (.one 3<| .one 7<| .take 8<| .one 9<| .fin))))
theorem Ig(hs:HS n bud L S h)(hb:aa S.nx<=4000000000000)(a b:Int){R:AEnd->H->(Nat->Bool)->Prop}
 (hr:∀h' p,HS n bud L (nxS S (S.nx++[(a,b)])) h'->aa h'=aa h->(∀i,p i=ab->i=L.x)->R (.ret (.tup [])) h' p):ag TE 154 [.lp L.s 5,.iface 142 (.agg [vi a,vi b])] h R:=by
 have hM:=mLx;have hsol:=hs.sol;have hnx:=hs.nxl;have hls:=hs.rlt _ _ hs.rs;have hlx:=hs.rlt _ _ hs.rx;have hsx:L.s≠L.x:=bW L hs.rs hs.rx (by simp);have hxs:=hsx.symm;have b1:(L.s==L.x)=am:=by simp[hsx]
 have b2:(L.v==L.x)=am:=by simp[bW L hs.rv hs.rx (by simp)]
 have b3:(L.m==L.x)=am:=by simp[bW L hs.rm hs.rx (by simp)]
 have b4:(L.l==L.x)=am:=by simp[bW L hs.rl hs.rx (by simp)]
 have b5:(L.t==L.x)=am:=by simp[bW L hs.rt hs.rx (by simp)]
 have b6:(L.g==L.x)=am:=by simp[bW L hs.rg hs.rx (by simp)]
 have hH:=hs.pushX (S.nx++[(a,b)]);have hne:bG S.nx++[vi a,vi b]=bG (S.nx++[(a,b)]):=zh S.nx (a,b);have hfm:List.flatMap V.vc [V.agg [vi a,vi b]]=[vi a,vi b]:=rfl;have hft:mM [V.agg [vi a,vi b]]=ab:=rfl;rw[zqa,zrk]at hH;refine ah Tryz.func154 rfl (by simp[nts]) (vm ?_);simp only[wq.1,Tryz.results154];refine bK dV Jr (λf' h'=>f'.d=[]/\(∀j,f'.k j=ab->j=L.x)/\HS n bud L (nxS S (S.nx++[(a,b)])) h'/\aa h'=aa h) (by decide +kernel) (by decide +kernel) ?_ ?_
 ·simp only[wq.1,↓reduceIte,Nat.reduceEqDiff,Nat.reduceLT,Nat.reduceLeDiff,Nat.reduceAdd,reduceCtorEq,Nat.reduceMul,Jr,hsol,ay,hnx,zrn,zqn,hxs,ne_eq,not_false_eq_true,b1,b2,b3,b4,b5,b6,Tn,gZ,zqo,hne,hfm,hft];exact⟨⟨rfl,by decide⟩,⟨by omega,by omega,by omega⟩,λj hj=>by simpa using hj,hH⟩
 ·rintro f h' ⟨hd,hkf,hs',hl⟩;simp only[wq.1,hd];exact hr h' f.k hs' hl hkf
theorem vM(hs:HS n bud L S h)(hb:aa S.nx<=3000000000000)(a b:Int){R:AEnd->H->(Nat->Bool)->Prop}
 (hr:∀nx h' p,nx.Perm (S.nx++[(a,b)])->HS n bud L (nxS S nx) h'->aa h'=aa h->(∀i,p i=ab->i=L.x)->R (.ret (.tup [])) h' p):ag TE 66 [.iface 140 (.lp L.s 5),.iface 142 (.agg [vi a,vi b])] h R:=by
 have hM:=mLx;have hsx:L.s≠L.x:=bW L hs.rs hs.rx (by simp);refine ah Tryz.func66 rfl (by simp[nts]) (vm ?_);simp only[wq.1,seval,Tryz.results66];refine eG rfl (t:=140) (v:= .lp L.s 5) (v':= .lp L.s 5) (g:=154) (rfl) (by simp only[wq.1,seval,fK,kz]) Ti (rfl) ?_;refine Ig hs (by omega) a b λh1 p hs1 hl1 hp=> ?_;have hps:p L.s=am:=by
  cases hps:p L.s with
  |false=>rfl
  |true=>exact absurd (hp _ hps) hsx
 simp only[wq.1,seval,hps,bC];refine eG rfl (t:=140) (v:= .lp L.s 5) (v':= .ls L.x 2 0 (aa S.nx+1) (aa S.nx+1)) (g:=122) (by simp only[wq.1,↓reduceIte]) (by simp only[wq.1,↓reduceIte,fK]) (ja hs1.sol (by have:=Nv hs1;simpa [nxS]using this) (.inl ⟨rfl,rfl⟩)) (by simp only[wq.1]) ?_;simp only[wq.1];refine zf _ ?_;have hw:a5 .i64 (((aa S.nx+1:Nat):Int)-1)=(aa S.nx:Int):=by rw[aV (by omega) (by omega)];omega
 simp only[wq.1,seval,hw];refine Tm hs1 (by show aa (S.nx++[(a,b)])<=_;simp;omega) (k:=aa S.nx) (by show _<aa (S.nx++[(a,b)]);simp) λnx h2 hp2 hs2 hl2=> ?_;simp only[wq.1];exact hr nx h2 p (show nx.Perm (S.nx++[(a,b)])from hp2) hs2 (hl2.trans hl1) hp
end
section
variable{n:Nat}{bud:Int}{L:Lay}{S:St}{h:H}
theorem HR.congr(k:HR n L S h){h':H}(he:∀i r,L.ro i=ar r->r≠ .s->h'[i]? =h[i]?)(hl:aa h<=aa h'):HR n L S h' where
 var:=by rw[he _ _ k.rv (by simp)];exact k.var
 map:=by
  obtain⟨ks,h1,h2⟩:=k.map;exact⟨ks,by rw[he _ _ k.rm (by simp)];exact h1,h2⟩
 trl:=by rw[he _ _ k.rt (by simp)];exact k.trl
 lvl:=by rw[he _ _ k.rl (by simp)];exact k.lvl
 nxl:=by rw[he _ _ k.rx (by simp)];exact k.nxl
 lnl:=by rw[he _ _ k.rg (by simp)];exact k.lnl
 lnk i hi:=by
  obtain⟨h1,h2⟩:=k.lnk i hi;exact⟨by rw[he _ _ h2 (by simp)];exact h1,h2⟩
 cla j hj:=by
  obtain⟨h1,h2⟩:=k.cla j hj;exact⟨by rw[he _ _ h2 (by simp)];exact h1,h2⟩
 wat a:=by
  have:=k.wat a;unfold iG at this ⊢;cases hw:L.w a with
  |none=>rw[hw]at this;exact this
  |some id=>rw[hw]at this;exact⟨by rw[he _ _ this.2 (by simp)];exact this.1,this.2⟩
 fre:=k.fre
 fwt:=k.fwt
 rs:=k.rs
 rv:=k.rv
 rm:=k.rm
 rt:=k.rt
 rl:=k.rl
 rx:=k.rx
 rg:=k.rg
 rlt i r hr:=Nat.lt_of_lt_of_le (k.rlt i r hr) hl
 ext i o ho:=⟨by rw[he _ _ ho (by simp)];exact(k.ext i o ho).1,(k.ext i o ho).2⟩
theorem HS.app(hs:HS n bud L S h)(k:H):HS n bud L S (h++k) :=
 ⟨hs.toHR.congr (λi r hr _=>zqj (hs.rlt i r hr)) (by simp),by rw[zqj (hs.rlt _ _ hs.rs)];exact hs.sol⟩
def Js:Plan:=tkZ [0,1,3,4]<| .alt 2 (.alt 5 (.alt 6 (.take 7<| .take 8<| .alt 9 (.one 10<| .one 11<| .fin) (.one 10 (.one 9<| .one 11<| .fin))) (.one 10 (.one 6<| .take 7<| .take 8<| .one 9<| .one 11<| .fin))) (.one 10 (.one 5<| .one 6<| .take 7<| .take 8<| .one 9<| .one 11<| .fin))) (.alt 5 (.alt 2 (.alt 6 (.take 7<| .take 8<| .alt 9 (.one 10<| .one 11<| .fin) (.one 10 (.one 9<| .one 11<| .fin))) (.one 10 (.one 6<| .take 7<| .take 8<| .one 9<| .one 11<| .fin))) (.alt 6 (.take 7<| .alt 2 (.take 8<| .alt 9 (.one 10<| .one 11<| .fin) (.one 10 (.one 9<| .one 11<| .fin))) (.one 10 (.one 2<| .take 8<| .one 9<| .one 11<| .fin))) (.one 10 (.alt 2 (.one 6<| .take 7<| .take 8<| .one 9<| .one 11<| .fin) (.one 6 (.take 7<| .one 2<| .take 8<| .one 9<| .one 11<| .fin)))))) (.one 10 (.alt 2 (.one 5<| .one 6<| .take 7<| .take 8<| .one 9<| .one 11<| .fin) (.one 5 (.alt 2 (.one 6<| .take 7<| .take 8<| .one 9<| .one 11<| .fin) (.one 6 (.take 7<| .one 2<| .take 8<| .one 9<| .one 11<| .fin)))))))
def Jt:Plan:=tkZ [0,1,2,4,5]<| .alt 3 (.one 6<| .one 7<|tkZ [8,9,10]<| .one 11<| .fin) (.one 6 (.alt 3 (.one 7<|tkZ [8,9,10]<| .one 11<| .fin) (.one 7 (.take 8<| .one 3<| .take 9<| .take 10<| .one 11<| .fin))))
theorem Ff(nx:List (Int×Int))(t:Int×Int):List.take (2*aa nx) (bG (nx++[t]))=bG nx:=by rw[<-zh,List.take_append_of_le_length (by rw[gZ];exact zrb _),zqh (by rw[gZ];exact zrb _)]
theorem L9(hs:HS n bud L S h){nx:List (Int×Int)}{t:Int×Int}(hx:S.nx=nx++[t])(hb:aa S.nx<=4000000000000){R:AEnd->H->(Nat->Bool)->Prop}
 (hr:∀h',HS n bud L (nxS S nx) h'->aa h<=aa h'->R (.ret (.iface 142 (.agg [vi t.1,vi t.2]))) h' (λ_=>am)):ag TE 153 [.lp L.s 5] h R:=by
 have hM:=mLx;have hsol:=hs.sol;have hnx:=hs.nxl;have hls:=hs.rlt _ _ hs.rs;have hlx:=hs.rlt _ _ hs.rx;have hsx:L.s≠L.x:=bW L hs.rs hs.rx (by simp);have hlen:aa S.nx=aa nx+1:=by rw[hx];simp
 have hw:a5 .i64 (((aa nx+1:Nat):Int)-1)=(aa nx:Int):=by rw[aV (by omega) (by omega)];omega
 have ht2:List.take 2 (List.drop (aa nx*2) (bG S.nx))=[vi t.1,vi t.2]:=by have:=Jq (nx:=S.nx) (i:=aa nx) (by omega);rw[this];simp[hx]
 have e1:∀o:O,(h++[o])[List.length h]? =ar o:=λo=>by simp
 have e2:∀o o':O,List.set (h++[o]) (List.length h) o'=h++[o']:=λo o'=>by rw[List.set_append_right _ _ (zrb _)];simp
 have e3:∀o:O,(h++[o])[L.s]? =ar (aw (ay n bud L S)):=λo=>by rw[zqj hls];exact hsol
 have e4:∀o:O,(h++[o])[L.x]? =ar (aw (bG S.nx)):=λo=>by rw[zqj hlx];exact hnx
 refine vz ?_;refine ah Tryz.func153 rfl (by simp[nts]) (vm ?_);simp only[wq.1,Nat.reduceLT,Tryz.results153];refine bK dV Js (λf' h'=>f'.t 0= .lp L.s 5/\f'.t 3= .lp (aa h) 0/\f'.d=[]/\(∀j,f'.k j=am)/\h'=h++[aw [vi t.1,vi t.2]]) (by decide +kernel) (by decide +kernel) ?_ ?_
 ·simp only[wq.1,seval,Js,hsol,ay,hnx,hlen,hw,gZ,ht2,e1,e2,e3,e4]
  and_intros<;>first|omega|rfl|trivial
 ·rintro f h' ⟨h0,h3,hd,hkf,rfl⟩;simp only [wq.1];refine bK dV Jt (λf' h' => f'.t 3 = .lp (aa h) 0 /\ f'.d = [] /\ (∀ j,f'.k j = am) /\ h' = (h ++ [aw [vi t.1,vi t.2]]).set L.s
   (aw [.ls L.v 5 0 (n+1) (n+1),.lm L.m,.ls L.t 1 0 (aa S.tr) (aa S.tr),vi S.hd,.ls L.l 1 0 (aa S.lv) (aa S.lv),.ls L.x 2 0 (aa nx) (aa nx+1),.ls L.g 1 0 (aa S.ln) (aa S.ln),vi bud])) (by decide +kernel) (by decide +kernel) ?_ ?_
  ·simp only[wq.1,seval,Jt,h0,h3,hd,ay,hlen,hw,e3];exact⟨⟨by omega,by omega⟩,hkf⟩
  ·rintro f h' ⟨h3,hd,hkf,rfl⟩;have hne:L.s≠List.length h:=by omega
   simp only[wq.1,seval,h3,hd,zqn hne,e1];have hkf':f.k=λ_=>am:=funext hkf;rw[hkf'];have hls2:L.s<aa (h++[aw [vi t.1,vi t.2]]):=by simp;omega
   have hH:=(hs.app [aw [vi t.1,vi t.2]]);have kX:=hH.toHR.setRow (id:=L.x) (cs:=bG nx) hs.rx S.tr S.lv nx (.inr (.inr ⟨rfl,rfl,rfl,rfl,rfl⟩));have kS:=kX.setS (aw (ay n bud L (nxS S nx)));refine⟨by simp,(((h++[aw [vi t.1,vi t.2]]).set L.x (aw (bG nx))).set L.s (aw (ay n bud L (nxS S nx)))),?_,hr _ ⟨kS,?_⟩ ?_⟩
   ·rw[List.set_comm _ _ hsx.symm];refine HLe.trans (HLe.set (i:=L.s) (zqt hls2) (o':=aw (ay n bud L (nxS S nx))) (OLe.cells (zrb _) ?_)) ?_
    ·simp only[ay,nxS,zrt,List.length_nil,List.take_succ_cons,List.take_nil,List.take_zero];exact .cons (.refl _)<| .cons (.refl _)<| .cons (.refl _)<| .cons (.refl _)<| .cons (.refl _)<| .cons (VLe.cap (by omega))<| .refl _
    ·rw[List.set_set];refine HLe.set (o:=aw (bG S.nx)) ?_ ?_
     ·rw[zqn hsx];exact e4 _
     ·have:=OLe.take (bG S.nx) (2*aa nx);rw[hx,Ff]at this
      rwa [<-hx]at this
   ·exact zqt (by simp;omega)
   ·simp
variable{m:Nat}
theorem VM{α:Type}{l:List α}(h:aa l=m+1):∃l0 x,l=l0++[x]/\aa l0=m:=by
 have hne:l≠[]:=by rintro rfl;simp at h
 exact⟨l.dropLast,l.getLast hne,(List.dropLast_concat_getLast hne).symm,by simp[h]⟩
theorem Pn(hs:HS n bud L S h)(hb:aa S.nx<=3000000000000)(hne:S.nx≠[]){R:AEnd->H->(Nat->Bool)->Prop}
 (hr:∀nx t h',(nx++[t]).Perm S.nx->HS n bud L (nxS S nx) h'->aa h<=aa h'->R (.ret (.iface 142 (.agg [vi t.1,vi t.2]))) h' (λ_=>am)):ag TE 123 [.iface 140 (.lp L.s 5)] h R:=by
 have hM:=mLx;obtain⟨m,hm⟩:∃m,aa S.nx=m+1:=⟨aa S.nx-1,by have:=List.length_pos_iff.2 hne;omega⟩;have hw:a5 .i64 ((aa S.nx:Int)-1)=(m:Int):=by rw[aV (by omega) (by omega)];omega
 refine ah Tryz.func123 rfl (by simp[nts]) (vm ?_);simp only[wq.1,seval,Tryz.results123];refine eG rfl (t:=140) (v:= .lp L.s 5) (v':= .ls L.x 2 0 (aa S.nx) (aa S.nx)) (g:=122) (by simp only[wq.1,↓reduceIte]) (by simp only[wq.1,↓reduceIte,fK]) (ja hs.sol (Nv hs) (.inl ⟨rfl,rfl⟩)) (by simp only[wq.1]) ?_;simp only[wq.1];refine zf _ ?_;simp only[wq.1,seval,hw];refine eG rfl (t:=140) (v:= .lp L.s 5) (v':= .ls L.x 2 0 (aa S.nx) (aa S.nx)) (g:=152) (rfl) (by simp only[wq.1,seval,fK,kz]) (ja hs.sol (Nv hs) (.inr (.inr ⟨rfl,rfl⟩))) (rfl) ?_;simp only[wq.1,↓reduceIte];refine nR (nx:=S.nx) (i:=0) (k:=m) hs.nxl (by omega) (by omega) ?_;have hsp:=vK (l:=S.nx) (i:=0) (k:=m) (d:=((0:Int),(0:Int))) (by omega) (by omega);have hs1:=hs.setX (nx:=sw S.nx 0 m (0,0)) hsp.length_eq;simp only[wq.1,seval];refine L8 hs1 (by show aa (sw S.nx 0 m (0,0))<=_;rw[hsp.length_eq];omega) (m:=m) (by show m<=aa (sw S.nx 0 m (0,0));rw[hsp.length_eq];omega) λnx2 h2 b hp2 hs2 hl2 hsame=> ?_;have hp2':nx2.Perm S.nx:=hp2.trans hsp;simp only[wq.1,seval];refine eG rfl (t:=140) (v:= .lp L.s 5) (v':= .lp L.s 5) (g:=153) (by simp only[wq.1,↓reduceIte]) (by simp only[wq.1,↓reduceIte,fK]) VL (by simp only[wq.1]) ?_;obtain⟨nx,t,e,hl⟩:=VM (l:=nx2) (m:=m) (by rw[hp2'.length_eq,hm]);refine L9 hs2 (nx:=nx) (t:=t) e (by show aa nx2<=_;rw[hp2'.length_eq];omega) λh3 hs3 hl3=> ?_;simp only[wq.1,seval];exact hr nx t h3 (by rw[<-e];exact hp2') hs3 (by rw[zrn]at hl2;rw[<-hl2];exact hl3)
end
section
variable{n:Nat}{bud:Int}{L:Lay}{S:St}{h:H}
def G7(S:St)(a:Int)(j:Nat):St:={S with wt:=λb=>if b=a then S.wt a++[j]else S.wt b}
def AP(L:Lay)(a:Int)(id:Nat):Lay:={L with w:=λb=>if b=a then ar id else L.w b,ro:=λi=>if i=id then ar (.w a)else L.ro i}
structure LX(nc:Nat)(L L':Lay):Prop where
 s:L'.s=L.s
 v:L'.v=L.v
 m:L'.m=L.m
 t:L'.t=L.t
 l:L'.l=L.l
 x:L'.x=L.x
 g:L'.g=L.g
 c:∀j,j<nc->L'.c j=L.c j
 w:∀a id,L.w a=ar id->L'.w a=ar id
 ro:∀i r,L.ro i=ar r->L'.ro i=ar r
theorem LX.refl(m:Nat)(L:Lay):LX m L L:=⟨rfl,rfl,rfl,rfl,rfl,rfl,rfl,λ_ _=>rfl,λ_ _ h=>h,λ_ _ h=>h⟩
variable{m:Nat}
theorem LX.trans{A B C:Lay}(p:LX m A B)(q:LX m B C):LX m A C :=
 ⟨q.s.trans p.s,q.v.trans p.v,q.m.trans p.m,q.t.trans p.t,q.l.trans p.l,q.x.trans p.x,q.g.trans p.g,λj hj=>(q.c j hj).trans (p.c j hj),λa id h=>q.w a id (p.w a id h),λi r h=>q.ro i r (p.ro i r h)⟩
variable{a:Int}
theorem oQ{id:Nat}(h:(L.ro id=aL/\L.w a=aL)\/(L.ro id=ar (.w a)/\L.w a=ar id)):LX m L (AP L a id) :=
 ⟨rfl,rfl,rfl,rfl,rfl,rfl,rfl,λ_ _=>rfl,λb i hb=>by
  show(if b=a then ar id else L.w b)=ar i;split
  ·rename_i e;subst e;rcases h with⟨_,h⟩|⟨_,h⟩
   ·rw[h]at hb;cases hb
   ·rw[h]at hb;exact hb
  ·exact hb,λi r hi=>by
  show(if i=id then ar (Ro.w a)else L.ro i)=ar r;split
  ·rename_i e;subst e;rcases h with⟨h,_⟩|⟨h,_⟩
   ·rw[h]at hi;cases hi
   ·rw[h]at hi;exact hi
  ·exact hi⟩
theorem HR.wstep(k:HR n L S h){h':H}{a:Int}{j id:Nat}(hj:j<S.nc)(hid0:(L.ro id=aL/\L.w a=aL)\/(L.ro id=ar (.w a)/\L.w a=ar id))
 (get:∀i o,h[i]? =ar o->o.drop (λx=>x==id)=o->L.ro i≠aL->i≠id->i≠L.m->h'[i]? =ar o)
 (hid:h'[id]? =ar (aw ((S.wt a).map (clV L S)++[clV L S j])))
 (hmap:∃ks:List Int,h'[L.m]? =ar (.map (ks.map vi) (ks.map λb=>if b=a then .ls id 1 0 (aa (S.wt a)+1) (aa (S.wt a)+1)else Jp (L.w b) 1 (aa (S.wt b))))/\ks.Nodup/\a∈ks/\∀b,¬b∈ks->L.w b=aL/\S.wt b=[])
 (hl:aa h<=aa h') (hil:id<aa h'):HR n (AP L a id) (G7 S a j) h':=by
 have ne:∀ {i:Nat} {r:Ro},L.ro i=ar r->r≠ .w a->i≠id:=by
  rintro i r hi hr rfl;rcases hid0 with h0|⟨h0,_⟩
  ·rw[hi]at h0;simp at h0
  ·rw[hi]at h0;cases h0;exact hr rfl
 have G:∀ {i:Nat} {r:Ro} {cs:List V},L.ro i=ar r->r≠ .w a->h[i]? =ar (aw cs)->(∀v∈cs,v.drop (λx=>x==id)=v)->h'[i]? =ar (aw cs) :=
  λhi hr hc hv=>get _ _ hc (by rw[aZ,eP hv]) (by rw[hi];simp) (ne hi hr) (λe=>by have:=k.map;obtain⟨ks,h1,_⟩:=this;rw[<-e,hc]at h1;cases h1)
 have GI:∀ {i:Nat} {r:Ro} {c:Cl},L.ro i=ar r->r≠ .w a->h[i]? =ar (aw (c.map vi))->h'[i]? =ar (aw (c.map vi)) :=
  λhi hr hc=>G hi hr hc λv hv=>by
   obtain⟨a,_,rfl⟩:=zrh.1 hv;exact fA
 have RO:∀ {i:Nat} {r:Ro},L.ro i=ar r->r≠ .w a->(AP L a id).ro i=ar r:=λhi hr=>by show(if _=id then ar (Ro.w a)else L.ro _)=_;rw[if_neg (ne hi hr)];exact hi
 have pc:∀q,q<S.nc->((λx=>x==id) (L.c q))=am:=λq hq=>by simpa using ne (k.cla q hq).2 (by simp)
 have pk:∀q,q<aa S.ln->((λx=>x==id) (L.k q))=am:=λq hq=>by simpa using ne (k.lnk q hq).2 (by simp)
 refine {var:=G k.rv (by simp) k.var ?_,map:= ?_,trl:=GI k.rt (by simp) k.trl,lvl:=G k.rl (by simp) k.lvl ?_,nxl:=G k.rx (by simp) k.nxl ?_,lnl:=G k.rg (by simp) k.lnl ?_,lnk:=λi hi=>⟨GI (k.lnk i hi).2 (by simp) (k.lnk i hi).1,RO (k.lnk i hi).2 (by simp)⟩,cla:=λq hq=>⟨GI (k.cla q hq).2 (by simp) (k.cla q hq).1,RO (k.cla q hq).2 (by simp)⟩,wat:= ?_,fre:=k.fre,fwt:= ?_,rs:=RO k.rs (by simp),rv:=RO k.rv (by simp),rm:=RO k.rm (by simp),rt:=RO k.rt (by simp),rl:=RO k.rl (by simp),rx:=RO k.rx (by simp),rg:=RO k.rg (by simp),rlt:= ?_,ext:=λi o ho=> ?_}
 ·intro v hv;unfold eH at hv;obtain⟨i,hi,hv⟩:=List.mem_flatMap.1 hv;have hi:i<=n:=by have:=List.mem_range.1 hi;omega
  simp only[iE,zrj,zrp,or_false]at hv;rcases hv with rfl|rfl|rfl|rfl|rfl<;>try exact fA
  show V.drop _ (reV L S (S.v i).reason)=reV L S (S.v i).reason;cases hr:(S.v i).reason with
  |none=>simp only[reV,V.drop]
  |some j=>exact bV (pc j (k.fre i hi j hr))
 ·obtain⟨ks,h1,h2,h3,h4⟩:=hmap;refine⟨ks,?_,h2,λb hb=> ?_⟩
  ·rw[show(AP L a id).m=L.m from rfl,h1]
   congr 2
   refine zsd λb hb=> ?_;by_cases he:b=a
   ·subst he;rw[if_pos rfl];show _=Jp (if b=b then ar id else L.w b) 1 (aa (if b=b then S.wt b++[j]else S.wt b));rw[if_pos rfl,if_pos rfl,zqa];rfl
   ·rw[if_neg he];show _=Jp (if b=a then ar id else L.w b) 1 (aa (if b=a then S.wt a++[j]else S.wt b));rw[if_neg he,if_neg he]
  ·have he:b≠a:=λe=>hb (e▸h3);refine⟨?_,?_⟩
   ·show(if b=a then ar id else L.w b)=aL;rw[if_neg he];exact(h4 b hb).1
   ·show(if b=a then S.wt a++[j]else S.wt b)=[];rw[if_neg he];exact(h4 b hb).2
 ·intro v hv;obtain⟨a,_,rfl⟩:=zrh.1 hv;exact fA
 ·intro v hv;obtain⟨t,_,hv⟩:=List.mem_flatMap.1 hv;simp only[zrj,zrp,or_false]at hv;rcases hv with rfl|rfl<;>exact fA
 ·intro v hv;obtain⟨i,hi,rfl⟩:=zrh.1 hv;exact bV (pk i (List.mem_range.1 hi))
 ·intro b;by_cases he:b=a
  ·subst he;unfold iG;rw[show(AP L b id).w b=ar id from if_pos rfl];show h'[id]? =ar (aw ((if b=b then S.wt b++[j]else S.wt b).map (clV L S)))/\(if id=id then ar (Ro.w b)else L.ro id)=ar (.w b);rw[if_pos rfl,zql,if_pos rfl];exact⟨hid,rfl⟩
  ·have kw:=k.wat b;unfold iG at kw ⊢;rw[show(AP L a id).w b=L.w b from if_neg he];cases hw:L.w b with
   |none=>rw[hw]at kw;show(if b=a then S.wt a++[j]else S.wt b).map (clV L S)=[];rw[if_neg he];exact kw
   |some i =>
    rw[hw]at kw;have hr:(Ro.w b)≠ .w a:=by simpa using he
    show h'[i]? =ar (aw ((if b=a then S.wt a++[j]else S.wt b).map (clV L S)))/\_;rw[if_neg he];refine⟨G kw.2 hr kw.1 λv hv=> ?_,RO kw.2 hr⟩;obtain⟨q,hq,rfl⟩:=zrh.1 hv;exact bV (pc q (k.fwt b q hq))
 ·intro b q hq;by_cases he:b=a
  ·subst he;have hq:q∈(if b=b then S.wt b++[j]else S.wt b):=hq;rw[if_pos rfl]at hq;rcases zrf.1 hq with hq|hq
   ·exact k.fwt b q hq
   ·rw[zrc.1 hq];exact hj
  ·have hq:q∈(if b=a then S.wt a++[j]else S.wt b):=hq;rw[if_neg he]at hq;exact k.fwt b q hq
 ·intro i r hi;have hi:(if i=id then ar (Ro.w a)else L.ro i)=ar r:=hi;split at hi
  ·rename_i e;rw[e];exact hil
  ·exact Nat.lt_of_lt_of_le (k.rlt i r hi) hl
 ·have ho:(if i=id then ar (Ro.w a)else L.ro i)=ar (.e o):=ho;split at ho
  ·cases ho
  ·rename_i hne;obtain⟨k1,k2⟩:=k.ext i o ho;have hd:o.drop (λx=>x==id)=o:=k2 _ λq r hq hpq=>by
    have e:q=id:=by simpa using hpq
    subst e;rcases hid0 with⟨h0,_⟩|⟨h0,_⟩
    ·rw[hq]at h0;cases h0
    ·rw[hq]at h0;cases h0;exact .inr (.inr (.inr (.inr ⟨a,rfl⟩)))
   exact⟨get i o k1 hd (by rw[ho];simp) hne (bW L ho k.rm (by simp)),k2.mono (oQ (m:=0) hid0).ro⟩
variable{ks:List Int}
theorem xJ{f:Int->V}{zero:V}(a:Int)(hz:¬a∈ks->f a=zero):qF (.int .i64) (vi a) (ks.map vi) (ks.map f) zero am=(True,f a):=by
 unfold qF;rw[ET];cases hf:ks.findIdx? (·==a)with
 |none =>
  have:¬a∈ks:=λhm=>by have:=List.findIdx?_eq_none_iff.1 hf a hm;simp at this
  simp only[cond_false,hz this]
 |some q =>
  obtain⟨h1,h2,_⟩:=List.findIdx?_eq_some_iff_getElem.1 hf;have h2:ks[q]=a:=by simpa using h2
  simp only[cond_false,zqg,zqo,zqk h1,zrw,Option.getD_some,h2]
theorem mD(hn:ks.Nodup)(f:Int->V)(a:Int)(v:V) :
 ∃ks':List Int,IZ (.int .i64) (vi a) v (ks.map vi) (ks.map f)=ar (ks'.map vi,ks'.map λb=>if b=a then v else f b)/\ks'.Nodup/\a∈ks'/\∀b∈ks,b∈ks':=by
 unfold IZ;rw[ET];cases hf:ks.findIdx? (·==a)with
 |none =>
  have hm:¬a∈ks:=λhm=>by have:=List.findIdx?_eq_none_iff.1 hf a hm;simp at this
  refine⟨ks++[a],?_,?_,by simp,λb hb=>by simp[hb]⟩
  ·simp only[zql,zrd,List.map_nil,if_true]
   congr 3
   exact zsd λb hb=>(if_neg λ(e:b=a)=>hm (e▸hb)).symm
  ·rw[List.nodup_append];exact⟨hn,by simp,λx hx y hy=>by rw[zrc.1 hy];exact λe=>hm (e▸hx)⟩
 |some q =>
  obtain⟨h1,h2,_⟩:=List.findIdx?_eq_some_iff_getElem.1 hf;have h2:ks[q]=a:=by simpa using h2
  refine⟨ks,?_,hn,h2▸zqu h1,λb hb=>hb⟩;show ar ((ks.map vi).set q (vi a),(ks.map f).set q v)=_
  congr 2
  ·rw[<-List.map_set,<-h2,List.set_getElem_self h1]
  ·refine List.ext_getElem (by simp) λi hi1 hi2=> ?_;rw[List.getElem_set];simp only[List.getElem_map];have hik:i<aa ks:=by simpa using hi2
   split
   ·rename_i e;subst e;rw[if_pos h2]
   ·rename_i e;rw[if_neg λe2=>e ?_];exact(List.getElem_inj (h₀:=h1) (h₁:=hik) hn).1 (h2.trans e2.symm)
end
end Go.Proofs.YthdidjjecjhenaaGreat
