/- Lemmas for this claim, part F07: each holds under what it names. -/
import Derived.Test.YthdidjjecjhenaaGreatF06
import Derived.Test.YthdidjjecjhenaaGreatA8
import Derived.Test.YthdidjjecjhenaaGreatA7
set_option linter.unusedVariables false
set_option linter.unusedSimpArgs false
set_option linter.unnecessarySimpa false
set_option maxRecDepth 20000
set_option maxHeartbeats 4000000
namespace Go.Proofs.YthdidjjecjhenaaGreat
open Go Go.Proofs Go.Abs
section
variable{n:Nat}{bud:Int}{L:Lay}{S:St}{h:H}{a:Int}{j:Nat}{l d Lc:List Cl}
theorem ES{B:Nat}(big:Big n l bud B)(hs:HS n bud L S h)(hcl:∀c∈l,∀a∈c,a≠0/\a.natAbs<=n)(g0:Going n l bud (2*S.ln.length) S){R:AEnd->H->(Nat->Bool)->Prop}
 (hr:∀S' L' h' p res,Inv n l l S'.ln S'->(S'.ln.length:Int)<=bud->Yf n l bud S' res->LX 0 L L'->HS n bud L' S' h'->DX L p->h.length<=h'.length->R (.pan (.iface 134 (.agg [vi res]))) h' p):ag TE 68 [.lp L.s 0] h R:=by
 have hM:=mLx;have hn:=big.nn;refine ah Tryz.func68 rfl (by simp[nts]) ?_;refine vn ?_;simp only[wq.1,Nat.reduceLT,Tryz.results68];refine vn ?_;simp only[wq.1,Nat.reduceLT];refine Aa ?_;simp only[wq.1];refine aB ?_;refine nZ (q:=117) (first:=[]) (captured:=[]) (by simp only[wq.1,↓reduceIte]) (by simp only[wq.1,↓reduceIte]) (by simp only[wq.1]) ?_;have e1:([]++[V.yd ((h++[O.cells [V.lp L.s 0]]).length+1)]++[])=[V.yd (h.length+2)]:=by simp
 have e2:(h++[O.cells [V.lp L.s 0]]).length=h.length+1:=by simp
 rw[e1,zqc,zqc];have hT:∀p:Nat->Bool,p L.s=false->p h.length=false->∀i,((((Fr.init [V.lp L.s 0]).put (some 1) (V.lp h.length 0)).put (some 5) (V.fn (Fn.func 117) [] [])).t i).drop p=(((Fr.init [V.lp L.s 0]).put (some 1) (V.lp h.length 0)).put (some 5) (V.fn (Fn.func 117) [] [])).t i:=fun p q1 q2 i=>by
  simp only[Fr.put,Fr.init];split
  ·simp only[V.drop,V.drops]
  ·split
   ·simp only[V.drop,q2,cond_false,if_false,zrm]
   ·match i with
    |0=>simp only[List.getD_cons_zero,V.drop,q1,cond_false,if_false,zrm]
    |i+1=>simp[V.drop,V.drops,mP]
 refine ER big g0 hs hT (by simp only[wq.1,seval];try rfl) ?_ ?_ ?_
 ·intro lb f h Q hq;refine vm ?_;simp only[wq.1,Nat.reduceLT];exact hq
 ·intro lb S1 L1 h1 f1 nn g1 hs1 x1 hbx ft1 ft2 hn1 hn2 fd dx;have hsol1:=hs1.sol;have hbox1:=(hs1.ext _ _ hbx).1;have es1:L1.s=L.s:=x1.s;have hbox1:h1[h.length]? =some (.cells [.lp L1.s 0]):=by rw[es1];exact hbox1
  have hB1 := big.few S1 g1.inv g1.ln;have hnx := big.nx;have hncb := big.nc;refine uP ?_;refine oq (iT ?_);refine vm ?_;simp only [wq.1,seval,ft1,hbox1,hsol1,ax];refine oq (uP ?_);refine Oa 2 (fun m f2 h2 => ∃ (S2 : St) (L2 : Lay),m = (B - S2.ln.length) * (n + 2) + (n + 1 - S2.lv.length) /\ Going n l bud (S1.ln.length + S2.ln.length) S2 /\ S1.ln.length <= S2.ln.length /\ LX 0 L1 L2 /\ HS n bud L2 S2 h2 /\ f2.t 1 = .lp h.length 0 /\ f2.t 2 = vi nn /\ f2.t 3 = vi S1.ln.length /\ f2.d = [] /\ DX L1 f2.k /\ h1.length <= h2.length) ((B - S1.ln.length) * (n + 2) + (n + 1 - S1.lv.length))
   ⟨S1,L1,rfl,⟨g1.inv,g1.ln,g1.nc,Vq g1.nx (by omega)⟩,zrb _,LX.refl _ _,hs1,ft1,ft2,by simp only[wq.1,↓reduceIte];try rfl,fd,dx,zrb _⟩ ?_
  rintro m f2 h2 ⟨S2,L2,hm,g2,hle,x2,hs2,e1,e2,e3,ed,ek,hl2⟩;have hsol2:=hs2.sol;have es2:L2.s=L1.s:=x2.s;have hbx2:L2.ro h.length=some (.e (wY L)):=x2.ro _ _ hbx;have hbox2:h2[h.length]? =some (.cells [.lp L2.s 0]):=by rw[es2,es1];exact(hs2.ext _ _ hbx2).1
  have hB2:=big.few S2 g2.inv g2.ln;have hwa:IntKind.i64.wrap ((S1.ln.length:Int)+(nn:Int))=((S1.ln.length+nn:Nat):Int):=by rw[aU (by omega) (by omega)];omega
  by_cases hlt:S2.ln.length<S1.ln.length+nn
  ·have eb:decide ((S2.ln.length:Int)<((S1.ln.length+nn:Nat):Int))=true:=by rw[zqb];omega
   refine oq (iT ?_);refine vm ?_;simp only[wq.1,seval,e1,e2,e3,hbox2,hsol2,ax,hwa,eb];refine uP ?_;refine oq (iT ?_);refine vm ?_;simp only[wq.1,seval,e1,hbox2];refine Ll hs2 hn (by have:=g2.nc;omega) g2.inv (fun S3 L3 h3 p i3 pr3 hh3 x3 hs3 hl3 dr3=> ?_) (fun S3 L3 h3 p j i3 pr3 hj3 hf3 ht3 x3 hs3 hl3 dr3=> ?_)
   ·have dx3:DX L2 p:=Xh x3 hs2 dr3;have p1:=dx3.e hbx2;have p2:=dx3.s hs2.toHR;have hbx3:L3.ro h.length=some (.e (wY L)):=x3.ro _ _ hbx2;have es3:L3.s=L2.s:=x3.s;have hbox3:h3[h.length]? =some (.cells [.lp L3.s 0]):=by rw[es3,es2,es1];exact(hs3.ext _ _ hbx3).1
    simp only[wq.1,seval,bJ,ed];refine oq (iT ?_);refine vm ?_;simp only[wq.1,seval];refine Ej (b:=false) (by simp only[wq.1,↓reduceIte]) (by simp only[wq.1,↓reduceIte];rfl) (fun h=>by cases h) (fun _=> ?_);refine yw ?_;simp only[wq.1,seval,Aq,BR,e1,p1,hbox3];refine EO hs3 hn i3 hh3 (by rw[pr3.nx];exact big.nx_big g2.nx (by omega)) (fun h4 i4 hs4 hl4=> ?_) (fun nx a h4 p4 i4 hnx4 hs4 hl4 hp4=> ?_)
    ·simp only[wq.1,Ap,ed];refine⟨nxS S3 [],L3,1,rfl,by rw[show(nxS S3 []).ln=S2.ln from pr3.ln];exact i4,by rw[show(nxS S3 []).ln=S2.ln from pr3.ln];exact g2.ln,.inr (.inl ⟨rfl,Inv.some i4 hh3 rfl hcl⟩),x2.trans (x3.mono (Nat.zero_le _)),hs4,?_,by omega⟩;exact fun q r hq hpq=>(ek.or (dx3.back x2.ro)) q r hq (by simpa using hpq)
    ·have dx4:DX L3 p4:=fun q r hq hpq=>by
      rcases hp4 q hpq with h|h
      ·subst h;rw[hs3.rl]at hq;cases hq;exact .inr (.inl rfl)
      ·subst h;rw[hs3.rt]at hq;cases hq;exact .inl rfl
     have q1:=dx4.e hbx3;simp only[wq.1,seval,Ap,ed,e1,e2,e3,p1,q1];have elv:(MH (nxS S3 nx) a).lv=S2.lv++[S3.tr.length]:=by show S3.lv++[S3.tr.length]=_;rw[pr3.lv]
     have hlvn:(MH (nxS S3 nx) a).lv.length<=n:=Nat.le_trans (gI (i4.t.lvs.imp fun h=>by omega) fun x hx=>i4.lt x hx) i4.t.len;have eln:(MH (nxS S3 nx) a).ln=S2.ln:=pr3.ln;have hlen:(MH (nxS S3 nx) a).lv.length=S2.lv.length+1:=by rw[elv];simp
     refine .inl ⟨(B-S2.ln.length)*(n+2)+(n+1-(S2.lv.length+1)),by omega,MH (nxS S3 nx) a,L3,by rw[eln,hlen],⟨by rw[eln];exact i4,by rw[eln];exact g2.ln,by rw[eln];exact pr3.nc▸g2.nc,?_⟩,by rw[eln];exact hle,x2.trans (x3.mono (Nat.zero_le _)),hs4,?_,by omega⟩
     ·rw[eln];show nx.length<=_;have:=g2.nx;rw[pr3.nx]at hnx4;omega
     ·exact fun q r hq hpq=>((ek.or (dx3.back x2.ro)).or (dx4.back (x2.trans (x3.mono (Nat.zero_le _))).ro)) q r hq (by simpa using hpq)
   ·have dx3:DX L2 p:=Xh x3 hs2 dr3;have p1:=dx3.e hbx2;have p2:=dx3.s hs2.toHR;have hbx3:L3.ro h.length=some (.e (wY L)):=x3.ro _ _ hbx2;have es3:L3.s=L2.s:=x3.s;have hbox3:h3[h.length]? =some (.cells [.lp L3.s 0]):=by rw[es3,es2,es1];exact(hs3.ext _ _ hbx3).1
    have ecl:clV L3 S3 j= .ls (L3.c j) 1 0 (S3.cl j).length (S3.cl j).length:=rfl;have hc2:0<(S3.cl j).length:=by have:=i3.c.c2 j hj3;omega
    simp only[wq.1,seval,bJ,ed];refine oq (iT ?_);refine vm ?_;simp only[wq.1,seval,ecl];intro b hb;have hb:b=false:=by
     cases b with
     |false=>rfl
     |true=>have:=hb rfl;omega
    subst hb;simp only[wq.1];refine Ej (b:=true) (by simp only[wq.1,↓reduceIte]) (by simp only[wq.1,↓reduceIte];rfl) (fun _=> ?_) (fun h=>by cases h);refine yw ?_;simp only[wq.1,seval,Aq,BR,e1,p1,hbox3];rw[<-ecl];have i3':Inv n l l S3.ln S3:=by rw[pr3.ln];exact i3
    have hB3:S3.ln.length<=B:=by rw[pr3.ln];exact hB2
    refine zZ hs3 hn i3' hj3 hf3 ht3 (by have:=g2.nc;rw[pr3.nc];omega) (by rw[pr3.nx];exact big.nx_big g2.nx (by omega)) (by omega) (fun hlv=> ?_) (fun hbd=> ?_) (fun S4 L4 h4 p4 out hbd i4 eln4 hnx4 hnc4 x4 hs4 hl4 dx4=> ?_)
    ·simp only[wq.1,Ap,ed];refine⟨S3,L3,0,rfl,i3',by rw[pr3.ln];exact g2.ln,.inl ⟨rfl,Inv.none i3' hlv hj3 hf3⟩,x2.trans (x3.mono (Nat.zero_le _)),hs3,?_,by omega⟩;exact fun q r hq hpq=>(ek.or (dx3.back x2.ro)) q r hq (by simpa using hpq)
    ·simp only[wq.1,Ap,ed];refine⟨S3,L3,2,rfl,i3',by rw[pr3.ln];exact g2.ln,.inr (.inr ⟨rfl,by have:=g2.ln;rw[pr3.ln]at hbd ⊢;omega⟩),x2.trans (x3.mono (Nat.zero_le _)),hs3,?_,by omega⟩;exact fun q r hq hpq=>(ek.or (dx3.back x2.ro)) q r hq (by simpa using hpq)
    ·have q1:=dx4.e hbx3;simp only[wq.1,seval,Ap,ed,e1,e2,e3,p1,q1];have e4:S4.ln.length=S2.ln.length+1:=by rw[eln4,pr3.ln];simp
     have hb4:(S4.ln.length:Int)<=bud:=by rw[pr3.ln]at hbd;omega
     have hB4:=big.few S4 i4 hb4;have emul:(B-S2.ln.length)*(n+2)=(B-S4.ln.length)*(n+2)+(n+2):=by rw[show B-S2.ln.length=(B-S4.ln.length)+1 by omega,Nat.succ_mul]
     refine .inl ⟨(B-S4.ln.length)*(n+2)+(n+1-S4.lv.length),by omega,S4,L4,rfl,⟨i4,hb4,by have:=g2.nc;rw[pr3.nc]at hnc4;omega,?_⟩,by omega,(x2.trans (x3.mono (Nat.zero_le _))).trans (x4.mono (Nat.zero_le _)),hs4,?_,by omega⟩
     ·rw[e4];rw[pr3.nx]at hnx4;exact Ug g2.nx hnx4
     ·exact fun q r hq hpq=>((ek.or (dx3.back x2.ro)).or (dx4.back (x2.trans (x3.mono (Nat.zero_le _))).ro)) q r hq (by simpa using hpq)
  ·have eb:decide ((S2.ln.length:Int)<((S1.ln.length+nn:Nat):Int))=false:=by rw[zqd];omega
   refine oq (iT ?_);refine vm ?_;simp only[wq.1,seval,e1,e2,e3,ed,hbox2,hsol2,ax,hwa,eb];refine .inr ?_;refine iT ?_;refine vm ?_;simp only[wq.1,seval,e1,hbox2];by_cases hlv:S2.lv=[]
   ·refine OT hs2 (k:=0) (by rw[hlv];exact zrb _) (by omega) ?_;simp only[wq.1,reduceCtorEq];exact⟨S2,L2,⟨g2.inv,g2.ln,g2.nc,Vq g2.nx (by omega)⟩,by omega,x2,hs2,ek,hl2⟩
   ·have hk0:0<S2.lv.length:=List.length_pos_iff.2 hlv;have hb0:S2.lv.getD 0 0<=S2.tr.length:=by rw[jo hk0];have h1:=g2.inv.t.lvh _ (zqu hk0);have h2:=g2.inv.t.hdl;omega
    have htl2:=g2.inv.t.len;have hlvt:S2.lv.length<=S2.tr.length:=gI (g2.inv.t.lvs.imp fun h=>by omega) fun x hx=>g2.inv.lt x hx;have hnx2:=big.nx_big g2.nx (by omega);refine uZ hs2 hn hk0 rfl hb0 (by omega) (by omega) g2.inv.t.nd (fun a ha=>(g2.inv.t.rng a ha).2) (by omega) fun nx h3 p3 hp3 hs3 hl3 hd3=> ?_;simp only[wq.1,reduceCtorEq,bJ,ed];have hln3:nx.length<=S2.nx.length+n:=by have:=hp3.length_eq;rw[zqa,zra,List.length_drop]at this;omega
    have i3:Inv n l l S2.ln (fG S2 0 nx):=EF g2.inv hk0 (fun x hx=>hp3.mem_iff.2 (List.mem_append_left _ hx)) (fun a ha=>hp3.mem_iff.2 (List.mem_append_right _ (zrh.2 ⟨a,ha,rfl⟩))) (fun x hx=>by
     rcases zrf.1 (hp3.mem_iff.1 hx)with hx|hx
     ·exact .inl hx
     ·obtain⟨a,ha,rfl⟩:=zrh.1 hx;exact .inr ⟨a,ha,rfl⟩)
    have dx3:DX L2 p3:=fun q r hq hpq=>by have:=hd3 q hpq;subst this;rw[hs2.rx]at hq;cases hq;exact .inr (.inr (.inl rfl))
    exact⟨fG S2 0 nx,L2,⟨i3,g2.ln,g2.nc,Vq (Ug g2.nx hln3) (by show S1.ln.length+S2.ln.length+1<=2*S2.ln.length;omega)⟩,by show S1.ln.length+nn<=S2.ln.length;omega,x2,hs3,ek.or (dx3.back x2.ro),by omega⟩
 ·intro S2 M h2 p res i2 hb2 he2 x2 hrd hp hs2 dx2 hl2;unfold TV;rw[e2];refine⟨fun i hi=> ?_,?_⟩
  ·have hi:i∈[h.length+1]:=hi;rw[zrc.1 hi];exact hp
  show(match jE [h.length+1] h2 with|some h'=>R (.pan _) h' (fun q=>false||p q)|none=>False);have hg:=(hs2.ext _ _ hrd).1;unfold jE;rw[hg];have no1:L.ro (h.length+1)=none:=by
   cases e:L.ro (h.length+1)with
   |none=>rfl
   |some r=>have:=hs.rlt _ _ e;omega
  have xr:LX 0 L (reE M (h.length+1) (.misc .shut)):=⟨x2.s,x2.v,x2.m,x2.t,x2.l,x2.x,x2.g,x2.c,x2.w,fun q r hq=>by
   rw[yQ (fun e=>by rw[e,no1]at hq;cases hq)];exact x2.ro q r hq⟩
  exact hr S2 _ _ _ res i2 hb2 he2 xr (hs2.re hrd fun p hp=>rfl) (fun q r hq hpq=>dx2 q r hq (by simpa using hpq)) (by rw[zrn];omega)
end
section
variable{n:Nat}{bud:Int}{L:Lay}{S:St}{h:H}{a:Int}{j:Nat}{l d Lc:List Cl}
def Uh:Plan:= .take 0<| .alt 1 (.alt 2 (.take 3<| .take 4<| .alt 5 (.alt 6 (.one 7<| .take 8<| .take 9<|onZ [10,11,12,13]<| .fin) (.one 7 (.take 8<| .take 9<| .alt 6 (onZ [10,11,12,13]<| .fin) (.one 10 (onZ [6,11,12,13]<| .fin))))) (.one 7 (.take 8<| .take 9<| .alt 5 (.alt 6 (onZ [10,11,12,13]<| .fin) (.one 10 (onZ [6,11,12,13]<| .fin))) (.one 10 (onZ [5,6,11,12,13]<| .fin))))) (.one 7 (.take 8<| .take 9<| .alt 2 (.take 3<| .take 4<| .alt 5 (.alt 6 (onZ [10,11,12,13]<| .fin) (.one 10 (onZ [6,11,12,13]<| .fin))) (.one 10 (onZ [5,6,11,12,13]<| .fin))) (.one 10 (.one 2<| .take 3<| .take 4<|onZ [5,6,11,12,13]<| .fin))))) (.alt 2 (.take 3<| .take 4<| .alt 1 (.alt 5 (.alt 6 (.one 7<| .take 8<| .take 9<|onZ [10,11,12,13]<| .fin) (.one 7 (.take 8<| .take 9<| .alt 6 (onZ [10,11,12,13]<| .fin) (.one 10 (onZ [6,11,12,13]<| .fin))))) (.one 7 (.take 8<| .take 9<| .alt 5 (.alt 6 (onZ [10,11,12,13]<| .fin) (.one 10 (onZ [6,11,12,13]<| .fin))) (.one 10 (onZ [5,6,11,12,13]<| .fin))))) (.alt 5 (.alt 1 (.alt 6 (.one 7<| .take 8<| .take 9<|onZ [10,11,12,13]<| .fin) (.one 7 (.take 8<| .take 9<| .alt 6 (onZ [10,11,12,13]<| .fin) (.one 10 (onZ [6,11,12,13]<| .fin))))) (.alt 6 (.alt 1 (.one 7<| .take 8<| .take 9<|onZ [10,11,12,13]<| .fin) (.one 7 (.take 8<| .take 9<| .alt 1 (onZ [10,11,12,13]<| .fin) (.one 10 (onZ [1,11,12,13]<| .fin))))) (.one 7 (.take 8<| .take 9<| .alt 1 (.alt 6 (onZ [10,11,12,13]<| .fin) (.one 10 (onZ [6,11,12,13]<| .fin))) (.alt 6 (.alt 1 (onZ [10,11,12,13]<| .fin) (.one 10 (onZ [1,11,12,13]<| .fin))) (.one 10 (.alt 1 (onZ [6,11,12,13]<| .fin) (.one 6 (onZ [1,11,12,13]<| .fin))))))))) (.one 7 (.take 8<| .take 9<| .alt 1 (.alt 5 (.alt 6 (onZ [10,11,12,13]<| .fin) (.one 10 (onZ [6,11,12,13]<| .fin))) (.one 10 (onZ [5,6,11,12,13]<| .fin))) (.alt 5 (.alt 1 (.alt 6 (onZ [10,11,12,13]<| .fin) (.one 10 (onZ [6,11,12,13]<| .fin))) (.alt 6 (.alt 1 (onZ [10,11,12,13]<| .fin) (.one 10 (onZ [1,11,12,13]<| .fin))) (.one 10 (.alt 1 (onZ [6,11,12,13]<| .fin) (.one 6 (onZ [1,11,12,13]<| .fin)))))) (.one 10 (.alt 1 (onZ [5,6,11,12,13]<| .fin) (.one 5 (.alt 1 (onZ [6,11,12,13]<| .fin) (.one 6 (onZ [1,11,12,13]<| .fin))))))))))) (.one 7 (.take 8<| .take 9<| .alt 1 (.alt 2 (.take 3<| .take 4<| .alt 5 (.alt 6 (onZ [10,11,12,13]<| .fin) (.one 10 (onZ [6,11,12,13]<| .fin))) (.one 10 (onZ [5,6,11,12,13]<| .fin))) (.one 10 (.one 2<| .take 3<| .take 4<|onZ [5,6,11,12,13]<| .fin))) (.alt 2 (.take 3<| .take 4<| .alt 1 (.alt 5 (.alt 6 (onZ [10,11,12,13]<| .fin) (.one 10 (onZ [6,11,12,13]<| .fin))) (.one 10 (onZ [5,6,11,12,13]<| .fin))) (.alt 5 (.alt 1 (.alt 6 (onZ [10,11,12,13]<| .fin) (.one 10 (onZ [6,11,12,13]<| .fin))) (.alt 6 (.alt 1 (onZ [10,11,12,13]<| .fin) (.one 10 (onZ [1,11,12,13]<| .fin))) (.one 10 (.alt 1 (onZ [6,11,12,13]<| .fin) (.one 6 (onZ [1,11,12,13]<| .fin)))))) (.one 10 (.alt 1 (onZ [5,6,11,12,13]<| .fin) (.one 5 (.alt 1 (onZ [6,11,12,13]<| .fin) (.one 6 (onZ [1,11,12,13]<| .fin)))))))) (.one 10 (.alt 1 (.one 2<| .take 3<| .take 4<|onZ [5,6,11,12,13]<| .fin) (.one 2 (.take 3<| .take 4<| .alt 1 (onZ [5,6,11,12,13]<| .fin) (.one 5 (.alt 1 (onZ [6,11,12,13]<| .fin) (.one 6 (onZ [1,11,12,13]<| .fin))))))))))))
theorem Jg{α:Type}(f:Nat->List α)(k:Nat)(hk:∀i,(f i).length=k):∀(m j:Nat),j<m->(((List.range m).flatMap f).drop (j*k)).take k=f j
 |0,j,h=>by omega
 |m+1,j,h=>by
  have hlen:∀m,((List.range m).flatMap f).length=m*k:=by
   intro m
   induction m with
   |zero=>simp
   |succ m ih=>rw[List.range_succ,List.flatMap_append,zqa,ih];simp[hk,Nat.succ_mul]
  rw[List.range_succ,List.flatMap_append];by_cases hj:j<m
  ·have h1:(j+1)*k<=m*k:=Nat.mul_le_mul_right k hj;rw[Nat.succ_mul]at h1;rw[List.drop_append_of_le_length (by rw[hlen];omega),List.take_append_of_le_length (by rw[List.length_drop,hlen];omega)];exact Jg f k hk m j hj
  ·have:j=m:=by omega
   subst this;have h2:((List.range j).flatMap f).drop (j*k)=[]:=List.drop_of_length_le (by rw[hlen];exact zrb _);rw[List.drop_append,h2,hlen,Nat.sub_self,List.drop_zero];simp[<-hk j]
structure Got(n:Nat)(bud:Int)(L:Lay)(S:St)(c7 b9:Nat)(h:H):Prop where
 b:h[b9]? =some (.cells [.lp L.s 0])
 s:h[L.s]? =some (.cells (ax n bud L S))
 v:h[L.v]? =some (.cells (dP L S n))
 g:h[L.g]? =some (.cells ((List.range S.ln.length).map (lnV L S)))
 k:∀i,i<S.ln.length->h[L.k i]? =some (.cells ((S.ln.getD i []).map vi))
 e:h[c7]? =some (.cells [vi 0])
theorem Got.of(hs:HS n bud L S h){b9 c7:Nat}(hb9:L.ro b9=some (.e (wY L)))(hc7:L.ro c7=some (.e (.cells [vi 0]))):Got n bud L S c7 b9 h :=
 ⟨(hs.ext _ _ hb9).1,hs.sol,hs.var,hs.lnl,fun i hi=>(hs.lnk i hi).1,(hs.ext _ _ hc7).1⟩
variable{h':H}{b9 c7:Nat}
theorem Got.map{h0:H}{p:Nat->Bool}(k:Got n bud L S c7 b9 h')(hs:HS n bud L S h0)(hb9:L.ro b9=some (.e (wY L)))(hc7:L.ro c7=some (.e (.cells [vi 0])))(hp:∀i r,L.ro i=some r->p i=false):Got n bud L S c7 b9 (h'.map (O.drop p)):=by
 have g0:=Got.of hs hb9 hc7;have g1:=Got.of (hs.dropN hp) hb9 hc7;have key:∀ {i:Nat} {o:O},h0[i]? =some o->(h0.map (O.drop p))[i]? =some o->h'[i]? =some o->(h'.map (O.drop p))[i]? =some o:=fun {i o} q1 q2 q3=>by rw[zqo,q1,zrw]at q2;rw[zqo,q3,zrw,q2]
 exact⟨key g0.b g1.b k.b,key g0.s g1.s k.s,key g0.v g1.v k.v,key g0.g g1.g k.g,fun i hi=>key (g0.k i hi) (g1.k i hi) (k.k i hi),key g0.e g1.e k.e⟩
theorem Got.congr(k:Got n bud L S c7 b9 h)(he:∀i,(i=b9\/i=L.s\/i=L.v\/i=L.g\/(∃j,j<S.ln.length/\i=L.k j)\/i=c7)->h'[i]? =h[i]?):Got n bud L S c7 b9 h' :=
 ⟨(he _ (.inl rfl)).trans k.b,(he _ (.inr (.inl rfl))).trans k.s,(he _ (.inr (.inr (.inl rfl)))).trans k.v,(he _ (.inr (.inr (.inr (.inl rfl))))).trans k.g,fun i hi=>(he _ (.inr (.inr (.inr (.inr (.inl ⟨i,hi,rfl⟩)))))).trans (k.k i hi),(he _ (.inr (.inr (.inr (.inr (.inr rfl)))))).trans k.e⟩
theorem OZ(hs:HS n bud L S h)(hn:n<=20000){b9 c6 c7:Nat}(hb9:L.ro b9=some (.e (wY L)))(hc6:L.ro c6=some (.e (.cells [vi 0,.nils,vi 0,.nils])))(hc7:L.ro c7=some (.e (.cells [vi 0])))(h67:c6≠c7)(res:Int)(hln:S.ln.length<=1000000000000){K:H->(Nat->Bool)->Prop}
 (hk:∀h' p va vs,((res≠1/\vs=[])\/(res=1/\vs=mG n S))->((va= .nils/\vs=[])\/∃id,va= .ls id 1 0 vs.length vs.length/\h'[id]? =some (.cells (vs.map .bool)))->h'[c6]? =some (.cells [vi res,va,vi S.ln.length,.ls L.g 1 0 S.ln.length S.ln.length]) ->
  Got n bud L S c7 b9 h'->(∀q,p q=true->L.ro q=none)->K h' p) :
 rG TE 65 [.lp b9 0,.lp c6 0,.lp c7 0] (.iface 134 (.agg [vi res])) h K:=by
 have hM:=mLx;have e1:∀o o':O,List.set (h++[o]) h.length o'=h++[o']:=fun o o'=>by rw[List.set_append_right _ _ (zrb _)];simp
 have e2:∀o:O,(h++[o])[h.length]? =some o:=fun o=>by simp
 refine zO rfl Tryz.func65 rfl rfl (by simp[nts]) rfl (fun ev w=>rfl) rfl (by decide) ?_;simp only[nts];refine aK rfl rfl ?_;simp only[wq.1,↓reduceIte];refine⟨by decide,?_⟩;refine aK rfl rfl ?_;simp only[wq.1,↓reduceIte];refine aK rfl rfl ?_;simp only[wq.1,seval];refine aK rfl rfl ?_;simp only[wq.1,seval];refine aK rfl rfl ?_;simp only[wq.1];refine aK rfl rfl ?_;simp only[wq.1,seval,e1,e2];refine aK rfl rfl ?_;simp only[wq.1,seval];refine jR ?_;show awp _ _ _ _ _ _ _;have hA:=hs.app [O.cells [vi res]];obtain⟨hB,ehB⟩:∃hB,hB=h++[O.cells [vi res]]:=⟨_,rfl⟩;have hBl:hB.length=h.length+1:=by rw[ehB];simp
 have hBt:hB[h.length]? =some (.cells [vi res]):=by rw[ehB];exact e2 _
 rw[<-ehB]at hA;have hb9':=(hA.ext _ _ hb9).1;have hc6':=(hA.ext _ _ hc6).1;have hc7':=(hA.ext _ _ hc7).1;have hsolA:=hA.sol;unfold wY at hb9';have hl6:=hA.rlt _ _ hc6;have hl7:=hA.rlt _ _ hc7;have e3:(h++[O.cells [V.int IntKind.i64 res]])=hB:=ehB.symm;refine vn ?_;simp only[wq.1,seval,e3];refine ak ?_;refine bM dV Uh (fun f' h'=>f'.t 0= .lp b9 0/\f'.t 1= .lp c6 0/\f'.t 2= .lp c7 0/\f'.t 3= .lp h.length 0/\f'.d=[]/\(∀q,f'.k q=false)/\h'=(hB.set c6 (.cells [vi res,.nils,vi S.ln.length,.ls L.g 1 0 S.ln.length S.ln.length])).set c7 (.cells [vi 0])) (by decide +kernel) (by decide +kernel) ?_ ?_
 ·simp only[wq.1,seval,-Int.reduceNatCast,-Int.reduceNatCast',Uh,hBt,hb9',hc6',hc7',hsolA,ax,zqn,h67,ne_eq,not_false_eq_true]
 ·rintro f2 h2 ⟨g0,g1,g2,g3,gd,gk,rfl⟩;show awp _ _ _ _ _ _ _;have ne67:∀i,(i=b9\/i=L.s\/i=L.v\/i=L.g\/(∃j,j<S.ln.length/\i=L.k j)\/i=c7)->c6≠i/\∃r,L.ro i=some r:=fun i hi=>by
   rcases hi with rfl|rfl|rfl|rfl|⟨j,hj,rfl⟩|rfl
   ·exact⟨bT L hc6 hb9 (by simp[wY]),_,hb9⟩
   ·exact⟨bT L hc6 hs.rs (by simp),_,hs.rs⟩
   ·exact⟨bT L hc6 hs.rv (by simp),_,hs.rv⟩
   ·exact⟨bT L hc6 hs.rg (by simp),_,hs.rg⟩
   ·exact⟨bT L hc6 (hs.lnk j hj).2 (by simp),_,(hs.lnk j hj).2⟩
   ·exact⟨h67,_,hc7⟩
  have hgot:Got n bud L S c7 b9 ((hB.set c6 (.cells [vi res,.nils,vi S.ln.length,.ls L.g 1 0 S.ln.length S.ln.length])).set c7 (.cells [vi 0])):=by
   refine(Got.of hA hb9 hc7).congr fun i hi=> ?_;obtain⟨q1,r,q2⟩:=ne67 i hi;by_cases q3:c7=i
   ·subst q3;rw[zqt (by simpa using hl7)];exact hc7'.symm
   ·rw[zqn q3,zqn q1]
  obtain⟨h2,eh2⟩:∃h2,h2=(hB.set c6 (.cells [vi res,.nils,vi S.ln.length,.ls L.g 1 0 S.ln.length S.ln.length])).set c7 (.cells [vi 0]):=⟨_,rfl⟩;rw[<-eh2]at hgot ⊢;have hc62:h2[c6]? =some (.cells [vi res,.nils,vi S.ln.length,.ls L.g 1 0 S.ln.length S.ln.length]):=by rw[eh2,zqn h67.symm,zqt hl6]
  have hro3:L.ro h.length=none:=OJ hs;have ht2:h2[h.length]? =some (.cells [vi res]):=by rw[eh2,zqn (fun e=>by rw[<-e,hc7]at hro3;cases hro3),zqn (fun e=>by rw[<-e,hc6]at hro3;cases hro3)];exact hBt
  have hl2:h2.length=h.length+1:=by rw[eh2];simp[hBl]
  by_cases hr1:res=1
  ·have eb:(res==1)=true:=by simpa using hr1
   refine vm ?_;simp only[wq.1,↓reduceIte,Nat.reduceLT,Nat.reduceLeDiff,Nat.reduceAdd,Int.reduceToNat,Int.reduceLE,reduceCtorEq,Nat.reduceMul,g0,g3,ht2,eb,hgot.b,hgot.s,ax];rw[Nat.add_sub_cancel];refine⟨by omega,?_⟩;have hvl:(mG n S).length=n:=by simp[mG]
   refine aC (fun m f3 h3=>∃(i:Nat)(va:V),m+i=n/\Got n bud L S c7 b9 h3/\h3[c6]? =some (.cells [vi res,va,vi S.ln.length,.ls L.g 1 0 S.ln.length S.ln.length]) /\
    ((i=0/\va= .nils)\/∃id,va= .ls id 1 0 i i/\h3[id]? =some (.cells (((mG n S).take i).map .bool))/\h.length<=id) /\
    f3.t 0= .lp b9 0/\f3.t 1= .lp c6 0/\f3.t 33= .ls L.v 5 5 n n/\f3.t 34=vi n/\f3.t 35=vi i/\f3.d=[]/\(∀q,f3.k q=true->h.length<=q)/\h.length<=h3.length) n
    ⟨0,.nils,by omega,hgot,hc62,.inl ⟨rfl,rfl⟩,g0,g1,rfl,by simp only[wq.1,seval];try rfl,by simp only[wq.1,↓reduceIte];try rfl,gd,(fun q hq=>by have hq:f2.k q=true:=hq;rw[gk]at hq;cases hq),by omega⟩ ?_
   rintro m f3 h3 ⟨i,va,hm,got,h36,hva,k0,k1,k33,k34,k35,kd,kk,hl3⟩;by_cases hi:i<n
   ·have eb2:decide ((i:Int)<(n:Int))=true:=by rw[zqb];omega
    have hv:=got.v;have hel:((dP L S n).drop (5+i*5)).take 5=gV L S (S.v (i+1)):=by rw[show 5+i*5=(i+1)*5 by omega];exact Jg (fun i=>gV L S (S.v i)) 5 (fun _=>rfl) (n+1) (i+1) (by omega)
    have e1':∀o o':O,List.set (h3++[o]) h3.length o'=h3++[o']:=fun o o'=>by rw[List.set_append_right _ _ (zrb _)];simp
    have e2':∀o:O,(h3++[o])[h3.length]? =some o:=fun o=>by simp
    have hvc5:(gV L S (S.v (i+1))).length=5:=rfl;have hao:cZ (gV L S (S.v (i+1)))=true:=by unfold gV;rcases EK L S (S.v (i+1)).reason with hrv|⟨id,len,hrv⟩<;>rw[hrv]<;>rfl
    have hg0:(gV L S (S.v (i+1))).getD 0 .any=vi (S.v (i+1)).value:=rfl;refine vn ?_;simp only[wq.1,Nat.reduceLT,k34,k35,eb2];refine vn ?_;simp only[wq.1,↓reduceIte];refine ak (aB ?_);refine vn ?_;simp only[wq.1,seval,-Int.reduceNatCast,-Int.reduceNatCast',k33,k35,hv,bV,hel,e1',e2',hvc5,hao];refine⟨⟨by omega,by omega⟩,by omega,?_⟩;have hlow:∀q r,L.ro q=some r->q<h.length:=fun q r hq=>hs.rlt _ _ hq;have hc6l:=hlow _ _ hc6;obtain⟨h4,eh4⟩:∃h4,h4=h3++[O.cells (gV L S (S.v (i+1)))]:=⟨_,rfl⟩;have q4t:h4[h3.length]? =some (.cells (gV L S (S.v (i+1)))):=by rw[eh4];exact e2' _
    have q46:h4[c6]? =some (.cells [vi res,va,vi S.ln.length,.ls L.g 1 0 S.ln.length S.ln.length]):=by rw[eh4,zqj (by omega)];exact h36
    have q4l:h4.length=h3.length+1:=by rw[eh4];simp
    have got4:Got n bud L S c7 b9 h4:=got.congr fun q hq=>by obtain⟨_,r,q2⟩:=ne67 q hq;rw[eh4,zqj (by have:=hlow _ _ q2;omega)]
    rw[<-eh4];have hws:IntKind.i64.wrap ((i:Int)+1)=((i+1:Nat):Int):=by rw[aU (by omega) (by omega)];omega
    have etk:(mG n S).take (i+1)=(mG n S).take i++[decide (0<(S.v (i+1)).value)]:=by rw[zrg,zqk (by omega)];simp[mG]
    have hc6l4:c6<h4.length:=by omega
    rcases hva with⟨rfl,rfl⟩|⟨idv,rfl,hid,hidl⟩
    ·have e3':∀o:O,(h4++[o])[c6]? =h4[c6]? :=fun o=>zqj hc6l4;refine vm ?_;simp only[wq.1,↓reduceIte,Nat.reduceEqDiff,Nat.reduceLT,Nat.reduceLeDiff,Nat.reduceAdd,reduceCtorEq,Nat.reduceMul,k1,q4t,q46,hg0,hvc5,e3'];refine⟨⟨rfl,by decide⟩,by decide,?_⟩;refine vm ?_;simp only[wq.1,seval,k35];refine .inl ⟨m-1,by omega,1,.ls h4.length 1 0 1 1,by omega,(got4.congr fun q hq=> ?_),zqt (by simp;omega),.inr ⟨h4.length,rfl,?_,by omega⟩,k0,k1,k33,k34,by simp only[wq.1,↓reduceIte];try rfl,kd,kk,by simp;omega⟩
     ·obtain⟨q1,r,q2⟩:=ne67 q hq;rw[zqn q1,zqj (by have:=hlow _ _ q2;omega)]
     ·rw[zqn (by omega)];have:=etk;simp only[Nat.zero_add,List.take_zero,List.nil_append]at this;rw[this];simp
    ·have hid4:h4[idv]? =some (.cells (((mG n S).take i).map .bool)):=by rw[eh4,zqj (zqe hid).1];exact hid
     have hidl4:=(zqe hid4).1;have hbl:(((mG n S).take i).map V.bool).length=i:=by rw[zra,zrl,hvl];omega
     have hdb:V.drops (fun x=>x==idv) (((mG n S).take i).map V.bool)=((mG n S).take i).map V.bool:=dQ fun v hv=>by obtain⟨_,_,rfl⟩:=zrh.1 hv;simp only[V.drop]
     have hn6:c6≠idv:=by omega
     have z6:(c6==idv)=false:=by simp[hn6]
     have z9:(b9==idv)=false:=by have:=hlow _ _ hb9;simp;omega
     have zv:(L.v==idv)=false:=by have:=hlow _ _ hs.rv;simp;omega
     have zg:(L.g==idv)=false:=by have:=hlow _ _ hs.rg;simp;omega
     have zt:(h3.length==idv)=false:=by have:=(zqe hid).1;simp;omega
     refine vm ?_;simp only[wq.1,↓reduceIte,Nat.reduceEqDiff,Nat.reduceLT,Nat.reduceLeDiff,Nat.reduceAdd,reduceCtorEq,Nat.reduceMul,k1,kd,q4t,q46,hg0,hvc5,hid4,hdb,z6,zg,zqn,hn6.symm,ne_eq,not_false_eq_true,zqo];refine⟨⟨rfl,by decide⟩,⟨by rw[zrl,hvl];omega,by omega,by omega⟩,?_⟩;refine vm ?_;simp only[wq.1,seval,k35,hws];have hroi:L.ro idv=none:=by
      cases e:L.ro idv with
      |none=>rfl
      |some r=>have:=hs.rlt _ _ e;omega
     have hnr:∀q r,L.ro q=some r->(fun x=>x==idv) q=false:=fun q r hq=>by simp only[beq_eq_false_iff_ne];rintro rfl;rw[hroi]at hq;cases hq
     have gotm:=got4.map hs hb9 hc7 hnr;refine .inl ⟨m-1,by omega,i+1,.ls idv 1 0 (i+1) (i+1),by omega,(gotm.congr fun q hq=> ?_),zqt (by simp;omega),.inr ⟨idv,rfl,?_,hidl⟩,by simp only[wq.1,seval,k0,z9],by simp only[wq.1,seval,k1,z6],by simp only[wq.1,seval,k33,zv],by simp only[wq.1,seval,k34],by simp only[wq.1,↓reduceIte];try rfl,kd,fun q hq=> ?_,by simp;omega⟩
     ·obtain⟨q1,r,q2⟩:=ne67 q hq;rw[zqn q1,zqn (fun e=>by rw[<-e,hroi]at q2;cases q2)]
     ·rw[zqn hn6,zqt (by simpa using hidl4),etk,zql];rfl
     ·rcases zsi hq with hq|hq
      ·exact kk q hq
      ·rw[show q=idv by simpa using hq];exact hidl
   ·have eb2:decide ((i:Int)<(n:Int))=false:=by rw[zqd];omega
    refine vm ?_;simp only[wq.1,seval,k34,k35,kd,eb2];have hin:i=n:=by omega
    refine hk h3 f3.k va (mG n S) (.inr ⟨hr1,rfl⟩) ?_ h36 got fun q hq=> ?_
    ·rcases hva with⟨h1,rfl⟩|⟨id,rfl,h2,_⟩
     ·exact .inl ⟨rfl,zse (by omega)⟩
     ·rw[hin]at h2 ⊢;rw[zqh (by omega)]at h2;exact .inr ⟨id,by rw[hvl],h2⟩
    ·cases e:L.ro q with
     |none=>rfl
     |some r=>have:=hs.rlt _ _ e;have:=kk q hq;omega
  ·have eb:(res==1)=false:=by simpa using hr1
   refine vm ?_;simp only[wq.1,seval,g3,gd,ht2,eb];exact hk h2 f2.k .nils [] (.inl ⟨hr1,rfl⟩) (.inl ⟨rfl,rfl⟩) hc62 hgot fun q hq=>by rw[gk]at hq;cases hq
end
section
variable{n:Nat}{bud:Int}{h:H}{l d Lc:List Cl}
def ro0:Nat->Option Ro
 |0=>some (.e (.cells [vi 0,.nils,vi 0,.nils]))
 |1=>some (.e (.cells [vi 0]))
 |2=>some .v
 |3=>some .m
 |4=>some .s
 |5=>some (.e (.cells [.lp 4 0]))
 |6=>some .t
 |7=>some .l
 |8=>some .x
 |9=>some .g
 |_=>none
def rX:Lay where
 s:=4
 v:=2
 m:=3
 t:=6
 l:=7
 x:=8
 g:=9
 c:=fun _=>0
 w:=fun _=>none
 k:=fun _=>0
 ro:=ro0
def Xi(n:Nat)(bud:Int):H :=
 [.cells [vi 0,.nils,vi 0,.nils],.cells [vi 0],.cells ((List.range (n+1)).flatMap fun _=>[vi 0,vi 0,.nils,vi 0,vi 0]),.map [] [],
  .cells (ax n bud rX (lD n [])),.cells [.lp 4 0],.cells [],.cells [],.cells [],.cells []]
theorem hs0:HS n bud rX (lD n []) (Xi n bud) where
 var:=rfl
 map:=⟨[],rfl,List.nodup_nil,fun a _=>⟨rfl,rfl⟩⟩
 trl:=rfl
 lvl:=rfl
 nxl:=rfl
 lnl:=rfl
 lnk:=fun i hi=>by simp[lD]at hi
 cla:=fun j hj=>by simp[lD]at hj
 wat:=fun a=>rfl
 fre:=fun i hi j hj=>by cases hj
 fwt:=fun a j hj=>by cases hj
 rs:=rfl
 rv:=rfl
 rm:=rfl
 rt:=rfl
 rl:=rfl
 rx:=rfl
 rg:=rfl
 rlt:=fun i r hi=>by
  show i<10;have hi:ro0 i=_:=hi;unfold ro0 at hi;split at hi<;>first|omega|cases hi
 ext:=fun i o hi=>by
  have hi:ro0 i=_:=hi;unfold ro0 at hi;split at hi<;>first|(cases hi;done)|skip
  ·cases hi;exact⟨rfl,fun p hp=>by simp only[aZ,V.drops,dY,V.drop]⟩
  ·cases hi;exact⟨rfl,fun p hp=>by simp only[aZ,V.drops,dY]⟩
  ·cases hi;refine⟨rfl,fun p hp=> ?_⟩;have h4:p 4=false:=by
    cases e:p 4 with
    |false=>rfl
    |true=>have:=hp 4 .s rfl e;simp at this
   simp only[aZ,V.drops,V.drop,h4,cond_false,if_false,zrm]
 sol:=rfl
variable{S:St}
theorem Log.few1(g:Log n l S):S.ln.length+1<=3^n:=by
 have h:=gI (m:=3^n) (l:=([]::S.ln).map fun c=>uT c n) (by
  rw[zrd,List.nodup_cons];refine⟨fun hm=> ?_,?_⟩
  ·obtain⟨c,hc,he⟩:=zrh.1 hm;obtain⟨h1,h2,h3⟩:=g.lrg c hc;obtain⟨a,r,rfl⟩:=List.exists_cons_of_ne_nil h1;have:=pU h2 h3 (by simp) (by simp) he a (by simp);cases this
  ·rw[List.Nodup,List.pairwise_map];refine g.lnew.imp_of_mem fun {a b} ha hb hab e=>hab fun x=> ?_;obtain⟨_,h1,h2⟩:=g.lrg a ha;obtain⟨_,h3,h4⟩:=g.lrg b hb;exact⟨pU h1 h2 h3 h4 e x,pU h3 h4 h1 h2 e.symm x⟩) (by
  intro x hx;obtain⟨c,_,rfl⟩:=zrh.1 hx;exact tN c n)
 simpa using h
def vg(l:List Cl)(n:Nat)(bud:Int)(res:Int)(vals:List Bool)(ln:List Cl):Prop :=
 (ln.length:Int)<=bud/\(∀m (hm:m<ln.length),Bad (l++ln.take m) (Cm ln[m]))/\(∀c∈ln,c≠[]/\(c.map Int.natAbs).Nodup/\∀a∈c,a≠0/\a.natAbs<=n)/\ln.length+1<=3^n /\
 ((res=0/\vals=[]/\Bad (l++ln) [])\/(res=1/\vals.length=n/\sat l vals=true)\/(res=2/\vals=[]/\(ln.length:Int)=bud))
def yR(l:List Cl)(vars budget:Int)(r:V):Prop :=
 (chk l vars≠0/\r= .tup [.agg [vi 0,aX [],vi 0,cls []],vi (chk l vars)]) \/
 (chk l vars=0/\∃res vals ln,r= .tup [.agg [vi res,aX vals,vi ln.length,cls ln],vi 0]/\vg l vars.toNat (max budget 0) res vals ln)
theorem ET{α:Type}{f g:α->V}{h':H}:∀ {l:List α},(∀i∈l,aH TE h' (f i) (g i))->aj TE h' (l.map f) (l.map g)
 |[],_=>aj.nil
 |a::l,hh=>aj.cons (hh a (by simp)) (ET fun i hi=>hh i (by simp[hi]))
variable{h':H}
theorem EU{L:Lay}(hg:h'[L.g]? =some (.cells ((List.range S.ln.length).map (lnV L S))))(hk:∀i,i<S.ln.length->h'[L.k i]? =some (.cells ((S.ln.getD i []).map vi))):aH TE h' (.ls L.g 1 0 S.ln.length S.ln.length) (cls S.ln):=by
 refine aH.ls hg ?_ (G7 _) (Cj _) (by simp);have e:(S.ln.map fun c=>ay c)=(List.range S.ln.length).map fun i=>ay (S.ln.getD i []):=by
  apply List.ext_getElem?;intro i;by_cases hi:i<S.ln.length
  ·simp[hi,zqg]
  ·simp[Nat.not_lt.1 hi]
 rw[e];refine ET fun i hi=> ?_;exact aH.ls (hk i (List.mem_range.1 hi)) (aj.dat (jH _)) (IQ _) (Ci _) (by simp)
theorem O0{L:Lay}(hs:HS n bud L S h)(x0:LX 0 rX L)(hn:n<=20000)(hln:S.ln.length<=1000000000000){res budget:Int}(hbud:bud=max budget 0)(hz:chk l n=0)(hok:vg l n bud res (if res=1 then mG n S else []) S.ln)
 {f:Fr} (hd:f.d=[]) (h6:f.t 6= .lp 0 0) (h7:f.t 7= .lp 1 0) :
 rG TE 65 [.lp 5 0,.lp 0 0,.lp 1 0] (.iface 134 (.agg [vi res])) h (fun h'' p=>wI TE.P Tryz.f36.results.toList (fun v h k=>match AEnd.ret v with | .ret v=>∃r,yR l n budget r/\aH TE h v r | .pan _=>False) (f.drop p) h''):=by
 have r0:L.ro 0=some (.e (.cells [vi 0,.nils,vi 0,.nils])):=x0.ro 0 _ rfl;have r1:L.ro 1=some (.e (.cells [vi 0])):=x0.ro 1 _ rfl;have r5:L.ro 5=some (.e (wY L)):=by have:=x0.ro 5 _ (rfl:rX.ro 5=some (.e (.cells [.lp 4 0])));unfold wY;rw[x0.s];exact this
 refine OZ hs hn r5 r0 r1 (by decide) res hln ?_;intro h' p va vs hvs hva h0 got hp;have p0:p 0=false:=by
  cases e:p 0 with
  |false=>rfl
  |true=>have:=hp 0 e;rw[r0]at this;cases this
 have p1:p 1=false:=by
  cases e:p 1 with
  |false=>rfl
  |true=>have:=hp 1 e;rw[r1]at this;cases this
 have q6:V.drop p (f.t 6)= .lp 0 0:=by rw[h6];simp only[V.drop,p0,cond_false,if_false,zrm]
 have q7:V.drop p (f.t 7)= .lp 1 0:=by rw[h7];simp only[V.drop,p1,cond_false,if_false,zrm]
 have q8:(f.drop p).d=[]:=hd;have h1:=got.e;have hvse:vs=if res=1 then mG n S else []:=by
  rcases hvs with⟨q,rfl⟩|⟨q,rfl⟩
  ·rw[if_neg q]
  ·rw[if_pos q]
 unfold wI;rw[q8];simp only[jE];simp only[wq.1,seval,Tryz.results36,q6,q7,h0,h1];refine⟨.tup [.agg [vi res,aX vs,vi S.ln.length,cls S.ln],vi 0],.inr ⟨hz,res,vs,S.ln,rfl,?_⟩,?_⟩
 ·rw[hvse,<-hbud];exact hok
 ·refine aH.tup (aj.cons (aH.agg (aj.cons (aH.dat rfl) (aj.cons ?_ (aj.cons (aH.dat rfl) (aj.cons (EU got.g got.k) aj.nil))))) (aj.cons (aH.dat rfl) aj.nil));rcases hva with⟨rfl,rfl⟩|⟨id,rfl,hid⟩
  ·exact aH.nils
  ·exact aH.ls hid (aj.dat (lu _)) (U4 _) (Ox _) (by simp)
end
section
variable{n:Nat}{bud:Int}{h:H}{l d Lc:List Cl}
theorem Xj(b:Int):xI [vi b,vi 0]=(True,vi (max b 0)):=by
 simp only[xI];split
 ·rw[show max b 0=0 by omega]
 ·rw[show max b 0=b by omega]
theorem Sv(l:List Cl)(vars budget:Int)(hcn:∀c∈l,c.length<=1000)(hB:chk l vars=0->∃B,Big vars.toNat l (max budget 0) B):EvR TE 36 [cls l,vi vars,vi budget] (yR l vars budget):=by
 have hM:=mLx;refine EvR.of_calls ?_;refine zQ rfl Tryz.func36 rfl (by simp[nts]) fun ok pl0 w0=> ?_;simp only[nts];refine BV (Q:=fun _ _ _=>False) ?_ (fun _ _ _ h=>by obtain⟨_,_,_,_,_,_,h⟩:=h;exact h.elim);refine vm ?_;simp only[wq.1,Nat.reduceLT];refine BV (Q:=vV P [ResultVar.cell 6 63,ResultVar.cell 7 35] fun ae h _=>match ae with | .ret v=>∃r,yR l vars budget r/\aH TE h v r | .pan _=>False) ?_ ?_
 ·refine vm ?_;simp only[wq.1,seval];refine ag.ev (RH l vars) (by simp[V.dats,V.dat,tC]) ?_;by_cases hz:chk l vars=0
  ·have eb:(chk l vars != 0)=false:=by simp[hz]
   simp only[wq.1,seval,eb];obtain⟨B,big⟩:=hB hz;obtain⟨v1,v2,v3,v4⟩:=tu hz;obtain⟨n,en⟩:∃n:Nat,vars=n:=⟨vars.toNat,by omega⟩;subst en;have hn:n<=20000:=by omega
   rw[zsg]at big;have hw1:IntKind.i64.wrap ((n:Int)+1)=((n+1:Nat):Int):=by rw[aU (by omega) (by omega)];omega
   refine BV (Q:=fun _ _ _=>False) ?_ (fun _ _ _ h=>by obtain⟨_,_,_,_,_,_,h⟩:=h;exact h.elim);refine kH ?_;refine aK rfl rfl ?_;simp only[wq.1,seval];refine aK rfl rfl ?_;simp only[wq.1,↓reduceIte,hw1];refine iq rfl rfl ?_;refine zS (t:=127) rfl (q:={kind:= .slice 138,size:=1,bytes:=24,zero:= .nils}) (by simp only[wq.1]) (el:=138) rfl (re:={kind:=K.struct [(0,3),(1,3),(2,136),(3,3),(4,3)],size:=5,bytes:=56,zero:=V.agg [V.int IntKind.i64 0,V.int IntKind.i64 0,V.nils,V.int IntKind.i64 0,V.int IntKind.i64 0]}) (by simp only[wq.1]) rfl rfl (by decide) (by simp only[wq.1,↓reduceIte]) (by simp only[wq.1,↓reduceIte]) (k:= .i64) (k':= .i64) (m:=((n+1:Nat):Int)) (by simp only[wq.1,↓reduceIte]) (by simp only[wq.1,↓reduceIte]) (by omega) (by omega) (by decide) (by rw[zsg];show(n+1)*5<=_;omega) ?_;rw[zsg];simp only[wq.1,Nat.reduceAdd];refine aK rfl rfl ?_;simp only[wq.1,Nat.reduceAdd];refine aK rfl rfl ?_;simp only[wq.1,seval];refine aK rfl rfl ?_;simp only[wq.1,↓reduceIte,Xj];refine aK rfl rfl ?_;simp only[wq.1,seval];refine aK rfl rfl ?_;simp only[wq.1,seval];refine aK rfl rfl ?_;simp only[wq.1,Nat.reduceAdd];refine aK rfl rfl ?_;simp only[wq.1,seval];refine jR ?_;show WT _ _ _ _ _ _ _ _ _;refine KP rfl (fn:=Tryz.f36) (q:=65) (caps:=[.lp 5 0,.lp 0 0,.lp 1 0]) (fx:= .tmp 28) rfl rfl (by simp only[wq.1,seval]) rfl rfl rfl rfl (by simp only[wq.1,seval]) (by simp only[wq.1,seval]) (by simp only[wq.1]) rfl fun dd=> ?_;simp only[nts];obtain⟨ee,hee⟩:∃ee:E,ee={TE with tl:=[dd]}:=⟨_,rfl⟩;have hP:ee.P=P:=by rw[hee];rfl
   have hmix:ee.P.follows .mixedOrders=true:=by rw[hP];exact dV
   have hT:∀ {g:FuncId} {args:List V} {h:H} {R:AEnd->H->(Nat->Bool)->Prop},ag TE g args h R->ag ee g args h R:=fun hc=>by rw[hee];exact hc.tl _
   rw[<-hee];refine fP (fP (fP (fP ?_)));refine kZ (h':=Xi n (max budget 0)) ?_ ?_
   ·exact HLe.set (i:=4) (o':= .cells (ax n (max budget 0) rX (lD n []))) rfl (OLe.cells (zrb _) (eH.cons (VLe.refl _) (eH.cons (VLe.refl _) (eH.cons dC (eH.cons (VLe.refl _) (eH.cons dC (eH.cons dC (eH.cons dC (eH.cons (VLe.refl _) (eH.refl _))))))))))
   obtain⟨QP,eQP⟩:∃QP:V->Fr->H->Prop,QP=fun v f' h'=>f'.d=[]/\V.drops f'.k [V.lp 5 0,V.lp 0 0,V.lp 1 0]=[V.lp 5 0,V.lp 0 0,V.lp 1 0]/\rG TE 65 [V.lp 5 0,V.lp 0 0,V.lp 1 0] v h' fun h'' p=>wI TE.P Tryz.f36.results.toList (fun v h k=>∃r,yR l (↑n) budget r/\aH TE h v r) (f'.drop p) h'':=⟨_,rfl⟩;have dropL:∀ {p:Nat->Bool},DX rX p->V.drops p [.lp 5 0,.lp 0 0,.lp 1 0]=[.lp 5 0,.lp 0 0,.lp 1 0]:=fun {p} hp=>by have z5:p 5=false:=hp.e (rfl:rX.ro 5=some (.e _));have z0:p 0=false:=hp.e (rfl:rX.ro 0=some (.e _));have z1:p 1=false:=hp.e (rfl:rX.ro 1=some (.e _));simp only[V.drops,V.drop,z5,z0,z1,cond_false,if_false,zrm]
   have hfin:∀ {L':Lay} {S':St} {h':H} {res:Int} {f':Fr},HS n (max budget 0) L' S' h'->LX 0 rX L'->S'.ln.length<=1000000000000->vg l n (max budget 0) res (if res=1 then mG n S' else []) S'.ln->f'.d=[]->f'.t 6= .lp 0 0->f'.t 7= .lp 1 0->DX rX f'.k->QP (.iface 134 (.agg [vi res])) f' h':=fun k x hl hok kd k6 k7 kk=>by rw[eQP];exact⟨kd,dropL kk,O0 k x hn hl rfl hz hok kd k6 k7⟩
   refine dh (Q:=fun xe f' h'=>∃v,xe= .pan v/\QP v f' h') (fun xe f' h' ⟨v,e,hq⟩=>⟨v,e,by rw[eQP]at hq;exact hq⟩) ?_;have hbox:∀ {L':Lay} {S':St} {h':H},LX 0 rX L'->HS n (max budget 0) L' S' h'->h'[5]? =some (.cells [.lp 4 0]):=fun x k=>(k.ext 5 _ (x.ro 5 _ rfl)).1;refine ak (dh (Q:=fun xe f' h'=>xe= .normal/\∃nx:List (Int×Int),nx.Perm ((List.range n).map fun i=>(((i+1:Nat):Int),0))/\HS n (max budget 0) rX (nxS (lD n []) nx) h' /\
    f'.t 0=cls l/\f'.t 6= .lp 0 0/\f'.t 7= .lp 1 0/\f'.t 9= .lp 5 0/\f'.d=[]/\DX rX f'.k) ?_ ?_)
   ·rintro xe f1 h1 ⟨rfl,nx,hperm,hs1,g0,g6,g7,g9,gd,gk⟩;show awp _ _ _ _ _ _ _;have i0:Inv n l [] [] (nxS (lD n []) nx):=by
     refine RS n l (fun i h1 h2=>hperm.mem_iff.2 (zrh.2 ⟨i-1,List.mem_range.2 (by omega),by rw[show i-1+1=i by omega]⟩)) fun t ht=> ?_;obtain⟨i,hi,rfl⟩:=zrh.1 (hperm.mem_iff.1 ht);have:=List.mem_range.1 hi;exact⟨by show(1:Int)<=((i+1:Nat):Int);omega,by show((i+1:Nat):Int)<=n;omega⟩
    have hnl:nx.length=n:=by have:=hperm.length_eq;simpa using this
    have hll:l.length<=100000:=by omega
    have hlr:∀c∈l,∀a∈c,a≠0/\a.natAbs<=n:=fun c hc a ha=>by have:=Ot (v4 c hc a ha);omega
    refine ak (dh (Q:=fun xe f' h'=>(xe= .normal/\∃S' L',Inv n l l [] S'/\S'.nc<=l.length/\S'.nx=nx/\S'.ln=[]/\LX 0 rX L'/\HS n (max budget 0) L' S' h' /\
     f'.t 6= .lp 0 0/\f'.t 7= .lp 1 0/\f'.t 9= .lp 5 0/\f'.d=[]/\DX rX f'.k)\/(∃v,xe= .pan v/\QP v f' h')) ?_ ?_)
    ·rintro xe f2 h2 (⟨rfl,S',L',i1,hnc,hnx,hln,x1,hs2,k6,k7,k9,kd,kk⟩|⟨v,rfl,hq⟩)
     ·show awp _ _ _ _ _ _ _;have es:L'.s=4:=x1.s;have hh:∀R,ag TE 68 [V.lp L'.s 0] h2 R->ag TE 68 [V.lp 4 0] h2 R:=fun R h=>by rw[es]at h;exact h
      have hb2:=hbox x1 hs2;refine qM hmix _ _ _ _ ?_;simp only[wq.1,seval,hP,k9,hb2];refine hT (hh _ (ES big hs2 hlr ⟨by rw[hln];exact i1,by rw[hln];have:=big.pos;simpa using this,by rw[hln];simpa using hnc,by rw[hnx,hln,hnl];simp⟩ fun S3 L3 h3 p res i3 hb3 he3 x3 hs3 dx3 hl3=> ?_));have kk3:DX rX (fun i=>f2.k i||p i):=kk.or (dx3.back x1.ro);have dxp:DX rX p:=dx3.back x1.ro;have z0:p 0=false:=dxp.e (rfl:rX.ro 0=some (.e _));have z1:p 1=false:=dxp.e (rfl:rX.ro 1=some (.e _));have hB3:=big.few S3 i3 hb3;have hncb:=big.nc;refine⟨fun i hi=> ?_,_,rfl,hfin hs3 (x1.trans x3) (by omega) ⟨hb3,i3.g.rup,i3.g.lrg,i3.g.few1,?_⟩ kd (by simp only[wq.1,seval,k6,z0]) (by simp only[wq.1,seval,k7,z1]) kk3⟩
      ·have hi:i∈f2.d:=hi;rw[kd]at hi;cases hi
      ·rcases he3 with⟨rfl,hbad⟩|⟨rfl,hsat⟩|⟨rfl,he⟩
       ·exact .inl ⟨rfl,rfl,hbad⟩
       ·exact .inr (.inl ⟨rfl,by simp[mG],hsat⟩)
       ·exact .inr (.inr ⟨rfl,rfl,he⟩)
     ·exact⟨v,rfl,hq⟩
    ·refine ak (qM hmix _ _ _ _ ?_);simp only[wq.1,seval,hP,g0];refine aB ?_;refine aC (fun m f2 h2=>∃(i:Nat)(S':St)(L':Lay),m+i=l.length/\Inv n l (l.take i) [] S'/\S'.lv=[]/\S'.hd=0/\S'.nc<=i/\S'.nx=nx/\S'.ln=[]/\LX 0 rX L'/\HS n (max budget 0) L' S' h2 /\
      f2.t 6= .lp 0 0/\f2.t 7= .lp 1 0/\f2.t 9= .lp 5 0/\f2.t 42=cls l/\f2.t 43=vi l.length/\f2.t 44=vi i/\f2.d=[]/\DX rX f2.k) l.length
      ⟨0,nxS (lD n []) nx,rX,by omega,i0,rfl,rfl,zrb _,rfl,rfl,LX.refl _ _,hs1,g6,g7,g9,rfl,by simp only[wq.1,seval];try rfl,by simp only[wq.1,↓reduceIte];try rfl,gd,gk⟩ ?_
     rintro m f2 h2 ⟨i,S',L',hm,i1,hlv,hhd,hnc,hnx,hln,x1,hs2,k6,k7,k9,k42,k43,k44,kd,kk⟩;have hb2:=hbox x1 hs2;by_cases hi:i<l.length
     ·have eb:decide ((i:Int)<(l.length:Int))=true:=by rw[zqb];omega
      have hw2:IntKind.i64.wrap ((i:Int)+1)=((i+1:Nat):Int):=by rw[aU (by omega) (by omega)];omega
      obtain⟨c,ec⟩:∃c,c=l[i]:=⟨_,rfl⟩;have hcm:c∈l:=ec▸zqu hi;have hg:(l.map fun c=>ay c).getD i .any=ay c:=by rw[ec];simp[zqg,hi]
      have hlm:(l.map fun c=>ay c).length=l.length:=zra ..;have etk:l.take (i+1)=l.take i++[c]:=by rw[zrg,zqk hi,ec];rfl
      refine qM hmix _ _ _ _ ?_;simp only[wq.1,seval,hP,k9,k42,k43,k44,eb,hb2,hg];have es:L'.s=4:=x1.s;have hh:∀R,ag TE 67 [V.lp L'.s 0,ay c] h2 R->ag TE 67 [V.lp 4 0,ay c] h2 R:=fun R h=>by rw[es]at h;exact h
      have i1':Inv n l (l.take i) [] S':=i1;refine⟨⟨by omega,by omega⟩,hT (hh _ (OU hs2 hn (by omega) i1 hcm (hlr c hcm) (hcn c hcm) hlv hhd (fun S3 L3 h3 p i3 hlv3 hhd3 hnc3 hnx3 hln3 x3 hs3 hl3 hp3=> ?_) (fun h3 p hbad hs3 hl3 hp3=> ?_)))⟩
      ·have dxp:DX L' p:=fun q r hq hpq=>by
        rcases hp3 q hpq with h|⟨a,h⟩|h
        ·rw[h]at hq;cases hq
        ·rw[x3.ro _ _ hq]at h;cases h;exact .inr (.inr (.inr (.inr ⟨a,rfl⟩)))
        ·subst h;rw[hs2.rt]at hq;cases hq;exact .inl rfl
       have dx0:=dxp.back x1.ro;have z0:p 0=false:=dx0.e (rfl:rX.ro 0=some (.e _));have z1:p 1=false:=dx0.e (rfl:rX.ro 1=some (.e _));have z5:p 5=false:=dx0.e (rfl:rX.ro 5=some (.e _));simp only[wq.1,seval,bJ,hP,k44,kd,hw2];have i3':Inv n l (l.take (i+1)) [] S3:=by rw[etk];exact i3
       refine .inl ⟨m-1,by omega,i+1,S3,L3,by omega,i3',hlv3,hhd3,by omega,hnx3.trans hnx,hln3.trans hln,x1.trans (x3.mono (Nat.zero_le _)),hs3,by simp only[wq.1,seval,k6,z0],by simp only[wq.1,seval,k7,z1],by simp only[wq.1,seval,k9,z5],by simp only[wq.1,seval,k42],by simp only[wq.1,seval,k43],rfl,kd,kk.or dx0⟩
      ·have dxp:DX L' p:=fun q r hq hpq=>by rw[hp3 q hpq]at hq;cases hq
       have dx0:=dxp.back x1.ro;have z0:p 0=false:=dx0.e (rfl:rX.ro 0=some (.e _));have z1:p 1=false:=dx0.e (rfl:rX.ro 1=some (.e _));have e0:S'.ln.length=0:=by rw[hln];rfl
       rw[hln]at hbad;refine⟨fun i hi=> ?_,.inr ⟨_,rfl,hfin hs3 x1 (by omega) ⟨by rw[e0];exact big.pos,fun m hm=>by omega,fun c hc=>by(rw[hln]at hc;cases hc),by rw[e0];exact Nat.pow_pos (by decide),.inl ⟨rfl,rfl,by rw[hln];exact hbad⟩⟩ kd (by simp only[wq.1,seval,k6,z0]) (by simp only[wq.1,seval,k7,z1]) (kk.or dx0)⟩⟩;have hi:i∈f2.d:=hi;rw[kd]at hi;cases hi
     ·have eb:decide ((i:Int)<(l.length:Int))=false:=by rw[zqd];omega
      refine qM hmix _ _ _ _ ?_;simp only[wq.1,seval,hP,k6,k7,k9,k43,k44,kd,eb];have hin:i=l.length:=by omega
      rw[zqh (by omega)]at i1;exact .inl ⟨S',L',i1,by omega,hnx,hln,x1,hs2,kk⟩
   ·refine ak (qM hmix _ _ _ _ ?_);simp only[wq.1,seval,hP];refine aB ?_;refine aC (fun m f1 h1=>∃(w:Nat)(nx:List (Int×Int)),m+w=n/\nx.Perm ((List.range w).map fun i=>(((i+1:Nat):Int),0))/\HS n (max budget 0) rX (nxS (lD n []) nx) h1 /\
     f1.t 0=cls l/\f1.t 1=vi n/\f1.t 6= .lp 0 0/\f1.t 7= .lp 1 0/\f1.t 9= .lp 5 0/\f1.t 10=vi ((w+1:Nat):Int)/\f1.d=[]/\DX rX f1.k) n
     ⟨0,[],by omega,List.Perm.refl _,hs0,rfl,rfl,rfl,rfl,rfl,by simp only[wq.1,↓reduceIte];try rfl,by simp only[wq.1];try rfl,DX.none _⟩ ?_
    rintro m f1 h1 ⟨w,nx,hm,hperm,hs1,g0,g1,g6,g7,g9,g10,gd,gk⟩;have hb1:=hbox (LX.refl _ _) hs1;have hnl:nx.length=w:=by have:=hperm.length_eq;simpa using this
    by_cases hw:w<n
    ·have eb:decide (((w+1:Nat):Int)<=(n:Int))=true:=by rw[zqb];omega
     have hw2:IntKind.i64.wrap (((w+1:Nat):Int)+1)=((w+1+1:Nat):Int):=by rw[aU (by omega) (by omega)];omega
     refine qM hmix _ _ _ _ ?_;simp only[wq.1,seval,hP,g1,g9,g10,eb,hb1];refine⟨by decide,by decide,hT (uY hs1 (by show nx.length<=_;omega) ((w+1:Nat):Int) 0 fun nx2 h2 p q1 q2 q3 q4=> ?_)⟩;have pz:∀k,k≠8->p k=false:=fun k hk=>by
      cases e:p k with
      |false=>rfl
      |true=>exact absurd (q4 k e) hk
     have z0:=pz 0 (by decide);have z1:=pz 1 (by decide);have z5:=pz 5 (by decide);simp only[wq.1,seval,bJ,hP,g10,gd,hw2];refine .inl ⟨m-1,by omega,w+1,nx2,by omega,?_,q2,by simp only[wq.1,seval,g0],by simp only[wq.1,seval,g1],by simp only[wq.1,seval,g6,z0],by simp only[wq.1,seval,g7,z1],by simp only[wq.1,seval,g9,z5],rfl,gd,gk.or fun q r hq hpq=> ?_⟩
     ·rw[List.range_succ,zql];exact q1.trans (hperm.append_right _)
     ·have:=q4 q hpq;subst this;cases hq;exact .inr (.inr (.inl rfl))
    ·have eb:decide (((w+1:Nat):Int)<=(n:Int))=false:=by rw[zqd];omega
     refine qM hmix _ _ _ _ ?_;simp only[wq.1,seval,hP,g0,g1,g6,g7,g9,g10,gd,eb];have hwn:w=n:=by omega
     subst hwn;exact⟨nx,hperm,hs1,gk⟩
  ·have eb:(chk l vars != 0)=true:=by simp[hz]
   simp only[wq.1,seval,eb];refine⟨_,.inl ⟨hz,rfl⟩,?_⟩;exact aH.tup (aj.cons (aH.agg (aj.cons (aH.dat rfl) (aj.cons aH.nils (aj.cons (aH.dat rfl) (aj.cons aH.nils aj.nil))))) (aj.cons (aH.dat rfl) aj.nil))
 ·have h9:=fun R=>Ob (e:=TE) rfl (fn:=Tryz.f36) (R:=R) (ok:=ok) (pl:=pl0) (w:=w0);simp only[Tryz.results36,nts]at h9;exact h9 _
end
abbrev S:=List UInt8
abbrev jq(l:List S):V:= .is false 1 (l.map V.str)
variable{l:List S}
theorem tY{r:List V}(hb:V.bnds (jq l::r)):l.length<=maxLen:=by simp only[V.bnds,V.bnd,zra]at hb;exact hb.1.1
variable{i:Nat}
theorem Gq(h:i<l.length)(d:V):(List.map V.str l).getD i d= .str l[i]:=iM h _
def Lm(n:Nat)(l:List S):Bool:=decide (l.length<=n)&&l.all fun s=>decide (s.length<=60)
theorem yS(l:List S)(n:Nat):Ev TE 15 [jq l,.int .i64 n] (.bool (Lm n l)):=by
 refine Ev.bnd fun hb=> ?_;have hlen:=tY hb;refine aF Tryz.func15 rfl (by simp[nts]) (vm ?_);simp only[wq.1,Nat.reduceLT,Tryz.results15];refine aC (fun m f h=>∃i,m+i=l.length/\f.t 0=jq l/\f.t 1= .int .i64 n/\f.t 5= .int .i64 (i:Int)/\f.d=[]/\∀s∈l.take i,s.length<=60) l.length ⟨0,by simp,rfl,rfl,rfl,rfl,by simp⟩ ?_;rintro m f h ⟨i,hm,h0,h1,h5,hd,hall⟩;refine vm ?_;simp only[wq.1,seval,h0,h1,h5];refine vcB.mk (fun hc=> ?_) (fun hc=> ?_)
 ·simp only[zqf,zqb,zqi,Int.ofNat_le]at hc;obtain⟨hc1,hc2⟩:=hc;simp only[wq.1,seval,h0,h5,Gq hc1];refine⟨⟨by omega,by omega⟩,vcB.mk (fun hc=> ?_) (fun hc=> ?_)⟩
  ·simp only[wq.1,seval,hd];have:Lm n l=false:=by
    simp only[zqb]at hc;have hx:∃x∈l,¬x.length<=60:=⟨l[i],zqu _,by omega⟩;simpa [Lm]using fun _=>hx
   rw[this];exact aH.dat rfl
  ·simp only[wq.1,seval,h5,aA (show i<maxLen by omega)];refine .inl ⟨m-1,by omega,i+1,by omega,h0,h1,rfl,hd,?_⟩;simp only[zqd]at hc;intro s hs;rw[zrg]at hs;simp only[hc1,zqk,Option.toList_some,zrf,zrc]at hs;rcases hs with hs|rfl
   ·exact hall s hs
   ·omega
 ·simp only[wq.1,seval,h0,h1,hd];have:(decide ((l.length:Int)<=n))=Lm n l:=by
   simp only[Bool.and_eq_false_iff,zqd,zqi,Int.ofNat_le]at hc;by_cases hi:i<l.length
   ·have h2:¬l.length<=n:=by omega
    simp[Lm,h2]
   ·rw[zqh (by omega)]at hall;have:(l.all fun s=>decide (s.length<=60))=true:=by simpa using hall
    simp[Lm,this]
  rw[this];exact aH.dat rfl
def kC(c:UInt8):Bool:=decide (33<=c.toNat)&&decide (c.toNat<=126)
def Jh(s:S):Bool:=s.all kC&&(decide (1<=s.length)&&decide (s.length<=40))
def Xk(n:Int):Bool:=decide (n<=32)||decide (126<n)
theorem Xl(n:Int):Ev TE 131 [.int .i32 n] (.bool (Xk n)):=by refine aF Tryz.func131 rfl (by simp[nts]) (vm ?_);simp only[wq.1,seval,Tryz.results131];exact aH.eq rfl rfl
theorem O1{s:S}(h:i<s.length)(hb:s[i].toNat<128):IB s i=(s[i].toNat,1):=by
 unfold IB Utf8.decode;have:((ByteArray.mk s.toArray).get! (i+0)).toNat=s[i].toNat:=by
  simp[ByteArray.get!,h]
 simp only[this];rw[if_pos hb]
theorem SA{s:S}(h:i<s.length)(hb:¬s[i].toNat<128):128<=(IB s i).1:=by
 unfold IB Utf8.decode;have:((ByteArray.mk s.toArray).get! (i+0)).toNat=s[i].toNat:=by
  simp[ByteArray.get!,h]
 simp only[this];rw[if_neg hb]
 repeat' split
 all_goals first
  |(simp[Utf8.runeError];done)
  |(rename_i hc;simp only[zqf,zqb,ge_iff_le]at hc;dsimp only;omega)
  |(rename_i hc;simp only[ge_iff_le]at hc;dsimp only;omega)
theorem SB{s:S}(h:i<s.length):Xk (IB s i).1= !kC s[i]:=by
 by_cases hb:s[i].toNat<128
 ·rw[O1 h hb];refine Bool.eq_iff_iff.2 ?_;simp only[Xk,kC,Bool.or_eq_true,zqb,Bool.not_eq_true',Bool.and_eq_false_iff,zqd];omega
 ·have:=SA h hb;have h1:Xk (IB s i).1=true:=by simp only[Xk,Bool.or_eq_true,zqb];omega
  have h2:kC s[i]=false:=by simp only[kC,Bool.and_eq_false_iff,zqd];omega
  rw[h1,h2];rfl
def Lp(s:S):Option Nat:=s.findIdx? fun c=> !kC c
def Ui(s:S):Int:=match Lp s with|some i=>i|none=>-1
theorem O3{s:S}(h:i<s.length)(hn:∀x∈s.take i,kC x=true)(hb:kC s[i]=false):Ui s=i:=by
 have:Lp s=some i:=by
  unfold Lp;rw[List.findIdx?_eq_some_iff_getElem];refine⟨h,by simp[hb],fun j hj=> ?_⟩;have:s[j]∈s.take i:=by
   rw[List.mem_take_iff_getElem];exact⟨j,by omega,rfl⟩
  simp[hn _ this]
 simp[Ui,this]
theorem EW{s:S}(hn:∀x∈s,kC x=true):Ui s=-1:=by
 have:Lp s=none:=by unfold Lp;rw[List.findIdx?_eq_none_iff];simpa using hn
 simp[Ui,this]
theorem Xm(s:S):Ev TE 133 [.str s,.fn (.func 131) [] [],.bool true] (.int .i64 (Ui s)):=by
 refine Ev.bnd fun hb=> ?_;have hlen:s.length<=maxLen:=hb.1;refine aF Tryz.func133 rfl (by simp[nts]) (vm ?_);simp only[wq.1,seval,Tryz.results133];refine aC (fun m f h=>∃i,m+i=s.length/\f.t 1= .fn (.func 131) [] []/\f.t 2= .bool true/\f.t 10= .lp 0 0/\f.d=[]/\h=[.misc (.siter s i)]/\∀x∈s.take i,kC x=true) s.length ⟨0,by simp,rfl,rfl,rfl,rfl,rfl,by simp⟩ ?_;rintro m f h ⟨i,hm,h1,h2,h10,hd,rfl,hall⟩;refine vm ?_;simp only[wq.1,seval,h10];refine pq.mk (fun hc=> ?_) (fun hc=> ?_)
 ·simp only[zqb]at hc;simp only[wq.1,seval,h1,pq];refine ag.ev (Xl _) rfl ?_;rw[SB hc];simp only[wq.1,seval,h2];refine vcB.mk (fun hc'=> ?_) (fun hc'=> ?_)
  ·have hb:kC s[i]=false:=by simpa using hc'
   simp only[wq.1,seval,hd];rw[O3 hc hall hb];exact aH.dat rfl
  ·have hb:kC s[i]=true:=by simpa using hc'
   have h128:s[i].toNat<128:=by simp only[kC,zqf,zqb]at hb;omega
   simp only[wq.1,Int.reduceNeg];exact .inl ⟨m-1,by omega,i+1,by omega,h1,h2,h10,hd,by rw[O1 hc h128],gG hc hall hb⟩
 ·simp only[zqd]at hc;simp only[wq.1,seval,hd,pq];rw[zqh (by omega)]at hall;rw[EW hall];exact aH.dat rfl
theorem Xn(s:S):Ev TE 132 [.str s,.fn (.func 131) [] []] (.int .i64 (Ui s)):=by refine aF Tryz.func132 rfl (by simp[nts]) (vm ?_);simp only[wq.1,seval,Tryz.results132];refine ag.ev (Xm s) rfl ?_;simp only[wq.1,seval];exact aH.dat rfl
theorem SC(s:S):decide (Ui s<0)=s.all kC:=by
 cases h:s.all kC with
 |true=>rw[EW (by simpa using h)];rfl
 |false =>
  have:∃x∈s,kC x=false:=by simpa using h
  cases hb:Lp s with
  |none=>obtain⟨x,hx,hx2⟩:=this;have:=(List.findIdx?_eq_none_iff.1 hb) x hx;simp[hx2]at this
  |some i=>simp[Ui,hb]
theorem SE(s:S):Ev TE 127 [.str s] (.bool (Jh s)):=by
 refine aF Tryz.func127 rfl (by simp[nts]) (vm ?_);simp only[wq.1,seval,Tryz.results127];refine DW.ev (q:=132) (vs:=[.str s,.fn (.func 131) [] []]) (by simp only[wq.1,seval]) (by simp only[wq.1,seval]) rfl (fun _=>Xn s) (fun _=>rfl) ?_;simp only[wq.1,seval];refine aH.eq rfl ?_;rw[SC];unfold Jh
 congr 1
 have h1:(!s==[])=decide (1<=s.length):=by cases s<;>simp
 have h2:decide ((s.length:Int)<=40)=decide (s.length<=40):=decide_eq_decide.2 (by omega);rw[h1,h2,Bool.and_comm]
theorem SG(s:S):Ev TE 107 [.str s] (.bool (Jh s)):=by refine aF Tryz.func107 rfl (by simp[nts]) (vm ?_);simp only[wq.1,seval,Tryz.results107];refine ag.ev (SE s) rfl ?_;simp only[wq.1,seval];exact aH.dat rfl
variable{id len cap:Nat}
theorem jL{e:E}{h:H}{l:List Bool}(hc:h[id]? =some (.cells (l.map V.bool)))(hl:len=l.length):aH e h (.ls id 1 0 len cap) (aX l) :=
 aH.ls hc (aj.dat (lu l)) (U4 l) (Ox l) (by simpa using hl)
theorem dw{e:E}{h:H}{l:Cl}(hc:h[id]? =some (.cells (l.map vi)))(hl:len=l.length):aH e h (.ls id 1 0 len cap) (ay l) :=
 aH.ls hc (aj.dat (jH l)) (IQ l) (Ci l) (by simpa using hl)
abbrev Pq:=Int×Int
abbrev prV(p:Pq):V:= .agg [vi p.1,vi p.2]
abbrev prs(l:List Pq):V:= .is false 2 (l.map prV)
structure Gr where
 ins:Int
 next:Cl
 init:Cl
 ands:List Pq
 outs:Cl
abbrev Gr.v(g:Gr):V:= .agg [vi g.ins,ay g.next,ay g.init,prs g.ands,ay g.outs]
def Gr.first(g:Gr):Int:=1+g.ins+g.next.length
theorem Uj(c:Cl)(q:FuncId)(caps:List V)(p:Int->Bool)(he:au P q=true)(hd:V.dats caps=true)(hq:∀x∈c,Ev TE q (vi x::caps) (.bool (p x))):Ev TE 40 [ay c,.fn (.func q) [] caps] (vi (idx c p)):=by
 refine Ev.bnd fun hb=> ?_;have hlen:=Cf hb;refine aF Tryz.func40 rfl (by simp[nts]) (vm ?_);simp only[wq.1,seval,Tryz.results40];refine aC (fun m f h=>∃i,m+i=c.length/\f.t 0=ay c/\f.t 1= .fn (.func q) [] caps/\f.t 7= .int .i64 (c.length:Int)/\f.t 8= .int .i64 (i:Int)/\f.d=[]/\∀x∈c.take i,p x=false) c.length ⟨0,by simp,rfl,rfl,rfl,rfl,rfl,by simp⟩ ?_;rintro m f h ⟨i,hm,h0,h1,h7,h8,hdd,hall⟩;refine vm ?_;simp only[wq.1,seval,h7,h8];refine vcB.mk (fun hc=> ?_) (fun hc=> ?_)
 ·simp only[zqb,zqi]at hc;simp only[wq.1,seval,h0,h1,h8,wU hc,he];refine⟨⟨by omega,by omega⟩,ag.ev (hq _ (zqu _)) (by simp[V.dats,V.dat,hd]) ?_⟩;simp only[wq.1,seval];refine vcB.mk (fun hc'=> ?_) (fun hc'=> ?_)
  ·simp only[wq.1,seval,hdd];rw[qA hc hall hc'];exact aH.dat rfl
  ·simp only[wq.1,seval,h8,aA (show i<maxLen by omega)];exact .inl ⟨m-1,by omega,i+1,by omega,h0,h1,h7,rfl,hdd,gG hc hall hc'⟩
 ·simp only[zqd,zqi]at hc;simp only[wq.1,seval,hdd];rw[zqh (by omega)]at hall;rw[oG hall];exact aH.dat rfl
theorem jT(g:Gr)(h0:-1000000000<=g.ins)(h1:g.ins<=1000000000)(h2:g.next.length<=1000000000):Ev TE 55 [g.v] (vi g.first):=by
 unfold Gr.v Gr.first
 refine aF Tryz.func55 rfl (by simp[nts]) (vm ?_);simp only[wq.1,seval,Tryz.results55];rw[fE (n:=1+g.ins) (by omega) (by omega),fE (by omega) (by omega)];exact aH.dat rfl
theorem Ji(c:Cl)(q:FuncId)(caps:List V)(p:Int->Bool)(he:au P q=true)(hd:V.dats caps=true)(hq:∀x∈c,Ev TE q (vi x::caps) (.bool (p x))):Ev TE 84 [ay c,.fn (.func q) [] caps] (.bool (c.any p)):=by refine aF Tryz.func84 rfl (by simp[nts]) (vm ?_);simp only[wq.1,seval,Tryz.results84];refine ag.ev (Uj c q caps p he hd hq) (by simp[V.dats,V.dat,hd]) ?_;simp only[wq.1,seval];exact aH.eq rfl (by rw[yC])
def O4(all a:Int):Bool:=decide (a<0)||decide (all<=a)
theorem O5(all a:Int):Ev TE 82 [vi a,.ip (vi all)] (.bool (O4 all a)):=by refine aF Tryz.func82 rfl (by simp[nts]) (vm ?_);simp only[wq.1,seval,Tryz.results82];exact aH.eq rfl rfl
def EX(a:Int):Bool:=decide (a<0)||decide (2<a)
theorem Vr(a:Int):Ev TE 83 [vi a] (.bool (EX a)):=by refine aF Tryz.func83 rfl (by simp[nts]) (vm ?_);simp only[wq.1,seval,Tryz.results83];exact aH.eq rfl rfl
end Go.Proofs.YthdidjjecjhenaaGreat
