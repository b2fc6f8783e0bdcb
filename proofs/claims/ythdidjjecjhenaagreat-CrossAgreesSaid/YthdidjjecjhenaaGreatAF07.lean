/- Lemmas for this claim, part F07: each holds under what it names. -/
import Derived.Test.YthdidjjecjhenaaGreatAF06
import Derived.Test.YthdidjjecjhenaaGreatAA8
import Derived.Test.YthdidjjecjhenaaGreatAA7
set_option linter.all false
set_option maxRecDepth 20000
set_option maxHeartbeats 4000000
namespace Go.Proofs.YthdidjjecjhenaaGreat
open Go Go.Proofs Go.Abs
open List renaming length → aa, replicate → aD
open Bool renaming true → ab, false → am
open Option renaming some → ar, none → aL
open Decidable renaming decide → aM
open Go.IntKind renaming wrap → a5
open Go.Result renaming andThen → a8
open Go.Abs.O renaming cells → aw
open Go.Abs.V renaming drops → aE, dat → a6, dats → a7
section
variable{n:Nat}{bud:Int}{L:Lay}{S:St}{h:H}{a:Int}{j:Nat}{l d Lc:List Cl}
theorem Fz{B:Nat}(big:Big n l bud B)(hs:HS n bud L S h)(hcl:∀c∈l,∀a∈c,a≠0/\a.natAbs<=n)(g0:Going n l bud (2*aa S.ln) S){R:AEnd->H->(Nat->Bool)->Prop}
 (hr:∀S' L' h' p res,Inv n l l S'.ln S'->(aa S'.ln:Int)<=bud->YK n l bud S' res->LX 0 L L'->HS n bud L' S' h'->DX L p->aa h<=aa h'->R (.pan (.iface 134 (.agg [vi res]))) h' p):ag TE 68 [.lp L.s 0] h R:=by
 have hM:=mLx;have hn:=big.nn;refine ah Tryz.func68 rfl (by simp[nts]) ?_;refine vn ?_;simp only[wq.1,Nat.reduceLT,Tryz.results68];refine vn ?_;simp only[wq.1,Nat.reduceLT];refine AX ?_;simp only[wq.1];refine aB ?_;refine oD (q:=117) (first:=[]) (captured:=[]) (by simp only[wq.1,↓reduceIte]) (by simp only[wq.1,↓reduceIte]) (by simp only[wq.1]) ?_;have e1:([]++[V.yd (aa (h++[aw [V.lp L.s 0]])+1)]++[])=[V.yd (aa h+2)]:=by simp
 have e2:aa (h++[aw [V.lp L.s 0]])=aa h+1:=by simp
 rw[e1,zqc,zqc];have hT:∀p:Nat->Bool,p L.s=am->p (aa h)=am->∀i,((((Fr.init [V.lp L.s 0]).put (ar 1) (V.lp (aa h) 0)).put (ar 5) (V.fn (Fn.func 117) [] [])).t i).drop p=(((Fr.init [V.lp L.s 0]).put (ar 1) (V.lp (aa h) 0)).put (ar 5) (V.fn (Fn.func 117) [] [])).t i:=λp q1 q2 i=>by
  simp only[Fr.put,Fr.init];split
  ·simp only[V.drop,aE]
  ·split
   ·simp only[V.drop,q2,cond_false,if_false,zrm]
   ·match i with
    |0=>simp only[List.getD_cons_zero,V.drop,q1,cond_false,if_false,zrm]
    |i+1=>simp[V.drop,aE,ng]
 refine Fv big g0 hs hT (by simp only[wq.1,seval];try rfl) ?_ ?_ ?_
 ·intro lb f h Q hq;refine vm ?_;simp only[wq.1,Nat.reduceLT];exact hq
 ·intro lb S1 L1 h1 f1 nn g1 hs1 x1 hbx ft1 ft2 hn1 hn2 fd dx;have hsol1:=hs1.sol;have hbox1:=(hs1.ext _ _ hbx).1;have es1:L1.s=L.s:=x1.s;have hbox1:h1[aa h]? =ar (aw [.lp L1.s 0]):=by rw[es1];exact hbox1
  have hB1 := big.few S1 g1.inv g1.ln;have hnx := big.nx;have hncb := big.nc;refine vF ?_;refine oI (jh ?_);refine vm ?_;simp only [wq.1,seval,ft1,hbox1,hsol1,ay];refine oI (vF ?_);refine OL 2 (λm f2 h2 => ∃ (S2 : St) (L2 : Lay),m = (B - aa S2.ln) * (n + 2) + (n + 1 - aa S2.lv) /\ Going n l bud (aa S1.ln + aa S2.ln) S2 /\ aa S1.ln <= aa S2.ln /\ LX 0 L1 L2 /\ HS n bud L2 S2 h2 /\ f2.t 1 = .lp (aa h) 0 /\ f2.t 2 = vi nn /\ f2.t 3 = vi (aa S1.ln) /\ f2.d = [] /\ DX L1 f2.k /\ aa h1 <= aa h2) ((B - aa S1.ln) * (n + 2) + (n + 1 - aa S1.lv))
   ⟨S1,L1,rfl,⟨g1.inv,g1.ln,g1.nc,VV g1.nx (by omega)⟩,zrb _,LX.refl _ _,hs1,ft1,ft2,by simp only[wq.1,↓reduceIte];try rfl,fd,dx,zrb _⟩ ?_
  rintro m f2 h2 ⟨S2,L2,hm,g2,hle,x2,hs2,e1,e2,e3,ed,ek,hl2⟩;have hsol2:=hs2.sol;have es2:L2.s=L1.s:=x2.s;have hbx2:L2.ro (aa h)=ar (.e (xM L)):=x2.ro _ _ hbx;have hbox2:h2[aa h]? =ar (aw [.lp L2.s 0]):=by rw[es2,es1];exact(hs2.ext _ _ hbx2).1
  have hB2:=big.few S2 g2.inv g2.ln;have hwa:a5 .i64 ((aa S1.ln:Int)+(nn:Int))=((aa S1.ln+nn:Nat):Int):=by rw[aV (by omega) (by omega)];omega
  by_cases hlt:aa S2.ln<aa S1.ln+nn
  ·have eb:aM ((aa S2.ln:Int)<((aa S1.ln+nn:Nat):Int))=ab:=by rw[zqb];omega
   refine oI (jh ?_);refine vm ?_;simp only[wq.1,seval,e1,e2,e3,hbox2,hsol2,ay,hwa,eb];refine vF ?_;refine oI (jh ?_);refine vm ?_;simp only[wq.1,seval,e1,hbox2];refine Me hs2 hn (by have:=g2.nc;omega) g2.inv (λS3 L3 h3 p i3 pr3 hh3 x3 hs3 hl3 dr3=> ?_) (λS3 L3 h3 p j i3 pr3 hj3 hf3 ht3 x3 hs3 hl3 dr3=> ?_)
   ·have dx3:DX L2 p:=XN x3 hs2 dr3;have p1:=dx3.e hbx2;have p2:=dx3.s hs2.toHR;have hbx3:L3.ro (aa h)=ar (.e (xM L)):=x3.ro _ _ hbx2;have es3:L3.s=L2.s:=x3.s;have hbox3:h3[aa h]? =ar (aw [.lp L3.s 0]):=by rw[es3,es2,es1];exact(hs3.ext _ _ hbx3).1
    simp only[wq.1,seval,bC,ed];refine oI (jh ?_);refine vm ?_;simp only[wq.1,seval];refine EL (b:=am) (by simp only[wq.1,↓reduceIte]) (by simp only[wq.1,↓reduceIte];rfl) (λh=>by cases h) (λ_=> ?_);refine yP ?_;simp only[wq.1,seval,Bi,CX,e1,p1,hbox3];refine Fj hs3 hn i3 hh3 (by rw[pr3.nx];exact big.nx_big g2.nx (by omega)) (λh4 i4 hs4 hl4=> ?_) (λnx a h4 p4 i4 hnx4 hs4 hl4 hp4=> ?_)
    ·simp only[wq.1,Bh,ed];refine⟨nxS S3 [],L3,1,rfl,by rw[show(nxS S3 []).ln=S2.ln from pr3.ln];exact i4,by rw[show(nxS S3 []).ln=S2.ln from pr3.ln];exact g2.ln,.inr (.inl ⟨rfl,Inv.some i4 hh3 rfl hcl⟩),x2.trans (x3.mono (Nat.zero_le _)),hs4,?_,by omega⟩;exact λq r hq hpq=>(ek.or (dx3.back x2.ro)) q r hq (by simpa using hpq)
    ·have dx4:DX L3 p4:=λq r hq hpq=>by
      rcases hp4 q hpq with h|h
      ·subst h;rw[hs3.rl]at hq;cases hq;exact .inr (.inl rfl)
      ·subst h;rw[hs3.rt]at hq;cases hq;exact .inl rfl
     have q1:=dx4.e hbx3;simp only[wq.1,seval,Bh,ed,e1,e2,e3,p1,q1];have elv:(Nu (nxS S3 nx) a).lv=S2.lv++[aa S3.tr]:=by show S3.lv++[aa S3.tr]=_;rw[pr3.lv]
     have hlvn:(Nu (nxS S3 nx) a).lv.length<=n:=Nat.le_trans (gY (i4.t.lvs.imp λh=>by omega) λx hx=>i4.lt x hx) i4.t.len;have eln:(Nu (nxS S3 nx) a).ln=S2.ln:=pr3.ln;have hlen:(Nu (nxS S3 nx) a).lv.length=aa S2.lv+1:=by rw[elv];simp
     refine .inl ⟨(B-aa S2.ln)*(n+2)+(n+1-(aa S2.lv+1)),by omega,Nu (nxS S3 nx) a,L3,by rw[eln,hlen],⟨by rw[eln];exact i4,by rw[eln];exact g2.ln,by rw[eln];exact pr3.nc▸g2.nc,?_⟩,by rw[eln];exact hle,x2.trans (x3.mono (Nat.zero_le _)),hs4,?_,by omega⟩
     ·rw[eln];show aa nx<=_;have:=g2.nx;rw[pr3.nx]at hnx4;omega
     ·exact λq r hq hpq=>((ek.or (dx3.back x2.ro)).or (dx4.back (x2.trans (x3.mono (Nat.zero_le _))).ro)) q r hq (by simpa using hpq)
   ·have dx3:DX L2 p:=XN x3 hs2 dr3;have p1:=dx3.e hbx2;have p2:=dx3.s hs2.toHR;have hbx3:L3.ro (aa h)=ar (.e (xM L)):=x3.ro _ _ hbx2;have es3:L3.s=L2.s:=x3.s;have hbox3:h3[aa h]? =ar (aw [.lp L3.s 0]):=by rw[es3,es2,es1];exact(hs3.ext _ _ hbx3).1
    have ecl:clV L3 S3 j= .ls (L3.c j) 1 0 (aa (S3.cl j)) (aa (S3.cl j)):=rfl;have hc2:0<aa (S3.cl j):=by have:=i3.c.c2 j hj3;omega
    simp only[wq.1,seval,bC,ed];refine oI (jh ?_);refine vm ?_;simp only[wq.1,seval,ecl];intro b hb;have hb:b=am:=by
     cases b with
     |false=>rfl
     |true=>have:=hb rfl;omega
    subst hb;simp only[wq.1];refine EL (b:=ab) (by simp only[wq.1,↓reduceIte]) (by simp only[wq.1,↓reduceIte];rfl) (λ_=> ?_) (λh=>by cases h);refine yP ?_;simp only[wq.1,seval,Bi,CX,e1,p1,hbox3];rw[<-ecl];have i3':Inv n l l S3.ln S3:=by rw[pr3.ln];exact i3
    have hB3:aa S3.ln<=B:=by rw[pr3.ln];exact hB2
    refine AV hs3 hn i3' hj3 hf3 ht3 (by have:=g2.nc;rw[pr3.nc];omega) (by rw[pr3.nx];exact big.nx_big g2.nx (by omega)) (by omega) (λhlv=> ?_) (λhbd=> ?_) (λS4 L4 h4 p4 out hbd i4 eln4 hnx4 hnc4 x4 hs4 hl4 dx4=> ?_)
    ·simp only[wq.1,Bh,ed];refine⟨S3,L3,0,rfl,i3',by rw[pr3.ln];exact g2.ln,.inl ⟨rfl,Inv.none i3' hlv hj3 hf3⟩,x2.trans (x3.mono (Nat.zero_le _)),hs3,?_,by omega⟩;exact λq r hq hpq=>(ek.or (dx3.back x2.ro)) q r hq (by simpa using hpq)
    ·simp only[wq.1,Bh,ed];refine⟨S3,L3,2,rfl,i3',by rw[pr3.ln];exact g2.ln,.inr (.inr ⟨rfl,by have:=g2.ln;rw[pr3.ln]at hbd ⊢;omega⟩),x2.trans (x3.mono (Nat.zero_le _)),hs3,?_,by omega⟩;exact λq r hq hpq=>(ek.or (dx3.back x2.ro)) q r hq (by simpa using hpq)
    ·have q1:=dx4.e hbx3;simp only[wq.1,seval,Bh,ed,e1,e2,e3,p1,q1];have e4:aa S4.ln=aa S2.ln+1:=by rw[eln4,pr3.ln];simp
     have hb4:(aa S4.ln:Int)<=bud:=by rw[pr3.ln]at hbd;omega
     have hB4:=big.few S4 i4 hb4;have emul:(B-aa S2.ln)*(n+2)=(B-aa S4.ln)*(n+2)+(n+2):=by rw[show B-aa S2.ln=(B-aa S4.ln)+1 by omega,Nat.succ_mul]
     refine .inl ⟨(B-aa S4.ln)*(n+2)+(n+1-aa S4.lv),by omega,S4,L4,rfl,⟨i4,hb4,by have:=g2.nc;rw[pr3.nc]at hnc4;omega,?_⟩,by omega,(x2.trans (x3.mono (Nat.zero_le _))).trans (x4.mono (Nat.zero_le _)),hs4,?_,by omega⟩
     ·rw[e4];rw[pr3.nx]at hnx4;exact UN g2.nx hnx4
     ·exact λq r hq hpq=>((ek.or (dx3.back x2.ro)).or (dx4.back (x2.trans (x3.mono (Nat.zero_le _))).ro)) q r hq (by simpa using hpq)
  ·have eb:aM ((aa S2.ln:Int)<((aa S1.ln+nn:Nat):Int))=am:=by rw[zqd];omega
   refine oI (jh ?_);refine vm ?_;simp only[wq.1,seval,e1,e2,e3,ed,hbox2,hsol2,ay,hwa,eb];refine .inr ?_;refine jh ?_;refine vm ?_;simp only[wq.1,seval,e1,hbox2];by_cases hlv:S2.lv=[]
   ·refine PD hs2 (k:=0) (by rw[hlv];exact zrb _) (by omega) ?_;simp only[wq.1,reduceCtorEq];exact⟨S2,L2,⟨g2.inv,g2.ln,g2.nc,VV g2.nx (by omega)⟩,by omega,x2,hs2,ek,hl2⟩
   ·have hk0:0<aa S2.lv:=List.length_pos_iff.2 hlv;have hb0:S2.lv.getD 0 0<=aa S2.tr:=by rw[jH hk0];have h1:=g2.inv.t.lvh _ (zqu hk0);have h2:=g2.inv.t.hdl;omega
    have htl2:=g2.inv.t.len;have hlvt:aa S2.lv<=aa S2.tr:=gY (g2.inv.t.lvs.imp λh=>by omega) λx hx=>g2.inv.lt x hx;have hnx2:=big.nx_big g2.nx (by omega);refine vN hs2 hn hk0 rfl hb0 (by omega) (by omega) g2.inv.t.nd (λa ha=>(g2.inv.t.rng a ha).2) (by omega) λnx h3 p3 hp3 hs3 hl3 hd3=> ?_;simp only[wq.1,reduceCtorEq,bC,ed];have hln3:aa nx<=aa S2.nx+n:=by have:=hp3.length_eq;rw[zqa,zra,List.length_drop]at this;omega
    have i3:Inv n l l S2.ln (fV S2 0 nx):=E5 g2.inv hk0 (λx hx=>hp3.mem_iff.2 (List.mem_append_left _ hx)) (λa ha=>hp3.mem_iff.2 (List.mem_append_right _ (zrh.2 ⟨a,ha,rfl⟩))) (λx hx=>by
     rcases zrf.1 (hp3.mem_iff.1 hx)with hx|hx
     ·exact .inl hx
     ·obtain⟨a,ha,rfl⟩:=zrh.1 hx;exact .inr ⟨a,ha,rfl⟩)
    have dx3:DX L2 p3:=λq r hq hpq=>by have:=hd3 q hpq;subst this;rw[hs2.rx]at hq;cases hq;exact .inr (.inr (.inl rfl))
    exact⟨fV S2 0 nx,L2,⟨i3,g2.ln,g2.nc,VV (UN g2.nx hln3) (by show aa S1.ln+aa S2.ln+1<=2*aa S2.ln;omega)⟩,by show aa S1.ln+nn<=aa S2.ln;omega,x2,hs3,ek.or (dx3.back x2.ro),by omega⟩
 ·intro S2 M h2 p res i2 hb2 he2 x2 hrd hp hs2 dx2 hl2;unfold UD;rw[e2];refine⟨λi hi=> ?_,?_⟩
  ·have hi:i∈[aa h+1]:=hi;rw[zrc.1 hi];exact hp
  show(match jK [aa h+1] h2 with|some h'=>R (.pan _) h' (λq=>am||p q)|none=>False);have hg:=(hs2.ext _ _ hrd).1;unfold jK;rw[hg];have no1:L.ro (aa h+1)=aL:=by
   cases e:L.ro (aa h+1)with
   |none=>rfl
   |some r=>have:=hs.rlt _ _ e;omega
  have xr:LX 0 L (reE M (aa h+1) (.misc .shut)):=⟨x2.s,x2.v,x2.m,x2.t,x2.l,x2.x,x2.g,x2.c,x2.w,λq r hq=>by
   rw[zu (λe=>by rw[e,no1]at hq;cases hq)];exact x2.ro q r hq⟩
  exact hr S2 _ _ _ res i2 hb2 he2 xr (hs2.re hrd λp hp=>rfl) (λq r hq hpq=>dx2 q r hq (by simpa using hpq)) (by rw[zrn];omega)
end
section
variable{n:Nat}{bud:Int}{L:Lay}{S:St}{h:H}{a:Int}{j:Nat}{l d Lc:List Cl}
def UO:Plan:= .take 0<| .alt 1 (.alt 2 (.take 3<| .take 4<| .alt 5 (.alt 6 (.one 7<| .take 8<| .take 9<|onZ [10,11,12,13]<| .fin) (.one 7 (.take 8<| .take 9<| .alt 6 (onZ [10,11,12,13]<| .fin) (.one 10 (onZ [6,11,12,13]<| .fin))))) (.one 7 (.take 8<| .take 9<| .alt 5 (.alt 6 (onZ [10,11,12,13]<| .fin) (.one 10 (onZ [6,11,12,13]<| .fin))) (.one 10 (onZ [5,6,11,12,13]<| .fin))))) (.one 7 (.take 8<| .take 9<| .alt 2 (.take 3<| .take 4<| .alt 5 (.alt 6 (onZ [10,11,12,13]<| .fin) (.one 10 (onZ [6,11,12,13]<| .fin))) (.one 10 (onZ [5,6,11,12,13]<| .fin))) (.one 10 (.one 2<| .take 3<| .take 4<|onZ [5,6,11,12,13]<| .fin))))) (.alt 2 (.take 3<| .take 4<| .alt 1 (.alt 5 (.alt 6 (.one 7<| .take 8<| .take 9<|onZ [10,11,12,13]<| .fin) (.one 7 (.take 8<| .take 9<| .alt 6 (onZ [10,11,12,13]<| .fin) (.one 10 (onZ [6,11,12,13]<| .fin))))) (.one 7 (.take 8<| .take 9<| .alt 5 (.alt 6 (onZ [10,11,12,13]<| .fin) (.one 10 (onZ [6,11,12,13]<| .fin))) (.one 10 (onZ [5,6,11,12,13]<| .fin))))) (.alt 5 (.alt 1 (.alt 6 (.one 7<| .take 8<| .take 9<|onZ [10,11,12,13]<| .fin) (.one 7 (.take 8<| .take 9<| .alt 6 (onZ [10,11,12,13]<| .fin) (.one 10 (onZ [6,11,12,13]<| .fin))))) (.alt 6 (.alt 1 (.one 7<| .take 8<| .take 9<|onZ [10,11,12,13]<| .fin) (.one 7 (.take 8<| .take 9<| .alt 1 (onZ [10,11,12,13]<| .fin) (.one 10 (onZ [1,11,12,13]<| .fin))))) (.one 7 (.take 8<| .take 9<| .alt 1 (.alt 6 (onZ [10,11,12,13]<| .fin) (.one 10 (onZ [6,11,12,13]<| .fin))) (.alt 6 (.alt 1 (onZ [10,11,12,13]<| .fin) (.one 10 (onZ [1,11,12,13]<| .fin))) (.one 10 (.alt 1 (onZ [6,11,12,13]<| .fin) (.one 6 (onZ [1,11,12,13]<| .fin))))))))) (.one 7 (.take 8<| .take 9<| .alt 1 (.alt 5 (.alt 6 (onZ [10,11,12,13]<| .fin) (.one 10 (onZ [6,11,12,13]<| .fin))) (.one 10 (onZ [5,6,11,12,13]<| .fin))) (.alt 5 (.alt 1 (.alt 6 (onZ [10,11,12,13]<| .fin) (.one 10 (onZ [6,11,12,13]<| .fin))) (.alt 6 (.alt 1 (onZ [10,11,12,13]<| .fin) (.one 10 (onZ [1,11,12,13]<| .fin))) (.one 10 (.alt 1 (onZ [6,11,12,13]<| .fin) (.one 6 (onZ [1,11,12,13]<| .fin)))))) (.one 10 (.alt 1 (onZ [5,6,11,12,13]<| .fin) (.one 5 (.alt 1 (onZ [6,11,12,13]<| .fin) (.one 6 (onZ [1,11,12,13]<| .fin))))))))))) (.one 7 (.take 8<| .take 9<| .alt 1 (.alt 2 (.take 3<| .take 4<| .alt 5 (.alt 6 (onZ [10,11,12,13]<| .fin) (.one 10 (onZ [6,11,12,13]<| .fin))) (.one 10 (onZ [5,6,11,12,13]<| .fin))) (.one 10 (.one 2<| .take 3<| .take 4<|onZ [5,6,11,12,13]<| .fin))) (.alt 2 (.take 3<| .take 4<| .alt 1 (.alt 5 (.alt 6 (onZ [10,11,12,13]<| .fin) (.one 10 (onZ [6,11,12,13]<| .fin))) (.one 10 (onZ [5,6,11,12,13]<| .fin))) (.alt 5 (.alt 1 (.alt 6 (onZ [10,11,12,13]<| .fin) (.one 10 (onZ [6,11,12,13]<| .fin))) (.alt 6 (.alt 1 (onZ [10,11,12,13]<| .fin) (.one 10 (onZ [1,11,12,13]<| .fin))) (.one 10 (.alt 1 (onZ [6,11,12,13]<| .fin) (.one 6 (onZ [1,11,12,13]<| .fin)))))) (.one 10 (.alt 1 (onZ [5,6,11,12,13]<| .fin) (.one 5 (.alt 1 (onZ [6,11,12,13]<| .fin) (.one 6 (onZ [1,11,12,13]<| .fin)))))))) (.one 10 (.alt 1 (.one 2<| .take 3<| .take 4<|onZ [5,6,11,12,13]<| .fin) (.one 2 (.take 3<| .take 4<| .alt 1 (onZ [5,6,11,12,13]<| .fin) (.one 5 (.alt 1 (onZ [6,11,12,13]<| .fin) (.one 6 (onZ [1,11,12,13]<| .fin))))))))))))
theorem JC{α:Type}(f:Nat->List α)(k:Nat)(hk:∀i,aa (f i)=k):∀(m j:Nat),j<m->(((List.range m).flatMap f).drop (j*k)).take k=f j
 |0,j,h=>by omega
 |m+1,j,h=>by
  have hlen:∀m,aa ((List.range m).flatMap f)=m*k:=by
   intro m
   induction m with
   |zero=>simp
   |succ m ih=>rw[List.range_succ,List.flatMap_append,zqa,ih];simp[hk,Nat.succ_mul]
  rw[List.range_succ,List.flatMap_append];by_cases hj:j<m
  ·have h1:(j+1)*k<=m*k:=Nat.mul_le_mul_right k hj;rw[Nat.succ_mul]at h1;rw[List.drop_append_of_le_length (by rw[hlen];omega),List.take_append_of_le_length (by rw[List.length_drop,hlen];omega)];exact JC f k hk m j hj
  ·have:j=m:=by omega
   subst this;have h2:((List.range j).flatMap f).drop (j*k)=[]:=List.drop_of_length_le (by rw[hlen];exact zrb _);rw[List.drop_append,h2,hlen,Nat.sub_self,List.drop_zero];simp[<-hk j]
structure Got(n:Nat)(bud:Int)(L:Lay)(S:St)(c7 b9:Nat)(h:H):Prop where
 b:h[b9]? =ar (aw [.lp L.s 0])
 s:h[L.s]? =ar (aw (ay n bud L S))
 v:h[L.v]? =ar (aw (eH L S n))
 g:h[L.g]? =ar (aw ((List.range (aa S.ln)).map (lnV L S)))
 k:∀i,i<aa S.ln->h[L.k i]? =ar (aw ((S.ln.getD i []).map vi))
 e:h[c7]? =ar (aw [vi 0])
theorem Got.of(hs:HS n bud L S h){b9 c7:Nat}(hb9:L.ro b9=ar (.e (xM L)))(hc7:L.ro c7=ar (.e (aw [vi 0]))):Got n bud L S c7 b9 h :=
 ⟨(hs.ext _ _ hb9).1,hs.sol,hs.var,hs.lnl,λi hi=>(hs.lnk i hi).1,(hs.ext _ _ hc7).1⟩
variable{h':H}{b9 c7:Nat}
theorem Got.map{h0:H}{p:Nat->Bool}(k:Got n bud L S c7 b9 h')(hs:HS n bud L S h0)(hb9:L.ro b9=ar (.e (xM L)))(hc7:L.ro c7=ar (.e (aw [vi 0])))(hp:∀i r,L.ro i=ar r->p i=am):Got n bud L S c7 b9 (h'.map (O.drop p)):=by
 have g0:=Got.of hs hb9 hc7;have g1:=Got.of (hs.dropN hp) hb9 hc7;have key:∀ {i:Nat} {o:O},h0[i]? =ar o->(h0.map (O.drop p))[i]? =ar o->h'[i]? =ar o->(h'.map (O.drop p))[i]? =ar o:=λ{i o} q1 q2 q3=>by rw[zqo,q1,zrw]at q2;rw[zqo,q3,zrw,q2]
 exact⟨key g0.b g1.b k.b,key g0.s g1.s k.s,key g0.v g1.v k.v,key g0.g g1.g k.g,λi hi=>key (g0.k i hi) (g1.k i hi) (k.k i hi),key g0.e g1.e k.e⟩
theorem Got.congr(k:Got n bud L S c7 b9 h)(he:∀i,(i=b9\/i=L.s\/i=L.v\/i=L.g\/(∃j,j<aa S.ln/\i=L.k j)\/i=c7)->h'[i]? =h[i]?):Got n bud L S c7 b9 h' :=
 ⟨(he _ (.inl rfl)).trans k.b,(he _ (.inr (.inl rfl))).trans k.s,(he _ (.inr (.inr (.inl rfl)))).trans k.v,(he _ (.inr (.inr (.inr (.inl rfl))))).trans k.g,λi hi=>(he _ (.inr (.inr (.inr (.inr (.inl ⟨i,hi,rfl⟩)))))).trans (k.k i hi),(he _ (.inr (.inr (.inr (.inr (.inr rfl)))))).trans k.e⟩
theorem PM(hs:HS n bud L S h)(hn:n<=20000){b9 c6 c7:Nat}(hb9:L.ro b9=ar (.e (xM L)))(hc6:L.ro c6=ar (.e (aw [vi 0,.nils,vi 0,.nils])))(hc7:L.ro c7=ar (.e (aw [vi 0])))(h67:c6≠c7)(res:Int)(hln:aa S.ln<=1000000000000){K:H->(Nat->Bool)->Prop}
 (hk:∀h' p va vs,((res≠1/\vs=[])\/(res=1/\vs=mX n S))->((va= .nils/\vs=[])\/∃id,va= .ls id 1 0 (aa vs) (aa vs)/\h'[id]? =ar (aw (vs.map .bool)))->h'[c6]? =ar (aw [vi res,va,vi (aa S.ln),.ls L.g 1 0 (aa S.ln) (aa S.ln)]) ->
  Got n bud L S c7 b9 h'->(∀q,p q=ab->L.ro q=aL)->K h' p) :
 rX TE 65 [.lp b9 0,.lp c6 0,.lp c7 0] (.iface 134 (.agg [vi res])) h K:=by
 have hM:=mLx;have e1:∀o o':O,List.set (h++[o]) (aa h) o'=h++[o']:=λo o'=>by rw[List.set_append_right _ _ (zrb _)];simp
 have e2:∀o:O,(h++[o])[aa h]? =ar o:=λo=>by simp
 refine Aw rfl Tryz.func65 rfl rfl (by simp[nts]) rfl (λev w=>rfl) rfl (by decide) ?_;simp only[nts];refine aK rfl rfl ?_;simp only[wq.1,↓reduceIte];refine⟨by decide,?_⟩;refine aK rfl rfl ?_;simp only[wq.1,↓reduceIte];refine aK rfl rfl ?_;simp only[wq.1,seval];refine aK rfl rfl ?_;simp only[wq.1,seval];refine aK rfl rfl ?_;simp only[wq.1];refine aK rfl rfl ?_;simp only[wq.1,seval,e1,e2];refine aK rfl rfl ?_;simp only[wq.1,seval];refine iZ ?_;show awp _ _ _ _ _ _ _;have hA:=hs.app [aw [vi res]];obtain⟨hB,ehB⟩:∃hB,hB=h++[aw [vi res]]:=⟨_,rfl⟩;have hBl:aa hB=aa h+1:=by rw[ehB];simp
 have hBt:hB[aa h]? =ar (aw [vi res]):=by rw[ehB];exact e2 _
 rw[<-ehB]at hA;have hb9':=(hA.ext _ _ hb9).1;have hc6':=(hA.ext _ _ hc6).1;have hc7':=(hA.ext _ _ hc7).1;have hsolA:=hA.sol;unfold xM at hb9';have hl6:=hA.rlt _ _ hc6;have hl7:=hA.rlt _ _ hc7;have e3:(h++[aw [V.int IntKind.i64 res]])=hB:=ehB.symm;refine vn ?_;simp only[wq.1,seval,e3];refine ak ?_;refine bK dV UO (λf' h'=>f'.t 0= .lp b9 0/\f'.t 1= .lp c6 0/\f'.t 2= .lp c7 0/\f'.t 3= .lp (aa h) 0/\f'.d=[]/\(∀q,f'.k q=am)/\h'=(hB.set c6 (aw [vi res,.nils,vi (aa S.ln),.ls L.g 1 0 (aa S.ln) (aa S.ln)])).set c7 (aw [vi 0])) (by decide +kernel) (by decide +kernel) ?_ ?_
 ·simp only[wq.1,seval,-Int.reduceNatCast,-Int.reduceNatCast',UO,hBt,hb9',hc6',hc7',hsolA,ay,zqn,h67,ne_eq,not_false_eq_true]
 ·rintro f2 h2 ⟨g0,g1,g2,g3,gd,gk,rfl⟩;show awp _ _ _ _ _ _ _;have ne67:∀i,(i=b9\/i=L.s\/i=L.v\/i=L.g\/(∃j,j<aa S.ln/\i=L.k j)\/i=c7)->c6≠i/\∃r,L.ro i=ar r:=λi hi=>by
   rcases hi with rfl|rfl|rfl|rfl|⟨j,hj,rfl⟩|rfl
   ·exact⟨bW L hc6 hb9 (by simp[xM]),_,hb9⟩
   ·exact⟨bW L hc6 hs.rs (by simp),_,hs.rs⟩
   ·exact⟨bW L hc6 hs.rv (by simp),_,hs.rv⟩
   ·exact⟨bW L hc6 hs.rg (by simp),_,hs.rg⟩
   ·exact⟨bW L hc6 (hs.lnk j hj).2 (by simp),_,(hs.lnk j hj).2⟩
   ·exact⟨h67,_,hc7⟩
  have hgot:Got n bud L S c7 b9 ((hB.set c6 (aw [vi res,.nils,vi (aa S.ln),.ls L.g 1 0 (aa S.ln) (aa S.ln)])).set c7 (aw [vi 0])):=by
   refine(Got.of hA hb9 hc7).congr λi hi=> ?_;obtain⟨q1,r,q2⟩:=ne67 i hi;by_cases q3:c7=i
   ·subst q3;rw[zqt (by simpa using hl7)];exact hc7'.symm
   ·rw[zqn q3,zqn q1]
  obtain⟨h2,eh2⟩:∃h2,h2=(hB.set c6 (aw [vi res,.nils,vi (aa S.ln),.ls L.g 1 0 (aa S.ln) (aa S.ln)])).set c7 (aw [vi 0]):=⟨_,rfl⟩;rw[<-eh2]at hgot ⊢;have hc62:h2[c6]? =ar (aw [vi res,.nils,vi (aa S.ln),.ls L.g 1 0 (aa S.ln) (aa S.ln)]):=by rw[eh2,zqn h67.symm,zqt hl6]
  have hro3:L.ro (aa h)=aL:=Po hs;have ht2:h2[aa h]? =ar (aw [vi res]):=by rw[eh2,zqn (λe=>by rw[<-e,hc7]at hro3;cases hro3),zqn (λe=>by rw[<-e,hc6]at hro3;cases hro3)];exact hBt
  have hl2:aa h2=aa h+1:=by rw[eh2];simp[hBl]
  by_cases hr1:res=1
  ·have eb:(res==1)=ab:=by simpa using hr1
   refine vm ?_;simp only[wq.1,↓reduceIte,Nat.reduceLT,Nat.reduceLeDiff,Nat.reduceAdd,Int.reduceToNat,Int.reduceLE,reduceCtorEq,Nat.reduceMul,g0,g3,ht2,eb,hgot.b,hgot.s,ay];rw[Nat.add_sub_cancel];refine⟨by omega,?_⟩;have hvl:aa (mX n S)=n:=by simp[mX]
   refine aA (λm f3 h3=>∃(i:Nat)(va:V),m+i=n/\Got n bud L S c7 b9 h3/\h3[c6]? =ar (aw [vi res,va,vi (aa S.ln),.ls L.g 1 0 (aa S.ln) (aa S.ln)]) /\
    ((i=0/\va= .nils)\/∃id,va= .ls id 1 0 i i/\h3[id]? =ar (aw (((mX n S).take i).map .bool))/\aa h<=id) /\
    f3.t 0= .lp b9 0/\f3.t 1= .lp c6 0/\f3.t 33= .ls L.v 5 5 n n/\f3.t 34=vi n/\f3.t 35=vi i/\f3.d=[]/\(∀q,f3.k q=ab->aa h<=q)/\aa h<=aa h3) n
    ⟨0,.nils,by omega,hgot,hc62,.inl ⟨rfl,rfl⟩,g0,g1,rfl,by simp only[wq.1,seval];try rfl,by simp only[wq.1,↓reduceIte];try rfl,gd,(λq hq=>by have hq:f2.k q=ab:=hq;rw[gk]at hq;cases hq),by omega⟩ ?_
   rintro m f3 h3 ⟨i,va,hm,got,h36,hva,k0,k1,k33,k34,k35,kd,kk,hl3⟩;by_cases hi:i<n
   ·have eb2:aM ((i:Int)<(n:Int))=ab:=by rw[zqb];omega
    have hv:=got.v;have hel:((eH L S n).drop (5+i*5)).take 5=iE L S (S.v (i+1)):=by rw[show 5+i*5=(i+1)*5 by omega];exact JC (λi=>iE L S (S.v i)) 5 (λ_=>rfl) (n+1) (i+1) (by omega)
    have e1':∀o o':O,List.set (h3++[o]) (aa h3) o'=h3++[o']:=λo o'=>by rw[List.set_append_right _ _ (zrb _)];simp
    have e2':∀o:O,(h3++[o])[aa h3]? =ar o:=λo=>by simp
    have hvc5:aa (iE L S (S.v (i+1)))=5:=rfl;have hao:dD (iE L S (S.v (i+1)))=ab:=by unfold iE;rcases Fe L S (S.v (i+1)).reason with hrv|⟨id,len,hrv⟩<;>rw[hrv]<;>rfl
    have hg0:(iE L S (S.v (i+1))).getD 0 .any=vi (S.v (i+1)).value:=rfl;refine vn ?_;simp only[wq.1,Nat.reduceLT,k34,k35,eb2];refine vn ?_;simp only[wq.1,↓reduceIte];refine ak (aB ?_);refine vn ?_;simp only[wq.1,seval,-Int.reduceNatCast,-Int.reduceNatCast',k33,k35,hv,bY,hel,e1',e2',hvc5,hao];refine⟨⟨by omega,by omega⟩,by omega,?_⟩;have hlow:∀q r,L.ro q=ar r->q<aa h:=λq r hq=>hs.rlt _ _ hq;have hc6l:=hlow _ _ hc6;obtain⟨h4,eh4⟩:∃h4,h4=h3++[aw (iE L S (S.v (i+1)))]:=⟨_,rfl⟩;have q4t:h4[aa h3]? =ar (aw (iE L S (S.v (i+1)))):=by rw[eh4];exact e2' _
    have q46:h4[c6]? =ar (aw [vi res,va,vi (aa S.ln),.ls L.g 1 0 (aa S.ln) (aa S.ln)]):=by rw[eh4,zqj (by omega)];exact h36
    have q4l:aa h4=aa h3+1:=by rw[eh4];simp
    have got4:Got n bud L S c7 b9 h4:=got.congr λq hq=>by obtain⟨_,r,q2⟩:=ne67 q hq;rw[eh4,zqj (by have:=hlow _ _ q2;omega)]
    rw[<-eh4];have hws:a5 .i64 ((i:Int)+1)=((i+1:Nat):Int):=by rw[aV (by omega) (by omega)];omega
    have etk:(mX n S).take (i+1)=(mX n S).take i++[aM (0<(S.v (i+1)).value)]:=by rw[zrg,zqk (by omega)];simp[mX]
    have hc6l4:c6<aa h4:=by omega
    rcases hva with⟨rfl,rfl⟩|⟨idv,rfl,hid,hidl⟩
    ·have e3':∀o:O,(h4++[o])[c6]? =h4[c6]? :=λo=>zqj hc6l4;refine vm ?_;simp only[wq.1,↓reduceIte,Nat.reduceEqDiff,Nat.reduceLT,Nat.reduceLeDiff,Nat.reduceAdd,reduceCtorEq,Nat.reduceMul,k1,q4t,q46,hg0,hvc5,e3'];refine⟨⟨rfl,by decide⟩,by decide,?_⟩;refine vm ?_;simp only[wq.1,seval,k35];refine .inl ⟨m-1,by omega,1,.ls (aa h4) 1 0 1 1,by omega,(got4.congr λq hq=> ?_),zqt (by simp;omega),.inr ⟨aa h4,rfl,?_,by omega⟩,k0,k1,k33,k34,by simp only[wq.1,↓reduceIte];try rfl,kd,kk,by simp;omega⟩
     ·obtain⟨q1,r,q2⟩:=ne67 q hq;rw[zqn q1,zqj (by have:=hlow _ _ q2;omega)]
     ·rw[zqn (by omega)];have:=etk;simp only[Nat.zero_add,List.take_zero,List.nil_append]at this;rw[this];simp
    ·have hid4:h4[idv]? =ar (aw (((mX n S).take i).map .bool)):=by rw[eh4,zqj (zqe hid).1];exact hid
     have hidl4:=(zqe hid4).1;have hbl:aa (((mX n S).take i).map V.bool)=i:=by rw[zra,zrl,hvl];omega
     have hdb:aE (λx=>x==idv) (((mX n S).take i).map V.bool)=((mX n S).take i).map V.bool:=eP λv hv=>by obtain⟨_,_,rfl⟩:=zrh.1 hv;simp only[V.drop]
     have hn6:c6≠idv:=by omega
     have z6:(c6==idv)=am:=by simp[hn6]
     have z9:(b9==idv)=am:=by have:=hlow _ _ hb9;simp;omega
     have zv:(L.v==idv)=am:=by have:=hlow _ _ hs.rv;simp;omega
     have zg:(L.g==idv)=am:=by have:=hlow _ _ hs.rg;simp;omega
     have zt:(aa h3==idv)=am:=by have:=(zqe hid).1;simp;omega
     refine vm ?_;simp only[wq.1,↓reduceIte,Nat.reduceEqDiff,Nat.reduceLT,Nat.reduceLeDiff,Nat.reduceAdd,reduceCtorEq,Nat.reduceMul,k1,kd,q4t,q46,hg0,hvc5,hid4,hdb,z6,zg,zqn,hn6.symm,ne_eq,not_false_eq_true,zqo];refine⟨⟨rfl,by decide⟩,⟨by rw[zrl,hvl];omega,by omega,by omega⟩,?_⟩;refine vm ?_;simp only[wq.1,seval,k35,hws];have hroi:L.ro idv=aL:=by
      cases e:L.ro idv with
      |none=>rfl
      |some r=>have:=hs.rlt _ _ e;omega
     have hnr:∀q r,L.ro q=ar r->(λx=>x==idv) q=am:=λq r hq=>by simp only[beq_eq_false_iff_ne];rintro rfl;rw[hroi]at hq;cases hq
     have gotm:=got4.map hs hb9 hc7 hnr;refine .inl ⟨m-1,by omega,i+1,.ls idv 1 0 (i+1) (i+1),by omega,(gotm.congr λq hq=> ?_),zqt (by simp;omega),.inr ⟨idv,rfl,?_,hidl⟩,by simp only[wq.1,seval,k0,z9],by simp only[wq.1,seval,k1,z6],by simp only[wq.1,seval,k33,zv],by simp only[wq.1,seval,k34],by simp only[wq.1,↓reduceIte];try rfl,kd,λq hq=> ?_,by simp;omega⟩
     ·obtain⟨q1,r,q2⟩:=ne67 q hq;rw[zqn q1,zqn (λe=>by rw[<-e,hroi]at q2;cases q2)]
     ·rw[zqn hn6,zqt (by simpa using hidl4),etk,zql];rfl
     ·rcases zsi hq with hq|hq
      ·exact kk q hq
      ·rw[show q=idv by simpa using hq];exact hidl
   ·have eb2:aM ((i:Int)<(n:Int))=am:=by rw[zqd];omega
    refine vm ?_;simp only[wq.1,seval,k34,k35,kd,eb2];have hin:i=n:=by omega
    refine hk h3 f3.k va (mX n S) (.inr ⟨hr1,rfl⟩) ?_ h36 got λq hq=> ?_
    ·rcases hva with⟨h1,rfl⟩|⟨id,rfl,h2,_⟩
     ·exact .inl ⟨rfl,zse (by omega)⟩
     ·rw[hin]at h2 ⊢;rw[zqh (by omega)]at h2;exact .inr ⟨id,by rw[hvl],h2⟩
    ·cases e:L.ro q with
     |none=>rfl
     |some r=>have:=hs.rlt _ _ e;have:=kk q hq;omega
  ·have eb:(res==1)=am:=by simpa using hr1
   refine vm ?_;simp only[wq.1,seval,g3,gd,ht2,eb];exact hk h2 f2.k .nils [] (.inl ⟨hr1,rfl⟩) (.inl ⟨rfl,rfl⟩) hc62 hgot λq hq=>by rw[gk]at hq;cases hq
end
section
variable{n:Nat}{bud:Int}{h:H}{l d Lc:List Cl}
def ro0:Nat->Option Ro
 |0=>ar (.e (aw [vi 0,.nils,vi 0,.nils]))
 |1=>ar (.e (aw [vi 0]))
 |2=>ar .v
 |3=>ar .m
 |4=>ar .s
 |5=>ar (.e (aw [.lp 4 0]))
 |6=>ar .t
 |7=>ar .l
 |8=>ar .x
 |9=>ar .g
 |_=>aL
def sV:Lay where
 s:=4
 v:=2
 m:=3
 t:=6
 l:=7
 x:=8
 g:=9
 c:=λ_=>0
 w:=λ_=>aL
 k:=λ_=>0
 ro:=ro0
def XO(n:Nat)(bud:Int):H :=
 [aw [vi 0,.nils,vi 0,.nils],aw [vi 0],aw ((List.range (n+1)).flatMap λ_=>[vi 0,vi 0,.nils,vi 0,vi 0]),.map [] [],
  aw (ay n bud sV (lQ n [])),aw [.lp 4 0],aw [],aw [],aw [],aw []]
theorem hs0:HS n bud sV (lQ n []) (XO n bud) where
 var:=rfl
 map:=⟨[],rfl,List.nodup_nil,λa _=>⟨rfl,rfl⟩⟩
 trl:=rfl
 lvl:=rfl
 nxl:=rfl
 lnl:=rfl
 lnk:=λi hi=>by simp[lQ]at hi
 cla:=λj hj=>by simp[lQ]at hj
 wat:=λa=>rfl
 fre:=λi hi j hj=>by cases hj
 fwt:=λa j hj=>by cases hj
 rs:=rfl
 rv:=rfl
 rm:=rfl
 rt:=rfl
 rl:=rfl
 rx:=rfl
 rg:=rfl
 rlt:=λi r hi=>by
  show i<10;have hi:ro0 i=_:=hi;unfold ro0 at hi;split at hi<;>first|omega|cases hi
 ext:=λi o hi=>by
  have hi:ro0 i=_:=hi;unfold ro0 at hi;split at hi<;>first|(cases hi;done)|skip
  ·cases hi;exact⟨rfl,λp hp=>by simp only[aZ,aE,fA,V.drop]⟩
  ·cases hi;exact⟨rfl,λp hp=>by simp only[aZ,aE,fA]⟩
  ·cases hi;refine⟨rfl,λp hp=> ?_⟩;have h4:p 4=am:=by
    cases e:p 4 with
    |false=>rfl
    |true=>have:=hp 4 .s rfl e;simp at this
   simp only[aZ,aE,V.drop,h4,cond_false,if_false,zrm]
 sol:=rfl
variable{S:St}
theorem Log.few1(g:Log n l S):aa S.ln+1<=3^n:=by
 have h:=gY (m:=3^n) (l:=([]::S.ln).map λc=>vI c n) (by
  rw[zrd,List.nodup_cons];refine⟨λhm=> ?_,?_⟩
  ·obtain⟨c,hc,he⟩:=zrh.1 hm;obtain⟨h1,h2,h3⟩:=g.lrg c hc;obtain⟨a,r,rfl⟩:=List.exists_cons_of_ne_nil h1;have:=qj h2 h3 (by simp) (by simp) he a (by simp);cases this
  ·rw[List.Nodup,List.pairwise_map];refine g.lnew.imp_of_mem λ{a b} ha hb hab e=>hab λx=> ?_;obtain⟨_,h1,h2⟩:=g.lrg a ha;obtain⟨_,h3,h4⟩:=g.lrg b hb;exact⟨qj h1 h2 h3 h4 e x,qj h3 h4 h1 h2 e.symm x⟩) (by
  intro x hx;obtain⟨c,_,rfl⟩:=zrh.1 hx;exact ut c n)
 simpa using h
def vP(l:List Cl)(n:Nat)(bud:Int)(res:Int)(vals:List Bool)(ln:List Cl):Prop :=
 (aa ln:Int)<=bud/\(∀m (hm:m<aa ln),Bad (l++ln.take m) (Dn ln[m]))/\(∀c∈ln,c≠[]/\(c.map Int.natAbs).Nodup/\∀a∈c,a≠0/\a.natAbs<=n)/\aa ln+1<=3^n /\
 ((res=0/\vals=[]/\Bad (l++ln) [])\/(res=1/\aa vals=n/\sat l vals=ab)\/(res=2/\vals=[]/\(aa ln:Int)=bud))
def zy(l:List Cl)(vars budget:Int)(r:V):Prop :=
 (chk l vars≠0/\r= .tup [.agg [vi 0,aI [],vi 0,cls []],vi (chk l vars)]) \/
 (chk l vars=0/\∃res vals ln,r= .tup [.agg [vi res,aI vals,vi (aa ln),cls ln],vi 0]/\vP l vars.toNat (max budget 0) res vals ln)
theorem FB{α:Type}{f g:α->V}{h':H}:∀ {l:List α},(∀i∈l,aH TE h' (f i) (g i))->aj TE h' (l.map f) (l.map g)
 |[],_=>aj.nil
 |a::l,hh=>aj.cons (hh a (by simp)) (FB λi hi=>hh i (by simp[hi]))
variable{h':H}
theorem FC{L:Lay}(hg:h'[L.g]? =ar (aw ((List.range (aa S.ln)).map (lnV L S))))(hk:∀i,i<aa S.ln->h'[L.k i]? =ar (aw ((S.ln.getD i []).map vi))):aH TE h' (.ls L.g 1 0 (aa S.ln) (aa S.ln)) (cls S.ln):=by
 refine aH.ls hg ?_ (H8 _) (Dl _) (by simp);have e:(S.ln.map λc=>az c)=(List.range (aa S.ln)).map λi=>az (S.ln.getD i []):=by
  apply List.ext_getElem?;intro i;by_cases hi:i<aa S.ln
  ·simp[hi,zqg]
  ·simp[Nat.not_lt.1 hi]
 rw[e];refine FB λi hi=> ?_;exact aH.ls (hk i (List.mem_range.1 hi)) (aj.dat (jP _)) (Jj _) (Dk _) (by simp)
theorem PN{L:Lay}(hs:HS n bud L S h)(x0:LX 0 sV L)(hn:n<=20000)(hln:aa S.ln<=1000000000000){res budget:Int}(hbud:bud=max budget 0)(hz:chk l n=0)(hok:vP l n bud res (if res=1 then mX n S else []) S.ln)
 {f:Fr} (hd:f.d=[]) (h6:f.t 6= .lp 0 0) (h7:f.t 7= .lp 1 0) :
 rX TE 65 [.lp 5 0,.lp 0 0,.lp 1 0] (.iface 134 (.agg [vi res])) h (λh'' p=>xh TE.P Tryz.f36.results.toList (λv h k=>match AEnd.ret v with | .ret v=>∃r,zy l n budget r/\aH TE h v r | .pan _=>False) (f.drop p) h''):=by
 have r0:L.ro 0=ar (.e (aw [vi 0,.nils,vi 0,.nils])):=x0.ro 0 _ rfl;have r1:L.ro 1=ar (.e (aw [vi 0])):=x0.ro 1 _ rfl;have r5:L.ro 5=ar (.e (xM L)):=by have:=x0.ro 5 _ (rfl:sV.ro 5=ar (.e (aw [.lp 4 0])));unfold xM;rw[x0.s];exact this
 refine PM hs hn r5 r0 r1 (by decide) res hln ?_;intro h' p va vs hvs hva h0 got hp;have p0:p 0=am:=by
  cases e:p 0 with
  |false=>rfl
  |true=>have:=hp 0 e;rw[r0]at this;cases this
 have p1:p 1=am:=by
  cases e:p 1 with
  |false=>rfl
  |true=>have:=hp 1 e;rw[r1]at this;cases this
 have q6:V.drop p (f.t 6)= .lp 0 0:=by rw[h6];simp only[V.drop,p0,cond_false,if_false,zrm]
 have q7:V.drop p (f.t 7)= .lp 1 0:=by rw[h7];simp only[V.drop,p1,cond_false,if_false,zrm]
 have q8:(f.drop p).d=[]:=hd;have h1:=got.e;have hvse:vs=if res=1 then mX n S else []:=by
  rcases hvs with⟨q,rfl⟩|⟨q,rfl⟩
  ·rw[if_neg q]
  ·rw[if_pos q]
 unfold xh;rw[q8];simp only[jK];simp only[wq.1,seval,Tryz.results36,q6,q7,h0,h1];refine⟨.tup [.agg [vi res,aI vs,vi (aa S.ln),cls S.ln],vi 0],.inr ⟨hz,res,vs,S.ln,rfl,?_⟩,?_⟩
 ·rw[hvse,<-hbud];exact hok
 ·refine aH.tup (aj.cons (aH.agg (aj.cons (aH.dat rfl) (aj.cons ?_ (aj.cons (aH.dat rfl) (aj.cons (FC got.g got.k) aj.nil))))) (aj.cons (aH.dat rfl) aj.nil));rcases hva with⟨rfl,rfl⟩|⟨id,rfl,hid⟩
  ·exact aH.nils
  ·exact aH.ls hid (aj.dat (lK _)) (VB _) (O5 _) (by simp)
end
section
variable{n:Nat}{bud:Int}{h:H}{l d Lc:List Cl}
theorem XP(b:Int):yh [vi b,vi 0]=(True,vi (max b 0)):=by
 simp only[yh];split
 ·rw[show max b 0=0 by omega]
 ·rw[show max b 0=b by omega]
theorem Tv(l:List Cl)(vars budget:Int)(hcn:∀c∈l,aa c<=1000)(hB:chk l vars=0->∃B,Big vars.toNat l (max budget 0) B):EvR TE 36 [cls l,vi vars,vi budget] (zy l vars budget):=by
 have hM:=mLx;refine EvR.of_calls ?_;refine Az rfl Tryz.func36 rfl (by simp[nts]) λok pl0 w0=> ?_;simp only[nts];refine CZ (Q:=λ_ _ _=>False) ?_ (λ_ _ _ h=>by obtain⟨_,_,_,_,_,_,h⟩:=h;exact h.elim);refine vm ?_;simp only[wq.1,Nat.reduceLT];refine CZ (Q:=wJ P [ResultVar.cell 6 63,ResultVar.cell 7 35] λae h _=>match ae with | .ret v=>∃r,zy l vars budget r/\aH TE h v r | .pan _=>False) ?_ ?_
 ·refine vm ?_;simp only[wq.1,seval];refine ag.ev (SN l vars) (by simp[a7,a6,ul]) ?_;by_cases hz:chk l vars=0
  ·have eb:(chk l vars != 0)=am:=by simp[hz]
   simp only[wq.1,seval,eb];obtain⟨B,big⟩:=hB hz;obtain⟨v1,v2,v3,v4⟩:=uj hz;obtain⟨n,en⟩:∃n:Nat,vars=n:=⟨vars.toNat,by omega⟩;subst en;have hn:n<=20000:=by omega
   rw[zsg]at big;have hw1:a5 .i64 ((n:Int)+1)=((n+1:Nat):Int):=by rw[aV (by omega) (by omega)];omega
   refine CZ (Q:=λ_ _ _=>False) ?_ (λ_ _ _ h=>by obtain⟨_,_,_,_,_,_,h⟩:=h;exact h.elim);refine jF ?_;refine aK rfl rfl ?_;simp only[wq.1,seval];refine aK rfl rfl ?_;simp only[wq.1,↓reduceIte,hw1];refine gX rfl rfl ?_;refine AA (t:=127) rfl (q:={kind:= .slice 138,size:=1,bytes:=24,zero:= .nils}) (by simp only[wq.1]) (el:=138) rfl (re:={kind:=K.struct [(0,3),(1,3),(2,136),(3,3),(4,3)],size:=5,bytes:=56,zero:=V.agg [V.int IntKind.i64 0,V.int IntKind.i64 0,V.nils,V.int IntKind.i64 0,V.int IntKind.i64 0]}) (by simp only[wq.1]) rfl rfl (by decide) (by simp only[wq.1,↓reduceIte]) (by simp only[wq.1,↓reduceIte]) (k:= .i64) (k':= .i64) (m:=((n+1:Nat):Int)) (by simp only[wq.1,↓reduceIte]) (by simp only[wq.1,↓reduceIte]) (by omega) (by omega) (by decide) (by rw[zsg];show(n+1)*5<=_;omega) ?_;rw[zsg];simp only[wq.1,Nat.reduceAdd];refine aK rfl rfl ?_;simp only[wq.1,Nat.reduceAdd];refine aK rfl rfl ?_;simp only[wq.1,seval];refine aK rfl rfl ?_;simp only[wq.1,↓reduceIte,XP];refine aK rfl rfl ?_;simp only[wq.1,seval];refine aK rfl rfl ?_;simp only[wq.1,seval];refine aK rfl rfl ?_;simp only[wq.1,Nat.reduceAdd];refine aK rfl rfl ?_;simp only[wq.1,seval];refine iZ ?_;show Xw _ _ _ _ _ _ _ _ _;refine LK rfl (fn:=Tryz.f36) (q:=65) (caps:=[.lp 5 0,.lp 0 0,.lp 1 0]) (fx:= .tmp 28) rfl rfl (by simp only[wq.1,seval]) rfl rfl rfl rfl (by simp only[wq.1,seval]) (by simp only[wq.1,seval]) (by simp only[wq.1]) rfl λdd=> ?_;simp only[nts];obtain⟨ee,hee⟩:∃ee:E,ee={TE with tl:=[dd]}:=⟨_,rfl⟩;have hP:ee.P=P:=by rw[hee];rfl
   have hmix:ee.P.follows .mixedOrders=ab:=by rw[hP];exact dV
   have hT:∀ {g:FuncId} {args:List V} {h:H} {R:AEnd->H->(Nat->Bool)->Prop},ag TE g args h R->ag ee g args h R:=λhc=>by rw[hee];exact hc.tl _
   rw[<-hee];refine gz (gz (gz (gz ?_)));refine lF (h':=XO n (max budget 0)) ?_ ?_
   ·exact HLe.set (i:=4) (o':=aw (ay n (max budget 0) sV (lQ n []))) rfl (OLe.cells (zrb _) (fD.cons (VLe.refl _) (fD.cons (VLe.refl _) (fD.cons dH (fD.cons (VLe.refl _) (fD.cons dH (fD.cons dH (fD.cons dH (fD.cons (VLe.refl _) (fD.refl _))))))))))
   obtain⟨QP,eQP⟩:∃QP:V->Fr->H->Prop,QP=λv f' h'=>f'.d=[]/\aE f'.k [V.lp 5 0,V.lp 0 0,V.lp 1 0]=[V.lp 5 0,V.lp 0 0,V.lp 1 0]/\rX TE 65 [V.lp 5 0,V.lp 0 0,V.lp 1 0] v h' λh'' p=>xh TE.P Tryz.f36.results.toList (λv h k=>∃r,zy l (↑n) budget r/\aH TE h v r) (f'.drop p) h'':=⟨_,rfl⟩;have dropL:∀ {p:Nat->Bool},DX sV p->aE p [.lp 5 0,.lp 0 0,.lp 1 0]=[.lp 5 0,.lp 0 0,.lp 1 0]:=λ{p} hp=>by have z5:p 5=am:=hp.e (rfl:sV.ro 5=ar (.e _));have z0:p 0=am:=hp.e (rfl:sV.ro 0=ar (.e _));have z1:p 1=am:=hp.e (rfl:sV.ro 1=ar (.e _));simp only[aE,V.drop,z5,z0,z1,cond_false,if_false,zrm]
   have hfin:∀ {L':Lay} {S':St} {h':H} {res:Int} {f':Fr},HS n (max budget 0) L' S' h'->LX 0 sV L'->aa S'.ln<=1000000000000->vP l n (max budget 0) res (if res=1 then mX n S' else []) S'.ln->f'.d=[]->f'.t 6= .lp 0 0->f'.t 7= .lp 1 0->DX sV f'.k->QP (.iface 134 (.agg [vi res])) f' h':=λk x hl hok kd k6 k7 kk=>by rw[eQP];exact⟨kd,dropL kk,PN k x hn hl rfl hz hok kd k6 k7⟩
   refine dh (Q:=λxe f' h'=>∃v,xe= .pan v/\QP v f' h') (λxe f' h' ⟨v,e,hq⟩=>⟨v,e,by rw[eQP]at hq;exact hq⟩) ?_;have hbox:∀ {L':Lay} {S':St} {h':H},LX 0 sV L'->HS n (max budget 0) L' S' h'->h'[5]? =ar (aw [.lp 4 0]):=λx k=>(k.ext 5 _ (x.ro 5 _ rfl)).1;refine ak (dh (Q:=λxe f' h'=>xe= .normal/\∃nx:List (Int×Int),nx.Perm ((List.range n).map λi=>(((i+1:Nat):Int),0))/\HS n (max budget 0) sV (nxS (lQ n []) nx) h' /\
    f'.t 0=cls l/\f'.t 6= .lp 0 0/\f'.t 7= .lp 1 0/\f'.t 9= .lp 5 0/\f'.d=[]/\DX sV f'.k) ?_ ?_)
   ·rintro xe f1 h1 ⟨rfl,nx,hperm,hs1,g0,g6,g7,g9,gd,gk⟩;show awp _ _ _ _ _ _ _;have i0:Inv n l [] [] (nxS (lQ n []) nx):=by
     refine S9 n l (λi h1 h2=>hperm.mem_iff.2 (zrh.2 ⟨i-1,List.mem_range.2 (by omega),by rw[show i-1+1=i by omega]⟩)) λt ht=> ?_;obtain⟨i,hi,rfl⟩:=zrh.1 (hperm.mem_iff.1 ht);have:=List.mem_range.1 hi;exact⟨by show(1:Int)<=((i+1:Nat):Int);omega,by show((i+1:Nat):Int)<=n;omega⟩
    have hnl:aa nx=n:=by have:=hperm.length_eq;simpa using this
    have hll:aa l<=100000:=by omega
    have hlr:∀c∈l,∀a∈c,a≠0/\a.natAbs<=n:=λc hc a ha=>by have:=O1 (v4 c hc a ha);omega
    refine ak (dh (Q:=λxe f' h'=>(xe= .normal/\∃S' L',Inv n l l [] S'/\S'.nc<=aa l/\S'.nx=nx/\S'.ln=[]/\LX 0 sV L'/\HS n (max budget 0) L' S' h' /\
     f'.t 6= .lp 0 0/\f'.t 7= .lp 1 0/\f'.t 9= .lp 5 0/\f'.d=[]/\DX sV f'.k)\/(∃v,xe= .pan v/\QP v f' h')) ?_ ?_)
    ·rintro xe f2 h2 (⟨rfl,S',L',i1,hnc,hnx,hln,x1,hs2,k6,k7,k9,kd,kk⟩|⟨v,rfl,hq⟩)
     ·show awp _ _ _ _ _ _ _;have es:L'.s=4:=x1.s;have hh:∀R,ag TE 68 [V.lp L'.s 0] h2 R->ag TE 68 [V.lp 4 0] h2 R:=λR h=>by rw[es]at h;exact h
      have hb2:=hbox x1 hs2;refine qZ hmix _ _ _ _ ?_;simp only[wq.1,seval,hP,k9,hb2];refine hT (hh _ (Fz big hs2 hlr ⟨by rw[hln];exact i1,by rw[hln];have:=big.pos;simpa using this,by rw[hln];simpa using hnc,by rw[hnx,hln,hnl];simp⟩ λS3 L3 h3 p res i3 hb3 he3 x3 hs3 dx3 hl3=> ?_));have kk3:DX sV (λi=>f2.k i||p i):=kk.or (dx3.back x1.ro);have dxp:DX sV p:=dx3.back x1.ro;have z0:p 0=am:=dxp.e (rfl:sV.ro 0=ar (.e _));have z1:p 1=am:=dxp.e (rfl:sV.ro 1=ar (.e _));have hB3:=big.few S3 i3 hb3;have hncb:=big.nc;refine⟨λi hi=> ?_,_,rfl,hfin hs3 (x1.trans x3) (by omega) ⟨hb3,i3.g.rup,i3.g.lrg,i3.g.few1,?_⟩ kd (by simp only[wq.1,seval,k6,z0]) (by simp only[wq.1,seval,k7,z1]) kk3⟩
      ·have hi:i∈f2.d:=hi;rw[kd]at hi;cases hi
      ·rcases he3 with⟨rfl,hbad⟩|⟨rfl,hsat⟩|⟨rfl,he⟩
       ·exact .inl ⟨rfl,rfl,hbad⟩
       ·exact .inr (.inl ⟨rfl,by simp[mX],hsat⟩)
       ·exact .inr (.inr ⟨rfl,rfl,he⟩)
     ·exact⟨v,rfl,hq⟩
    ·refine ak (qZ hmix _ _ _ _ ?_);simp only[wq.1,seval,hP,g0];refine aB ?_;refine aA (λm f2 h2=>∃(i:Nat)(S':St)(L':Lay),m+i=aa l/\Inv n l (l.take i) [] S'/\S'.lv=[]/\S'.hd=0/\S'.nc<=i/\S'.nx=nx/\S'.ln=[]/\LX 0 sV L'/\HS n (max budget 0) L' S' h2 /\
      f2.t 6= .lp 0 0/\f2.t 7= .lp 1 0/\f2.t 9= .lp 5 0/\f2.t 42=cls l/\f2.t 43=vi (aa l)/\f2.t 44=vi i/\f2.d=[]/\DX sV f2.k) (aa l)
      ⟨0,nxS (lQ n []) nx,sV,by omega,i0,rfl,rfl,zrb _,rfl,rfl,LX.refl _ _,hs1,g6,g7,g9,rfl,by simp only[wq.1,seval];try rfl,by simp only[wq.1,↓reduceIte];try rfl,gd,gk⟩ ?_
     rintro m f2 h2 ⟨i,S',L',hm,i1,hlv,hhd,hnc,hnx,hln,x1,hs2,k6,k7,k9,k42,k43,k44,kd,kk⟩;have hb2:=hbox x1 hs2;by_cases hi:i<aa l
     ·have eb:aM ((i:Int)<(aa l:Int))=ab:=by rw[zqb];omega
      have hw2:a5 .i64 ((i:Int)+1)=((i+1:Nat):Int):=by rw[aV (by omega) (by omega)];omega
      obtain⟨c,ec⟩:∃c,c=l[i]:=⟨_,rfl⟩;have hcm:c∈l:=ec▸zqu hi;have hg:(l.map λc=>az c).getD i .any=az c:=by rw[ec];simp[zqg,hi]
      have hlm:aa (l.map λc=>az c)=aa l:=zra ..;have etk:l.take (i+1)=l.take i++[c]:=by rw[zrg,zqk hi,ec];rfl
      refine qZ hmix _ _ _ _ ?_;simp only[wq.1,seval,hP,k9,k42,k43,k44,eb,hb2,hg];have es:L'.s=4:=x1.s;have hh:∀R,ag TE 67 [V.lp L'.s 0,az c] h2 R->ag TE 67 [V.lp 4 0,az c] h2 R:=λR h=>by rw[es]at h;exact h
      have i1':Inv n l (l.take i) [] S':=i1;refine⟨⟨by omega,by omega⟩,hT (hh _ (PE hs2 hn (by omega) i1 hcm (hlr c hcm) (hcn c hcm) hlv hhd (λS3 L3 h3 p i3 hlv3 hhd3 hnc3 hnx3 hln3 x3 hs3 hl3 hp3=> ?_) (λh3 p hbad hs3 hl3 hp3=> ?_)))⟩
      ·have dxp:DX L' p:=λq r hq hpq=>by
        rcases hp3 q hpq with h|⟨a,h⟩|h
        ·rw[h]at hq;cases hq
        ·rw[x3.ro _ _ hq]at h;cases h;exact .inr (.inr (.inr (.inr ⟨a,rfl⟩)))
        ·subst h;rw[hs2.rt]at hq;cases hq;exact .inl rfl
       have dx0:=dxp.back x1.ro;have z0:p 0=am:=dx0.e (rfl:sV.ro 0=ar (.e _));have z1:p 1=am:=dx0.e (rfl:sV.ro 1=ar (.e _));have z5:p 5=am:=dx0.e (rfl:sV.ro 5=ar (.e _));simp only[wq.1,seval,bC,hP,k44,kd,hw2];have i3':Inv n l (l.take (i+1)) [] S3:=by rw[etk];exact i3
       refine .inl ⟨m-1,by omega,i+1,S3,L3,by omega,i3',hlv3,hhd3,by omega,hnx3.trans hnx,hln3.trans hln,x1.trans (x3.mono (Nat.zero_le _)),hs3,by simp only[wq.1,seval,k6,z0],by simp only[wq.1,seval,k7,z1],by simp only[wq.1,seval,k9,z5],by simp only[wq.1,seval,k42],by simp only[wq.1,seval,k43],rfl,kd,kk.or dx0⟩
      ·have dxp:DX L' p:=λq r hq hpq=>by rw[hp3 q hpq]at hq;cases hq
       have dx0:=dxp.back x1.ro;have z0:p 0=am:=dx0.e (rfl:sV.ro 0=ar (.e _));have z1:p 1=am:=dx0.e (rfl:sV.ro 1=ar (.e _));have e0:aa S'.ln=0:=by rw[hln];rfl
       rw[hln]at hbad;refine⟨λi hi=> ?_,.inr ⟨_,rfl,hfin hs3 x1 (by omega) ⟨by rw[e0];exact big.pos,λm hm=>by omega,λc hc=>by(rw[hln]at hc;cases hc),by rw[e0];exact Nat.pow_pos (by decide),.inl ⟨rfl,rfl,by rw[hln];exact hbad⟩⟩ kd (by simp only[wq.1,seval,k6,z0]) (by simp only[wq.1,seval,k7,z1]) (kk.or dx0)⟩⟩;have hi:i∈f2.d:=hi;rw[kd]at hi;cases hi
     ·have eb:aM ((i:Int)<(aa l:Int))=am:=by rw[zqd];omega
      refine qZ hmix _ _ _ _ ?_;simp only[wq.1,seval,hP,k6,k7,k9,k43,k44,kd,eb];have hin:i=aa l:=by omega
      rw[zqh (by omega)]at i1;exact .inl ⟨S',L',i1,by omega,hnx,hln,x1,hs2,kk⟩
   ·refine ak (qZ hmix _ _ _ _ ?_);simp only[wq.1,seval,hP];refine aB ?_;refine aA (λm f1 h1=>∃(w:Nat)(nx:List (Int×Int)),m+w=n/\nx.Perm ((List.range w).map λi=>(((i+1:Nat):Int),0))/\HS n (max budget 0) sV (nxS (lQ n []) nx) h1 /\
     f1.t 0=cls l/\f1.t 1=vi n/\f1.t 6= .lp 0 0/\f1.t 7= .lp 1 0/\f1.t 9= .lp 5 0/\f1.t 10=vi ((w+1:Nat):Int)/\f1.d=[]/\DX sV f1.k) n
     ⟨0,[],by omega,List.Perm.refl _,hs0,rfl,rfl,rfl,rfl,rfl,by simp only[wq.1,↓reduceIte];try rfl,by simp only[wq.1];try rfl,DX.none _⟩ ?_
    rintro m f1 h1 ⟨w,nx,hm,hperm,hs1,g0,g1,g6,g7,g9,g10,gd,gk⟩;have hb1:=hbox (LX.refl _ _) hs1;have hnl:aa nx=w:=by have:=hperm.length_eq;simpa using this
    by_cases hw:w<n
    ·have eb:aM (((w+1:Nat):Int)<=(n:Int))=ab:=by rw[zqb];omega
     have hw2:a5 .i64 (((w+1:Nat):Int)+1)=((w+1+1:Nat):Int):=by rw[aV (by omega) (by omega)];omega
     refine qZ hmix _ _ _ _ ?_;simp only[wq.1,seval,hP,g1,g9,g10,eb,hb1];refine⟨by decide,by decide,hT (vM hs1 (by show aa nx<=_;omega) ((w+1:Nat):Int) 0 λnx2 h2 p q1 q2 q3 q4=> ?_)⟩;have pz:∀k,k≠8->p k=am:=λk hk=>by
      cases e:p k with
      |false=>rfl
      |true=>exact absurd (q4 k e) hk
     have z0:=pz 0 (by decide);have z1:=pz 1 (by decide);have z5:=pz 5 (by decide);simp only[wq.1,seval,bC,hP,g10,gd,hw2];refine .inl ⟨m-1,by omega,w+1,nx2,by omega,?_,q2,by simp only[wq.1,seval,g0],by simp only[wq.1,seval,g1],by simp only[wq.1,seval,g6,z0],by simp only[wq.1,seval,g7,z1],by simp only[wq.1,seval,g9,z5],rfl,gd,gk.or λq r hq hpq=> ?_⟩
     ·rw[List.range_succ,zql];exact q1.trans (hperm.append_right _)
     ·have:=q4 q hpq;subst this;cases hq;exact .inr (.inr (.inl rfl))
    ·have eb:aM (((w+1:Nat):Int)<=(n:Int))=am:=by rw[zqd];omega
     refine qZ hmix _ _ _ _ ?_;simp only[wq.1,seval,hP,g0,g1,g6,g7,g9,g10,gd,eb];have hwn:w=n:=by omega
     subst hwn;exact⟨nx,hperm,hs1,gk⟩
  ·have eb:(chk l vars != 0)=ab:=by simp[hz]
   simp only[wq.1,seval,eb];refine⟨_,.inl ⟨hz,rfl⟩,?_⟩;exact aH.tup (aj.cons (aH.agg (aj.cons (aH.dat rfl) (aj.cons aH.nils (aj.cons (aH.dat rfl) (aj.cons aH.nils aj.nil))))) (aj.cons (aH.dat rfl) aj.nil))
 ·have h9:=λR=>OM (e:=TE) rfl (fn:=Tryz.f36) (R:=R) (ok:=ok) (pl:=pl0) (w:=w0);simp only[Tryz.results36,nts]at h9;exact h9 _
end
abbrev S:=List UInt8
abbrev ig(l:List S):V:= .is am 1 (l.map V.str)
variable{l:List S}
theorem qL{r:List V}(hb:V.bnds (ig l::r)):aa l<=maxLen:=by simp only[V.bnds,V.bnd,zra]at hb;exact hb.1.1
variable{i:Nat}
theorem BA(h:i<aa l)(d:V):(List.map V.str l).getD i d= .str l[i]:=iO h _
def MB(n:Nat)(l:List S):Bool:=aM (aa l<=n)&&l.all λs=>aM (aa s<=60)
theorem zA(l:List S)(n:Nat):Ev TE 15 [ig l,.int .i64 n] (.bool (MB n l)):=by
 refine Ev.bnd λhb=> ?_;have hlen:=qL hb;refine aC Tryz.func15 rfl (by simp[nts]) (vm ?_);simp only[wq.1,Nat.reduceLT,Tryz.results15];refine aA (λm f h=>∃i,m+i=aa l/\f.t 0=ig l/\f.t 1= .int .i64 n/\f.t 5= .int .i64 (i:Int)/\f.d=[]/\∀s∈l.take i,aa s<=60) (aa l) ⟨0,by simp,rfl,rfl,rfl,rfl,by simp⟩ ?_;rintro m f h ⟨i,hm,h0,h1,h5,hd,hall⟩;refine vm ?_;simp only[wq.1,seval,h0,h1,h5];refine vcB.mk (λhc=> ?_) (λhc=> ?_)
 ·simp only[zqf,zqb,zqi,Int.ofNat_le]at hc;obtain⟨hc1,hc2⟩:=hc;simp only[wq.1,seval,h0,h5,BA hc1];refine⟨⟨by omega,by omega⟩,vcB.mk (λhc=> ?_) (λhc=> ?_)⟩
  ·simp only[wq.1,seval,hd];have:MB n l=am:=by
    simp only[zqb]at hc;have hx:∃x∈l,¬aa x<=60:=⟨l[i],zqu _,by omega⟩;simpa [MB]using λ_=>hx
   rw[this];exact aH.dat rfl
  ·simp only[wq.1,seval,h5,ax (show i<maxLen by omega)];refine .inl ⟨m-1,by omega,i+1,by omega,h0,h1,rfl,hd,?_⟩;simp only[zqd]at hc;intro s hs;rw[zrg]at hs;simp only[hc1,zqk,Option.toList_some,zrf,zrc]at hs;rcases hs with hs|rfl
   ·exact hall s hs
   ·omega
 ·simp only[wq.1,seval,h0,h1,hd];have:(aM ((aa l:Int)<=n))=MB n l:=by
   simp only[Bool.and_eq_false_iff,zqd,zqi,Int.ofNat_le]at hc;by_cases hi:i<aa l
   ·have h2:¬aa l<=n:=by omega
    simp[MB,h2]
   ·rw[zqh (by omega)]at hall;have:(l.all λs=>aM (aa s<=60))=ab:=by simpa using hall
    simp[MB,this]
  rw[this];exact aH.dat rfl
def kK(c:UInt8):Bool:=aM (33<=c.toNat)&&aM (c.toNat<=126)
def JD(s:S):Bool:=s.all kK&&(aM (1<=aa s)&&aM (aa s<=40))
def XQ(n:Int):Bool:=aM (n<=32)||aM (126<n)
theorem XR(n:Int):Ev TE 131 [.int .i32 n] (.bool (XQ n)):=by refine aC Tryz.func131 rfl (by simp[nts]) (vm ?_);simp only[wq.1,seval,Tryz.results131];exact aH.eq rfl rfl
theorem PO{s:S}(h:i<aa s)(hb:s[i].toNat<128):I9 s i=(s[i].toNat,1):=by
 unfold I9 Utf8.decode;have:((ByteArray.mk s.toArray).get! (i+0)).toNat=s[i].toNat:=by
  simp[ByteArray.get!,h]
 simp only[this];rw[if_pos hb]
theorem Tz{s:S}(h:i<aa s)(hb:¬s[i].toNat<128):128<=(I9 s i).1:=by
 unfold I9 Utf8.decode;have:((ByteArray.mk s.toArray).get! (i+0)).toNat=s[i].toNat:=by
  simp[ByteArray.get!,h]
 simp only[this];rw[if_neg hb]
 repeat' split
 all_goals first
  |(simp[Utf8.runeError];done)
  |(rename_i hc;simp only[zqf,zqb,ge_iff_le]at hc;dsimp only;omega)
  |(rename_i hc;simp only[ge_iff_le]at hc;dsimp only;omega)
theorem TA{s:S}(h:i<aa s):XQ (I9 s i).1= !kK s[i]:=by
 by_cases hb:s[i].toNat<128
 ·rw[PO h hb];refine Bool.eq_iff_iff.2 ?_;simp only[XQ,kK,Bool.or_eq_true,zqb,Bool.not_eq_true',Bool.and_eq_false_iff,zqd];omega
 ·have:=Tz h hb;have h1:XQ (I9 s i).1=ab:=by simp only[XQ,Bool.or_eq_true,zqb];omega
  have h2:kK s[i]=am:=by simp only[kK,Bool.and_eq_false_iff,zqd];omega
  rw[h1,h2];rfl
def MC(s:S):Option Nat:=s.findIdx? λc=> !kK c
def UQ(s:S):Int:=match MC s with|some i=>i|none=>-1
theorem PP{s:S}(h:i<aa s)(hn:∀x∈s.take i,kK x=ab)(hb:kK s[i]=am):UQ s=i:=by
 have:MC s=ar i:=by
  unfold MC;rw[List.findIdx?_eq_some_iff_getElem];refine⟨h,by simp[hb],λj hj=> ?_⟩;have:s[j]∈s.take i:=by
   rw[List.mem_take_iff_getElem];exact⟨j,by omega,rfl⟩
  simp[hn _ this]
 simp[UQ,this]
theorem FD{s:S}(hn:∀x∈s,kK x=ab):UQ s=-1:=by
 have:MC s=aL:=by unfold MC;rw[List.findIdx?_eq_none_iff];simpa using hn
 simp[UQ,this]
theorem XT(s:S):Ev TE 133 [.str s,.fn (.func 131) [] [],.bool ab] (.int .i64 (UQ s)):=by
 refine Ev.bnd λhb=> ?_;have hlen:aa s<=maxLen:=hb.1;refine aC Tryz.func133 rfl (by simp[nts]) (vm ?_);simp only[wq.1,seval,Tryz.results133];refine aA (λm f h=>∃i,m+i=aa s/\f.t 1= .fn (.func 131) [] []/\f.t 2= .bool ab/\f.t 10= .lp 0 0/\f.d=[]/\h=[.misc (.siter s i)]/\∀x∈s.take i,kK x=ab) (aa s) ⟨0,by simp,rfl,rfl,rfl,rfl,rfl,by simp⟩ ?_;rintro m f h ⟨i,hm,h1,h2,h10,hd,rfl,hall⟩;refine vm ?_;simp only[wq.1,seval,h10];refine pU.mk (λhc=> ?_) (λhc=> ?_)
 ·simp only[zqb]at hc;simp only[wq.1,seval,h1,pU];refine ag.ev (XR _) rfl ?_;rw[TA hc];simp only[wq.1,seval,h2];refine vcB.mk (λhc'=> ?_) (λhc'=> ?_)
  ·have hb:kK s[i]=am:=by simpa using hc'
   simp only[wq.1,seval,hd];rw[PP hc hall hb];exact aH.dat rfl
  ·have hb:kK s[i]=ab:=by simpa using hc'
   have h128:s[i].toNat<128:=by simp only[kK,zqf,zqb]at hb;omega
   simp only[wq.1,Int.reduceNeg];exact .inl ⟨m-1,by omega,i+1,by omega,h1,h2,h10,hd,by rw[PO hc h128],dF hc hall hb⟩
 ·simp only[zqd]at hc;simp only[wq.1,seval,hd,pU];rw[zqh (by omega)]at hall;rw[FD hall];exact aH.dat rfl
theorem XU(s:S):Ev TE 132 [.str s,.fn (.func 131) [] []] (.int .i64 (UQ s)):=by refine aC Tryz.func132 rfl (by simp[nts]) (vm ?_);simp only[wq.1,seval,Tryz.results132];refine ag.ev (XT s) rfl ?_;simp only[wq.1,seval];exact aH.dat rfl
theorem TB(s:S):aM (UQ s<0)=s.all kK:=by
 cases h:s.all kK with
 |true=>rw[FD (by simpa using h)];rfl
 |false =>
  have:∃x∈s,kK x=am:=by simpa using h
  cases hb:MC s with
  |none=>obtain⟨x,hx,hx2⟩:=this;have:=(List.findIdx?_eq_none_iff.1 hb) x hx;simp[hx2]at this
  |some i=>simp[UQ,hb]
theorem TC(s:S):Ev TE 127 [.str s] (.bool (JD s)):=by
 refine aC Tryz.func127 rfl (by simp[nts]) (vm ?_);simp only[wq.1,seval,Tryz.results127];refine CG.ev (q:=132) (vs:=[.str s,.fn (.func 131) [] []]) (by simp only[wq.1,seval]) (by simp only[wq.1,seval]) rfl (λ_=>XU s) (λ_=>rfl) ?_;simp only[wq.1,seval];refine aH.eq rfl ?_;rw[TB];unfold JD
 congr 1
 have h1:(!s==[])=aM (1<=aa s):=by cases s<;>simp
 have h2:aM ((aa s:Int)<=40)=aM (aa s<=40):=decide_eq_decide.2 (by omega);rw[h1,h2,Bool.and_comm]
theorem TD(s:S):Ev TE 107 [.str s] (.bool (JD s)):=by refine aC Tryz.func107 rfl (by simp[nts]) (vm ?_);simp only[wq.1,seval,Tryz.results107];refine ag.ev (TC s) rfl ?_;simp only[wq.1,seval];exact aH.dat rfl
variable{id len cap:Nat}
theorem fG{e:E}{h:H}{l:List Bool}(hc:h[id]? =ar (aw (l.map V.bool)))(hl:len=aa l):aH e h (.ls id 1 0 len cap) (aI l) :=
 aH.ls hc (aj.dat (lK l)) (VB l) (O5 l) (by simpa using hl)
theorem dG{e:E}{h:H}{l:Cl}(hc:h[id]? =ar (aw (l.map vi)))(hl:len=aa l):aH e h (.ls id 1 0 len cap) (az l) :=
 aH.ls hc (aj.dat (jP l)) (Jj l) (Dk l) (by simpa using hl)
abbrev Pq:=Int×Int
abbrev prV(p:Pq):V:= .agg [vi p.1,vi p.2]
abbrev prs(l:List Pq):V:= .is am 2 (l.map prV)
structure Gr where
 ins:Int
 next:Cl
 init:Cl
 ands:List Pq
 outs:Cl
abbrev Gr.v(g:Gr):V:= .agg [vi g.ins,az g.next,az g.init,prs g.ands,az g.outs]
def Gr.first(g:Gr):Int:=1+g.ins+aa g.next
theorem UR(c:Cl)(q:FuncId)(caps:List V)(p:Int->Bool)(he:au P q=ab)(hd:a7 caps=ab)(hq:∀x∈c,Ev TE q (vi x::caps) (.bool (p x))):Ev TE 40 [az c,.fn (.func q) [] caps] (vi (idx c p)):=by
 refine Ev.bnd λhb=> ?_;have hlen:=Dj hb;refine aC Tryz.func40 rfl (by simp[nts]) (vm ?_);simp only[wq.1,seval,Tryz.results40];refine aA (λm f h=>∃i,m+i=aa c/\f.t 0=az c/\f.t 1= .fn (.func q) [] caps/\f.t 7= .int .i64 (aa c:Int)/\f.t 8= .int .i64 (i:Int)/\f.d=[]/\∀x∈c.take i,p x=am) (aa c) ⟨0,by simp,rfl,rfl,rfl,rfl,rfl,by simp⟩ ?_;rintro m f h ⟨i,hm,h0,h1,h7,h8,hdd,hall⟩;refine vm ?_;simp only[wq.1,seval,h7,h8];refine vcB.mk (λhc=> ?_) (λhc=> ?_)
 ·simp only[zqb,zqi]at hc;simp only[wq.1,seval,h0,h1,h8,sU hc,he];refine⟨⟨by omega,by omega⟩,ag.ev (hq _ (zqu _)) (by simp[a7,a6,hd]) ?_⟩;simp only[wq.1,seval];refine vcB.mk (λhc'=> ?_) (λhc'=> ?_)
  ·simp only[wq.1,seval,hdd];rw[oL hc hall hc'];exact aH.dat rfl
  ·simp only[wq.1,seval,h8,ax (show i<maxLen by omega)];exact .inl ⟨m-1,by omega,i+1,by omega,h0,h1,h7,rfl,hdd,dF hc hall hc'⟩
 ·simp only[zqd,zqi]at hc;simp only[wq.1,seval,hdd];rw[zqh (by omega)]at hall;rw[mi hall];exact aH.dat rfl
theorem jY(g:Gr)(h0:-1000000000<=g.ins)(h1:g.ins<=1000000000)(h2:aa g.next<=1000000000):Ev TE 55 [g.v] (vi g.first):=by
 unfold Gr.v Gr.first
 refine aC Tryz.func55 rfl (by simp[nts]) (vm ?_);simp only[wq.1,seval,Tryz.results55];rw[fM (n:=1+g.ins) (by omega) (by omega),fM (by omega) (by omega)];exact aH.dat rfl
theorem JE(c:Cl)(q:FuncId)(caps:List V)(p:Int->Bool)(he:au P q=ab)(hd:a7 caps=ab)(hq:∀x∈c,Ev TE q (vi x::caps) (.bool (p x))):Ev TE 84 [az c,.fn (.func q) [] caps] (.bool (c.any p)):=by refine aC Tryz.func84 rfl (by simp[nts]) (vm ?_);simp only[wq.1,seval,Tryz.results84];refine ag.ev (UR c q caps p he hd hq) (by simp[a7,a6,hd]) ?_;simp only[wq.1,seval];exact aH.eq rfl (by rw[yT])
def xx(all a:Int):Bool:=aM (a<0)||aM (all<=a)
theorem PQ(all a:Int):Ev TE 82 [vi a,.ip (vi all)] (.bool (xx all a)):=by refine aC Tryz.func82 rfl (by simp[nts]) (vm ?_);simp only[wq.1,seval,Tryz.results82];exact aH.eq rfl rfl
def xN(a:Int):Bool:=aM (a<0)||aM (2<a)
theorem VW(a:Int):Ev TE 83 [vi a] (.bool (xN a)):=by refine aC Tryz.func83 rfl (by simp[nts]) (vm ?_);simp only[wq.1,seval,Tryz.results83];exact aH.eq rfl rfl
end Go.Proofs.YthdidjjecjhenaaGreat
