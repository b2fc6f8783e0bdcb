/- Lemmas for this claim, part F10: each holds under what it names. -/
import Derived.Test.YtmlacppmbfbjgaaGreatDoorSF09
set_option linter.unusedVariables false
set_option linter.unusedSimpArgs false
set_option linter.unnecessarySimpa false
set_option maxRecDepth 20000
set_option maxHeartbeats 8000000
namespace Go.Proofs.YtmlacppmbfbjgaaGreatDoor
open Go Go.Proofs Go.Abs
theorem TC {g:Gr} {b C r:Nat} {lv:V} {h:H} {n:Nat} {cl:List Cl} {row row':Cl} {X:H} (hl:row'.length=row.length) (hlr:r<h.length) :
 (HU g b C r lv h n cl row++X).set r (.cells (row'.map vi))=HU g b C r lv h n cl row'++X:=by
 rw[List.set_append_left _ _ (by rw[jE];exact hlr),HU,HU,List.set_set,hl]
def Jc (g:Gr) (n i:Nat) (lat:Cl):Cl:=-1::(CJ n i++(List.replicate (g.ins.toNat-i) 0++lat))
theorem zZ {g:Gr} {n i:Nat} {lat:Cl} (h:i≤g.ins.toNat):(Jc g n i lat).length=1+g.ins.toNat+lat.length:=by unfold Jc CJ;simp;omega
theorem VF {g:Gr} {n:Nat} {lat:Cl}:Jc g n 0 lat=qg g lat:=by simp[Jc,qg,CJ]
theorem PZ {g:Gr} {n:Nat} {lat:Cl}:Jc g n g.ins.toNat lat=WE g n lat:=by simp[Jc,WE]
theorem P5 {g:Gr} {n i:Nat} {lat:Cl} (h:i<g.ins.toNat):(Jc g n i lat).set (1+i) ((n:Int)+(i:Int)+1)=Jc g n (i+1) lat:=by
 have e:List.replicate (g.ins.toNat-i) (0:Int)=0::List.replicate (g.ins.toNat-(i+1)) 0:=by rw[←List.replicate_succ];congr 1;omega
 have el:(CJ n i).length=i:=by simp[CJ]
 unfold Jc;rw[e,Nat.add_comm 1 i,List.set_cons_succ,List.set_append_right _ _ (by omega),el,Nat.sub_self,List.cons_append,List.set_cons_zero];unfold CJ;rw[List.range_succ,zql];simp
theorem MO {row:Cl} {i:Nat} {x:Int} (h:i<row.length):(row.map vi).take i++[vi x]++(row.map vi).drop (i+1)=(row.set i x).map vi:=by rw[List.map_set,List.set_eq_take_append_cons_drop,if_pos (by simpa using h)];simp
theorem Aa {x:Int} (h1:-1000000≤x) (h2:x≤1000000):IntKind.i64.wrap (0-x)=-x:=by rw[dN (by omega) (by omega)];omega
theorem WV {l:List Pq} {i:Nat} (h:i<l.length) (d:V):(l.map prV).getD i d=prV l[i]:=by simp[zqg,h]
def MP:Plan:= .take 0<| .take 1<| .take 2<| .take 4<| .take 6<| .alt 3 (.alt 5 (.one 7<| .take 8<| .one 9<| .fin) (.one 7 (.one 5<| .take 8<| .one 9<| .fin))) (.alt 5 (.alt 3 (.one 7<| .take 8<| .one 9<| .fin) (.one 7 (.one 3<| .take 8<| .one 9<| .fin))) (.one 7 (.alt 3 (.one 5<| .take 8<| .one 9<| .fin) (.one 5 (.one 3<| .take 8<| .one 9<| .fin)))))
theorem sU {g : Gr} {k0 : Nat} {h0 : H} {b C L n0 : Nat} {cl0 : List Cl} {rs : List (Nat × Cl)} {r : Nat} {row0 : Cl} {h : H} (k : BH g k0 h0 b C L n0 cl0 rs r row0 h) {lv : V} {n : Nat} {cl : List Cl} {row : Cl} {Y : H} (hY : ∀ o ∈ Y,∀ D,O.drop D o = o)
 {D:Nat→Bool} (hD:∀p∈rs,D p.1=false):∀(j:Nat) (o:O),(HU g b C r lv h n cl row++Y)[j]? =some o→j≠b→o.drop D=o:=fun j o ho hj=>by
 obtain⟨lb,lC,lL,lr,nbr,nCr,nLr⟩:=k.lens;by_cases hl:h.length≤j
 ·rw[WU hl]at ho;exact hY o (List.mem_of_getElem? ho) D
 ·by_cases h1 : j = r
  ·subst h1;rw[WT lr]at ho;cases ho;show O.cells (V.drops D _)=_;rw[bu]
  ·by_cases h2 : j = C
   ·subst h2;rw[WS nCr lC]at ho;cases ho;show O.cells (V.drops D _)=_;rw[nG]
   ·rw[WG hj h2 h1 (by omega)]at ho;exact k.dropO hD j o ho hj
theorem VG {g:Gr} {k0:Nat} {h0:H} {b C L n0:Nat} {cl0:List Cl} {rs:List (Nat×Cl)} {r:Nat} {row0:Cl} {h:H} (k:BH g k0 h0 b C L n0 cl0 rs r row0 h) {n:Nat} {cl:List Cl} {row row':Cl} {Y:H} (hY:∀o∈Y,∀D,O.drop D o=o) :
 (((HU g b C r (.ls L 1 0 rs.length rs.length) h n cl row++Y).map (O.drop fun x=>x==r)).set r (.cells (row'.map vi)))[b]? =some (.cells [vi n,.ls C 1 0 cl.length cl.length,.ls L 1 0 rs.length rs.length,vi g.ins,aF g.next,aF g.init,prs g.ands,aF g.outs,.any]) ∧
 ((((HU g b C r (.ls L 1 0 rs.length rs.length) h n cl row++Y).map (O.drop fun x=>x==r)).set r (.cells (row'.map vi))).set b (bU g n (.ls C 1 0 cl.length cl.length) (.ls L 1 0 rs.length rs.length) (.ls r 1 0 row'.length row'.length))=HU g b C r (.ls L 1 0 rs.length rs.length) h n cl row'++Y):=by
 obtain⟨lb,lC,lL,lr,nbr,nCr,nLr⟩:=k.lens;have hD:∀p∈rs,(p.1==r)=false:=fun p hp=>by simpa using(k.hrs p hp).2.2
 have hdr:=sU k (lv:= .ls L 1 0 rs.length rs.length) (n:=n) (cl:=cl) (row:=row) hY (D:=fun x=>x==r) hD;refine⟨?_,?_⟩
 ·rw [zqn (Ne.symm nbr),zqo,WF k.n1 nbr lb];have e1 : (C == r) = false := by simpa using nCr
  have e2:(L==r)=false:=by simpa using nLr
  simp only[zrw,O.drop,V.drops,V.drop,beq_self_eq_true,if_true,e1,e2,zrm,if_false]
 ·rw[List.set_comm _ _ (Ne.symm nbr),zY hdr,List.set_comm _ _ nbr];exact VE k.n1 nbr lb lr
theorem TD {g:Gr} {k0:Nat} {h0:H} {b C L n0:Nat} {cl0:List Cl} {rs:List (Nat×Cl)} {r:Nat} {row0:Cl} {h:H} (k:BH g k0 h0 b C L n0 cl0 rs r row0 h) {n:Nat} {cl:List Cl} {row:Cl} {Y:H} (hY:∀o∈Y,∀D,O.drop D o=o) (X2:O) (lv':V) :
 (((HU g b C r (.ls L 1 0 rs.length rs.length) h n cl row++Y).map (O.drop fun x=>x==L)).set L X2)[b]? =some (.cells [vi n,.ls C 1 0 cl.length cl.length,.any,vi g.ins,aF g.next,aF g.init,prs g.ands,aF g.outs,.ls r 1 0 row.length row.length]) ∧
 ((((HU g b C r (.ls L 1 0 rs.length rs.length) h n cl row++Y).map (O.drop fun x=>x==L)).set L X2).set b (bU g n (.ls C 1 0 cl.length cl.length) lv' (.ls r 1 0 row.length row.length))=HU g b C r lv' (h.set L X2) n cl row++Y):=by
 obtain⟨lb,lC,lL,lr,nbr,nCr,nLr⟩:=k.lens;have hD:∀p∈rs,(p.1==L)=false:=fun p hp=>by have:=(k.hrs p hp).2.1;have:=k.Lk;simp;omega
 have hdr:=sU k (lv:= .ls L 1 0 rs.length rs.length) (n:=n) (cl:=cl) (row:=row) hY (D:=fun x=>x==L) hD;have n2:=k.n2;have n3:=k.n3;refine⟨?_,?_⟩
 ·rw [zqn (Ne.symm n2),zqo,WF k.n1 nbr lb];have e1 : (C == L) = false := by simpa using n3
  have e2:(r==L)=false:=by simpa using Ne.symm nLr
  simp only[zrw,O.drop,V.drops,V.drop,beq_self_eq_true,if_true,e1,e2,zrm,if_false]
 ·rw [List.set_comm _ _ (Ne.symm n2),zY hdr,List.set_append_left _ _ (by rw [jE];exact lb),List.set_append_left _ _ (by rw [zrn,jE];exact lL)]
  congr 1
  unfold HU;rw[List.set_comm _ _ (Ne.symm nbr),List.set_comm _ _ (Ne.symm k.n1),List.set_set,List.set_comm _ _ (Ne.symm nLr),List.set_comm _ _ n3,List.set_comm _ _ n2]
def Gz:Plan:= .take 0<| .take 1<| .take 2<| .take 3<| .take 4<| .take 6<| .take 7<| .take 8<| .alt 5 (.one 9<| .one 10<| .one 11<| .take 12<| .take 13<| .take 14<| .one 15<| .fin) (.one 9 (.alt 5 (.one 10<| .one 11<| .take 12<| .take 13<| .take 14<| .one 15<| .fin) (.one 10 (.one 5<| .one 11<| .take 12<| .take 13<| .take 14<| .one 15<| .fin))))
theorem sV {g : Gr} {u : US} : ∀ {i : Nat},i ≤ g.ands.length → (u.ands g i).cl.length = u.cl.length + 3 * i
 | 0,_=>rfl
 | i+1,h=>by rw[dh (by omega)];show((u.ands g i).cl++[_,_,_]).length=_;rw[zqa,sV (by omega)];simp;omega
def MQ:Plan:= .take 0<| .take 2<| .take 3<| .take 6<| .take 7<| .alt 1 (.alt 4 (.alt 5 (.one 8<| .one 9<| .take 10<| .take 11<| .take 12<| .fin) (.one 8 (.one 5<| .one 9<| .take 10<| .take 11<| .take 12<| .fin))) (.one 8 (.one 4<| .one 5<| .one 9<| .take 10<| .take 11<| .take 12<| .fin))) (.alt 4 (.alt 1 (.alt 5 (.one 8<| .one 9<| .take 10<| .take 11<| .take 12<| .fin) (.one 8 (.one 5<| .one 9<| .take 10<| .take 11<| .take 12<| .fin))) (.one 8 (.one 1<| .one 5<| .one 9<| .take 10<| .take 11<| .take 12<| .fin))) (.one 8 (.alt 1 (.one 4<| .one 5<| .one 9<| .take 10<| .take 11<| .take 12<| .fin) (.one 4 (.one 1<| .one 5<| .one 9<| .take 10<| .take 11<| .take 12<| .fin)))))
theorem Jd {g : Gr} (hg : g.chk = 0) {k0 : Nat} {h0 : H} {b C L : Nat} {u : US} {rs : List (Nat × Cl)} {r : Nat} {h : H} (k : BH g k0 h0 b C L u.n u.cl rs r (qg g u.lat) h) (ok : USok g u) (hn : u.n ≤ 200000) (hcl : u.cl.length ≤ 900000) (hrs : rs.length ≤ 1000) {R : AEnd → H → (Nat → Bool) → Prop}
 (hr:∀h' r',BH g k0 h0 b C L (u.step g).n (u.step g).cl (rs++[(r,(u.ands g g.ands.length).row)]) r' (qg g (u.step g).lat) h'→R (.ret (.tup [])) h' (fun j=>decide (j=C)||decide (j=L)||decide (k0≤j))):ah TE 119 [.lp b 0] h R:=by
 have hM:maxLen=9223372036854775807:=rfl;obtain⟨_,i0,i1,i2,i3,i4,i5⟩:=fE hg;obtain⟨r1,r2,r3,r4⟩:=fM i4;have wf:g.first=1+g.ins+g.next.length:=rfl
 have wa:g.all=2*(g.first+g.ands.length):=rfl;obtain⟨lb,lC,lL,lr,nbr,nCr,nLr⟩:=k.lens;have n1:=k.n1;have hll:=ok.l;obtain⟨lv,hlv⟩:∃lv,lv=V.ls L 1 0 rs.length rs.length:=⟨_,rfl⟩;have fb:∀(n:Nat) (cl:List Cl) (row:Cl) (X:H),(HU g b C r lv h n cl row++X)[b]? =some (bU g n (.ls C 1 0 cl.length cl.length) lv (.ls r 1 0 row.length row.length)):=fun n cl row X=>WF n1 nbr lb;have fr:∀(n:Nat) (cl:List Cl) (row:Cl) (X:H),(HU g b C r lv h n cl row++X)[r]? =some (.cells (row.map vi)):=fun n cl row X=>WT lr;have fb0:∀(n:Nat) (cl:List Cl) (row:Cl),(HU g b C r lv h n cl row)[b]? =some (bU g n (.ls C 1 0 cl.length cl.length) lv (.ls r 1 0 row.length row.length)):=fun n cl row=>by have:=fb n cl row [];rwa [zqp]at this
 have fr0:∀(n:Nat) (cl:List Cl) (row:Cl),(HU g b C r lv h n cl row)[r]? =some (.cells (row.map vi)):=fun n cl row=>by have:=fr n cl row [];rwa [zqp]at this
 have fsb:∀(n n':Nat) (cl:List Cl) (row:Cl),(HU g b C r lv h n cl row).set b (bU g n' (.ls C 1 0 cl.length cl.length) lv (.ls r 1 0 row.length row.length))=HU g b C r lv h n' cl row:=fun n n' cl row=>by have:=MM (g:=g) (lv:=lv) (n:=n) (cl:=cl) (row:=row) (X:=[]) (n':=n') n1 nbr lb;rwa [zqp,zqp]at this
 suffices H:ah TE 119 [.lp b 0] (HU g b C r lv h u.n u.cl (qg g u.lat)) R by
  have e:=k.hs;rw[zqp,←hlv]at e;rw[←e]at H;exact H
 refine ah.kp (fun j=>decide (j=C)||decide (j=L)||decide (k0≤j)) ?_;refine ax Tryz.func119 rfl (by simp[nts]) ?_;refine ag (vm ?_);simp only[wq.1,seval,Tryz.results119,fb0];refine aC (fun m f h'=>∃i,m+i=g.ins.toNat∧f.t 0= .lp b 0∧f.t 16=vi g.ins∧f.t 17=vi i∧f.d=[]∧(∀j,f.k j=false)∧h'=HU g b C r lv h (u.n+i) u.cl (Jc g u.n i u.lat)) g.ins.toNat ⟨0,by omega,by simp only[wq.1,seval],by simp only[wq.1,seval],rfl,rfl,fun j=>rfl,by rw[VF];rfl⟩ ?_;rintro m f h' ⟨i,hm,t0,t16,t17,hd,hk0,rfl⟩;refine ag (vm ?_);simp only[wq.1,Nat.reduceLT,t16,t17];refine ag (bD (b:=decide ((i:Int)<g.ins)) (by simp only[wq.1,↓reduceIte]) (by simp only[wq.1,↓reduceIte]) (fun hlt=> ?_) (fun hlt=> ?_))
 ·simp only [zqb] at hlt;have hli : i < g.ins.toNat := by omega
  have hw:=aA (show i<maxLen by omega);have w1:IntKind.i64.wrap (1+(i:Int))=((1+i:Nat):Int):=by rw[dN (by omega) (by omega)];omega
  have hrl:=zZ (g:=g) (n:=u.n) (lat:=u.lat) (i:=i) (by omega);refine vm ?_;simp only[wq.1];refine ag (aG ?_);refine ag (vm ?_);simp only[wq.1,seval,t17];refine cu mixed MP (fun f' h'=>f'.t 0= .lp b 0∧f'.t 16=vi g.ins∧f'.t 17=vi i∧f'.d=[]∧(∀j,f'.k j=false)∧h'=HU g b C r lv h (u.n+(i+1)) u.cl (Jc g u.n (i+1) u.lat)) (by decide +kernel) (by decide +kernel) ?_ ?_
  ·simp only [wq.1,seval,MP,t0,fb0,w1]
   repeat' apply And.intro
   all_goals
    refine nD (fb0 _ _ _) (by omega) ?_;rw[fsb];simp only[wq.1,seval,t0,t16,t17,hd,fb0,fr0,w1,Nat.mul_one];refine⟨⟨by omega,by omega⟩,by omega,hk0,?_⟩;have e1:(((u.n+i:Nat):Int)+1)=(u.n:Int)+(i:Int)+1:=by omega
    rw[e1,MO (by omega),P5 hli];have:=TC (g:=g) (b:=b) (C:=C) (lv:=lv) (n:=u.n+i+1) (cl:=u.cl) (row:=Jc g u.n i u.lat) (row':=Jc g u.n (i+1) u.lat) (X:=[]) (by rw[zZ (by omega),zZ (by omega)]) lr;rw[zqp,zqp]at this;exact this
  ·rintro f h' ⟨t0,t16,t17,hd,hk0,rfl⟩;show awp _ _ _ _ _ _ _;refine vm ?_;simp only[wq.1,seval,t17,hw];exact .inl ⟨m-1,by omega,i+1,by omega,t0,t16,by simp only[wq.1,↓reduceIte],hd,hk0,rfl⟩
 simp only[zqd]at hlt;have:i=g.ins.toNat:=by omega
 subst this;rw[PZ];clear fb0 fr0 fsb;refine vm ?_;simp only[wq.1];show awp _ _ _ _ _ _ _;clear t17 t16 hlt hm;have fb0:∀(n:Nat) (cl:List Cl) (row:Cl),(HU g b C r lv h n cl row)[b]? =some (bU g n (.ls C 1 0 cl.length cl.length) lv (.ls r 1 0 row.length row.length)):=fun n cl row=>by have:=fb n cl row [];rwa [zqp]at this
 refine ag (vm ?_);simp only[wq.1,seval,t0,fb0];refine aC (fun m f h'=>∃(i:Nat) (X:H),m+i=g.ands.length∧f.t 0= .lp b 0∧f.t 34=prs g.ands∧f.t 35=vi g.ands.length∧f.t 36=vi i∧f.d=[]∧(∀j,f.k j=true→(decide (j=C)||decide (j=L)||decide (k0≤j))=true)∧(∀o∈X,∀D,O.drop D o=o)∧h'=HU g b C r lv h (u.ands g i).n (u.ands g i).cl (u.ands g i).row++X) g.ands.length ⟨0,[],by omega,t0,by simp only[wq.1,seval],by simp only[wq.1,seval],rfl,hd,fun j hj=>absurd hj (by show ¬f.k j=true;rw[hk0 j];decide),nofun,(zqp _).symm⟩ ?_;clear t0 hd hk0 fb0 f m;rintro m f h' ⟨i,X,hm,t0,t34,t35,t36,hd,hk,hX,rfl⟩;obtain⟨s,hs⟩:∃s,s=u.ands g i:=⟨_,rfl⟩;rw[←hs];refine ag (vm ?_);simp only[wq.1,Nat.reduceLT,t35,t36];refine ag (bD (b:=decide ((i:Int)<g.ands.length)) (by simp only[wq.1,↓reduceIte]) (by simp only[wq.1,↓reduceIte]) (fun hlt=> ?_) (fun hlt=> ?_))
 ·simp only[zqb,zqi]at hlt;have hw:=aA (show i<maxLen by omega);have hgp:=WV hlt V.any;obtain⟨o1,o2,o3,o4⟩:=uD i5 hlt;have sn:=l7 (u:=u) (g:=g) (i:=i) (by omega);have sl:=dR (u:=u) (g:=g) (i:=i) (by omega);have sok:=iK hg ok (i:=i) (by omega);have ss:=dh (u:=u) hlt;have sc:=sV (u:=u) (g:=g) (i:=i) (by omega);rw[←hs]at sn sl sok ss sc;refine vm ?_;simp only[wq.1];refine ag (aG ?_);refine ag (vm ?_);simp only[wq.1,seval,t34,t36,hgp];obtain⟨pO,hpO⟩:∃pO,pO=O.cells [vi g.ands[i].1,vi g.ands[i].2]:=⟨_,rfl⟩;have fx:∀o:O,(HU g b C r lv h s.n s.cl s.row++X++[o])[(HU g b C r lv h s.n s.cl s.row).length+X.length]? =some o:=fun o=>by
   rw[List.getElem?_append_right (by simp),zqa,Nat.sub_self];rfl
  have fxs:∀o o':O,(HU g b C r lv h s.n s.cl s.row++X++[o]).set ((HU g b C r lv h s.n s.cl s.row).length+X.length) o'=HU g b C r lv h s.n s.cl s.row++(X++[o']):=fun o o'=>by rw[List.set_append_right _ _ (by simp),zqa,Nat.sub_self,zqc];rfl
  rw[fx];refine⟨⟨by omega,by omega⟩,by decide,?_⟩;rw[fxs,show O.cells (vi g.ands[i].fst::vi g.ands[i].snd::List.drop 2 [V.int IntKind.i64 0,V.int IntKind.i64 0])=pO by rw[hpO];rfl];obtain⟨N,hN⟩:∃N,N=(HU g b C r lv h s.n s.cl s.row).length+X.length:=⟨_,rfl⟩;rw[←hN];rw[jE]at hN;obtain⟨Y,hY⟩:∃Y,Y=X++[pO]:=⟨_,rfl⟩;rw[←hY];have hYp:∀o∈Y,∀D,O.drop D o=o:=fun o ho D=>by
   rw[hY]at ho;rcases zrf.1 ho with ho | ho
   ·exact hX o ho D
   ·rw[zrc.1 ho,hpO];rfl
  have fp:∀(n:Nat) (cl:List Cl) (row:Cl),(HU g b C r lv h n cl row++Y)[N]? =some (.cells [vi g.ands[i].1,vi g.ands[i].2]):=fun n cl row=>by rw[WU (by omega),hN,Nat.add_sub_cancel_left,hY,List.getElem?_append_right (zrb _),Nat.sub_self,hpO];rfl
  clear fx fxs;have rb:∀x∈s.row,-1000000≤x∧x≤1000000:=fun x hx=>by have:=sok.r x hx;obtain⟨_,b1,b2⟩:=this;omega
  refine ag (cu mixed MQ (fun f' h'=>f'.t 0= .lp b 0∧f'.t 34=prs g.ands∧f'.t 35=vi g.ands.length∧f'.t 36=vi i∧f'.t 5=vi ((s.n:Int)+1)∧f'.t 6=vi (sN s.row g.ands[i].1)∧f'.t 7=vi (sN s.row g.ands[i].2)∧f'.d=[]∧(∀j,f'.k j=true→(decide (j=C)||decide (j=L)||decide (k0≤j))=true)∧h'=HU g b C r lv h (s.n+1) s.cl s.row++Y) (by decide +kernel) (by decide +kernel) ?_ ?_)
  ·simp only [wq.1,seval,MQ,t0,fp]
   repeat' apply And.intro
   all_goals try(first | decide | omega)
   iterate 3
    all_goals first
     | (refine nD (fb _ _ _ _) (by omega) ?_;rw[MM n1 nbr lb])
     | refine sQ (fb _ _ _ _) (fr _ _ _ _) rb o1 (by omega) (by omega) ?_
     | refine sQ (fb _ _ _ _) (fr _ _ _ _) rb o2 (by omega) (by omega) ?_
    all_goals simp only[wq.1,↓reduceIte,Nat.reduceEqDiff,Nat.reduceLT,Nat.reduceLeDiff,Nat.reduceAdd,reduceCtorEq,t0,t34,t35,t36,hd,fp]
    all_goals repeat' apply And.intro
    all_goals try(first | decide | omega | exact hk)
  ·rintro f h' ⟨t0,t34,t35,t36,t5,t6,t7,hd,hk,rfl⟩;show awp _ _ _ _ _ _ _;have nbC : (b == C) = false := by simpa using n1
   have dCr:∀p∈rs,(p.1==C)=false:=fun p hp=>by have:=(k.hrs p hp).2.1;have:=k.Ck;simp;omega
   have hCr:(r==C)=false:=by simpa using Ne.symm nCr
   have fC:∀(n:Nat) (cl:List Cl) (row:Cl) (X:H),(HU g b C r lv h n cl row++X)[C]? =some (.cells (cl.map xC)):=fun n cl row X=>WS nCr lC;have hlvC:lv.drop (·==C)=lv:=by
    rw[hlv];have:(L==C)=false:=by simpa using Ne.symm k.n3
    simp only[V.drop,this,zrm,if_false]
   have hrvC:∀m:Nat,(V.ls r 1 0 m m).drop (·==C)=V.ls r 1 0 m m:=fun m=>by simp only[V.drop,hCr,zrm,if_false]
   have hsn:s.n≤300000:=by omega
   have e3:g.ands[i].1/2<s.row.length:=by omega
   have e4:g.ands[i].2/2<s.row.length:=by omega
   have scl:s.cl.length≤1000000∧s.cl.length+1≤1000000∧s.cl.length+1+1≤1000000:=by omega
   have em:m-1<m∧m-1+(i+1)=g.ands.length:=by omega
   have e6:s.row.length+1≤maxLen∧(s.row.length+1)*8≤140737488355328:=by omega
   have e5:(-1000000:Int)≤(s.n:Int)+1∧(s.n:Int)+1≤1000000:=by omega
   have b1:=qf sok.r o1 e3;have b2:=qf sok.r o2 e4;obtain⟨x,hx⟩:∃x,x=sN s.row g.ands[i].1:=⟨_,rfl⟩;obtain⟨y,hy⟩:∃y,y=sN s.row g.ands[i].2:=⟨_,rfl⟩;rw[←hx]at t6 b1;rw[←hy]at t7 b2;have bnd:∀z:Int,inU s.n z→-1000000≤z∧z≤1000000:=fun z hz=>by obtain⟨_,z1,z2⟩:=hz;omega
   have bx:=bnd _ b1;have by_:=bnd _ b2;clear b1 b2 bnd;have w5:IntKind.i64.wrap (0-((s.n:Int)+1))=-((s.n:Int)+1):=Aa e5.1 e5.2;have w6:IntKind.i64.wrap (0-x)=-x:=Aa bx.1 bx.2;have w7:IntKind.i64.wrap (0-y)=-y:=Aa by_.1 by_.2;refine ag (vm ?_);simp only[wq.1,↓reduceIte,Nat.reduceEqDiff,Nat.reduceLT,reduceCtorEq,Nat.reduceMul,t0,t5,t6,w5];refine⟨⟨rfl,by decide⟩,?_⟩;refine oP (cl:=s.cl) (c:=[-((s.n:Int)+1),x]) n1 (fb _ _ _ _) (fC _ _ _ _) (sU k hYp dCr) hlvC (hrvC _) scl.1 ?_;rw[MN n1 nbr nCr lb lC];simp only[wq.1,aW,hd];refine ag (vm ?_);simp only[wq.1,↓reduceIte,Nat.reduceEqDiff,Nat.reduceLT,reduceCtorEq,Nat.reduceMul,nbC,t0,t5,t7,w5];refine⟨⟨rfl,by decide⟩,?_⟩;refine oP (cl:=s.cl++[[-((s.n:Int)+1),x]]) (c:=[-((s.n:Int)+1),y]) n1 (fb _ _ _ _) (fC _ _ _ _) (sU k hYp dCr) hlvC (hrvC _) (by rw[zqa,zrk];exact scl.2.1) ?_;rw[MN n1 nbr nCr lb lC];simp only[wq.1,aW,hd];refine ag (vm ?_);simp only[wq.1,↓reduceIte,Nat.reduceEqDiff,Nat.reduceLT,reduceCtorEq,Nat.reduceMul,nbC,t0,t5,t6,t7,w6,w7];refine⟨⟨rfl,by decide⟩,?_⟩;refine oP (cl:=s.cl++[[-((s.n:Int)+1),x]]++[[-((s.n:Int)+1),y]]) (c:=[(s.n:Int)+1,-x,-y]) n1 (fb _ _ _ _) (fC _ _ _ _) (sU k hYp dCr) hlvC (hrvC _) (by simp only[zqa,zrk];exact scl.2.2) ?_;rw[MN n1 nbr nCr lb lC];simp only[wq.1,aW,hd];rw[hlv]at fb fr ⊢;have nbr':(b==r)=false:=by simpa using nbr
   refine vm ?_;simp only[wq.1,↓reduceIte,Nat.reduceEqDiff,Nat.reduceLT,Nat.reduceAdd,reduceCtorEq,Nat.reduceMul,nbr',nbC,t0,t5,hd,fb,fr];refine⟨⟨rfl,by decide⟩,⟨(Nat.mul_one _).symm,e6.1,e6.2⟩,?_⟩;have hvd:V.drops (fun x=>x==r) (List.map vi s.row)++[vi ((s.n:Int)+1)]=(s.row++[(s.n:Int)+1]).map vi:=by
    rw[bu,zql];rfl
   rw[hvd,←zql];obtain⟨ap1,ap2⟩:=VG k (n:=s.n+1) (cl:=s.cl++[[-((s.n:Int)+1),x]]++[[-((s.n:Int)+1),y]]++[[(s.n:Int)+1,-x,-y]]) (row:=s.row) (row':=s.row++[(s.n:Int)+1]) hYp;rw[ap1];refine⟨zrb 9,?_⟩;have hrl:(s.row++[(s.n:Int)+1]).length=s.row.length+1:=by rw[zqa,zrk]
   rw[hrl]at ap2;have hset:∀Z:H,Z.set b (O.cells (List.take 8 [vi ((s.n+1:Nat):Int),V.ls C 1 0 (s.cl++[[-((s.n:Int)+1),x]]++[[-((s.n:Int)+1),y]]++[[(s.n:Int)+1,-x,-y]]).length (s.cl++[[-((s.n:Int)+1),x]]++[[-((s.n:Int)+1),y]]++[[(s.n:Int)+1,-x,-y]]).length,V.ls L 1 0 rs.length rs.length,vi g.ins,aF g.next,aF g.init,prs g.ands,aF g.outs,V.any]++[V.ls r 1 0 (s.row.length+1) (s.row.length+1)]++List.drop 9 [vi ((s.n+1:Nat):Int),V.ls C 1 0 (s.cl++[[-((s.n:Int)+1),x]]++[[-((s.n:Int)+1),y]]++[[(s.n:Int)+1,-x,-y]]).length (s.cl++[[-((s.n:Int)+1),x]]++[[-((s.n:Int)+1),y]]++[[(s.n:Int)+1,-x,-y]]).length,V.ls L 1 0 rs.length rs.length,vi g.ins,aF g.next,aF g.init,prs g.ands,aF g.outs,V.any]))=Z.set b (bU g (s.n+1) (V.ls C 1 0 (s.cl++[[-((s.n:Int)+1),x]]++[[-((s.n:Int)+1),y]]++[[(s.n:Int)+1,-x,-y]]).length (s.cl++[[-((s.n:Int)+1),x]]++[[-((s.n:Int)+1),y]]++[[(s.n:Int)+1,-x,-y]]).length) (V.ls L 1 0 rs.length rs.length) (V.ls r 1 0 (s.row.length+1) (s.row.length+1))):=fun Z=>rfl;rw[hset,ap2];refine vm ?_;simp only[wq.1,seval,t36,hw];refine .inl ⟨m-1,em.1,i+1,Y,em.2,by simp only[wq.1,seval,nbC,nbr',t0],by simp only[wq.1,seval,t34],by simp only[wq.1,seval,t35],by simp only[wq.1,↓reduceIte],hd,fun j hj=> ?_,hYp,?_⟩
   ·have hj : ((((f.k j || j == C) || j == C) || j == C) || j == r) = true := hj;simp only [Bool.or_eq_true,beq_iff_eq,zqb] at hj ⊢;rcases hj with (((hj | hj) | hj) | hj) | hj
    ·have:=hk j hj;simpa only[Bool.or_eq_true,zqb]using this
    ·exact .inl (.inl hj)
    ·exact .inl (.inl hj)
    ·exact .inl (.inl hj)
    ·exact .inr (by rw[hj];exact k.rk)
   ·rw[ss];simp only[UD,←hx,←hy,zqc,List.cons_append,List.nil_append]
 simp only[zqd,zqi]at hlt;have:i=g.ands.length:=by omega
 subst this;have sn:=l7 (u:=u) (g:=g) (zrb g.ands.length);have sl:=dR (u:=u) (g:=g) (zrb g.ands.length);have sok:=iK hg ok (zrb g.ands.length);rw[←hs]at sn sl sok;refine vm ?_;simp only[wq.1];show awp _ _ _ _ _ _ _;clear t34 t35 t36 hlt hm;rw[hlv]at fb fr ⊢;have nbL:(b==L)=false:=by simpa using k.n2
 have fL:∀(n:Nat) (cl:List Cl) (row:Cl) (X:H),(HU g b C r (.ls L 1 0 rs.length rs.length) h n cl row++X)[L]? =some (.cells (rs.map fun p=> .ls p.1 1 0 p.2.length p.2.length)):=fun n cl row X=>by rw[WG (Ne.symm k.n2) (Ne.symm k.n3) nLr lL];exact k.hL
 have hDL:∀p∈rs,(p.1==L)=false:=fun p hp=>by have:=(k.hrs p hp).2.1;have:=k.Lk;simp;omega
 have hdL:=sU k (lv:= .ls L 1 0 rs.length rs.length) (n:=s.n) (cl:=s.cl) (row:=s.row) hX (D:=fun x=>x==L) hDL;have rL:(r==L)=false:=by simpa using Ne.symm nLr
 have e1:(rs.map fun p=>V.ls p.1 1 0 p.2.length p.2.length).length=rs.length*1:=by simp
 have hvr:V.drops (fun x=>x==L) (rs.map fun p=>V.ls p.1 1 0 p.2.length p.2.length)=rs.map fun p=>V.ls p.1 1 0 p.2.length p.2.length:=sS hDL;refine ag (cu mixed Gz (fun f' h'=>f'.t 0= .lp b 0∧f'.d=[]∧(∀j,f'.k j=true→(decide (j=C)||decide (j=L)||decide (k0≤j))=true)∧h'=HU g b C r (.ls L 1 0 (rs.length+1) (rs.length+1)) (h.set L (.cells ((rs++[(r,s.row)]).map fun p=> .ls p.1 1 0 p.2.length p.2.length))) s.n s.cl s.row++X) (by decide +kernel) (by decide +kernel) ?_ ?_)
 ·simp only [wq.1,seval,Gz,t0,hd,fb,fL,nbL,rL,hvr]
  repeat' apply And.intro
  all_goals try(first | decide | omega | rfl)
  all_goals
   obtain⟨ap1,ap2⟩:=TD k (n:=s.n) (cl:=s.cl) (row:=s.row) hX (O.cells (List.map (fun p=>V.ls p.fst 1 0 (List.length p.snd) (List.length p.snd)) rs++[V.ls r 1 0 (List.length s.row) (List.length s.row)])) (.ls L 1 0 (rs.length+1) (rs.length+1));rw[←zql,ap1];refine⟨Nat.le_of_ble_eq_true rfl,fun j hj=> ?_,ap2⟩;simp only[Bool.or_eq_true,beq_iff_eq]at hj;rcases hj with hj | hj
   ·exact hk j hj
   ·simp[hj]
 rintro f h' ⟨t0,hd,hk,rfl⟩;show awp _ _ _ _ _ _ _;obtain⟨rs2,hrs2⟩:∃rs2,rs2=rs++[(r,s.row)]:=⟨_,rfl⟩;obtain⟨X2,hX2⟩:∃X2,X2=O.cells (rs2.map fun p=>V.ls p.1 1 0 p.2.length p.2.length):=⟨_,rfl⟩;have hl2:rs.length+1=rs2.length:=by rw[hrs2,zqa];rfl
 rw[←hrs2,←hX2,hl2];have lL2:L<(h.set L X2).length:=by simpa using lL
 obtain⟨H1,hH1⟩:∃H1,H1=HU g b C r (.ls L 1 0 rs2.length rs2.length) (h.set L X2) s.n s.cl s.row++X:=⟨_,rfl⟩;rw[←hH1];have H1l:H1.length=h.length+X.length:=by rw[hH1,zqa,jE,zrn]
 have H1b:H1[b]? =some (bU g s.n (.ls C 1 0 s.cl.length s.cl.length) (.ls L 1 0 rs2.length rs2.length) (.ls r 1 0 s.row.length s.row.length)):=by rw[hH1];exact WF n1 nbr (by simpa using lb)
 have H1r:H1[r]? =some (.cells (s.row.map vi)):=by rw[hH1];exact WT (by simpa using lr)
 have H1C:H1[C]? =some (.cells (s.cl.map xC)):=by rw[hH1];exact WS nCr (by simpa using lC)
 have H1L:H1[L]? =some X2:=by rw[hH1,WG (Ne.symm k.n2) (Ne.symm k.n3) nLr lL2,zqt lL]
 have H1o:∀j,j≠b→j≠C→j≠L→j≠r→j<h.length→H1[j]? =h[j]? :=fun j j1 j2 j3 j4 j5=>by rw[hH1,WG j1 j2 j4 (by simpa using j5),zqn (Ne.symm j3)]
 have H1x:∀(j:Nat) (o:O),h.length≤j→H1[j]? =some o→o∈X:=fun j o hj ho=>by rw[hH1,WU (by simpa using hj)]at ho;exact List.mem_of_getElem? ho
 have H1p:∀(j:Nat) (o:O),H1[j]? =some o→j≠b→j≠L→∀D,o.drop D=o:=fun j o ho j1 j2 D=>by
  by_cases hl:h.length≤j
  ·exact hX o (H1x j o hl ho) D
  ·by_cases j3 : j = r
   ·subst j3;rw[H1r]at ho;cases ho;show O.cells (V.drops D _)=_;rw[bu]
   ·by_cases j4 : j = C
    ·subst j4;rw[H1C]at ho;cases ho;show O.cells (V.drops D _)=_;rw[nG]
    ·rw[H1o j j1 j4 j2 j3 (by omega)]at ho;exact k.pl j o ho j1 j2 D
 have rs2r:∀p∈rs2,p.1<h.length∧k0≤p.1:=fun p hp=>by
  rw[hrs2]at hp;rcases zrf.1 hp with hp | hp
  ·exact⟨(zqe (k.hrs p hp).1).1,(k.hrs p hp).2.1⟩
  ·rw[zrc.1 hp];exact⟨lr,k.rk⟩
 have H1d:∀q,h.length≤q→∀(j:Nat) (o:O),H1[j]? =some o→o.drop (fun x=>x==q)=o:=fun q hq j o ho=>by
  by_cases j1:j=b
  ·subst j1;rw [H1b] at ho;cases ho;have e1 : (C == q) = false := by simp;omega
   have e2:(L==q)=false:=by simp;omega
   have e3:(r==q)=false:=by simp;omega
   simp only[O.drop,V.drops,V.drop,e1,e2,e3,zrm,if_false]
  ·by_cases j2 : j = L
   ·subst j2;rw[H1L,hX2]at ho;cases ho;show O.cells (V.drops _ _)=_;rw[sS fun p hp=>by have:=(rs2r p hp).1;simp;omega]
   ·exact H1p j o ho j1 j2 _
 have H1m:∀q,h.length≤q→H1.map (O.drop fun x=>x==q)=H1:=fun q hq=>by
  refine List.ext_getElem? fun j=> ?_;rw[zqo];cases ho:H1[j]? with
  | none=>rfl
  | some o=>rw[zrw,H1d q hq j o ho]
 refine ag (vm ?_);simp only[wq.1,seval,t0];refine ag (vm ?_);simp only[wq.1,Nat.reduceLT];refine fH 9 1 (by simp only[wq.1,↓reduceIte]) ?_;have H1bl:b<H1.length:=by omega
 have H1rl:r<H1.length:=by omega
 have fqb:∀cs,(H1++[O.cells cs])[b]? =some (bU g s.n (.ls C 1 0 s.cl.length s.cl.length) (.ls L 1 0 rs2.length rs2.length) (.ls r 1 0 s.row.length s.row.length)):=fun cs=>by rw[zqj H1bl];exact H1b
 have fqr:∀cs,(H1++[O.cells cs])[r]? =some (.cells (s.row.map vi)):=fun cs=>by rw[zqj H1rl];exact H1r
 have fqq:∀cs,(H1++[O.cells cs])[H1.length]? =some (.cells cs):=fun cs=>by rw[List.getElem?_append_right (zrb _),Nat.sub_self];rfl
 have nbq:(b==H1.length)=false:=by simp;omega
 have rb:∀x∈s.row,-1000000≤x∧x≤1000000:=fun x hx=>by have:=sok.r x hx;obtain⟨_,b1,b2⟩:=this;omega
 have hmq:=H1m H1.length (by omega);refine ag (vm ?_);simp only[wq.1,seval,t0,hd,fqb];refine aC (fun m f h'=>∃(i:Nat) (cs:List V),m+i=g.next.length∧f.t 0= .lp b 0∧f.t 8= .fn (.func 114) [.lp b 0] []∧f.t 9= .ls H1.length 1 0 i i∧f.t 102=aF g.next∧f.t 103=vi g.next.length∧f.t 104=vi i∧f.d=[]∧(∀j,f.k j=true→(decide (j=C)||decide (j=L)||decide (k0≤j))=true)∧cs=((g.next.take i).map (sN s.row)).map vi∧h'=H1++[.cells cs]) g.next.length ⟨0,[],by omega,t0,by simp only[wq.1,seval],by simp only[wq.1,seval],by simp only[wq.1,seval],by simp only[wq.1,seval],rfl,by simp only[wq.1],hk,rfl,rfl⟩ ?_
 clear t0 hd hk f;rintro m f h' ⟨i,cs,hm,t0,t8,t9,t102,t103,t104,hd,hk,hcs,rfl⟩;refine ag (vm ?_);simp only[wq.1,Nat.reduceLT,t103,t104];refine ag (bD (b:=decide ((i:Int)<g.next.length)) (by simp only[wq.1,↓reduceIte]) (by simp only[wq.1,↓reduceIte]) (fun hlt=> ?_) (fun hlt=> ?_))
 ·simp only [zqb,zqi] at hlt;have hw := aA (show i < maxLen by omega);have hgn : (g.next.map vi).getD i .any = vi g.next[i] := IC hlt _
  have hr3:=r3 _ (zqu hlt);have hcl2:cs.length=i*1:=by rw[hcs];simp;omega
  have dcs:∀p,V.drops p cs=cs:=fun p=>by rw[hcs];exact bu _
  refine vm ?_;simp only[wq.1];refine vm ?_;simp only[wq.1,seval,t8,t9,t102,t104,hgn];refine⟨⟨by omega,by omega⟩,?_⟩;refine sQ (fqb _) (fqr _) rb hr3.1 (by omega) (by omega) ?_;simp only[wq.1,↓reduceIte,Nat.reduceEqDiff,Nat.reduceLT,reduceCtorEq,Nat.reduceMul,t104,hd,fqq,hmq,hcl2,dcs];have hk1:=k.rk;refine⟨⟨rfl,by decide⟩,⟨by omega,by omega⟩,.inl ⟨m-1,by omega,i+1,cs++[vi (sN s.row g.next[i])],by omega,by simp only[wq.1,↓reduceIte,Nat.reduceEqDiff,Nat.reduceLT,Nat.reduceLeDiff,Nat.reduceAdd,Nat.reduceSub,Int.reduceToNat,Nat.reduceDiv,Int.reduceLT,Int.reduceLE,Int.reduceNeg,Int.reduceBEq,Int.reduceBNe,Int.reduceAdd,Int.reduceSub,Nat.reduceBEq,reduceCtorEq,Nat.reduceMul,au,Tryz.results119,t0,nbq],by simp only[wq.1,↓reduceIte,Nat.reduceEqDiff,Nat.reduceLT,Nat.reduceLeDiff,Nat.reduceAdd,Nat.reduceSub,Int.reduceToNat,Nat.reduceDiv,Int.reduceLT,Int.reduceLE,Int.reduceNeg,Int.reduceBEq,Int.reduceBNe,Int.reduceAdd,Int.reduceSub,Nat.reduceBEq,reduceCtorEq,Nat.reduceMul,au,Tryz.results119,t8,nbq],by simp only[wq.1,↓reduceIte,Nat.reduceEqDiff,Nat.reduceLT,Nat.reduceLeDiff,Nat.reduceAdd,Nat.reduceSub,Int.reduceToNat,Nat.reduceDiv,Int.reduceLT,Int.reduceLE,Int.reduceNeg,Int.reduceBEq,Int.reduceBNe,Int.reduceAdd,Int.reduceSub,Nat.reduceBEq,reduceCtorEq,Nat.reduceMul,au,Tryz.results119],by simp only[wq.1,↓reduceIte,Nat.reduceEqDiff,Nat.reduceLT,Nat.reduceLeDiff,Nat.reduceAdd,Nat.reduceSub,Int.reduceToNat,Nat.reduceDiv,Int.reduceLT,Int.reduceLE,Int.reduceNeg,Int.reduceBEq,Int.reduceBNe,Int.reduceAdd,Int.reduceSub,Nat.reduceBEq,reduceCtorEq,Nat.reduceMul,au,Tryz.results119,t102],by simp only[wq.1,↓reduceIte,Nat.reduceEqDiff,Nat.reduceLT,Nat.reduceLeDiff,Nat.reduceAdd,Nat.reduceSub,Int.reduceToNat,Nat.reduceDiv,Int.reduceLT,Int.reduceLE,Int.reduceNeg,Int.reduceBEq,Int.reduceBNe,Int.reduceAdd,Int.reduceSub,Nat.reduceBEq,reduceCtorEq,Nat.reduceMul,au,Tryz.results119,t103],by simp only[wq.1,↓reduceIte,Nat.reduceEqDiff,Nat.reduceLT,Nat.reduceLeDiff,Nat.reduceAdd,Nat.reduceSub,Int.reduceToNat,Nat.reduceDiv,Int.reduceLT,Int.reduceLE,Int.reduceNeg,Int.reduceBEq,Int.reduceBNe,Int.reduceAdd,Int.reduceSub,Nat.reduceBEq,reduceCtorEq,Nat.reduceMul,au,Tryz.results119,hw],by simp only[wq.1,↓reduceIte,Nat.reduceEqDiff,Nat.reduceLT,Nat.reduceLeDiff,Nat.reduceAdd,Nat.reduceSub,Int.reduceToNat,Nat.reduceDiv,Int.reduceLT,Int.reduceLE,Int.reduceNeg,Int.reduceBEq,Int.reduceBNe,Int.reduceAdd,Int.reduceSub,Nat.reduceBEq,reduceCtorEq,Nat.reduceMul,au,Tryz.results119,hd],fun j hj=> ?_,?_,?_⟩⟩
  ·have hj : (f.k j || j == H1.length) = true := hj;simp only [Bool.or_eq_true,beq_iff_eq] at hj;rcases hj with hj | hj
   ·exact hk j hj
   ·simp only[Bool.or_eq_true,zqb];right;omega
  ·rw[hcs,zrg,zqk hlt,zql,zql];rfl
  ·rw[List.set_append_right _ _ (zrb _),Nat.sub_self];rfl
 simp only[zqd,zqi]at hlt;have:i=g.next.length:=by omega
 subst this;rw[zrx]at hcs;obtain⟨lat,hlat⟩:∃lat,lat=(u.step g).lat:=⟨_,rfl⟩;have hlat2:lat=g.next.map (sN s.row):=by rw[hlat,hs];rfl
 have hll2:lat.length=g.next.length:=by rw[hlat2,zra]
 rw[←hlat2]at hcs;subst hcs;rw[←hll2]at t9;obtain⟨H2,hH2⟩:∃H2,H2=H1++[O.cells (lat.map vi)]:=⟨_,rfl⟩;rw[←hH2];have H2l:H2.length=H1.length+1:=by rw[hH2,zqa];rfl
 have H2b:H2[b]? =some (bU g s.n (.ls C 1 0 s.cl.length s.cl.length) (.ls L 1 0 rs2.length rs2.length) (.ls r 1 0 s.row.length s.row.length)):=by rw[hH2];exact fqb _
 have H2q:H2[H1.length]? =some (.cells (lat.map vi)):=by rw[hH2];exact fqq _
 have H2o:∀j,j<H1.length→H2[j]? =H1[j]? :=fun j hj=>by rw[hH2,zqj hj]
 have H2p:∀(j:Nat) (o:O),H2[j]? =some o→j≠b→j≠L→∀D,o.drop D=o:=fun j o ho j1 j2 D=>by
  by_cases hl:j<H1.length
  ·rw[H2o j hl]at ho;exact H1p j o ho j1 j2 D
  ·have hjl := (zqe ho).1;have : j = H1.length := by omega
   subst this;rw[H2q]at ho;cases ho;show O.cells (V.drops D _)=_;rw[bu]
 refine vm ?_;simp only[wq.1];refine vm ?_;simp only[wq.1,seval,t0,t9];refine uf (lat:=lat) H2b H2q (fun j o ho=> ?_) i0 (by omega) (by omega) (by omega) ?_
 ·by_cases hl : j < H1.length
  ·rw[H2o j hl]at ho;exact H1d _ (by omega) j o ho
  ·have hjl := (zqe ho).1;have : j = H1.length := by omega
   subst this;rw[H2q]at ho;cases ho;show O.cells (V.drops _ _)=_;rw[bu]
 simp only[wq.1,aW,hd];have hk1:=k.rk;have hbk:=k.bk;refine⟨fun j hj=> ?_,?_⟩
 ·simp only [Bool.or_eq_true,beq_iff_eq] at hj;rcases hj with hj | hj
  ·exact hk j hj
  ·simp only[Bool.or_eq_true,zqb];right;omega
 have es:u.ands g g.ands.length=s:=hs.symm;obtain⟨Bo,hBo⟩:∃Bo:O,Bo=bU g s.n (.ls C 1 0 s.cl.length s.cl.length) (.ls L 1 0 rs2.length rs2.length) (.ls H2.length 1 0 (qg g lat).length (qg g lat).length):=⟨_,rfl⟩;rw[←hBo];have H2bl:b<H2.length:=by omega
 have eo:∀j,j<H2.length→j≠b→(H2.set b Bo++[O.cells ((qg g lat).map vi)])[j]? =H2[j]? :=fun j hj hjb=>by rw[zqj (by simpa using hj),zqn (Ne.symm hjb)]
 have eb:(H2.set b Bo++[O.cells ((qg g lat).map vi)])[b]? =some Bo:=by rw[zqj (by simpa using H2bl),zqt H2bl]
 have er:(H2.set b Bo++[O.cells ((qg g lat).map vi)])[H2.length]? =some (.cells ((qg g lat).map vi)):=by rw[List.getElem?_append_right (by simp)];simp
 have hres:=hr (H2.set b Bo++[O.cells ((qg g lat).map vi)]) H2.length;rw[←hlat,es]at hres;have e1:(u.step g).n=s.n:=by show(u.ands g g.ands.length).n=_;rw[es]
 have e2:(u.step g).cl=s.cl:=by show(u.ands g g.ands.length).cl=_;rw[es]
 rw [e1,e2,← hrs2] at hres;refine hres {
  hb:=by rw[eb,hBo]
  hC:=by rw[eo C (by omega) (Ne.symm n1),H2o C (by omega)];exact H1C
  hL:=by rw[eo L (by omega) (Ne.symm k.n2),H2o L (by omega),H1L,hX2]
  hr:=er
  hrs:=fun p hp=> ?_
  n1:=n1
  n2:=k.n2
  n3:=k.n3
  bk:=k.bk
  Ck:=k.Ck
  Lk:=k.Lk
  rk:=by omega
  pl:=fun j o ho j1 j2 D=> ?_
  bs:=fun j j0 j1 j2 j3=> ?_}
 ·obtain ⟨p1,p2⟩ := rs2r p hp;have pC : p.1 ≠ C := by have := k.Ck;omega
  have pL:p.1≠L:=by have:=k.Lk;omega
  refine⟨?_,p2,by omega⟩;rw[eo _ (by omega) (by omega),H2o _ (by omega)];rw[hrs2]at hp;rcases zrf.1 hp with hp | hp
  ·rw[H1o _ (by omega) pC pL (k.hrs p hp).2.2 p1];exact(k.hrs p hp).1
  ·rw[zrc.1 hp];exact H1r
 ·by_cases hl : j < H2.length
  ·rw[eo j hl j1]at ho;exact H2p j o ho j1 j2 D
  ·have hjl := (zqe ho).1;rw [zqa,zrn] at hjl;have : j = H2.length := by simp at hjl;omega
   subst this;rw[er]at ho;cases ho;show O.cells (V.drops D _)=_;rw[bu]
 ·rw[eo j (by omega) j1,H2o j (by omega),H1o j j1 j2 j3 (by omega) (by omega)];exact k.bs j j0 j1 j2 j3
theorem P6 (a:Int):Ev TE 142 [vi a] (.bool (Gw a)):=by
 unfold Gw;refine ak Tryz.func142 rfl (by simp[nts]) (vm ?_);cases h1:decide (a<0)with
 | true=>simp only[wq.1,seval,Tryz.results142,h1];exact az.dat rfl
 | false=>simp only[wq.1,seval,Tryz.results142,h1];exact az.dat rfl
def WH (g:Gr) (k:Int) (l:Cl):Int:=l.foldl (fun n b=>n+b/2) (1+k*(g.ins+g.ands.length))
def yw (g:Gr) (b:Cl) (k:Int):Int :=
 if g.chk≠0 then g.chk else if b.length≠g.next.length∨b.any Gw=true then 1 else if k<0∨40<k then 8 else if 20000<WH g k b then 8 else 0
theorem TF (g:Gr) (b:Cl) (k:Int) (hs:g.Sm) (hb:b.length≤1000000):Ev TE 115 [g.v,aF b,vi k] (vi (yw g b k)):=by
 have hM:maxLen=9223372036854775807:=rfl;have hck:=sK g hs;have hct:=Gv b 142 [] Gw (by decide +kernel) rfl (fun x _=>P6 x);unfold yw;unfold Gr.v at hck ⊢;refine ak Tryz.func115 rfl (by simp[nts]) (vm ?_);simp only[wq.1,seval,Tryz.results115];refine ah.ev hck (by simp only[V.dats,V.dat,zre]) ?_;simp only[wq.1,seval];refine vcB.mk (fun hc=> ?_) (fun hc=> ?_)
 ·have hc : g.chk ≠ 0 := by simpa using hc
  rw[if_pos hc];simp only[wq.1,seval];exact az.dat rfl
 have hc:g.chk=0:=by simpa using hc
 rw[if_neg (by simp[hc])];obtain⟨_,i0,i1,i2,i3,i4,i5⟩:=fE hc;simp only[wq.1,seval];refine DN.ev (q:=128) (vs:=[aF b,.fn (.func 142) [] []]) (by simp only[wq.1,↓reduceIte]) (by simp only[wq.1,↓reduceIte]) (by decide +kernel) (fun _=>hct) (fun _=>by simp only[V.dats,V.dat,zre]) ?_;simp only[wq.1,seval];have hbe:((b.length:Int) != (g.next.length:Int))=decide (b.length≠g.next.length):=by
  rw[Bool.eq_iff_iff];simp only[bne_iff_ne,ne_eq,zqb];omega
 refine vcB.mk (fun h1=> ?_) (fun h1=> ?_)
 ·rw[if_pos (by rw[hbe]at h1;simpa using h1)];simp only[wq.1,seval];exact az.dat rfl
 rw[if_neg (by rw[hbe]at h1;simpa using h1)];simp only[wq.1,seval];have hkd:(decide (k<0)||decide (40<k))=decide (k<0∨40<k):=by rw[Bool.eq_iff_iff];simp
 refine vcB.mk (fun h2=> ?_) (fun h2=> ?_)
 ·rw[if_pos (by simpa using h2)];simp only[wq.1,seval];exact az.dat rfl
 have h2':¬(k<0∨40<k):=by simpa using h2
 rw[if_neg h2'];have hmul:0≤k*(g.ins+(g.ands.length:Int))∧k*(g.ins+(g.ands.length:Int))≤160000:=by
  have a1:0≤g.ins+(g.ands.length:Int):=by omega
  have a2:g.ins+(g.ands.length:Int)≤4000:=by omega
  exact⟨Int.mul_nonneg (by omega) a1,by have:=Int.mul_le_mul (show k≤40 by omega) a2 a1 (by omega);omega⟩
 obtain⟨q,hq⟩:∃q,q=k*(g.ins+(g.ands.length:Int)):=⟨_,rfl⟩;have hnu:WH g k b=b.foldl (fun n b=>n+b/2) (1+q):=by rw[hq];rfl
 have w1:IntKind.i64.wrap (g.ins+(g.ands.length:Int))=g.ins+(g.ands.length:Int):=dN (by omega) (by omega);rw[←hq]at hmul;have w2:IntKind.i64.wrap q=q:=dN (by omega) (by omega);have w3:IntKind.i64.wrap (1+q)=1+q:=dN (by omega) (by omega);simp only[wq.1,seval,w1,←hq,w2,w3];have hbd:∀x∈b,0≤x∧x≤2:=fun x hx=>by
  have h1':b.any Gw=false:=by rw[Bool.or_eq_false_iff]at h1;exact h1.2
  have:=List.any_eq_false.1 h1' x hx;simpa [Gw]using this
 have hsum:∀i,i≤b.length→1+q≤(b.take i).foldl (fun n b=>n+b/2) (1+q)∧(b.take i).foldl (fun n b=>n+b/2) (1+q)≤1+q+i:=by
  intro i
  induction i with
  | zero=>intro _;simp
  | succ i ih=>intro hi;have:=ih (by omega);have hx:=hbd _ (zqu (show i<b.length by omega));rw[zrg,zqk (show i<b.length by omega),Option.toList_some,List.foldl_append,List.foldl_cons,List.foldl_nil];omega
 refine aC (fun m f h=>∃i,m+i=b.length∧f.t 8=vi ((b.take i).foldl (fun n b=>n+b/2) (1+q))∧f.t 41=aF b∧f.t 42=vi b.length∧f.t 43=vi i∧f.d=[]∧h=[.cells [vi g.ins,aF g.next,aF g.init,prs g.ands,aF g.outs]]) b.length ⟨0,by omega,rfl,by simp only[wq.1,seval],by simp only[wq.1,seval],rfl,rfl,rfl⟩ ?_;rintro m f h ⟨i,hm,t8,t41,t42,t43,hd,rfl⟩;have hsi:=hsum i (by omega);refine vm ?_;simp only[wq.1,seval,t42,t43];refine vcB.mk (fun hlt=> ?_) (fun hlt=> ?_)
 ·simp only [zqb,zqi] at hlt;have hw := aA (show i < maxLen by omega);have hgb : (b.map vi).getD i .any = vi b[i] := IC hlt _;have hx := hbd _ (zqu hlt);have v1 : IntKind.i64.wrap (b[i].tdiv 2) = b[i] / 2 := by rw [Int.tdiv_eq_ediv_of_nonneg hx.1,dN (by omega) (by omega)]
  obtain⟨S,hS⟩:∃S,S=(b.take i).foldl (fun n b=>n+b/2) (1+q):=⟨_,rfl⟩;rw[←hS]at t8 hsi;have v2:IntKind.i64.wrap (S+b[i]/2)=S+b[i]/2:=dN (by omega) (by omega);simp only[wq.1,↓reduceIte,Nat.reduceEqDiff,Nat.reduceLT,Nat.reduceLeDiff,Nat.reduceAdd,Nat.reduceSub,Int.reduceToNat,Nat.reduceDiv,Int.reduceLT,Int.reduceLE,Int.reduceNeg,Int.reduceBEq,Int.reduceBNe,Int.reduceAdd,Int.reduceSub,Nat.reduceBEq,reduceCtorEq,Nat.reduceMul,au,Tryz.results115,t8,t41,t42,t43,hd,hgb,v1,v2,hw];refine⟨⟨by omega,by omega⟩,by decide,.inl ⟨m-1,by omega,i+1,by omega,?_,by simp only[wq.1,↓reduceIte,Nat.reduceEqDiff,Nat.reduceLT,Nat.reduceLeDiff,Nat.reduceAdd,Nat.reduceSub,Int.reduceToNat,Nat.reduceDiv,Int.reduceLT,Int.reduceLE,Int.reduceNeg,Int.reduceBEq,Int.reduceBNe,Int.reduceAdd,Int.reduceSub,Nat.reduceBEq,reduceCtorEq,Nat.reduceMul,au,Tryz.results115,t41],by simp only[wq.1,↓reduceIte,Nat.reduceEqDiff,Nat.reduceLT,Nat.reduceLeDiff,Nat.reduceAdd,Nat.reduceSub,Int.reduceToNat,Nat.reduceDiv,Int.reduceLT,Int.reduceLE,Int.reduceNeg,Int.reduceBEq,Int.reduceBNe,Int.reduceAdd,Int.reduceSub,Nat.reduceBEq,reduceCtorEq,Nat.reduceMul,au,Tryz.results115,t42],by simp only[wq.1,↓reduceIte,Nat.reduceEqDiff,Nat.reduceLT,Nat.reduceLeDiff,Nat.reduceAdd,Nat.reduceSub,Int.reduceToNat,Nat.reduceDiv,Int.reduceLT,Int.reduceLE,Int.reduceNeg,Int.reduceBEq,Int.reduceBNe,Int.reduceAdd,Int.reduceSub,Nat.reduceBEq,reduceCtorEq,Nat.reduceMul,au,Tryz.results115],by simp only[wq.1,↓reduceIte,Nat.reduceEqDiff,Nat.reduceLT,Nat.reduceLeDiff,Nat.reduceAdd,Nat.reduceSub,Int.reduceToNat,Nat.reduceDiv,Int.reduceLT,Int.reduceLE,Int.reduceNeg,Int.reduceBEq,Int.reduceBNe,Int.reduceAdd,Int.reduceSub,Nat.reduceBEq,reduceCtorEq,Nat.reduceMul,au,Tryz.results115,hd],rfl⟩⟩;rw[zrg,zqk hlt,Option.toList_some,List.foldl_append,List.foldl_cons,List.foldl_nil,←hS];simp only[wq.1,seval]
 ·simp only [zqd,zqi] at hlt;have : i = b.length := by omega
  subst this;rw[zrx,←hnu]at t8;simp only[wq.1,seval,t8];refine vcB.mk (fun h3=> ?_) (fun h3=> ?_)
  ·rw[if_pos (by simpa using h3)];simp only[wq.1,seval,hd];exact az.dat rfl
  ·rw[if_neg (by simpa using h3)];simp only[wq.1,seval,hd];exact az.dat rfl
def CS (rows:List Cl) (t a:Int):Int:=if t<0∨(rows.length:Int)≤t∨a<0∨((rows.getD t.toNat []).length:Int)≤a/2 then 0 else sN (rows.getD t.toNat []) a
theorem EU {b : Nat} {x0 x1 x2 x3 x4 x5 x6 x7 : V} {row : Cl} {a : Int} {h : H} {R : AEnd → H → (Nat → Bool) → Prop} (hh : h[b]? = some (.cells [x0,x1,x2,x3,x4,x5,x6,x7,aF row]))
 (hb:∀x∈row,-1000000≤x∧x≤1000000) (a0:0≤a) (a1:a/2<row.length) (a2:a≤1000000)
 (hr:R (.ret (vi (sN row a))) h (fun _=>false)):ah TE 114 [.lp b 0,vi a] h R:=by
 have hM:maxLen=9223372036854775807:=rfl;obtain⟨k,hk⟩:∃k:Nat,a/2=k:=⟨(a/2).toNat,by omega⟩;have hkl:k<row.length:=by omega
 have hg:(row.map vi).getD k .any=vi row[k]:=IC hkl _;have hx:=hb _ (zqu hkl);have q1:=WC a;have q2:=WR a0 (show a≤1000000000 by omega);have hgd:row.getD (a/2).toNat 0=row[k]:=by rw[hk,Int.toNat_natCast,iU hkl]
 have wn:IntKind.i64.wrap (0-row[k])=-row[k]:=Aa hx.1 hx.2;refine ax Tryz.func114 rfl (by simp[nts]) (vm ?_);rcases Int.emod_two_eq a with hm | hm
 ·rw[CQ hm,hgd]at hr;simp only[wq.1,seval,Tryz.results114,q1,q2,hm,hk,hh,hg];exact⟨⟨by omega,by omega⟩,hr⟩
 ·rw[Gy hm,hgd]at hr;simp only[wq.1,seval,Tryz.results114,q1,q2,hm,hk,hh,hg,wn];exact⟨⟨by omega,by omega⟩,hr⟩
theorem MR (n:Int) (cl rows:List Cl) (t a:Int) (hb:∀r∈rows,∀x∈r,-1000000≤x∧x≤1000000) (ha:a≤1000000) (hr:rows.length≤1000):Ev TE 85 [.agg [vi n,cls cl,cls rows],vi t,vi a] (vi (CS rows t a)):=by
 have hM:maxLen=9223372036854775807:=rfl;have q1:=WC a;unfold CS;by_cases hin:t<0∨(rows.length:Int)≤t∨a<0
 ·have hd : (decide (t < 0) || decide ((rows.length : Int) ≤ t) || decide (a < 0)) = true := by simp only [Bool.or_eq_true,zqb];rcases hin with h | h | h <;> simp [h]
  rw[if_pos (by rcases hin with h | h | h;exact .inl h;exact .inr (.inl h);exact .inr (.inr (.inl h)))];have hgx:(∃c:Cl,(rows.map fun c=>aF c).getD t.toNat .any=aF c)∨(rows.map fun c=>aF c).getD t.toNat .any= .any:=by
   by_cases hl:t.toNat<rows.length
   ·exact .inl ⟨_,WM hl _⟩
   ·exact .inr (by rw[zqg,List.getElem?_eq_none (by simp;omega)];rfl)
  rcases hgx with⟨c,hgx⟩ | hgx
  ·refine ak Tryz.func85 rfl (by simp[nts]) (vm ?_);simp only[wq.1,seval,Tryz.results85,hd,hgx,q1];exact az.dat rfl
  ·refine ak Tryz.func85 rfl (by simp[nts]) (vm ?_);have hn:(V.int .i64 (a/2)).nil? =none:=rfl;simp only[wq.1,seval,Tryz.results85,hd,hgx,q1,hn,fV];exact az.dat rfl
 ·obtain ⟨k,rfl⟩ : ∃ k : Nat,t = k := ⟨t.toNat,by omega⟩;have hk : k < rows.length := by omega
  have hd:(decide ((k:Int)<0)||decide ((rows.length:Int)≤(k:Int))||decide (a<0))=false:=by simp only[Bool.or_eq_false_iff,zqd];omega
  have hg:(rows.map fun c=>aF c).getD k .any=aF rows[k]:=WM hk _;have hgd:rows.getD ((k:Int)).toNat []=rows[k]:=by rw[Int.toNat_natCast,iU hk]
  rw[hgd];refine ak Tryz.func85 rfl (by simp[nts]) (vm ?_);simp only[wq.1,seval,Tryz.results85,hd,hg,q1];refine⟨⟨by omega,by omega⟩,?_⟩;refine vcB.mk (fun hc=> ?_) (fun hc=> ?_)
  ·rw[if_pos (.inr (.inr (.inr (by simpa using hc))))];simp only[wq.1,seval];exact az.dat rfl
  ·have hc : ¬ ((rows[k].length : Int) ≤ a / 2) := by simpa using hc
   rw[if_neg (by omega)];simp only[wq.1,seval,hg];refine⟨⟨by omega,by omega⟩,?_⟩;refine EU rfl (hb _ (zqu hk)) (by omega) (by omega) ha ?_;simp only[wq.1,seval];exact az.dat rfl
end Go.Proofs.YtmlacppmbfbjgaaGreatDoor
