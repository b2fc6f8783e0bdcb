/- Lemmas for this claim, part F10: each holds under what it names. -/
import Derived.Test.YthdidjjecjhenaaGreatF09
import Derived.Test.YthdidjjecjhenaaGreatA10
import Derived.Test.YthdidjjecjhenaaGreatA9
set_option linter.unusedVariables false
set_option linter.unusedSimpArgs false
set_option linter.unnecessarySimpa false
set_option maxRecDepth 20000
set_option maxHeartbeats 8000000
namespace Go.Proofs.YthdidjjecjhenaaGreat
open Go Go.Proofs Go.Abs
variable{g:Gr}{b C r n:Nat}{h:H}{row:Cl}
theorem VA{lv:V}{cl:List Cl}{row':Cl}{X:H}(hl:row'.length=row.length)(hlr:r<h.length) :
 (HU g b C r lv h n cl row++X).set r (.cells (row'.map vi))=HU g b C r lv h n cl row'++X:=by
 rw[List.set_append_left _ _ (by rw[kD];exact hlr),HU,HU,List.set_set,hl]
def LG(g:Gr)(n i:Nat)(lat:Cl):Cl:=-1::(CS n i++(List.replicate (g.ins.toNat-i) 0++lat))
variable{i:Nat}{lat:Cl}
theorem CX(h:i<=g.ins.toNat):(LG g n i lat).length=1+g.ins.toNat+lat.length:=by unfold LG CS;simp;omega
theorem Xu:LG g n 0 lat=vC g lat:=by simp[LG,vC,CS]
theorem SV:LG g n g.ins.toNat lat=XZ g n lat:=by simp[LG,XZ]
theorem SX(h:i<g.ins.toNat):(LG g n i lat).set (1+i) ((n:Int)+(i:Int)+1)=LG g n (i+1) lat:=by
 have e:List.replicate (g.ins.toNat-i) (0:Int)=0::List.replicate (g.ins.toNat-(i+1)) 0:=by rw[<-List.replicate_succ];congr 1;omega
 have el:(CS n i).length=i:=by simp[CS]
 unfold LG;rw[e,Nat.add_comm 1 i,List.set_cons_succ,List.set_append_right _ _ (by omega),el,Nat.sub_self,List.cons_append,List.set_cons_zero];unfold CS;rw[List.range_succ,zql];simp
theorem ui{x:Int}(h:i<row.length):(row.map vi).take i++[vi x]++(row.map vi).drop (i+1)=(row.set i x).map vi:=by rw[List.map_set,List.set_eq_take_append_cons_drop,if_pos (by simpa using h)];simp
theorem CY{x:Int}(h1:-1000000<=x)(h2:x<=1000000):IntKind.i64.wrap (0-x)=-x:=by rw[fE (by omega) (by omega)];omega
theorem VB{l:List Pq}(h:i<l.length)(d:V):(l.map prV).getD i d=prV l[i]:=by simp[zqg,h]
def Ph:Plan:=tkZ [0,1,2,4,6]<| .alt 3 (.alt 5 (.one 7<| .take 8<| .one 9<| .fin) (.one 7 (.one 5<| .take 8<| .one 9<| .fin))) (.alt 5 (.alt 3 (.one 7<| .take 8<| .one 9<| .fin) (.one 7 (.one 3<| .take 8<| .one 9<| .fin))) (.one 7 (.alt 3 (.one 5<| .take 8<| .one 9<| .fin) (.one 5 (.one 3<| .take 8<| .one 9<| .fin)))))
variable{k0 L n0:Nat}{h0:H}{cl0:List Cl}{rs:List (Nat×Cl)}{row0:Cl}
theorem vG(k:BH g k0 h0 b C L n0 cl0 rs r row0 h){lv:V}{n:Nat}{cl:List Cl}{row:Cl}{Y:H}(hY:∀o∈Y,∀D,O.drop D o=o)
 {D:Nat->Bool} (hD:∀p∈rs,D p.1=false):∀(j:Nat)(o:O),(HU g b C r lv h n cl row++Y)[j]? =some o->j≠b->o.drop D=o:=fun j o ho hj=>by
 obtain⟨lb,lC,lL,lr,nbr,nCr,nLr⟩:=k.lens;by_cases hl:h.length<=j
 ·rw[Yi hl]at ho;exact hY o (List.mem_of_getElem? ho) D
 ·by_cases h1:j=r
  ·subst h1;rw[Yh lr]at ho;cases ho;show O.cells (V.drops D _)=_;rw[aI]
  ·by_cases h2:j=C
   ·subst h2;rw[Yg nCr lC]at ho;cases ho;show O.cells (V.drops D _)=_;rw[uh]
   ·rw[X4 hj h2 h1 (by omega)]at ho;exact k.dropO hD j o ho hj
theorem Xv(k:BH g k0 h0 b C L n0 cl0 rs r row0 h){n:Nat}{cl:List Cl}{row row':Cl}{Y:H}(hY:∀o∈Y,∀D,O.drop D o=o) :
 (((HU g b C r (.ls L 1 0 rs.length rs.length) h n cl row++Y).map (O.drop fun x=>x==r)).set r (.cells (row'.map vi)))[b]? =some (.cells [vi n,.ls C 1 0 cl.length cl.length,.ls L 1 0 rs.length rs.length,vi g.ins,ay g.next,ay g.init,prs g.ands,ay g.outs,.any]) /\
 ((((HU g b C r (.ls L 1 0 rs.length rs.length) h n cl row++Y).map (O.drop fun x=>x==r)).set r (.cells (row'.map vi))).set b (bU g n (.ls C 1 0 cl.length cl.length) (.ls L 1 0 rs.length rs.length) (.ls r 1 0 row'.length row'.length))=HU g b C r (.ls L 1 0 rs.length rs.length) h n cl row'++Y):=by
 obtain⟨lb,lC,lL,lr,nbr,nCr,nLr⟩:=k.lens;have hD:∀p∈rs,(p.1==r)=false:=fun p hp=>by simpa using(k.hrs p hp).2.2
 have hdr:=vG k (lv:= .ls L 1 0 rs.length rs.length) (n:=n) (cl:=cl) (row:=row) hY (D:=fun x=>x==r) hD;refine⟨?_,?_⟩
 ·rw[zqn (Ne.symm nbr),zqo,X3 k.n1 nbr lb];have e1:(C==r)=false:=by simpa using nCr
  have e2:(L==r)=false:=by simpa using nLr
  simp only[zrw,O.drop,V.drops,V.drop,beq_self_eq_true,if_true,e1,e2,zrm,if_false]
 ·rw[List.set_comm _ _ (Ne.symm nbr),wZ hdr,List.set_comm _ _ nbr];exact Xt k.n1 nbr lb lr
theorem VC(k:BH g k0 h0 b C L n0 cl0 rs r row0 h){n:Nat}{cl:List Cl}{row:Cl}{Y:H}(hY:∀o∈Y,∀D,O.drop D o=o)(X2:O)(lv':V) :
 (((HU g b C r (.ls L 1 0 rs.length rs.length) h n cl row++Y).map (O.drop fun x=>x==L)).set L X2)[b]? =some (.cells [vi n,.ls C 1 0 cl.length cl.length,.any,vi g.ins,ay g.next,ay g.init,prs g.ands,ay g.outs,.ls r 1 0 row.length row.length]) /\
 ((((HU g b C r (.ls L 1 0 rs.length rs.length) h n cl row++Y).map (O.drop fun x=>x==L)).set L X2).set b (bU g n (.ls C 1 0 cl.length cl.length) lv' (.ls r 1 0 row.length row.length))=HU g b C r lv' (h.set L X2) n cl row++Y):=by
 obtain⟨lb,lC,lL,lr,nbr,nCr,nLr⟩:=k.lens;have hD:∀p∈rs,(p.1==L)=false:=fun p hp=>by have:=(k.hrs p hp).2.1;have:=k.Lk;simp;omega
 have hdr:=vG k (lv:= .ls L 1 0 rs.length rs.length) (n:=n) (cl:=cl) (row:=row) hY (D:=fun x=>x==L) hD;have n2:=k.n2;have n3:=k.n3;refine⟨?_,?_⟩
 ·rw[zqn (Ne.symm n2),zqo,X3 k.n1 nbr lb];have e1:(C==L)=false:=by simpa using n3
  have e2:(r==L)=false:=by simpa using Ne.symm nLr
  simp only[zrw,O.drop,V.drops,V.drop,beq_self_eq_true,if_true,e1,e2,zrm,if_false]
 ·rw[List.set_comm _ _ (Ne.symm n2),wZ hdr,List.set_append_left _ _ (by rw[kD];exact lb),List.set_append_left _ _ (by rw[zrn,kD];exact lL)]
  congr 1
  unfold HU;rw[List.set_comm _ _ (Ne.symm nbr),List.set_comm _ _ (Ne.symm k.n1),List.set_set,List.set_comm _ _ (Ne.symm nLr),List.set_comm _ _ n3,List.set_comm _ _ n2]
def Jn:Plan:=tkZ [0,1,2,3,4,6,7,8]<| .alt 5 (onZ [9,10,11]<|tkZ [12,13,14]<| .one 15<| .fin) (.one 9 (.alt 5 (.one 10<| .one 11<|tkZ [12,13,14]<| .one 15<| .fin) (.one 10 (.one 5<| .one 11<|tkZ [12,13,14]<| .one 15<| .fin))))
theorem vH{g:Gr}{u:US}:∀ {i:Nat},i<=g.ands.length->(u.ands g i).cl.length=u.cl.length+3*i
 |0,_=>rfl
 |i+1,h=>by rw[eP (by omega)];show((u.ands g i).cl++[_,_,_]).length=_;rw[zqa,vH (by omega)];simp;omega
def Pi:Plan:=tkZ [0,2,3,6,7]<| .alt 1 (.alt 4 (.alt 5 (.one 8<| .one 9<|tkZ [10,11,12]<| .fin) (.one 8 (.one 5<| .one 9<|tkZ [10,11,12]<| .fin))) (.one 8 (onZ [4,5,9]<|tkZ [10,11,12]<| .fin))) (.alt 4 (.alt 1 (.alt 5 (.one 8<| .one 9<|tkZ [10,11,12]<| .fin) (.one 8 (.one 5<| .one 9<|tkZ [10,11,12]<| .fin))) (.one 8 (onZ [1,5,9]<|tkZ [10,11,12]<| .fin))) (.one 8 (.alt 1 (onZ [4,5,9]<|tkZ [10,11,12]<| .fin) (.one 4 (onZ [1,5,9]<|tkZ [10,11,12]<| .fin)))))
theorem LJ(hg:g.chk=0){k0:Nat}{h0:H}{b C L:Nat}{u:US}{rs:List (Nat×Cl)}{r:Nat}{h:H}(k:BH g k0 h0 b C L u.n u.cl rs r (vC g u.lat) h)(ok:USok g u)(hn:u.n<=200000)(hcl:u.cl.length<=900000)(hrs:rs.length<=1000){R:AEnd->H->(Nat->Bool)->Prop}
 (hr:∀h' r',BH g k0 h0 b C L (u.step g).n (u.step g).cl (rs++[(r,(u.ands g g.ands.length).row)]) r' (vC g (u.step g).lat) h'->R (.ret (.tup [])) h' (fun j=>decide (j=C)||decide (j=L)||decide (k0<=j))):ag TE 63 [.lp b 0] h R:=by
 have hM:=mLx;obtain⟨_,i0,i1,i2,i3,i4,i5⟩:=aW hg;obtain⟨r1,r2,r3,r4⟩:=aN i4;have wf:g.first=1+g.ins+g.next.length:=rfl
 have wa:g.all=2*(g.first+g.ands.length):=rfl;obtain⟨lb,lC,lL,lr,nbr,nCr,nLr⟩:=k.lens;have n1:=k.n1;have hll:=ok.l;obtain⟨lv,hlv⟩:∃lv,lv=V.ls L 1 0 rs.length rs.length:=⟨_,rfl⟩;have fb:∀(n:Nat)(cl:List Cl)(row:Cl)(X:H),(HU g b C r lv h n cl row++X)[b]? =some (bU g n (.ls C 1 0 cl.length cl.length) lv (.ls r 1 0 row.length row.length)):=fun n cl row X=>X3 n1 nbr lb;have fr:∀(n:Nat)(cl:List Cl)(row:Cl)(X:H),(HU g b C r lv h n cl row++X)[r]? =some (.cells (row.map vi)):=fun n cl row X=>Yh lr;have fb0:∀(n:Nat)(cl:List Cl)(row:Cl),(HU g b C r lv h n cl row)[b]? =some (bU g n (.ls C 1 0 cl.length cl.length) lv (.ls r 1 0 row.length row.length)):=fun n cl row=>by have:=fb n cl row [];rwa [zqp]at this
 have fr0:∀(n:Nat)(cl:List Cl)(row:Cl),(HU g b C r lv h n cl row)[r]? =some (.cells (row.map vi)):=fun n cl row=>by have:=fr n cl row [];rwa [zqp]at this
 have fsb:∀(n n':Nat)(cl:List Cl)(row:Cl),(HU g b C r lv h n cl row).set b (bU g n' (.ls C 1 0 cl.length cl.length) lv (.ls r 1 0 row.length row.length))=HU g b C r lv h n' cl row:=fun n n' cl row=>by have:=O9 (g:=g) (lv:=lv) (n:=n) (cl:=cl) (row:=row) (X:=[]) (n':=n') n1 nbr lb;rwa [zqp,zqp]at this
 suffices H:ag TE 63 [.lp b 0] (HU g b C r lv h u.n u.cl (vC g u.lat)) R by
  have e:=k.hs;rw[zqp,<-hlv]at e;rw[<-e]at H;exact H
 refine ag.kp (fun j=>decide (j=C)||decide (j=L)||decide (k0<=j)) ?_;refine ah Tryz.func63 rfl (by simp[nts]) ?_;refine vn ?_;simp only[wq.1,seval,Tryz.results63,fb0];refine aC (fun m f h'=>∃i,m+i=g.ins.toNat/\f.t 0= .lp b 0/\f.t 16=vi g.ins/\f.t 17=vi i/\f.d=[]/\(∀j,f.k j=false)/\h'=HU g b C r lv h (u.n+i) u.cl (LG g u.n i u.lat)) g.ins.toNat ⟨0,by omega,rfl,rfl,rfl,rfl,fun j=>rfl,by rw[Xu];rfl⟩ ?_;rintro m f h' ⟨i,hm,t0,t16,t17,hd,hk0,rfl⟩;refine vn ?_;simp only[wq.1,Nat.reduceLT,t16,t17];refine ak (aV (b:=decide ((i:Int)<g.ins)) (by simp only[wq.1,↓reduceIte]) (by simp only[wq.1,↓reduceIte]) (fun hlt=> ?_) (fun hlt=> ?_))
 ·simp only[zqb]at hlt;have hli:i<g.ins.toNat:=by omega
  have hw:=aA (show i<maxLen by omega);have w1:IntKind.i64.wrap (1+(i:Int))=((1+i:Nat):Int):=by rw[fE (by omega) (by omega)];omega
  have hrl:=CX (g:=g) (n:=u.n) (lat:=u.lat) (i:=i) (by omega);refine vm ?_;simp only[wq.1];refine ak (aB ?_);refine vn ?_;simp only[wq.1,seval,t17];refine bM dV Ph (fun f' h'=>f'.t 0= .lp b 0/\f'.t 16=vi g.ins/\f'.t 17=vi i/\f'.d=[]/\(∀j,f'.k j=false)/\h'=HU g b C r lv h (u.n+(i+1)) u.cl (LG g u.n (i+1) u.lat)) (by decide +kernel) (by decide +kernel) ?_ ?_
  ·simp only[wq.1,seval,Ph,t0,fb0,w1]
   repeat' apply zsa
   all_goals
    refine oM (fb0 _ _ _) (by omega) ?_;rw[fsb];simp only[wq.1,seval,t0,t16,t17,hd,fb0,fr0,w1,Nat.mul_one];refine⟨⟨by omega,by omega⟩,by omega,hk0,?_⟩;have e1:(((u.n+i:Nat):Int)+1)=(u.n:Int)+(i:Int)+1:=by omega
    rw[e1,ui (by omega),SX hli];have:=VA (g:=g) (b:=b) (C:=C) (lv:=lv) (n:=u.n+i+1) (cl:=u.cl) (row:=LG g u.n i u.lat) (row':=LG g u.n (i+1) u.lat) (X:=[]) (by rw[CX (by omega),CX (by omega)]) lr;rw[zqp,zqp]at this;exact this
  ·rintro f h' ⟨t0,t16,t17,hd,hk0,rfl⟩;show awp _ _ _ _ _ _ _;refine vm ?_;simp only[wq.1,seval,t17,hw];exact .inl ⟨m-1,by omega,i+1,by omega,t0,t16,rfl,hd,hk0,rfl⟩
 simp only[zqd]at hlt;have:i=g.ins.toNat:=by omega
 subst this;rw[SV];clear fb0 fr0 fsb;refine vm ?_;simp only[wq.1];show awp _ _ _ _ _ _ _;clear t17 t16 hlt hm;have fb0:∀(n:Nat)(cl:List Cl)(row:Cl),(HU g b C r lv h n cl row)[b]? =some (bU g n (.ls C 1 0 cl.length cl.length) lv (.ls r 1 0 row.length row.length)):=fun n cl row=>by have:=fb n cl row [];rwa [zqp]at this
 refine vn ?_;simp only[wq.1,seval,t0,fb0];refine aC (fun m f h'=>∃(i:Nat)(X:H),m+i=g.ands.length/\f.t 0= .lp b 0/\f.t 34=prs g.ands/\f.t 35=vi g.ands.length/\f.t 36=vi i/\f.d=[]/\(∀j,f.k j=true->(decide (j=C)||decide (j=L)||decide (k0<=j))=true)/\(∀o∈X,∀D,O.drop D o=o)/\h'=HU g b C r lv h (u.ands g i).n (u.ands g i).cl (u.ands g i).row++X) g.ands.length ⟨0,[],by omega,t0,rfl,rfl,rfl,hd,fun j hj=>absurd hj (by show ¬f.k j=true;rw[hk0 j];decide),nofun,(zqp _).symm⟩ ?_;clear t0 hd hk0 fb0 f m;rintro m f h' ⟨i,X,hm,t0,t34,t35,t36,hd,hk,hX,rfl⟩;obtain⟨s,hs⟩:∃s,s=u.ands g i:=⟨_,rfl⟩;rw[<-hs];refine vn ?_;simp only[wq.1,Nat.reduceLT,t35,t36];refine ak (aV (b:=decide ((i:Int)<g.ands.length)) (by simp only[wq.1,↓reduceIte]) (by simp only[wq.1,↓reduceIte]) (fun hlt=> ?_) (fun hlt=> ?_))
 ·simp only[zqb,zqi]at hlt;have hw:=aA (show i<maxLen by omega);have hgp:=VB hlt V.any;obtain⟨o1,o2,o3,o4⟩:=iD i5 hlt;have sn:=nO (u:=u) (g:=g) (i:=i) (by omega);have sl:=gK (u:=u) (g:=g) (i:=i) (by omega);have sok:=je hg ok (i:=i) (by omega);have ss:=eP (u:=u) hlt;have sc:=vH (u:=u) (g:=g) (i:=i) (by omega);rw[<-hs]at sn sl sok ss sc;refine vm ?_;simp only[wq.1];refine ak (aB ?_);refine vn ?_;simp only[wq.1,seval,t34,t36,hgp];obtain⟨pO,hpO⟩:∃pO,pO=O.cells [vi g.ands[i].1,vi g.ands[i].2]:=⟨_,rfl⟩;have fx:∀o:O,(HU g b C r lv h s.n s.cl s.row++X++[o])[(HU g b C r lv h s.n s.cl s.row).length+X.length]? =some o:=fun o=>by
   rw[zsb (by simp),zqa,Nat.sub_self];rfl
  have fxs:∀o o':O,(HU g b C r lv h s.n s.cl s.row++X++[o]).set ((HU g b C r lv h s.n s.cl s.row).length+X.length) o'=HU g b C r lv h s.n s.cl s.row++(X++[o']):=fun o o'=>by rw[List.set_append_right _ _ (by simp),zqa,Nat.sub_self,zqc];rfl
  rw[fx];refine⟨⟨by omega,by omega⟩,by decide,?_⟩;rw[fxs,show O.cells (vi g.ands[i].fst::vi g.ands[i].snd::List.drop 2 [V.int IntKind.i64 0,V.int IntKind.i64 0])=pO by rw[hpO];rfl];obtain⟨N,hN⟩:∃N,N=(HU g b C r lv h s.n s.cl s.row).length+X.length:=⟨_,rfl⟩;rw[<-hN];rw[kD]at hN;obtain⟨Y,hY⟩:∃Y,Y=X++[pO]:=⟨_,rfl⟩;rw[<-hY];have hYp:∀o∈Y,∀D,O.drop D o=o:=fun o ho D=>by
   rw[hY]at ho;rcases zrf.1 ho with ho|ho
   ·exact hX o ho D
   ·rw[zrc.1 ho,hpO];rfl
  have fp:∀(n:Nat)(cl:List Cl)(row:Cl),(HU g b C r lv h n cl row++Y)[N]? =some (.cells [vi g.ands[i].1,vi g.ands[i].2]):=fun n cl row=>by rw[Yi (by omega),hN,Nat.add_sub_cancel_left,hY,zsb (zrb _),Nat.sub_self,hpO];rfl
  clear fx fxs;have rb:∀x∈s.row,-1000000<=x/\x<=1000000:=fun x hx=>by have:=sok.r x hx;obtain⟨_,b1,b2⟩:=this;omega
  refine ak (bM dV Pi (fun f' h'=>f'.t 0= .lp b 0/\f'.t 34=prs g.ands/\f'.t 35=vi g.ands.length/\f'.t 36=vi i/\f'.t 5=vi ((s.n:Int)+1)/\f'.t 6=vi (wB s.row g.ands[i].1)/\f'.t 7=vi (wB s.row g.ands[i].2)/\f'.d=[]/\(∀j,f'.k j=true->(decide (j=C)||decide (j=L)||decide (k0<=j))=true)/\h'=HU g b C r lv h (s.n+1) s.cl s.row++Y) (by decide +kernel) (by decide +kernel) ?_ ?_)
  ·simp only[wq.1,seval,Pi,t0,fp]
   repeat' apply zsa
   all_goals try(first|decide|omega)
   iterate 3
    all_goals first
     |(refine oM (fb _ _ _ _) (by omega) ?_;rw[O9 n1 nbr lb])
     |refine vz (fb _ _ _ _) (fr _ _ _ _) rb o1 (by omega) (by omega) ?_
     |refine vz (fb _ _ _ _) (fr _ _ _ _) rb o2 (by omega) (by omega) ?_
    all_goals simp only[wq.1,↓reduceIte,Nat.reduceEqDiff,Nat.reduceLT,Nat.reduceLeDiff,Nat.reduceAdd,reduceCtorEq,t0,t34,t35,t36,hd,fp]
    all_goals repeat' apply zsa
    all_goals try(first|decide|omega|exact hk)
  ·rintro f h' ⟨t0,t34,t35,t36,t5,t6,t7,hd,hk,rfl⟩;show awp _ _ _ _ _ _ _;have nbC:(b==C)=false:=by simpa using n1
   have dCr:∀p∈rs,(p.1==C)=false:=fun p hp=>by have:=(k.hrs p hp).2.1;have:=k.Ck;simp;omega
   have hCr:(r==C)=false:=by simpa using Ne.symm nCr
   have fC:∀(n:Nat)(cl:List Cl)(row:Cl)(X:H),(HU g b C r lv h n cl row++X)[C]? =some (.cells (cl.map xC)):=fun n cl row X=>Yg nCr lC;have hlvC:lv.drop (·==C)=lv:=by
    rw[hlv];have:(L==C)=false:=by simpa using Ne.symm k.n3
    simp only[V.drop,this,zrm,if_false]
   have hrvC:∀m:Nat,(V.ls r 1 0 m m).drop (·==C)=V.ls r 1 0 m m:=fun m=>by simp only[V.drop,hCr,zrm,if_false]
   have hsn:s.n<=300000:=by omega
   have e3:g.ands[i].1/2<s.row.length:=by omega
   have e4:g.ands[i].2/2<s.row.length:=by omega
   have scl:s.cl.length<=1000000/\s.cl.length+1<=1000000/\s.cl.length+1+1<=1000000:=by omega
   have em:m-1<m/\m-1+(i+1)=g.ands.length:=by omega
   have e6:s.row.length+1<=maxLen/\(s.row.length+1)*8<=140737488355328:=by omega
   have e5:(-1000000:Int)<=(s.n:Int)+1/\(s.n:Int)+1<=1000000:=by omega
   have b1:=pV sok.r o1 e3;have b2:=pV sok.r o2 e4;obtain⟨x,hx⟩:∃x,x=wB s.row g.ands[i].1:=⟨_,rfl⟩;obtain⟨y,hy⟩:∃y,y=wB s.row g.ands[i].2:=⟨_,rfl⟩;rw[<-hx]at t6 b1;rw[<-hy]at t7 b2;have bnd:∀z:Int,inU s.n z->-1000000<=z/\z<=1000000:=fun z hz=>by obtain⟨_,z1,z2⟩:=hz;omega
   have bx:=bnd _ b1;have by_:=bnd _ b2;clear b1 b2 bnd;have w5:IntKind.i64.wrap (0-((s.n:Int)+1))=-((s.n:Int)+1):=CY e5.1 e5.2;have w6:IntKind.i64.wrap (0-x)=-x:=CY bx.1 bx.2;have w7:IntKind.i64.wrap (0-y)=-y:=CY by_.1 by_.2;refine vn ?_;simp only[wq.1,↓reduceIte,Nat.reduceEqDiff,Nat.reduceLT,reduceCtorEq,Nat.reduceMul,t0,t5,t6,w5];refine⟨⟨rfl,by decide⟩,?_⟩;refine qE (cl:=s.cl) (c:=[-((s.n:Int)+1),x]) n1 (fb _ _ _ _) (fC _ _ _ _) (vG k hYp dCr) hlvC (hrvC _) scl.1 ?_;rw[Pg n1 nbr nCr lb lC];simp only[wq.1,bJ,hd];refine vn ?_;simp only[wq.1,↓reduceIte,Nat.reduceEqDiff,Nat.reduceLT,reduceCtorEq,Nat.reduceMul,nbC,t0,t5,t7,w5];refine⟨⟨rfl,by decide⟩,?_⟩;refine qE (cl:=s.cl++[[-((s.n:Int)+1),x]]) (c:=[-((s.n:Int)+1),y]) n1 (fb _ _ _ _) (fC _ _ _ _) (vG k hYp dCr) hlvC (hrvC _) (by rw[zqa,zrk];exact scl.2.1) ?_;rw[Pg n1 nbr nCr lb lC];simp only[wq.1,bJ,hd];refine vn ?_;simp only[wq.1,↓reduceIte,Nat.reduceEqDiff,Nat.reduceLT,reduceCtorEq,Nat.reduceMul,nbC,t0,t5,t6,t7,w6,w7];refine⟨⟨rfl,by decide⟩,?_⟩;refine qE (cl:=s.cl++[[-((s.n:Int)+1),x]]++[[-((s.n:Int)+1),y]]) (c:=[(s.n:Int)+1,-x,-y]) n1 (fb _ _ _ _) (fC _ _ _ _) (vG k hYp dCr) hlvC (hrvC _) (by simp only[zqa,zrk];exact scl.2.2) ?_;rw[Pg n1 nbr nCr lb lC];simp only[wq.1,bJ,hd];rw[hlv]at fb fr ⊢;have nbr':(b==r)=false:=by simpa using nbr
   refine vm ?_;simp only[wq.1,↓reduceIte,Nat.reduceEqDiff,Nat.reduceLT,Nat.reduceAdd,reduceCtorEq,Nat.reduceMul,nbr',nbC,t0,t5,hd,fb,fr];refine⟨⟨rfl,by decide⟩,⟨(Nat.mul_one _).symm,e6.1,e6.2⟩,?_⟩;have hvd:V.drops (fun x=>x==r) (List.map vi s.row)++[vi ((s.n:Int)+1)]=(s.row++[(s.n:Int)+1]).map vi:=by
    rw[aI,zql];rfl
   rw[hvd,<-zql];obtain⟨ap1,ap2⟩:=Xv k (n:=s.n+1) (cl:=s.cl++[[-((s.n:Int)+1),x]]++[[-((s.n:Int)+1),y]]++[[(s.n:Int)+1,-x,-y]]) (row:=s.row) (row':=s.row++[(s.n:Int)+1]) hYp;rw[ap1];refine⟨zrb 9,?_⟩;have hrl:(s.row++[(s.n:Int)+1]).length=s.row.length+1:=by rw[zqa,zrk]
   rw[hrl]at ap2;have hset:∀Z:H,Z.set b (O.cells (List.take 8 [vi ((s.n+1:Nat):Int),V.ls C 1 0 (s.cl++[[-((s.n:Int)+1),x]]++[[-((s.n:Int)+1),y]]++[[(s.n:Int)+1,-x,-y]]).length (s.cl++[[-((s.n:Int)+1),x]]++[[-((s.n:Int)+1),y]]++[[(s.n:Int)+1,-x,-y]]).length,V.ls L 1 0 rs.length rs.length,vi g.ins,ay g.next,ay g.init,prs g.ands,ay g.outs,V.any]++[V.ls r 1 0 (s.row.length+1) (s.row.length+1)]++List.drop 9 [vi ((s.n+1:Nat):Int),V.ls C 1 0 (s.cl++[[-((s.n:Int)+1),x]]++[[-((s.n:Int)+1),y]]++[[(s.n:Int)+1,-x,-y]]).length (s.cl++[[-((s.n:Int)+1),x]]++[[-((s.n:Int)+1),y]]++[[(s.n:Int)+1,-x,-y]]).length,V.ls L 1 0 rs.length rs.length,vi g.ins,ay g.next,ay g.init,prs g.ands,ay g.outs,V.any]))=Z.set b (bU g (s.n+1) (V.ls C 1 0 (s.cl++[[-((s.n:Int)+1),x]]++[[-((s.n:Int)+1),y]]++[[(s.n:Int)+1,-x,-y]]).length (s.cl++[[-((s.n:Int)+1),x]]++[[-((s.n:Int)+1),y]]++[[(s.n:Int)+1,-x,-y]]).length) (V.ls L 1 0 rs.length rs.length) (V.ls r 1 0 (s.row.length+1) (s.row.length+1))):=fun Z=>rfl;rw[hset,ap2];refine vm ?_;simp only[wq.1,seval,t36,hw];refine .inl ⟨m-1,em.1,i+1,Y,em.2,by simp only[wq.1,seval,nbC,nbr',t0],by simp only[wq.1,seval,t34],by simp only[wq.1,seval,t35],rfl,hd,fun j hj=> ?_,hYp,?_⟩
   ·have hj:((((f.k j||j==C)||j==C)||j==C)||j==r)=true:=hj;simp only[Bool.or_eq_true,beq_iff_eq,zqb]at hj ⊢;rcases hj with(((hj|hj)|hj)|hj)|hj
    ·have:=hk j hj;simpa only[Bool.or_eq_true,zqb]using this
    ·exact .inl (.inl hj)
    ·exact .inl (.inl hj)
    ·exact .inl (.inl hj)
    ·exact .inr (by rw[hj];exact k.rk)
   ·rw[ss];simp only[Wh,<-hx,<-hy,zqc,List.cons_append,List.nil_append]
 simp only[zqd,zqi]at hlt;have:i=g.ands.length:=by omega
 subst this;have sn:=nO (u:=u) (g:=g) (zrb g.ands.length);have sl:=gK (u:=u) (g:=g) (zrb g.ands.length);have sok:=je hg ok (zrb g.ands.length);rw[<-hs]at sn sl sok;refine vm ?_;simp only[wq.1];show awp _ _ _ _ _ _ _;clear t34 t35 t36 hlt hm;rw[hlv]at fb fr ⊢;have nbL:(b==L)=false:=by simpa using k.n2
 have fL:∀(n:Nat)(cl:List Cl)(row:Cl)(X:H),(HU g b C r (.ls L 1 0 rs.length rs.length) h n cl row++X)[L]? =some (.cells (rs.map fun p=> .ls p.1 1 0 p.2.length p.2.length)):=fun n cl row X=>by rw[X4 (Ne.symm k.n2) (Ne.symm k.n3) nLr lL];exact k.hL
 have hDL:∀p∈rs,(p.1==L)=false:=fun p hp=>by have:=(k.hrs p hp).2.1;have:=k.Lk;simp;omega
 have hdL:=vG k (lv:= .ls L 1 0 rs.length rs.length) (n:=s.n) (cl:=s.cl) (row:=s.row) hX (D:=fun x=>x==L) hDL;have rL:(r==L)=false:=by simpa using Ne.symm nLr
 have e1:(rs.map fun p=>V.ls p.1 1 0 p.2.length p.2.length).length=rs.length*1:=by simp
 have hvr:V.drops (fun x=>x==L) (rs.map fun p=>V.ls p.1 1 0 p.2.length p.2.length)=rs.map fun p=>V.ls p.1 1 0 p.2.length p.2.length:=vF hDL;refine ak (bM dV Jn (fun f' h'=>f'.t 0= .lp b 0/\f'.d=[]/\(∀j,f'.k j=true->(decide (j=C)||decide (j=L)||decide (k0<=j))=true)/\h'=HU g b C r (.ls L 1 0 (rs.length+1) (rs.length+1)) (h.set L (.cells ((rs++[(r,s.row)]).map fun p=> .ls p.1 1 0 p.2.length p.2.length))) s.n s.cl s.row++X) (by decide +kernel) (by decide +kernel) ?_ ?_)
 ·simp only[wq.1,seval,Jn,t0,hd,fb,fL,nbL,rL,hvr]
  repeat' apply zsa
  all_goals try(first|decide|omega|rfl)
  all_goals
   obtain⟨ap1,ap2⟩:=VC k (n:=s.n) (cl:=s.cl) (row:=s.row) hX (O.cells (List.map (fun p=>V.ls p.fst 1 0 (List.length p.snd) (List.length p.snd)) rs++[V.ls r 1 0 (List.length s.row) (List.length s.row)])) (.ls L 1 0 (rs.length+1) (rs.length+1));rw[<-zql,ap1];refine⟨Nat.le_of_ble_eq_true rfl,fun j hj=> ?_,ap2⟩;simp only[Bool.or_eq_true,beq_iff_eq]at hj;rcases hj with hj|hj
   ·exact hk j hj
   ·simp[hj]
 rintro f h' ⟨t0,hd,hk,rfl⟩;show awp _ _ _ _ _ _ _;obtain⟨rs2,hrs2⟩:∃rs2,rs2=rs++[(r,s.row)]:=⟨_,rfl⟩;obtain⟨X2,hX2⟩:∃X2,X2=O.cells (rs2.map fun p=>V.ls p.1 1 0 p.2.length p.2.length):=⟨_,rfl⟩;have hl2:rs.length+1=rs2.length:=by rw[hrs2,zqa];rfl
 rw[<-hrs2,<-hX2,hl2];have lL2:L<(h.set L X2).length:=by simpa using lL
 obtain⟨H1,hH1⟩:∃H1,H1=HU g b C r (.ls L 1 0 rs2.length rs2.length) (h.set L X2) s.n s.cl s.row++X:=⟨_,rfl⟩;rw[<-hH1];have H1l:H1.length=h.length+X.length:=by rw[hH1,zqa,kD,zrn]
 have H1b:H1[b]? =some (bU g s.n (.ls C 1 0 s.cl.length s.cl.length) (.ls L 1 0 rs2.length rs2.length) (.ls r 1 0 s.row.length s.row.length)):=by rw[hH1];exact X3 n1 nbr (by simpa using lb)
 have H1r:H1[r]? =some (.cells (s.row.map vi)):=by rw[hH1];exact Yh (by simpa using lr)
 have H1C:H1[C]? =some (.cells (s.cl.map xC)):=by rw[hH1];exact Yg nCr (by simpa using lC)
 have H1L:H1[L]? =some X2:=by rw[hH1,X4 (Ne.symm k.n2) (Ne.symm k.n3) nLr lL2,zqt lL]
 have H1o:∀j,j≠b->j≠C->j≠L->j≠r->j<h.length->H1[j]? =h[j]? :=fun j j1 j2 j3 j4 j5=>by rw[hH1,X4 j1 j2 j4 (by simpa using j5),zqn (Ne.symm j3)]
 have H1x:∀(j:Nat)(o:O),h.length<=j->H1[j]? =some o->o∈X:=fun j o hj ho=>by rw[hH1,Yi (by simpa using hj)]at ho;exact List.mem_of_getElem? ho
 have H1p:∀(j:Nat)(o:O),H1[j]? =some o->j≠b->j≠L->∀D,o.drop D=o:=fun j o ho j1 j2 D=>by
  by_cases hl:h.length<=j
  ·exact hX o (H1x j o hl ho) D
  ·by_cases j3:j=r
   ·subst j3;rw[H1r]at ho;cases ho;show O.cells (V.drops D _)=_;rw[aI]
   ·by_cases j4:j=C
    ·subst j4;rw[H1C]at ho;cases ho;show O.cells (V.drops D _)=_;rw[uh]
    ·rw[H1o j j1 j4 j2 j3 (by omega)]at ho;exact k.pl j o ho j1 j2 D
 have rs2r:∀p∈rs2,p.1<h.length/\k0<=p.1:=fun p hp=>by
  rw[hrs2]at hp;rcases zrf.1 hp with hp|hp
  ·exact⟨(zqe (k.hrs p hp).1).1,(k.hrs p hp).2.1⟩
  ·rw[zrc.1 hp];exact⟨lr,k.rk⟩
 have H1d:∀q,h.length<=q->∀(j:Nat)(o:O),H1[j]? =some o->o.drop (fun x=>x==q)=o:=fun q hq j o ho=>by
  by_cases j1:j=b
  ·subst j1;rw[H1b]at ho;cases ho;have e1:(C==q)=false:=by simp;omega
   have e2:(L==q)=false:=by simp;omega
   have e3:(r==q)=false:=by simp;omega
   simp only[O.drop,V.drops,V.drop,e1,e2,e3,zrm,if_false]
  ·by_cases j2:j=L
   ·subst j2;rw[H1L,hX2]at ho;cases ho;show O.cells (V.drops _ _)=_;rw[vF fun p hp=>by have:=(rs2r p hp).1;simp;omega]
   ·exact H1p j o ho j1 j2 _
 have H1m:∀q,h.length<=q->H1.map (O.drop fun x=>x==q)=H1:=fun q hq=>by
  refine List.ext_getElem? fun j=> ?_;rw[zqo];cases ho:H1[j]? with
  |none=>rfl
  |some o=>rw[zrw,H1d q hq j o ho]
 refine vn ?_;simp only[wq.1,seval,t0];refine vn ?_;simp only[wq.1,Nat.reduceLT];refine kN 9 1 (rfl) ?_;have H1bl:b<H1.length:=by omega
 have H1rl:r<H1.length:=by omega
 have fqb:∀cs,(H1++[O.cells cs])[b]? =some (bU g s.n (.ls C 1 0 s.cl.length s.cl.length) (.ls L 1 0 rs2.length rs2.length) (.ls r 1 0 s.row.length s.row.length)):=fun cs=>by rw[zqj H1bl];exact H1b
 have fqr:∀cs,(H1++[O.cells cs])[r]? =some (.cells (s.row.map vi)):=fun cs=>by rw[zqj H1rl];exact H1r
 have fqq:∀cs,(H1++[O.cells cs])[H1.length]? =some (.cells cs):=fun cs=>by rw[zsb (zrb _),Nat.sub_self];rfl
 have nbq:(b==H1.length)=false:=by simp;omega
 have rb:∀x∈s.row,-1000000<=x/\x<=1000000:=fun x hx=>by have:=sok.r x hx;obtain⟨_,b1,b2⟩:=this;omega
 have hmq:=H1m H1.length (by omega);refine vn ?_;simp only[wq.1,seval,t0,hd,fqb];refine aC (fun m f h'=>∃(i:Nat)(cs:List V),m+i=g.next.length/\f.t 0= .lp b 0/\f.t 8= .fn (.func 70) [.lp b 0] []/\f.t 9= .ls H1.length 1 0 i i/\f.t 102=ay g.next/\f.t 103=vi g.next.length/\f.t 104=vi i/\f.d=[]/\(∀j,f.k j=true->(decide (j=C)||decide (j=L)||decide (k0<=j))=true)/\cs=((g.next.take i).map (wB s.row)).map vi/\h'=H1++[.cells cs]) g.next.length ⟨0,[],by omega,t0,rfl,rfl,rfl,rfl,rfl,rfl,hk,rfl,rfl⟩ ?_
 clear t0 hd hk f;rintro m f h' ⟨i,cs,hm,t0,t8,t9,t102,t103,t104,hd,hk,hcs,rfl⟩;refine vn ?_;simp only[wq.1,Nat.reduceLT,t103,t104];refine ak (aV (b:=decide ((i:Int)<g.next.length)) (by simp only[wq.1,↓reduceIte]) (by simp only[wq.1,↓reduceIte]) (fun hlt=> ?_) (fun hlt=> ?_))
 ·simp only[zqb,zqi]at hlt;have hw:=aA (show i<maxLen by omega);have hgn:(g.next.map vi).getD i .any=vi g.next[i]:=wU hlt _
  have hr3:=r3 _ (zqu hlt);have hcl2:cs.length=i*1:=by rw[hcs];simp;omega
  have dcs:∀p,V.drops p cs=cs:=fun p=>by rw[hcs];exact aI _
  refine vm ?_;simp only[wq.1];refine vm ?_;simp only[wq.1,seval,t8,t9,t102,t104,hgn];refine⟨⟨by omega,by omega⟩,?_⟩;refine vz (fqb _) (fqr _) rb hr3.1 (by omega) (by omega) ?_;simp only[wq.1,↓reduceIte,Nat.reduceEqDiff,Nat.reduceLT,reduceCtorEq,Nat.reduceMul,t104,hd,fqq,hmq,hcl2,dcs];have hk1:=k.rk;refine⟨⟨rfl,by decide⟩,⟨by omega,by omega⟩,.inl ⟨m-1,by omega,i+1,cs++[vi (wB s.row g.next[i])],by omega,by simp only[wq.1,seval,aG,Tryz.results63,t0,nbq],by simp only[wq.1,seval,aG,Tryz.results63,t8,nbq],rfl,by simp only[wq.1,seval,aG,Tryz.results63,t102],by simp only[wq.1,seval,aG,Tryz.results63,t103],by simp only[wq.1,seval,aG,Tryz.results63,hw],hd,fun j hj=> ?_,?_,?_⟩⟩
  ·have hj:(f.k j||j==H1.length)=true:=hj;simp only[Bool.or_eq_true,beq_iff_eq]at hj;rcases hj with hj|hj
   ·exact hk j hj
   ·simp only[Bool.or_eq_true,zqb];right;omega
  ·rw[hcs,zrg,zqk hlt,zql,zql];rfl
  ·rw[List.set_append_right _ _ (zrb _),Nat.sub_self];rfl
 simp only[zqd,zqi]at hlt;have:i=g.next.length:=by omega
 subst this;rw[zrx]at hcs;obtain⟨lat,hlat⟩:∃lat,lat=(u.step g).lat:=⟨_,rfl⟩;have hlat2:lat=g.next.map (wB s.row):=by rw[hlat,hs];rfl
 have hll2:lat.length=g.next.length:=by rw[hlat2,zra]
 rw[<-hlat2]at hcs;subst hcs;rw[<-hll2]at t9;obtain⟨H2,hH2⟩:∃H2,H2=H1++[O.cells (lat.map vi)]:=⟨_,rfl⟩;rw[<-hH2];have H2l:H2.length=H1.length+1:=by rw[hH2,zqa];rfl
 have H2b:H2[b]? =some (bU g s.n (.ls C 1 0 s.cl.length s.cl.length) (.ls L 1 0 rs2.length rs2.length) (.ls r 1 0 s.row.length s.row.length)):=by rw[hH2];exact fqb _
 have H2q:H2[H1.length]? =some (.cells (lat.map vi)):=by rw[hH2];exact fqq _
 have H2o:∀j,j<H1.length->H2[j]? =H1[j]? :=fun j hj=>by rw[hH2,zqj hj]
 have H2p:∀(j:Nat)(o:O),H2[j]? =some o->j≠b->j≠L->∀D,o.drop D=o:=fun j o ho j1 j2 D=>by
  by_cases hl:j<H1.length
  ·rw[H2o j hl]at ho;exact H1p j o ho j1 j2 D
  ·have hjl:=(zqe ho).1;have:j=H1.length:=by omega
   subst this;rw[H2q]at ho;cases ho;show O.cells (V.drops D _)=_;rw[aI]
 refine vm ?_;simp only[wq.1];refine vm ?_;simp only[wq.1,seval,t0,t9];refine wF (lat:=lat) H2b H2q (fun j o ho=> ?_) i0 (by omega) (by omega) (by omega) ?_
 ·by_cases hl:j<H1.length
  ·rw[H2o j hl]at ho;exact H1d _ (by omega) j o ho
  ·have hjl:=(zqe ho).1;have:j=H1.length:=by omega
   subst this;rw[H2q]at ho;cases ho;show O.cells (V.drops _ _)=_;rw[aI]
 simp only[wq.1,bJ,hd];have hk1:=k.rk;have hbk:=k.bk;refine⟨fun j hj=> ?_,?_⟩
 ·simp only[Bool.or_eq_true,beq_iff_eq]at hj;rcases hj with hj|hj
  ·exact hk j hj
  ·simp only[Bool.or_eq_true,zqb];right;omega
 have es:u.ands g g.ands.length=s:=hs.symm;obtain⟨Bo,hBo⟩:∃Bo:O,Bo=bU g s.n (.ls C 1 0 s.cl.length s.cl.length) (.ls L 1 0 rs2.length rs2.length) (.ls H2.length 1 0 (vC g lat).length (vC g lat).length):=⟨_,rfl⟩;rw[<-hBo];have H2bl:b<H2.length:=by omega
 have eo:∀j,j<H2.length->j≠b->(H2.set b Bo++[O.cells ((vC g lat).map vi)])[j]? =H2[j]? :=fun j hj hjb=>by rw[zqj (by simpa using hj),zqn (Ne.symm hjb)]
 have eb:(H2.set b Bo++[O.cells ((vC g lat).map vi)])[b]? =some Bo:=by rw[zqj (by simpa using H2bl),zqt H2bl]
 have er:(H2.set b Bo++[O.cells ((vC g lat).map vi)])[H2.length]? =some (.cells ((vC g lat).map vi)):=by rw[zsb (by simp)];simp
 have hres:=hr (H2.set b Bo++[O.cells ((vC g lat).map vi)]) H2.length;rw[<-hlat,es]at hres;have e1:(u.step g).n=s.n:=by show(u.ands g g.ands.length).n=_;rw[es]
 have e2:(u.step g).cl=s.cl:=by show(u.ands g g.ands.length).cl=_;rw[es]
 rw [e1,e2,<- hrs2] at hres;refine hres {
  hb:=by rw[eb,hBo]
  hC:=by rw[eo C (by omega) (Ne.symm n1),H2o C (by omega)];exact H1C
  hL:=by rw[eo L (by omega) (Ne.symm k.n2),H2o L (by omega),H1L,hX2]
  hr:=er
  hrs:=fun p hp=> ?_
  n1:=n1
  n2:=k.n2
  n3:=k.n3
  bk:=k.bk
  Ck:=k.Ck
  Lk:=k.Lk
  rk:=by omega
  pl:=fun j o ho j1 j2 D=> ?_
  bs:=fun j j0 j1 j2 j3=> ?_}
 ·obtain⟨p1,p2⟩:=rs2r p hp;have pC:p.1≠C:=by have:=k.Ck;omega
  have pL:p.1≠L:=by have:=k.Lk;omega
  refine⟨?_,p2,by omega⟩;rw[eo _ (by omega) (by omega),H2o _ (by omega)];rw[hrs2]at hp;rcases zrf.1 hp with hp|hp
  ·rw[H1o _ (by omega) pC pL (k.hrs p hp).2.2 p1];exact(k.hrs p hp).1
  ·rw[zrc.1 hp];exact H1r
 ·by_cases hl:j<H2.length
  ·rw[eo j hl j1]at ho;exact H2p j o ho j1 j2 D
  ·have hjl:=(zqe ho).1;rw[zqa,zrn]at hjl;have:j=H2.length:=by simp at hjl;omega
   subst this;rw[er]at ho;cases ho;show O.cells (V.drops D _)=_;rw[aI]
 ·rw[eo j (by omega) j1,H2o j (by omega),H1o j j1 j2 j3 (by omega) (by omega)];exact k.bs j j0 j1 j2 j3
theorem SY(a:Int):Ev TE 89 [vi a] (.bool (EX a)):=by
 unfold EX;refine aF Tryz.func89 rfl (by simp[nts]) (vm ?_);cases h1:decide (a<0)with
 |true=>simp only[wq.1,seval,Tryz.results89,h1];exact aH.dat rfl
 |false=>simp only[wq.1,seval,Tryz.results89,h1];exact aH.dat rfl
def X5(g:Gr)(k:Int)(l:Cl):Int:=l.foldl (fun n b=>n+b/2) (1+k*(g.ins+g.ands.length))
def yZ(g:Gr)(b:Cl)(k:Int):Int :=
 if g.chk≠0 then g.chk else if b.length≠g.next.length\/b.any EX=true then 1 else if k<0\/40<k then 8 else if 20000<X5 g k b then 8 else 0
theorem VD(g:Gr)(b:Cl)(k:Int)(hs:g.Sm)(hb:b.length<=1000000):Ev TE 59 [g.v,ay b,vi k] (vi (yZ g b k)):=by
 have hM:=mLx;have hck:=kR g hs;have hct:=Ji b 89 [] EX (by decide +kernel) rfl (fun x _=>SY x);unfold yZ;unfold Gr.v at hck ⊢;refine aF Tryz.func59 rfl (by simp[nts]) (vm ?_);simp only[wq.1,seval,Tryz.results59];refine ag.ev hck (by simp only[V.dats,V.dat,zre]) ?_;simp only[wq.1,seval];refine vcB.mk (fun hc=> ?_) (fun hc=> ?_)
 ·have hc:g.chk≠0:=by simpa using hc
  rw[if_pos hc];simp only[wq.1,seval];exact aH.dat rfl
 have hc:g.chk=0:=by simpa using hc
 rw[if_neg (by simp[hc])];obtain⟨_,i0,i1,i2,i3,i4,i5⟩:=aW hc;simp only[wq.1,seval];refine DW.ev (q:=84) (vs:=[ay b,.fn (.func 89) [] []]) (by simp only[wq.1,↓reduceIte]) (by simp only[wq.1,↓reduceIte]) (by decide +kernel) (fun _=>hct) (fun _=>by simp only[V.dats,V.dat,zre]) ?_;simp only[wq.1,seval];have hbe:((b.length:Int) != (g.next.length:Int))=decide (b.length≠g.next.length):=by
  rw[Bool.eq_iff_iff];simp only[bne_iff_ne,ne_eq,zqb];omega
 refine vcB.mk (fun h1=> ?_) (fun h1=> ?_)
 ·rw[if_pos (by rw[hbe]at h1;simpa using h1)];simp only[wq.1,seval];exact aH.dat rfl
 rw[if_neg (by rw[hbe]at h1;simpa using h1)];simp only[wq.1,seval];have hkd:(decide (k<0)||decide (40<k))=decide (k<0\/40<k):=by rw[Bool.eq_iff_iff];simp
 refine vcB.mk (fun h2=> ?_) (fun h2=> ?_)
 ·rw[if_pos (by simpa using h2)];simp only[wq.1,seval];exact aH.dat rfl
 have h2':¬(k<0\/40<k):=by simpa using h2
 rw[if_neg h2'];have hmul:0<=k*(g.ins+(g.ands.length:Int))/\k*(g.ins+(g.ands.length:Int))<=160000:=by
  have a1:0<=g.ins+(g.ands.length:Int):=by omega
  have a2:g.ins+(g.ands.length:Int)<=4000:=by omega
  exact⟨Int.mul_nonneg (by omega) a1,by have:=Int.mul_le_mul (show k<=40 by omega) a2 a1 (by omega);omega⟩
 obtain⟨q,hq⟩:∃q,q=k*(g.ins+(g.ands.length:Int)):=⟨_,rfl⟩;have hnu:X5 g k b=b.foldl (fun n b=>n+b/2) (1+q):=by rw[hq];rfl
 have w1:IntKind.i64.wrap (g.ins+(g.ands.length:Int))=g.ins+(g.ands.length:Int):=fE (by omega) (by omega);rw[<-hq]at hmul;have w2:IntKind.i64.wrap q=q:=fE (by omega) (by omega);have w3:IntKind.i64.wrap (1+q)=1+q:=fE (by omega) (by omega);simp only[wq.1,seval,w1,<-hq,w2,w3];have hbd:∀x∈b,0<=x/\x<=2:=fun x hx=>by
  have h1':b.any EX=false:=by rw[zsf]at h1;exact h1.2
  have:=List.any_eq_false.1 h1' x hx;simpa [EX]using this
 have hsum:∀i,i<=b.length->1+q<=(b.take i).foldl (fun n b=>n+b/2) (1+q)/\(b.take i).foldl (fun n b=>n+b/2) (1+q)<=1+q+i:=by
  intro i
  induction i with
  |zero=>intro _;simp
  |succ i ih=>intro hi;have:=ih (by omega);have hx:=hbd _ (zqu (show i<b.length by omega));rw[zrg,zqk (show i<b.length by omega),Option.toList_some,List.foldl_append,List.foldl_cons,List.foldl_nil];omega
 refine aC (fun m f h=>∃i,m+i=b.length/\f.t 8=vi ((b.take i).foldl (fun n b=>n+b/2) (1+q))/\f.t 41=ay b/\f.t 42=vi b.length/\f.t 43=vi i/\f.d=[]/\h=[.cells [vi g.ins,ay g.next,ay g.init,prs g.ands,ay g.outs]]) b.length ⟨0,by omega,rfl,rfl,rfl,rfl,rfl,rfl⟩ ?_;rintro m f h ⟨i,hm,t8,t41,t42,t43,hd,rfl⟩;have hsi:=hsum i (by omega);refine vm ?_;simp only[wq.1,seval,t42,t43];refine vcB.mk (fun hlt=> ?_) (fun hlt=> ?_)
 ·simp only[zqb,zqi]at hlt;have hw:=aA (show i<maxLen by omega);have hgb:(b.map vi).getD i .any=vi b[i]:=wU hlt _;have hx:=hbd _ (zqu hlt);have v1:IntKind.i64.wrap (b[i].tdiv 2)=b[i]/2:=by rw[Int.tdiv_eq_ediv_of_nonneg hx.1,fE (by omega) (by omega)]
  obtain⟨S,hS⟩:∃S,S=(b.take i).foldl (fun n b=>n+b/2) (1+q):=⟨_,rfl⟩;rw[<-hS]at t8 hsi;have v2:IntKind.i64.wrap (S+b[i]/2)=S+b[i]/2:=fE (by omega) (by omega);simp only[wq.1,↓reduceIte,Nat.reduceEqDiff,Nat.reduceLT,Nat.reduceLeDiff,Nat.reduceAdd,Nat.reduceSub,Int.reduceToNat,Nat.reduceDiv,Int.reduceLT,Int.reduceLE,Int.reduceNeg,Int.reduceBEq,Int.reduceBNe,Int.reduceAdd,Int.reduceSub,Nat.reduceBEq,reduceCtorEq,Nat.reduceMul,aG,Tryz.results59,t8,t41,t42,t43,hd,hgb,v1,v2,hw];refine⟨⟨by omega,by omega⟩,by decide,.inl ⟨m-1,by omega,i+1,by omega,?_,t41,t42,rfl,hd,rfl⟩⟩;rw[zrg,zqk hlt,Option.toList_some,List.foldl_append,List.foldl_cons,List.foldl_nil,<-hS];simp only[wq.1,seval]
 ·simp only[zqd,zqi]at hlt;have:i=b.length:=by omega
  subst this;rw[zrx,<-hnu]at t8;simp only[wq.1,seval,t8];refine vcB.mk (fun h3=> ?_) (fun h3=> ?_)
  ·rw[if_pos (by simpa using h3)];simp only[wq.1,seval,hd];exact aH.dat rfl
  ·rw[if_neg (by simpa using h3)];simp only[wq.1,seval,hd];exact aH.dat rfl
def lM(rows:List Cl)(t a:Int):Int:=if t<0\/(rows.length:Int)<=t\/a<0\/((rows.getD t.toNat []).length:Int)<=a/2 then 0 else wB (rows.getD t.toNat []) a
theorem HY{x0 x1 x2 x3 x4 x5 x6 x7:V}{a:Int}{R:AEnd->H->(Nat->Bool)->Prop}(hh:h[b]? =some (.cells [x0,x1,x2,x3,x4,x5,x6,x7,ay row]))
 (hb:∀x∈row,-1000000<=x/\x<=1000000) (a0:0<=a) (a1:a/2<row.length) (a2:a<=1000000)
 (hr:R (.ret (vi (wB row a))) h (fun _=>false)):ag TE 70 [.lp b 0,vi a] h R:=by
 have hM:=mLx;obtain⟨k,hk⟩:∃k:Nat,a/2=k:=⟨(a/2).toNat,by omega⟩;have hkl:k<row.length:=by omega
 have hg:(row.map vi).getD k .any=vi row[k]:=wU hkl _;have hx:=hb _ (zqu hkl);have q1:=Vs a;have q2:=We a0 (show a<=1000000000 by omega);have hgd:row.getD (a/2).toNat 0=row[k]:=by rw[hk,zsg,aS hkl]
 have wn:IntKind.i64.wrap (0-row[k])=-row[k]:=CY hx.1 hx.2;refine ah Tryz.func70 rfl (by simp[nts]) (vm ?_);rcases Int.emod_two_eq a with hm|hm
 ·rw[Fp hm,hgd]at hr;simp only[wq.1,seval,Tryz.results70,q1,q2,hm,hk,hh,hg];exact⟨⟨by omega,by omega⟩,hr⟩
 ·rw[Jm hm,hgd]at hr;simp only[wq.1,seval,Tryz.results70,q1,q2,hm,hk,hh,hg,wn];exact⟨⟨by omega,by omega⟩,hr⟩
theorem CZ(n:Int)(cl rows:List Cl)(t a:Int)(hb:∀r∈rows,∀x∈r,-1000000<=x/\x<=1000000)(ha:a<=1000000)(hr:rows.length<=1000):Ev TE 39 [.agg [vi n,cls cl,cls rows],vi t,vi a] (vi (lM rows t a)):=by
 have hM:=mLx;have q1:=Vs a;unfold lM;by_cases hin:t<0\/(rows.length:Int)<=t\/a<0
 ·have hd:(decide (t<0)||decide ((rows.length:Int)<=t)||decide (a<0))=true:=by simp only[Bool.or_eq_true,zqb];rcases hin with h|h|h<;>simp[h]
  rw[if_pos (by rcases hin with h|h|h;exact .inl h;exact .inr (.inl h);exact .inr (.inr (.inl h)))];have hgx:(∃c:Cl,(rows.map fun c=>ay c).getD t.toNat .any=ay c)\/(rows.map fun c=>ay c).getD t.toNat .any= .any:=by
   by_cases hl:t.toNat<rows.length
   ·exact .inl ⟨_,Yb hl _⟩
   ·exact .inr (by rw[zqg,zsj (by simp;omega)];rfl)
  rcases hgx with⟨c,hgx⟩|hgx
  ·refine aF Tryz.func39 rfl (by simp[nts]) (vm ?_);simp only[wq.1,seval,Tryz.results39,hd,hgx,q1];exact aH.dat rfl
  ·refine aF Tryz.func39 rfl (by simp[nts]) (vm ?_);have hn:(V.int .i64 (a/2)).nil? =none:=rfl;simp only[wq.1,seval,Tryz.results39,hd,hgx,q1,hn,gB];exact aH.dat rfl
 ·obtain⟨k,rfl⟩:∃k:Nat,t=k:=⟨t.toNat,by omega⟩;have hk:k<rows.length:=by omega
  have hd:(decide ((k:Int)<0)||decide ((rows.length:Int)<=(k:Int))||decide (a<0))=false:=by simp only[zsf,zqd];omega
  have hg:(rows.map fun c=>ay c).getD k .any=ay rows[k]:=Yb hk _;have hgd:rows.getD ((k:Int)).toNat []=rows[k]:=by rw[zsg,aS hk]
  rw[hgd];refine aF Tryz.func39 rfl (by simp[nts]) (vm ?_);simp only[wq.1,seval,Tryz.results39,hd,hg,q1];refine⟨⟨by omega,by omega⟩,?_⟩;refine vcB.mk (fun hc=> ?_) (fun hc=> ?_)
  ·rw[if_pos (.inr (.inr (.inr (by simpa using hc))))];simp only[wq.1,seval];exact aH.dat rfl
  ·have hc:¬((rows[k].length:Int)<=a/2):=by simpa using hc
   rw[if_neg (by omega)];simp only[wq.1,seval,hg];refine⟨⟨by omega,by omega⟩,?_⟩;refine HY rfl (hb _ (zqu hk)) (by omega) (by omega) ha ?_;simp only[wq.1,seval];exact aH.dat rfl
theorem Pj:∀(l:Cl)(s:Nat×Cl)(d:Int),(∀b∈l,0<=b/\b<=2)->l.foldl (fun n b=>n+b/2) ((s.1:Int)+d)=((l.foldl qO s).1:Int)+d
 |[],s,d,_=>rfl
 |b::l,s,d,hl=>by
  have hb:=hl b (by simp);have hr:∀x∈l,0<=x/\x<=2:=fun x hx=>hl x (by simp[hx]);rw[List.foldl_cons,List.foldl_cons,<-Pj l (qO s b) d hr]
  congr 1
  unfold qO;split
  ·rename_i h;subst h;show(s.1:Int)+d+2/2=((s.1+1:Nat):Int)+d;omega
  ·show(s.1:Int)+d+b/2=(s.1:Int)+d;have:b/2=0:=by omega
   omega
theorem VE{g:Gr}{b:Cl}:∀k,(bY g b k).n=(vk b).1+k*(g.ins.toNat+g.ands.length)
 |0=>by simp[bY]
 |k+1=>by show((bY g b k).ands g g.ands.length).n=_;rw[nO (zrb _),VE k,Nat.add_mul,Nat.one_mul];omega
theorem Pm{g:Gr}{b:Cl}:∀k,(bY g b k).cl.length=1+3*(k*g.ands.length)
 |0=>by simp[bY]
 |k+1=>by show((bY g b k).ands g g.ands.length).cl.length=_;rw[vH (zrb _),Pm k,Nat.add_mul,Nat.one_mul];omega
theorem oN{g:Gr}{b:Cl}:∀k,(bY g b k).rows.length=k
 |0=>rfl
 |k+1=>by show((bY g b k).rows++[_]).length=_;rw[zqa,oN k];rfl
def gQ(g:Gr)(b:Cl)(k:Nat):List Cl:=(bY g b k).rows++[vC g (bY g b k).lat++List.replicate g.ands.length 0]
def Yr(g:Gr)(b:Cl)(k:Nat):V:= .agg [vi (bY g b k).n,cls (bY g b k).cl,cls (gQ g b k)]
def rQ(g:Gr)(b:Cl)(k:Int):V:=if yZ g b k=0 then Yr g b k.toNat else .agg [vi 0,cls [],cls []]
abbrev hU5(g:Gr)(n:Nat)(cl lat:Cl):H:=[.cells [vi g.ins,ay g.next,ay g.init,prs g.ands,ay g.outs],.cells [vi 0,.nils,.nils],bU g n (.ls 3 1 0 1 1) (.ls 4 1 0 0 0) .nils,.cells [xC cl],.cells [],.cells (lat.map vi)]
theorem VF{b:Cl}{k:Int}(h:yZ g b k=0):g.chk=0/\b.length=g.next.length/\(∀x∈b,0<=x/\x<=2)/\0<=k/\k<=40/\X5 g k b<=20000:=by
 unfold yZ at h;split at h
 ·rename_i hc;exact absurd h hc
 ·rename_i hc;split at h
  ·cases h
  ·rename_i ho;split at h
   ·cases h
   ·rename_i hk;split at h
    ·cases h
    ·rename_i hn;refine⟨by omega,by omega,fun x hx=> ?_,by omega,by omega,by omega⟩;have:EX x=false:=by
      cases e:EX x with
      |false=>rfl
      |true=>exact absurd (.inr (List.any_eq_true.2 ⟨x,hx,e⟩)) ho
     simp only[EX,zsf,zqd]at this;omega
theorem y8:∀l:List Cl,eQ 1 (l.map fun c=>ay c)=true/\(l.map fun c=>ay c).flatMap V.vc=l.map fun c=>ay c
 |[]=>⟨rfl,rfl⟩
 |c::l=>by
  obtain⟨h1,h2⟩:=y8 l;refine⟨?_,?_⟩
  ·show(_&&eQ 1 (l.map fun c=>ay c))=true;rw[h1];rfl
  ·rw[zrd,List.flatMap_cons,h2];rfl
theorem Jo{h:H}:∀l:List Cl,aj TE h (l.map xC) (l.map fun c=>ay c)
 |[]=>aj.nil
 |c::l=>aj.cons (fun ok pl w x hs hv=>fA _ _ (aH.dat (by simp only[V.dat]) ok pl w x hs hv)) (Jo l)
theorem Jp{h:H}:∀rs:List (Nat×Cl),(∀p∈rs,h[p.1]? =some (.cells (p.2.map vi)))->aj TE h (rs.map fun p=>V.ls p.1 1 0 p.2.length p.2.length) (rs.map ((fun c=>ay c)∘fun p=>p.2))
 |[],_=>aj.nil
 |p::rs,hp=>aj.cons (dw (hp p (by simp)) rfl) (Jp rs fun q hq=>hp q (by simp[hq]))
def Pn:Plan:=tkZ [0,1,2,3,4,6,7,8,10]<| .alt 5 (.alt 9 (onZ [11,12,13,14,15]<|tkZ [16,17,18]<| .one 19<| .fin) (.one 11 (.alt 9 (onZ [12,13,14,15]<|tkZ [16,17,18]<| .one 19<| .fin) (.one 12 (onZ [9,13,14,15]<|tkZ [16,17,18]<| .one 19<| .fin))))) (.alt 9 (.alt 5 (onZ [11,12,13,14,15]<|tkZ [16,17,18]<| .one 19<| .fin) (.one 11 (.alt 5 (onZ [12,13,14,15]<|tkZ [16,17,18]<| .one 19<| .fin) (.one 12 (.alt 5 (onZ [13,14,15]<|tkZ [16,17,18]<| .one 19<| .fin) (.one 13 (.alt 5 (.one 14<| .one 15<|tkZ [16,17,18]<| .one 19<| .fin) (.one 14 (.one 5<| .one 15<|tkZ [16,17,18]<| .one 19<| .fin))))))))) (.one 11 (.alt 5 (.alt 9 (onZ [12,13,14,15]<|tkZ [16,17,18]<| .one 19<| .fin) (.one 12 (onZ [9,13,14,15]<|tkZ [16,17,18]<| .one 19<| .fin))) (.alt 9 (.alt 5 (onZ [12,13,14,15]<|tkZ [16,17,18]<| .one 19<| .fin) (.one 12 (.alt 5 (onZ [13,14,15]<|tkZ [16,17,18]<| .one 19<| .fin) (.one 13 (.alt 5 (.one 14<| .one 15<|tkZ [16,17,18]<| .one 19<| .fin) (.one 14 (.one 5<| .one 15<|tkZ [16,17,18]<| .one 19<| .fin))))))) (.one 12 (.alt 5 (onZ [9,13,14,15]<|tkZ [16,17,18]<| .one 19<| .fin) (.one 9 (.alt 5 (onZ [13,14,15]<|tkZ [16,17,18]<| .one 19<| .fin) (.one 13 (.alt 5 (.one 14<| .one 15<|tkZ [16,17,18]<| .one 19<| .fin) (.one 14 (.one 5<| .one 15<|tkZ [16,17,18]<| .one 19<| .fin))))))))))))
abbrev hU6(g:Gr)(n:Nat)(lat:Cl):H:=[.cells [vi g.ins,ay g.next,ay g.init,prs g.ands,ay g.outs],.cells [vi 0,.nils,.nils],bU g n (.ls 3 1 0 1 1) (.ls 4 1 0 0 0) (.ls 6 1 0 (vC g lat).length (vC g lat).length),.cells [xC [1]],.cells [],.cells (lat.map vi),.cells ((vC g lat).map vi)]
theorem Po(g:Gr)(b:Cl)(k:Int)(hs:g.Sm)(hb:b.length<=1000000):Ev TE 35 [g.v,ay b,vi k] (.tup [rQ g b k,vi (yZ g b k)]):=by
 have hM:=mLx;have hc0:=VD g b k hs hb;unfold Gr.v at hc0 ⊢;refine aF Tryz.func35 rfl (by simp[nts]) ?_;refine vn ?_;simp only[wq.1,Nat.reduceLT,Tryz.results35];refine vn ?_;simp only[wq.1,seval];refine ag.ev hc0 rfl ?_;simp only[wq.1,seval];refine vcB.mk (fun hz=> ?_) (fun hz=> ?_)
 ·have hz:yZ g b k≠0:=by simpa using hz
  unfold rQ;rw[if_neg hz];simp only[wq.1,seval];refine aH.tup (aj.cons (aH.agg (aj.cons (aH.dat rfl) (aj.cons aH.nils (aj.cons aH.nils aj.nil)))) (aj.cons (aH.dat rfl) aj.nil))
 ·have hz:yZ g b k=0:=by simpa using hz
  unfold rQ;rw[if_pos hz,hz];simp only[wq.1,Int.reduceBNe];obtain⟨hg,hbl,hb2,k0,k1,hnu⟩:=VF hz;obtain⟨q,rfl⟩:∃q:Nat,k=q:=⟨k.toNat,by omega⟩;clear hc0;obtain⟨_,i0,i1,i2,i3,i4,i5⟩:=aW hg;rw[zsg];refine vn ?_;simp only[wq.1,seval];refine fP (fP ?_);refine kZ (h':=[.cells [vi g.ins,ay g.next,ay g.init,prs g.ands,ay g.outs],.cells [vi 0,.nils,.nils],bU g 0 (.ls 3 1 0 0 0) (.ls 4 1 0 0 0) .nils,.cells [],.cells []]) (HLe.set (i:=2) (o':=bU g 0 (.ls 3 1 0 0 0) (.ls 4 1 0 0 0) .nils) rfl (OLe.cells (by simp) (eH.cons (VLe.refl _) (eH.cons dC (eH.cons dC (eH.refl _)))))) ?_;refine vn ?_;simp only[wq.1,↓reduceIte,Nat.reduceEqDiff,Nat.reduceLT];refine oM (b:=2) (g:=g) (n:=0) (cv:= .ls 3 1 0 0 0) (lv:= .ls 4 1 0 0 0) (rv:= .nils) rfl (by omega) ?_;simp only[wq.1,↓reduceIte,Nat.reduceEqDiff,Nat.reduceLT,reduceCtorEq,Nat.reduceMul];refine⟨⟨rfl,by decide⟩,?_⟩;refine qE (b:=2) (C:=3) (n:=1) (g:=g) (cl:=[]) (c:=[1]) (lv:= .ls 4 1 0 0 0) (rv:= .nils) (by decide) rfl rfl (fun j o ho hj=> ?_) rfl rfl (by simp) ?_
  ·rcases j with _|_|_|_|_|j
   all_goals first
    |exact absurd rfl hj
    |(obtain rfl:=Option.some.inj ho;rfl)
    |(simp at ho)
  simp only[wq.1,bJ];refine vn ?_;simp only[wq.1,Nat.reduceLT];refine kN 10 1 (by simp only[wq.1,↓reduceIte]) ?_;refine vn ?_;simp only[wq.1,seval];refine aC (fun m f h=>∃i,m+i=b.length/\f.t 2=vi q/\f.t 3= .lp 0 0/\f.t 6= .lp 1 0/\f.t 9= .lp 2 0/\f.t 10= .ls 5 1 0 i i/\f.t 30=ay b/\f.t 31=vi b.length/\f.t 32=vi i/\f.d=[]/\h=hU5 g ((b.take i).foldl qO (1,[])).1 [1] ((b.take i).foldl qO (1,[])).2) b.length ⟨0,by omega,by simp only[wq.1,seval],by simp only[wq.1,seval],by simp only[wq.1,seval],by simp only[wq.1,seval],by simp only[wq.1,seval],by simp only[wq.1,seval],by simp only[wq.1,seval],rfl,by simp only[wq.1],rfl⟩ ?_;rintro m f h ⟨i,hm,t2,t3,t6,t9,t10,t30,t31,t32,hd,rfl⟩;refine vn ?_;simp only[wq.1,Nat.reduceLT,t31,t32];refine ak (aV (b:=decide ((i:Int)<b.length)) (by simp only[wq.1,↓reduceIte]) (by simp only[wq.1,↓reduceIte]) (fun hlt=> ?_) (fun hlt=> ?_))
  ·simp only[zqb,zqi]at hlt;have hw:=aA (show i<maxLen by omega);have hgn:(b.map vi).getD i .any=vi b[i]:=wU hlt _;have hbi:=hb2 _ (zqu hlt);have hnx:(b.take (i+1)).foldl qO (1,[])=qO ((b.take i).foldl qO (1,[])) b[i]:=by
    rw[zrg,zqk hlt,List.foldl_append];rfl
   have hbo:=yX (b.take i) (1,[]) (fun x hx=>hb2 x (zsh hx)) (zrb _) (fun a ha=>by cases ha);obtain⟨s,hsd⟩:∃s,s=(b.take i).foldl qO (1,[]):=⟨_,rfl⟩;rw[<-hsd]at hnx hbo ⊢;obtain⟨s1,s2⟩:=s;obtain⟨o1,o2,o3,o4⟩:=hbo;have o4:s2.length=i:=by rw[o4];simp;omega
   have o2:s1<=1+i:=by
    have:(b.take i).length=i:=by simp;omega
    simp only at o2;omega
   refine vm ?_;simp only[wq.1];refine vm ?_;have w1:IntKind.i64.wrap (2*b[i])=2*b[i]:=fE (by omega) (by omega);have w2:IntKind.i64.wrap (2*b[i]-1)=2*b[i]-1:=fE (by omega) (by omega);simp only[wq.1,seval,t30,t32,hgn,w1,w2];have hcl2:(s2.map vi).length=i*1:=by rw[zra];omega
   have dcs:∀p,V.drops p (s2.map vi)=s2.map vi:=fun p=>aI _;refine⟨⟨by omega,by omega⟩,?_⟩;refine vcB.mk (fun h2=> ?_) (fun h2=> ?_)
   ·have h2:b[i]=2:=by simpa using h2
    simp only[wq.1,seval,t9];refine oM (b:=2) (g:=g) (n:=s1) (cv:= .ls 3 1 0 1 1) (lv:= .ls 4 1 0 0 0) (rv:= .nils) rfl (by omega) ?_;simp only[wq.1,↓reduceIte,Nat.reduceEqDiff,Nat.reduceLT,Nat.reduceBEq,reduceCtorEq,Nat.reduceMul,t10,t32,hd,dcs,hw];refine⟨⟨rfl,by decide⟩,⟨by omega,by omega,by omega⟩,.inl ⟨m-1,by omega,i+1,by omega,by simp only[wq.1,seval,aG,Tryz.results35,t2],by simp only[wq.1,seval,aG,Tryz.results35,t3],by simp only[wq.1,seval,aG,Tryz.results35,t6],by simp only[wq.1,seval,aG,Tryz.results35,t9],by simp only[wq.1,seval,aG,Tryz.results35],by simp only[wq.1,seval,aG,Tryz.results35,t30],by simp only[wq.1,seval,aG,Tryz.results35,t31],by simp only[wq.1,seval,aG,Tryz.results35],by simp only[wq.1,seval,aG,Tryz.results35,hd],?_⟩⟩;rw[hnx];simp only[hU5,qO,if_pos h2,zql];rfl
   ·have h2:b[i]≠2:=by simpa using h2
    simp only[wq.1,↓reduceIte,Nat.reduceEqDiff,Nat.reduceLT,Nat.reduceBEq,reduceCtorEq,Nat.reduceMul,t10,t32,hd,dcs,hw];refine⟨⟨rfl,by decide⟩,⟨by omega,by omega,by omega⟩,.inl ⟨m-1,by omega,i+1,by omega,by simp only[wq.1,seval,aG,Tryz.results35,t2],by simp only[wq.1,seval,aG,Tryz.results35,t3],by simp only[wq.1,seval,aG,Tryz.results35,t6],by simp only[wq.1,seval,aG,Tryz.results35,t9],by simp only[wq.1,seval,aG,Tryz.results35],by simp only[wq.1,seval,aG,Tryz.results35,t30],by simp only[wq.1,seval,aG,Tryz.results35,t31],by simp only[wq.1,seval,aG,Tryz.results35],by simp only[wq.1,seval,aG,Tryz.results35,hd],?_⟩⟩;rw[hnx];simp only[hU5,qO,if_neg h2,zql];rfl
  ·simp only[zqd,zqi]at hlt;have:i=b.length:=by omega
   subst this;have hbo:=yX b (1,[]) hb2 (zrb _) (fun a ha=>by cases ha);rw[zrx];obtain⟨o1,o2,o3,o4⟩:=hbo;obtain⟨lat,hlat⟩:∃lat,lat=(b.foldl qO (1,[])).2:=⟨_,rfl⟩;obtain⟨n0,hn0⟩:∃n0,n0=(b.foldl qO (1,[])).1:=⟨_,rfl⟩;rw[<-hlat,<-hn0]at o3;rw[<-hlat]at o4;rw[<-hn0]at o1 o2;rw[<-hlat,<-hn0];have o4:lat.length=b.length:=by rw[o4];simp
   rw[<-o4]at t10;refine vm ?_;simp only[wq.1];refine vm ?_;simp only[wq.1,seval,t9,t10];refine wF (b:=2) (q:=5) (n:=n0) (g:=g) (cv:= .ls 3 1 0 1 1) (lv:= .ls 4 1 0 0 0) (rv:= .nils) (lat:=lat) rfl rfl (fun j o ho=> ?_) i0 (by omega) (by omega) (by decide) ?_
   ·rcases j with _|_|_|_|_|_|j
    all_goals first
     |(obtain rfl:=Option.some.inj ho;rfl)
     |(obtain rfl:=Option.some.inj ho;show O.cells (V.drops _ _)=_;rw[aI])
     |(simp at ho)
   simp only[wq.1,seval,bJ,t2,hd];have hnb:n0+q*(g.ins.toNat+g.ands.length)<=20000:=by
    have e:=Pj b (1,[]) (q*(g.ins+g.ands.length)) hb2;have e2:X5 g q b=b.foldl (fun n b=>n+b/2) (((1:Nat):Int)+q*(g.ins+g.ands.length)):=rfl;rw[e2,e,<-hn0]at hnu;have e3:((q*(g.ins.toNat+g.ands.length):Nat):Int)=q*(g.ins+g.ands.length):=by rw[Int.natCast_mul,Int.natCast_add,Int.toNat_of_nonneg i0]
    omega
   have hB0:BH g 6 (hU6 g n0 lat) 2 3 4 (bY g b 0).n (bY g b 0).cl [] 6 (vC g (bY g b 0).lat) (hU6 g n0 lat):=by
    have e1 : (bY g b 0).n = n0 := hn0.symm;have e2 : (bY g b 0).lat = lat := hlat.symm;rw [e1,e2];exact {
     hb:=rfl
     hC:=rfl
     hL:=rfl
     hr:=rfl
     hrs:=fun p hp=>by cases hp
     n1:=by decide
     n2:=by decide
     n3:=by decide
     bk:=by decide
     Ck:=by decide
     Lk:=by decide
     rk:=by decide
     pl:=fun j o ho j1 j2 D=>by
      rcases j with _|_|_|_|_|_|_|j
      all_goals first
       |exact absurd rfl j1
       |exact absurd rfl j2
       |(obtain rfl:=Option.some.inj ho;rfl)
       |(obtain rfl:=Option.some.inj ho;show O.cells (V.drops _ _)=_;rw[aI])
       |(simp at ho)
     bs:=fun _ _ _ _ _=>rfl}
   refine aC (fun m f h=>∃(i r:Nat)(rs:List (Nat×Cl)),m+i=q/\BH g 6 (hU6 g n0 lat) 2 3 4 (bY g b i).n (bY g b i).cl rs r (vC g (bY g b i).lat) h/\rs.map (·.2)=(bY g b i).rows/\f.t 3= .lp 0 0/\f.t 6= .lp 1 0/\f.t 9= .lp 2 0/\f.t 51=vi q/\f.t 52=vi i/\f.d=[]) q ⟨0,6,[],by omega,hB0,rfl,by simp only[wq.1,seval,t3],by simp only[wq.1,seval,t6],by simp only[wq.1,seval,t9],by simp only[wq.1,seval],rfl,by simp only[wq.1,hd]⟩ ?_;clear t2 t3 t6 t9 t10 t30 t31 t32 hd hm f;rintro m f h ⟨i,r,rs,hm,hB,hrs,t3,t6,t9,t51,t52,hd⟩;have hrl:rs.length=i:=by rw[<-oN (g:=g) (b:=b) i,<-hrs,zra]
   have hni:=VE (g:=g) (b:=b) i;have hci:=Pm (g:=g) (b:=b) i;have hmul:i*(g.ins.toNat+g.ands.length)<=q*(g.ins.toNat+g.ands.length):=Nat.mul_le_mul_right _ (by omega);have hmul2:i*g.ands.length<=i*(g.ins.toNat+g.ands.length):=Nat.mul_le_mul_left _ (by omega);have hb0:(vk b).1=n0:=hn0.symm;rw[hb0]at hni;refine vn ?_;simp only[wq.1,Nat.reduceLT,t51,t52];refine ak (aV (b:=decide ((i:Int)<q)) (by simp only[wq.1,↓reduceIte]) (by simp only[wq.1,↓reduceIte]) (fun hlt=> ?_) (fun hlt=> ?_))
   ·simp only[zqb,zqi]at hlt;have hw:=aA (show i<maxLen by omega);refine vm ?_;simp only[wq.1];refine vm ?_;simp only[wq.1,seval,t9];refine LJ hg hB (wC hg hbl hb2 i) (by omega) (by omega) (by omega) (fun h' r' hB'=> ?_);simp only[wq.1,seval,bJ,t52,hd,hw];refine .inl ⟨m-1,by omega,i+1,r',_,by omega,hB',?_,by simp only[wq.1,seval,t3],by simp only[wq.1,seval,t6],by simp only[wq.1,seval,t9],by simp only[wq.1,seval,t51],by simp only[wq.1,↓reduceIte],by simp only[wq.1,hd]⟩;rw[zql,hrs];rfl
   ·simp only[zqd,zqi]at hlt;have:i=q:=by omega
    subst this;refine vm ?_;simp only[wq.1];show awp _ _ _ _ _ _ _;have hti:ti TE.P 22=some ⟨.slice 3,1,24,.nils⟩:=by simp only[wq.1]
    have htn:ti TE.P 3=some ⟨.int .i64,1,8,.int .i64 0⟩:=by simp only[wq.1]
    have hrk:=hB.rk;have e2r:(2==r)=false:=by simp;omega
    have e4r:(4==r)=false:=by simp;omega
    have e3r:(3==r)=false:=by simp;omega
    have hll:=(wC hg hbl hb2 i).l;obtain⟨row,hrow⟩:∃row,row=vC g (bY g b i).lat:=⟨_,rfl⟩;have hrl2:row.length=1+g.ins.toNat+g.next.length:=by rw[hrow];unfold vC;simp;omega
    rw[<-hrow]at hB;have hbl2:=(zqe hB.hb).1;have hLl:=(zqe hB.hL).1;have hrl3:=(zqe hB.hr).1;obtain⟨H1,hH1⟩:∃H1,(h.map (O.drop fun x=>x==r)).set r (.cells (V.drops (fun x=>x==r) (row.map vi++List.replicate g.ands.length (vi 0))))=H1:=⟨_,rfl⟩;have H1b:H1[2]? =some (.cells [vi (bY g b i).n,.ls 3 1 0 (bY g b i).cl.length (bY g b i).cl.length,.ls 4 1 0 rs.length rs.length,vi g.ins,ay g.next,ay g.init,prs g.ands,ay g.outs,.any]):=by
     rw[<-hH1,zqn (by omega),zqo,hB.hb];simp only[zrw,bU,O.drop,V.drops,V.drop,beq_self_eq_true,if_true,e3r,e4r,zrm,if_false]
    have H1L:H1[4]? =some (.cells (rs.map fun p=> .ls p.1 1 0 p.2.length p.2.length)):=by rw[<-hH1,zqn (by omega),zqo,hB.hL];show some (O.cells (V.drops _ _))=_;rw[vF fun p hp=>by have:=(hB.hrs p hp).2.2;simpa using this]
    have r4:(r==4)=false:=by simp;omega
    have e1r:(1==r)=false:=by simp;omega
    have hv4:V.drops (fun x=>x==4) (rs.map fun p=>V.ls p.1 1 0 p.2.length p.2.length)=rs.map fun p=>V.ls p.1 1 0 p.2.length p.2.length:=vF fun p hp=>by have:=(hB.hrs p hp).2.1;simp;omega
    have H1l:H1.length=h.length:=by rw[<-hH1];simp
    obtain⟨H2,hH2⟩:∃H2,(H1.map (O.drop fun x=>x==4)).set 4 (.cells ((rs.map fun p=>V.ls p.1 1 0 p.2.length p.2.length)++[.ls r 1 0 (row.length+g.ands.length) (row.length+g.ands.length)]))=H2:=⟨_,rfl⟩;have H2b:H2[2]? =some (.cells [vi (bY g b i).n,.ls 3 1 0 (bY g b i).cl.length (bY g b i).cl.length,.any,vi g.ins,ay g.next,ay g.init,prs g.ands,ay g.outs,.any]):=by rw[<-hH2,zqn (by omega),zqo,H1b];rfl
    refine Oo dV 13 Pn (fun f' h'=>f'.t 6= .lp 1 0/\f'.t 9= .lp 2 0/\f'.d=[]/\h'=H2.set 2 (.cells [vi (bY g b i).n,.ls 3 1 0 (bY g b i).cl.length (bY g b i).cl.length,.ls 4 1 0 (rs.length+1) (rs.length+1),vi g.ins,ay g.next,ay g.init,prs g.ands,ay g.outs,.any])) (by decide +kernel) (by decide +kernel) ?_ ?_
    ·intro K hK;have h00:h[0]? =some (.cells [vi g.ins,ay g.next,ay g.init,prs g.ands,ay g.outs]):=hB.bs 0 (by decide) (by decide) (by decide) (by decide);simp only[wq.1,seval,Pn,pJ,Om,t3,t9,hB.hb,h00]
     repeat' apply zsa
     all_goals refine Ry (d:=70) rfl rfl rfl rfl (fun r' o ho hod=> ?_)
     all_goals refine oW (x:= .tmp 66) (y:= .tmp 69) (t:=22) (xt:=3) (el:=3) (by subst ho;exact⟨⟨_,rfl,rfl,rfl⟩,hti,rfl,htn,rfl,rfl,Nat.zero_lt_one⟩) (by simp only[wq.1,seval]) (by simp only[wq.1,seval]) (id:=r) (len:=row.length) (cap:=row.length) (by simp only[wq.1,seval]) hB.hr (by show(row.map vi).length=row.length*1;simp) (m:=g.ands.length) (by simp only[wq.1,seval]) htn rfl (by omega) rfl (zv:=vi 0) rfl (cs:=List.replicate g.ands.length (vi 0)) rfl (by rw[<-List.map_replicate (f:=vi)];exact pM _) (by omega) (by show(row.length+g.ands.length)*8<=_;omega) (by simp only[wq.1,seval,aG,Tryz.results35,hd]) (hK _ _ _ ?_)
     all_goals rw[hH1,hod]
     all_goals simp only[wq.1,↓reduceIte,Nat.reduceEqDiff,Nat.reduceLT,Nat.reduceLeDiff,Nat.reduceAdd,Nat.reduceSub,Int.reduceToNat,Nat.reduceDiv,Int.reduceLT,Int.reduceLE,Int.reduceNeg,Int.reduceBEq,Int.reduceBNe,Int.reduceAdd,Int.reduceSub,Nat.reduceBEq,reduceCtorEq,Nat.reduceMul,aG,Tryz.results35,t3,t6,t9,t51,t52,hd,H1b,H1L,e2r,e4r,r4,e1r,hv4,hH2,H2b]
     all_goals exact⟨⟨rfl,by decide⟩,by omega,by omega,by omega⟩
    ·rintro f h' ⟨t6,t9,hd,rfl⟩;have H2l:H2.length=H1.length:=by rw[<-hH2];simp
     have h1l:1<h.length:=by omega
     obtain⟨H3,hH3⟩:∃H3,H2.set 2 (.cells [vi (bY g b i).n,.ls 3 1 0 (bY g b i).cl.length (bY g b i).cl.length,.ls 4 1 0 (rs.length+1) (rs.length+1),vi g.ins,ay g.next,ay g.init,prs g.ands,ay g.outs,.any])=H3:=⟨_,rfl⟩;have H3l:H3.length=h.length:=by rw[<-hH3];simp;omega
     have H3b:H3[2]? =some (.cells [vi (bY g b i).n,.ls 3 1 0 (bY g b i).cl.length (bY g b i).cl.length,.ls 4 1 0 (rs.length+1) (rs.length+1),vi g.ins,ay g.next,ay g.init,prs g.ands,ay g.outs,.any]):=by rw[<-hH3,zqt (by omega)]
     have go:∀(j:Nat)(cs:List V),j≠2->j≠4->j≠r->h[j]? =some (.cells cs)->(∀D,V.drops D cs=cs)->H3[j]? =some (.cells cs):=fun j cs j2 j4 jr hj hD=>by rw[<-hH3,zqn (Ne.symm j2),<-hH2,zqn (Ne.symm j4),zqo,<-hH1,zqn (Ne.symm jr),zqo,hj];show some (O.cells (V.drops _ (V.drops _ cs)))=_;rw[hD,hD]
     have H31:H3[1]? =some (.cells [vi 0,.nils,.nils]):=go 1 _ (by decide) (by decide) (by omega) (hB.bs 1 (by decide) (by decide) (by decide) (by decide)) (fun D=>rfl);have H33:H3[3]? =some (.cells ((bY g b i).cl.map xC)):=go 3 _ (by decide) (by decide) (by omega) hB.hC (fun D=>uh _);have H34:H3[4]? =some (.cells ((rs.map fun p=>V.ls p.1 1 0 p.2.length p.2.length)++[.ls r 1 0 (row.length+g.ands.length) (row.length+g.ands.length)])):=by rw[<-hH3,zqn (by decide),<-hH2,zqt (by simp;omega)]
     have H3r:H3[r]? =some (.cells ((row++List.replicate g.ands.length 0).map vi)):=by rw[<-hH3,zqn (by omega),<-hH2,zqn (by omega),zqo,<-hH1,zqt (by simpa using hrl3)];show some (O.cells (V.drops _ (V.drops _ _)))=_;rw[<-List.map_replicate (f:=vi),<-zql,aI,aI]
     have H3p:∀p∈rs,H3[p.1]? =some (.cells (p.2.map vi)):=fun p hp=>by obtain⟨p1,p2,p3⟩:=hB.hrs p hp;exact go p.1 _ (by omega) (by omega) p3 p1 (fun D=>aI _)
     show vc _ _ _ _ _ _ _;simp only[wq.1,seval,t6,t9,hd,H3b,H31,hH3];obtain⟨Y,hY⟩:∃Y:O,O.cells [vi (bY g b i).n,V.ls 3 1 0 (bY g b i).cl.length (bY g b i).cl.length,V.ls 4 1 0 (rs.length+1) (rs.length+1)]=Y:=⟨_,rfl⟩;have H41:(H3.set 1 Y)[1]? =some Y:=zqt (by omega);have H4o:∀j,j≠1->(H3.set 1 Y)[j]? =H3[j]? :=fun j hj=>zqn (Ne.symm hj);rw[hY,H41,<-hY];rw[<-hY]at H4o;have hE:gQ g b i=rs.map (·.2)++[row++List.replicate g.ands.length 0]:=by unfold gQ;rw[hrs,hrow]
     refine⟨zrb _,aH.tup (aj.cons (aH.agg (aj.cons (aH.dat rfl) (aj.cons ?_ (aj.cons ?_ aj.nil)))) (aj.cons (aH.dat rfl) aj.nil))⟩
     ·exact aH.ls ((H4o 3 (by decide)).trans H33) (Jo _) (y8 _).1 (y8 _).2 (by simp)
     ·refine aH.ls ((H4o 4 (by decide)).trans H34) (cs':=(gQ g b i).map fun c=>ay c) ?_ (y8 _).1 (y8 _).2 (by rw[hE];simp);rw[hE,zql,List.map_map];refine aj.append (Jp _ fun p hp=> ?_) (aj.cons (dw (l:=row++List.replicate g.ands.length 0) (len:=row.length+g.ands.length) ?_ (by rw[zqa,zsc])) aj.nil) (by simp)
      ·exact(H4o _ (by have:=(hB.hrs p hp).2.1;omega)).trans (H3p p hp)
      ·exact(H4o _ (by omega)).trans H3r
theorem mx(a b:Int):xI [vi a,vi b]=(True,vi (max a b)):=by simp only[xI,Int.max_def];split<;>split<;>first|rfl|(congr 2;omega)
theorem mn(a b:Int):MR [vi a,vi b]=(True,vi (min a b)):=by simp only[MR,Int.min_def];split<;>split<;>first|rfl|(congr 2;omega)
theorem Wj{c:Cl}:(ay c).dat=true:=by simp only[V.dat,jH]
end Go.Proofs.YthdidjjecjhenaaGreat
