/- Lemmas for this claim, part F10: each holds under what it names. -/
import Derived.Test.YthdidjjecjhenaaGreatAF09
import Derived.Test.YthdidjjecjhenaaGreatAA10
import Derived.Test.YthdidjjecjhenaaGreatAA9
set_option linter.all false
set_option maxRecDepth 20000
set_option maxHeartbeats 8000000
namespace Go.Proofs.YthdidjjecjhenaaGreat
open Go Go.Proofs Go.Abs
open List renaming length → aa, replicate → aD
open Bool renaming true → ab, false → am
open Option renaming some → ar, none → aL
open Decidable renaming decide → aM
open Go.IntKind renaming wrap → a5
open Go.Result renaming andThen → a8
open Go.Abs.O renaming cells → aw
open Go.Abs.V renaming drops → aE, dat → a6, dats → a7
variable{g:Gr}{b C r n:Nat}{h:H}{row:Cl}
theorem V6{lv:V}{cl:List Cl}{row':Cl}{X:H}(hl:aa row'=aa row)(hlr:r<aa h) :
 (HU g b C r lv h n cl row++X).set r (aw (row'.map vi))=HU g b C r lv h n cl row'++X:=by
 rw[List.set_append_left _ _ (by rw[kL];exact hlr),HU,HU,List.set_set,hl]
def MK(g:Gr)(n i:Nat)(lat:Cl):Cl:=-1::(Dy n i++(aD (g.ins.toNat-i) 0++lat))
variable{i:Nat}{lat:Cl}
theorem DI(h:i<=g.ins.toNat):aa (MK g n i lat)=1+g.ins.toNat+aa lat:=by unfold MK Dy;simp;omega
theorem X3:MK g n 0 lat=vW g lat:=by simp[MK,vW,Dy]
theorem TP:MK g n g.ins.toNat lat=Yx g n lat:=by simp[MK,Yx]
theorem TQ(h:i<g.ins.toNat):(MK g n i lat).set (1+i) ((n:Int)+(i:Int)+1)=MK g n (i+1) lat:=by
 have e:aD (g.ins.toNat-i) (0:Int)=0::aD (g.ins.toNat-(i+1)) 0:=by rw[<-List.replicate_succ];congr 1;omega
 have el:aa (Dy n i)=i:=by simp[Dy]
 unfold MK;rw[e,Nat.add_comm 1 i,List.set_cons_succ,List.set_append_right _ _ (by omega),el,Nat.sub_self,List.cons_append,List.set_cons_zero];unfold Dy;rw[List.range_succ,zql];simp
theorem uD{x:Int}(h:i<aa row):(row.map vi).take i++[vi x]++(row.map vi).drop (i+1)=(row.set i x).map vi:=by rw[List.map_set,List.set_eq_take_append_cons_drop,if_pos (by simpa using h)];simp
theorem DJ{x:Int}(h1:-1000000<=x)(h2:x<=1000000):a5 .i64 (0-x)=-x:=by rw[fM (by omega) (by omega)];omega
theorem V7{l:List Pq}(h:i<aa l)(d:V):(l.map prV).getD i d=prV l[i]:=by simp[zqg,h]
def PY:Plan:=tkZ [0,1,2,4,6]<| .alt 3 (.alt 5 (.one 7<| .take 8<| .one 9<| .fin) (.one 7 (.one 5<| .take 8<| .one 9<| .fin))) (.alt 5 (.alt 3 (.one 7<| .take 8<| .one 9<| .fin) (.one 7 (.one 3<| .take 8<| .one 9<| .fin))) (.one 7 (.alt 3 (.one 5<| .take 8<| .one 9<| .fin) (.one 5 (.one 3<| .take 8<| .one 9<| .fin)))))
variable{k0 L n0:Nat}{h0:H}{cl0:List Cl}{rs:List (Nat×Cl)}{row0:Cl}
theorem vY(k:BH g k0 h0 b C L n0 cl0 rs r row0 h){lv:V}{n:Nat}{cl:List Cl}{row:Cl}{Y:H}(hY:∀o∈Y,∀D,O.drop D o=o)
 {D:Nat->Bool} (hD:∀p∈rs,D p.1=am):∀(j:Nat)(o:O),(HU g b C r lv h n cl row++Y)[j]? =ar o->j≠b->o.drop D=o:=λj o ho hj=>by
 obtain⟨lb,lC,lL,lr,nbr,nCr,nLr⟩:=k.lens;by_cases hl:aa h<=j
 ·rw[YN hl]at ho;exact hY o (List.mem_of_getElem? ho) D
 ·by_cases h1:j=r
  ·subst h1;rw[YM lr]at ho;cases ho;show aw (aE D _)=_;rw[aN]
  ·by_cases h2:j=C
   ·subst h2;rw[YL nCr lC]at ho;cases ho;show aw (aE D _)=_;rw[uC]
   ·rw[Yz hj h2 h1 (by omega)]at ho;exact k.dropO hD j o ho hj
theorem X4(k:BH g k0 h0 b C L n0 cl0 rs r row0 h){n:Nat}{cl:List Cl}{row row':Cl}{Y:H}(hY:∀o∈Y,∀D,O.drop D o=o) :
 (((HU g b C r (.ls L 1 0 (aa rs) (aa rs)) h n cl row++Y).map (O.drop λx=>x==r)).set r (aw (row'.map vi)))[b]? =ar (aw [vi n,.ls C 1 0 (aa cl) (aa cl),.ls L 1 0 (aa rs) (aa rs),vi g.ins,az g.next,az g.init,prs g.ands,az g.outs,.any]) /\
 ((((HU g b C r (.ls L 1 0 (aa rs) (aa rs)) h n cl row++Y).map (O.drop λx=>x==r)).set r (aw (row'.map vi))).set b (bU g n (.ls C 1 0 (aa cl) (aa cl)) (.ls L 1 0 (aa rs) (aa rs)) (.ls r 1 0 (aa row') (aa row')))=HU g b C r (.ls L 1 0 (aa rs) (aa rs)) h n cl row'++Y):=by
 obtain⟨lb,lC,lL,lr,nbr,nCr,nLr⟩:=k.lens;have hD:∀p∈rs,(p.1==r)=am:=λp hp=>by simpa using(k.hrs p hp).2.2
 have hdr:=vY k (lv:= .ls L 1 0 (aa rs) (aa rs)) (n:=n) (cl:=cl) (row:=row) hY (D:=λx=>x==r) hD;refine⟨?_,?_⟩
 ·rw[zqn (Ne.symm nbr),zqo,Yy k.n1 nbr lb];have e1:(C==r)=am:=by simpa using nCr
  have e2:(L==r)=am:=by simpa using nLr
  simp only[zrw,O.drop,aE,V.drop,beq_self_eq_true,if_true,e1,e2,zrm,if_false]
 ·rw[List.set_comm _ _ (Ne.symm nbr),xO hdr,List.set_comm _ _ nbr];exact XZ k.n1 nbr lb lr
theorem V8(k:BH g k0 h0 b C L n0 cl0 rs r row0 h){n:Nat}{cl:List Cl}{row:Cl}{Y:H}(hY:∀o∈Y,∀D,O.drop D o=o)(X2:O)(lv':V) :
 (((HU g b C r (.ls L 1 0 (aa rs) (aa rs)) h n cl row++Y).map (O.drop λx=>x==L)).set L X2)[b]? =ar (aw [vi n,.ls C 1 0 (aa cl) (aa cl),.any,vi g.ins,az g.next,az g.init,prs g.ands,az g.outs,.ls r 1 0 (aa row) (aa row)]) /\
 ((((HU g b C r (.ls L 1 0 (aa rs) (aa rs)) h n cl row++Y).map (O.drop λx=>x==L)).set L X2).set b (bU g n (.ls C 1 0 (aa cl) (aa cl)) lv' (.ls r 1 0 (aa row) (aa row)))=HU g b C r lv' (h.set L X2) n cl row++Y):=by
 obtain⟨lb,lC,lL,lr,nbr,nCr,nLr⟩:=k.lens;have hD:∀p∈rs,(p.1==L)=am:=λp hp=>by have:=(k.hrs p hp).2.1;have:=k.Lk;simp;omega
 have hdr:=vY k (lv:= .ls L 1 0 (aa rs) (aa rs)) (n:=n) (cl:=cl) (row:=row) hY (D:=λx=>x==L) hD;have n2:=k.n2;have n3:=k.n3;refine⟨?_,?_⟩
 ·rw[zqn (Ne.symm n2),zqo,Yy k.n1 nbr lb];have e1:(C==L)=am:=by simpa using n3
  have e2:(r==L)=am:=by simpa using Ne.symm nLr
  simp only[zrw,O.drop,aE,V.drop,beq_self_eq_true,if_true,e1,e2,zrm,if_false]
 ·rw[List.set_comm _ _ (Ne.symm n2),xO hdr,List.set_append_left _ _ (by rw[kL];exact lb),List.set_append_left _ _ (by rw[zrn,kL];exact lL)]
  congr 1
  unfold HU;rw[List.set_comm _ _ (Ne.symm nbr),List.set_comm _ _ (Ne.symm k.n1),List.set_set,List.set_comm _ _ (Ne.symm nLr),List.set_comm _ _ n3,List.set_comm _ _ n2]
def JK:Plan:=tkZ [0,1,2,3,4,6,7,8]<| .alt 5 (onZ [9,10,11]<|tkZ [12,13,14]<| .one 15<| .fin) (.one 9 (.alt 5 (.one 10<| .one 11<|tkZ [12,13,14]<| .one 15<| .fin) (.one 10 (.one 5<| .one 11<|tkZ [12,13,14]<| .one 15<| .fin))))
theorem vZ{g:Gr}{u:US}:∀ {i:Nat},i<=aa g.ands->(u.ands g i).cl.length=aa u.cl+3*i
 |0,_=>rfl
 |i+1,h=>by rw[fF (by omega)];show aa ((u.ands g i).cl++[_,_,_])=_;rw[zqa,vZ (by omega)];simp;omega
def PZ:Plan:=tkZ [0,2,3,6,7]<| .alt 1 (.alt 4 (.alt 5 (.one 8<| .one 9<|tkZ [10,11,12]<| .fin) (.one 8 (.one 5<| .one 9<|tkZ [10,11,12]<| .fin))) (.one 8 (onZ [4,5,9]<|tkZ [10,11,12]<| .fin))) (.alt 4 (.alt 1 (.alt 5 (.one 8<| .one 9<|tkZ [10,11,12]<| .fin) (.one 8 (.one 5<| .one 9<|tkZ [10,11,12]<| .fin))) (.one 8 (onZ [1,5,9]<|tkZ [10,11,12]<| .fin))) (.one 8 (.alt 1 (onZ [4,5,9]<|tkZ [10,11,12]<| .fin) (.one 4 (onZ [1,5,9]<|tkZ [10,11,12]<| .fin)))))
theorem ML(hg:g.chk=0){k0:Nat}{h0:H}{b C L:Nat}{u:US}{rs:List (Nat×Cl)}{r:Nat}{h:H}(k:BH g k0 h0 b C L u.n u.cl rs r (vW g u.lat) h)(ok:USok g u)(hn:u.n<=200000)(hcl:aa u.cl<=900000)(hrs:aa rs<=1000){R:AEnd->H->(Nat->Bool)->Prop}
 (hr:∀h' r',BH g k0 h0 b C L (u.step g).n (u.step g).cl (rs++[(r,(u.ands g (aa g.ands)).row)]) r' (vW g (u.step g).lat) h'->R (.ret (.tup [])) h' (λj=>aM (j=C)||aM (j=L)||aM (k0<=j))):ag TE 63 [.lp b 0] h R:=by
 have hM:=mLx;obtain⟨_,i0,i1,i2,i3,i4,i5⟩:=aU hg;obtain⟨r1,r2,r3,r4⟩:=aJ i4;have wf:g.first=1+g.ins+aa g.next:=rfl
 have wa:g.all=2*(g.first+aa g.ands):=rfl;obtain⟨lb,lC,lL,lr,nbr,nCr,nLr⟩:=k.lens;have n1:=k.n1;have hll:=ok.l;obtain⟨lv,hlv⟩:∃lv,lv=V.ls L 1 0 (aa rs) (aa rs):=⟨_,rfl⟩;have fb:∀(n:Nat)(cl:List Cl)(row:Cl)(X:H),(HU g b C r lv h n cl row++X)[b]? =ar (bU g n (.ls C 1 0 (aa cl) (aa cl)) lv (.ls r 1 0 (aa row) (aa row))):=λn cl row X=>Yy n1 nbr lb;have fr:∀(n:Nat)(cl:List Cl)(row:Cl)(X:H),(HU g b C r lv h n cl row++X)[r]? =ar (aw (row.map vi)):=λn cl row X=>YM lr;have fb0:∀(n:Nat)(cl:List Cl)(row:Cl),(HU g b C r lv h n cl row)[b]? =ar (bU g n (.ls C 1 0 (aa cl) (aa cl)) lv (.ls r 1 0 (aa row) (aa row))):=λn cl row=>by have:=fb n cl row [];rwa [zqp]at this
 have fr0:∀(n:Nat)(cl:List Cl)(row:Cl),(HU g b C r lv h n cl row)[r]? =ar (aw (row.map vi)):=λn cl row=>by have:=fr n cl row [];rwa [zqp]at this
 have fsb:∀(n n':Nat)(cl:List Cl)(row:Cl),(HU g b C r lv h n cl row).set b (bU g n' (.ls C 1 0 (aa cl) (aa cl)) lv (.ls r 1 0 (aa row) (aa row)))=HU g b C r lv h n' cl row:=λn n' cl row=>by have:=PW (g:=g) (lv:=lv) (n:=n) (cl:=cl) (row:=row) (X:=[]) (n':=n') n1 nbr lb;rwa [zqp,zqp]at this
 suffices H:ag TE 63 [.lp b 0] (HU g b C r lv h u.n u.cl (vW g u.lat)) R by
  have e:=k.hs;rw[zqp,<-hlv]at e;rw[<-e]at H;exact H
 refine ag.kp (λj=>aM (j=C)||aM (j=L)||aM (k0<=j)) ?_;refine ah Tryz.func63 rfl (by simp[nts]) ?_;refine vn ?_;simp only[wq.1,seval,Tryz.results63,fb0];refine aA (λm f h'=>∃i,m+i=g.ins.toNat/\f.t 0= .lp b 0/\f.t 16=vi g.ins/\f.t 17=vi i/\f.d=[]/\(∀j,f.k j=am)/\h'=HU g b C r lv h (u.n+i) u.cl (MK g u.n i u.lat)) g.ins.toNat ⟨0,by omega,rfl,rfl,rfl,rfl,λj=>rfl,by rw[X3];rfl⟩ ?_;rintro m f h' ⟨i,hm,t0,t16,t17,hd,hk0,rfl⟩;refine vn ?_;simp only[wq.1,Nat.reduceLT,t16,t17];refine ak (aX (b:=aM ((i:Int)<g.ins)) (by simp only[wq.1,↓reduceIte]) (by simp only[wq.1,↓reduceIte]) (λhlt=> ?_) (λhlt=> ?_))
 ·simp only[zqb]at hlt;have hli:i<g.ins.toNat:=by omega
  have hw:=ax (show i<maxLen by omega);have w1:a5 .i64 (1+(i:Int))=((1+i:Nat):Int):=by rw[fM (by omega) (by omega)];omega
  have hrl:=DI (g:=g) (n:=u.n) (lat:=u.lat) (i:=i) (by omega);refine vm ?_;simp only[wq.1];refine ak (aB ?_);refine vn ?_;simp only[wq.1,seval,t17];refine bK dV PY (λf' h'=>f'.t 0= .lp b 0/\f'.t 16=vi g.ins/\f'.t 17=vi i/\f'.d=[]/\(∀j,f'.k j=am)/\h'=HU g b C r lv h (u.n+(i+1)) u.cl (MK g u.n (i+1) u.lat)) (by decide +kernel) (by decide +kernel) ?_ ?_
  ·simp only[wq.1,seval,PY,t0,fb0,w1]
   repeat' apply zsa
   all_goals
    refine oU (fb0 _ _ _) (by omega) ?_;rw[fsb];simp only[wq.1,seval,t0,t16,t17,hd,fb0,fr0,w1,Nat.mul_one];refine⟨⟨by omega,by omega⟩,by omega,hk0,?_⟩;have e1:(((u.n+i:Nat):Int)+1)=(u.n:Int)+(i:Int)+1:=by omega
    rw[e1,uD (by omega),TQ hli];have:=V6 (g:=g) (b:=b) (C:=C) (lv:=lv) (n:=u.n+i+1) (cl:=u.cl) (row:=MK g u.n i u.lat) (row':=MK g u.n (i+1) u.lat) (X:=[]) (by rw[DI (by omega),DI (by omega)]) lr;rw[zqp,zqp]at this;exact this
  ·rintro f h' ⟨t0,t16,t17,hd,hk0,rfl⟩;show awp _ _ _ _ _ _ _;refine vm ?_;simp only[wq.1,seval,t17,hw];exact .inl ⟨m-1,by omega,i+1,by omega,t0,t16,rfl,hd,hk0,rfl⟩
 simp only[zqd]at hlt;have:i=g.ins.toNat:=by omega
 subst this;rw[TP];clear fb0 fr0 fsb;refine vm ?_;simp only[wq.1];show awp _ _ _ _ _ _ _;clear t17 t16 hlt hm;have fb0:∀(n:Nat)(cl:List Cl)(row:Cl),(HU g b C r lv h n cl row)[b]? =ar (bU g n (.ls C 1 0 (aa cl) (aa cl)) lv (.ls r 1 0 (aa row) (aa row))):=λn cl row=>by have:=fb n cl row [];rwa [zqp]at this
 refine vn ?_;simp only[wq.1,seval,t0,fb0];refine aA (λm f h'=>∃(i:Nat)(X:H),m+i=aa g.ands/\f.t 0= .lp b 0/\f.t 34=prs g.ands/\f.t 35=vi (aa g.ands)/\f.t 36=vi i/\f.d=[]/\(∀j,f.k j=ab->(aM (j=C)||aM (j=L)||aM (k0<=j))=ab)/\(∀o∈X,∀D,O.drop D o=o)/\h'=HU g b C r lv h (u.ands g i).n (u.ands g i).cl (u.ands g i).row++X) (aa g.ands) ⟨0,[],by omega,t0,rfl,rfl,rfl,hd,λj hj=>absurd hj (by show ¬f.k j=ab;rw[hk0 j];decide),nofun,(zqp _).symm⟩ ?_;clear t0 hd hk0 fb0 f m;rintro m f h' ⟨i,X,hm,t0,t34,t35,t36,hd,hk,hX,rfl⟩;obtain⟨s,hs⟩:∃s,s=u.ands g i:=⟨_,rfl⟩;rw[<-hs];refine vn ?_;simp only[wq.1,Nat.reduceLT,t35,t36];refine ak (aX (b:=aM ((i:Int)<aa g.ands)) (by simp only[wq.1,↓reduceIte]) (by simp only[wq.1,↓reduceIte]) (λhlt=> ?_) (λhlt=> ?_))
 ·simp only[zqb,zqi]at hlt;have hw:=ax (show i<maxLen by omega);have hgp:=V7 hlt V.any;obtain⟨o1,o2,o3,o4⟩:=iq i5 hlt;have sn:=nU (u:=u) (g:=g) (i:=i) (by omega);have sl:=iw (u:=u) (g:=g) (i:=i) (by omega);have sok:=jC hg ok (i:=i) (by omega);have ss:=fF (u:=u) hlt;have sc:=vZ (u:=u) (g:=g) (i:=i) (by omega);rw[<-hs]at sn sl sok ss sc;refine vm ?_;simp only[wq.1];refine ak (aB ?_);refine vn ?_;simp only[wq.1,seval,t34,t36,hgp];obtain⟨pO,hpO⟩:∃pO,pO=aw [vi g.ands[i].1,vi g.ands[i].2]:=⟨_,rfl⟩;have fx:∀o:O,(HU g b C r lv h s.n s.cl s.row++X++[o])[aa (HU g b C r lv h s.n s.cl s.row)+aa X]? =ar o:=λo=>by
   rw[zsb (by simp),zqa,Nat.sub_self];rfl
  have fxs:∀o o':O,(HU g b C r lv h s.n s.cl s.row++X++[o]).set (aa (HU g b C r lv h s.n s.cl s.row)+aa X) o'=HU g b C r lv h s.n s.cl s.row++(X++[o']):=λo o'=>by rw[List.set_append_right _ _ (by simp),zqa,Nat.sub_self,zqc];rfl
  rw[fx];refine⟨⟨by omega,by omega⟩,by decide,?_⟩;rw[fxs,show aw (vi g.ands[i].fst::vi g.ands[i].snd::List.drop 2 [V.int IntKind.i64 0,V.int IntKind.i64 0])=pO by rw[hpO];rfl];obtain⟨N,hN⟩:∃N,N=aa (HU g b C r lv h s.n s.cl s.row)+aa X:=⟨_,rfl⟩;rw[<-hN];rw[kL]at hN;obtain⟨Y,hY⟩:∃Y,Y=X++[pO]:=⟨_,rfl⟩;rw[<-hY];have hYp:∀o∈Y,∀D,O.drop D o=o:=λo ho D=>by
   rw[hY]at ho;rcases zrf.1 ho with ho|ho
   ·exact hX o ho D
   ·rw[zrc.1 ho,hpO];rfl
  have fp:∀(n:Nat)(cl:List Cl)(row:Cl),(HU g b C r lv h n cl row++Y)[N]? =ar (aw [vi g.ands[i].1,vi g.ands[i].2]):=λn cl row=>by rw[YN (by omega),hN,Nat.add_sub_cancel_left,hY,zsb (zrb _),Nat.sub_self,hpO];rfl
  clear fx fxs;have rb:∀x∈s.row,-1000000<=x/\x<=1000000:=λx hx=>by have:=sok.r x hx;obtain⟨_,b1,b2⟩:=this;omega
  refine ak (bK dV PZ (λf' h'=>f'.t 0= .lp b 0/\f'.t 34=prs g.ands/\f'.t 35=vi (aa g.ands)/\f'.t 36=vi i/\f'.t 5=vi ((s.n:Int)+1)/\f'.t 6=vi (wV s.row g.ands[i].1)/\f'.t 7=vi (wV s.row g.ands[i].2)/\f'.d=[]/\(∀j,f'.k j=ab->(aM (j=C)||aM (j=L)||aM (k0<=j))=ab)/\h'=HU g b C r lv h (s.n+1) s.cl s.row++Y) (by decide +kernel) (by decide +kernel) ?_ ?_)
  ·simp only[wq.1,seval,PZ,t0,fp]
   repeat' apply zsa
   all_goals try(first|decide|omega)
   iterate 3
    all_goals first
     |(refine oU (fb _ _ _ _) (by omega) ?_;rw[PW n1 nbr lb])
     |refine vV (fb _ _ _ _) (fr _ _ _ _) rb o1 (by omega) (by omega) ?_
     |refine vV (fb _ _ _ _) (fr _ _ _ _) rb o2 (by omega) (by omega) ?_
    all_goals simp only[wq.1,↓reduceIte,Nat.reduceEqDiff,Nat.reduceLT,Nat.reduceLeDiff,Nat.reduceAdd,reduceCtorEq,t0,t34,t35,t36,hd,fp]
    all_goals repeat' apply zsa
    all_goals try(first|decide|omega|exact hk)
  ·rintro f h' ⟨t0,t34,t35,t36,t5,t6,t7,hd,hk,rfl⟩;show awp _ _ _ _ _ _ _;have nbC:(b==C)=am:=by simpa using n1
   have dCr:∀p∈rs,(p.1==C)=am:=λp hp=>by have:=(k.hrs p hp).2.1;have:=k.Ck;simp;omega
   have hCr:(r==C)=am:=by simpa using Ne.symm nCr
   have fC:∀(n:Nat)(cl:List Cl)(row:Cl)(X:H),(HU g b C r lv h n cl row++X)[C]? =ar (aw (cl.map xC)):=λn cl row X=>YL nCr lC;have hlvC:lv.drop (·==C)=lv:=by
    rw[hlv];have:(L==C)=am:=by simpa using Ne.symm k.n3
    simp only[V.drop,this,zrm,if_false]
   have hrvC:∀m:Nat,(V.ls r 1 0 m m).drop (·==C)=V.ls r 1 0 m m:=λm=>by simp only[V.drop,hCr,zrm,if_false]
   have hsn:s.n<=300000:=by omega
   have e3:g.ands[i].1/2<aa s.row:=by omega
   have e4:g.ands[i].2/2<aa s.row:=by omega
   have scl:aa s.cl<=1000000/\aa s.cl+1<=1000000/\aa s.cl+1+1<=1000000:=by omega
   have em:m-1<m/\m-1+(i+1)=aa g.ands:=by omega
   have e6:aa s.row+1<=maxLen/\(aa s.row+1)*8<=140737488355328:=by omega
   have e5:(-1000000:Int)<=(s.n:Int)+1/\(s.n:Int)+1<=1000000:=by omega
   have b1:=ql sok.r o1 e3;have b2:=ql sok.r o2 e4;obtain⟨x,hx⟩:∃x,x=wV s.row g.ands[i].1:=⟨_,rfl⟩;obtain⟨y,hy⟩:∃y,y=wV s.row g.ands[i].2:=⟨_,rfl⟩;rw[<-hx]at t6 b1;rw[<-hy]at t7 b2;have bnd:∀z:Int,inU s.n z->-1000000<=z/\z<=1000000:=λz hz=>by obtain⟨_,z1,z2⟩:=hz;omega
   have bx:=bnd _ b1;have by_:=bnd _ b2;clear b1 b2 bnd;have w5:a5 .i64 (0-((s.n:Int)+1))=-((s.n:Int)+1):=DJ e5.1 e5.2;have w6:a5 .i64 (0-x)=-x:=DJ bx.1 bx.2;have w7:a5 .i64 (0-y)=-y:=DJ by_.1 by_.2;refine vn ?_;simp only[wq.1,↓reduceIte,Nat.reduceEqDiff,Nat.reduceLT,reduceCtorEq,Nat.reduceMul,t0,t5,t6,w5];refine⟨⟨rfl,by decide⟩,?_⟩;refine qN (cl:=s.cl) (c:=[-((s.n:Int)+1),x]) n1 (fb _ _ _ _) (fC _ _ _ _) (vY k hYp dCr) hlvC (hrvC _) scl.1 ?_;rw[PX n1 nbr nCr lb lC];simp only[wq.1,bC,hd];refine vn ?_;simp only[wq.1,↓reduceIte,Nat.reduceEqDiff,Nat.reduceLT,reduceCtorEq,Nat.reduceMul,nbC,t0,t5,t7,w5];refine⟨⟨rfl,by decide⟩,?_⟩;refine qN (cl:=s.cl++[[-((s.n:Int)+1),x]]) (c:=[-((s.n:Int)+1),y]) n1 (fb _ _ _ _) (fC _ _ _ _) (vY k hYp dCr) hlvC (hrvC _) (by rw[zqa,zrk];exact scl.2.1) ?_;rw[PX n1 nbr nCr lb lC];simp only[wq.1,bC,hd];refine vn ?_;simp only[wq.1,↓reduceIte,Nat.reduceEqDiff,Nat.reduceLT,reduceCtorEq,Nat.reduceMul,nbC,t0,t5,t6,t7,w6,w7];refine⟨⟨rfl,by decide⟩,?_⟩;refine qN (cl:=s.cl++[[-((s.n:Int)+1),x]]++[[-((s.n:Int)+1),y]]) (c:=[(s.n:Int)+1,-x,-y]) n1 (fb _ _ _ _) (fC _ _ _ _) (vY k hYp dCr) hlvC (hrvC _) (by simp only[zqa,zrk];exact scl.2.2) ?_;rw[PX n1 nbr nCr lb lC];simp only[wq.1,bC,hd];rw[hlv]at fb fr ⊢;have nbr':(b==r)=am:=by simpa using nbr
   refine vm ?_;simp only[wq.1,↓reduceIte,Nat.reduceEqDiff,Nat.reduceLT,Nat.reduceAdd,reduceCtorEq,Nat.reduceMul,nbr',nbC,t0,t5,hd,fb,fr];refine⟨⟨rfl,by decide⟩,⟨(Nat.mul_one _).symm,e6.1,e6.2⟩,?_⟩;have hvd:aE (λx=>x==r) (List.map vi s.row)++[vi ((s.n:Int)+1)]=(s.row++[(s.n:Int)+1]).map vi:=by
    rw[aN,zql];rfl
   rw[hvd,<-zql];obtain⟨ap1,ap2⟩:=X4 k (n:=s.n+1) (cl:=s.cl++[[-((s.n:Int)+1),x]]++[[-((s.n:Int)+1),y]]++[[(s.n:Int)+1,-x,-y]]) (row:=s.row) (row':=s.row++[(s.n:Int)+1]) hYp;rw[ap1];refine⟨zrb 9,?_⟩;have hrl:aa (s.row++[(s.n:Int)+1])=aa s.row+1:=by rw[zqa,zrk]
   rw[hrl]at ap2;have hset:∀Z:H,Z.set b (aw (List.take 8 [vi ((s.n+1:Nat):Int),V.ls C 1 0 (aa (s.cl++[[-((s.n:Int)+1),x]]++[[-((s.n:Int)+1),y]]++[[(s.n:Int)+1,-x,-y]])) (aa (s.cl++[[-((s.n:Int)+1),x]]++[[-((s.n:Int)+1),y]]++[[(s.n:Int)+1,-x,-y]])),V.ls L 1 0 (aa rs) (aa rs),vi g.ins,az g.next,az g.init,prs g.ands,az g.outs,V.any]++[V.ls r 1 0 (aa s.row+1) (aa s.row+1)]++List.drop 9 [vi ((s.n+1:Nat):Int),V.ls C 1 0 (aa (s.cl++[[-((s.n:Int)+1),x]]++[[-((s.n:Int)+1),y]]++[[(s.n:Int)+1,-x,-y]])) (aa (s.cl++[[-((s.n:Int)+1),x]]++[[-((s.n:Int)+1),y]]++[[(s.n:Int)+1,-x,-y]])),V.ls L 1 0 (aa rs) (aa rs),vi g.ins,az g.next,az g.init,prs g.ands,az g.outs,V.any]))=Z.set b (bU g (s.n+1) (V.ls C 1 0 (aa (s.cl++[[-((s.n:Int)+1),x]]++[[-((s.n:Int)+1),y]]++[[(s.n:Int)+1,-x,-y]])) (aa (s.cl++[[-((s.n:Int)+1),x]]++[[-((s.n:Int)+1),y]]++[[(s.n:Int)+1,-x,-y]]))) (V.ls L 1 0 (aa rs) (aa rs)) (V.ls r 1 0 (aa s.row+1) (aa s.row+1))):=λZ=>rfl;rw[hset,ap2];refine vm ?_;simp only[wq.1,seval,t36,hw];refine .inl ⟨m-1,em.1,i+1,Y,em.2,by simp only[wq.1,seval,nbC,nbr',t0],by simp only[wq.1,seval,t34],by simp only[wq.1,seval,t35],rfl,hd,λj hj=> ?_,hYp,?_⟩
   ·have hj:((((f.k j||j==C)||j==C)||j==C)||j==r)=ab:=hj;simp only[Bool.or_eq_true,beq_iff_eq,zqb]at hj ⊢;rcases hj with(((hj|hj)|hj)|hj)|hj
    ·have:=hk j hj;simpa only[Bool.or_eq_true,zqb]using this
    ·exact .inl (.inl hj)
    ·exact .inl (.inl hj)
    ·exact .inl (.inl hj)
    ·exact .inr (by rw[hj];exact k.rk)
   ·rw[ss];simp only[WU,<-hx,<-hy,zqc,List.cons_append,List.nil_append]
 simp only[zqd,zqi]at hlt;have:i=aa g.ands:=by omega
 subst this;have sn:=nU (u:=u) (g:=g) (zrb (aa g.ands));have sl:=iw (u:=u) (g:=g) (zrb (aa g.ands));have sok:=jC hg ok (zrb (aa g.ands));rw[<-hs]at sn sl sok;refine vm ?_;simp only[wq.1];show awp _ _ _ _ _ _ _;clear t34 t35 t36 hlt hm;rw[hlv]at fb fr ⊢;have nbL:(b==L)=am:=by simpa using k.n2
 have fL:∀(n:Nat)(cl:List Cl)(row:Cl)(X:H),(HU g b C r (.ls L 1 0 (aa rs) (aa rs)) h n cl row++X)[L]? =ar (aw (rs.map λp=> .ls p.1 1 0 (aa p.2) (aa p.2))):=λn cl row X=>by rw[Yz (Ne.symm k.n2) (Ne.symm k.n3) nLr lL];exact k.hL
 have hDL:∀p∈rs,(p.1==L)=am:=λp hp=>by have:=(k.hrs p hp).2.1;have:=k.Lk;simp;omega
 have hdL:=vY k (lv:= .ls L 1 0 (aa rs) (aa rs)) (n:=s.n) (cl:=s.cl) (row:=s.row) hX (D:=λx=>x==L) hDL;have rL:(r==L)=am:=by simpa using Ne.symm nLr
 have e1:aa (rs.map λp=>V.ls p.1 1 0 (aa p.2) (aa p.2))=aa rs*1:=by simp
 have hvr:aE (λx=>x==L) (rs.map λp=>V.ls p.1 1 0 (aa p.2) (aa p.2))=rs.map λp=>V.ls p.1 1 0 (aa p.2) (aa p.2):=vX hDL;refine ak (bK dV JK (λf' h'=>f'.t 0= .lp b 0/\f'.d=[]/\(∀j,f'.k j=ab->(aM (j=C)||aM (j=L)||aM (k0<=j))=ab)/\h'=HU g b C r (.ls L 1 0 (aa rs+1) (aa rs+1)) (h.set L (aw ((rs++[(r,s.row)]).map λp=> .ls p.1 1 0 (aa p.2) (aa p.2)))) s.n s.cl s.row++X) (by decide +kernel) (by decide +kernel) ?_ ?_)
 ·simp only[wq.1,seval,JK,t0,hd,fb,fL,nbL,rL,hvr]
  repeat' apply zsa
  all_goals try(first|decide|omega|rfl)
  all_goals
   obtain⟨ap1,ap2⟩:=V8 k (n:=s.n) (cl:=s.cl) (row:=s.row) hX (aw (List.map (λp=>V.ls p.fst 1 0 (List.length p.snd) (List.length p.snd)) rs++[V.ls r 1 0 (List.length s.row) (List.length s.row)])) (.ls L 1 0 (aa rs+1) (aa rs+1));rw[<-zql,ap1];refine⟨Nat.le_of_ble_eq_true rfl,λj hj=> ?_,ap2⟩;simp only[Bool.or_eq_true,beq_iff_eq]at hj;rcases hj with hj|hj
   ·exact hk j hj
   ·simp[hj]
 rintro f h' ⟨t0,hd,hk,rfl⟩;show awp _ _ _ _ _ _ _;obtain⟨rs2,hrs2⟩:∃rs2,rs2=rs++[(r,s.row)]:=⟨_,rfl⟩;obtain⟨X2,hX2⟩:∃X2,X2=aw (rs2.map λp=>V.ls p.1 1 0 (aa p.2) (aa p.2)):=⟨_,rfl⟩;have hl2:aa rs+1=aa rs2:=by rw[hrs2,zqa];rfl
 rw[<-hrs2,<-hX2,hl2];have lL2:L<aa (h.set L X2):=by simpa using lL
 obtain⟨H1,hH1⟩:∃H1,H1=HU g b C r (.ls L 1 0 (aa rs2) (aa rs2)) (h.set L X2) s.n s.cl s.row++X:=⟨_,rfl⟩;rw[<-hH1];have H1l:aa H1=aa h+aa X:=by rw[hH1,zqa,kL,zrn]
 have H1b:H1[b]? =ar (bU g s.n (.ls C 1 0 (aa s.cl) (aa s.cl)) (.ls L 1 0 (aa rs2) (aa rs2)) (.ls r 1 0 (aa s.row) (aa s.row))):=by rw[hH1];exact Yy n1 nbr (by simpa using lb)
 have H1r:H1[r]? =ar (aw (s.row.map vi)):=by rw[hH1];exact YM (by simpa using lr)
 have H1C:H1[C]? =ar (aw (s.cl.map xC)):=by rw[hH1];exact YL nCr (by simpa using lC)
 have H1L:H1[L]? =ar X2:=by rw[hH1,Yz (Ne.symm k.n2) (Ne.symm k.n3) nLr lL2,zqt lL]
 have H1o:∀j,j≠b->j≠C->j≠L->j≠r->j<aa h->H1[j]? =h[j]? :=λj j1 j2 j3 j4 j5=>by rw[hH1,Yz j1 j2 j4 (by simpa using j5),zqn (Ne.symm j3)]
 have H1x:∀(j:Nat)(o:O),aa h<=j->H1[j]? =ar o->o∈X:=λj o hj ho=>by rw[hH1,YN (by simpa using hj)]at ho;exact List.mem_of_getElem? ho
 have H1p:∀(j:Nat)(o:O),H1[j]? =ar o->j≠b->j≠L->∀D,o.drop D=o:=λj o ho j1 j2 D=>by
  by_cases hl:aa h<=j
  ·exact hX o (H1x j o hl ho) D
  ·by_cases j3:j=r
   ·subst j3;rw[H1r]at ho;cases ho;show aw (aE D _)=_;rw[aN]
   ·by_cases j4:j=C
    ·subst j4;rw[H1C]at ho;cases ho;show aw (aE D _)=_;rw[uC]
    ·rw[H1o j j1 j4 j2 j3 (by omega)]at ho;exact k.pl j o ho j1 j2 D
 have rs2r:∀p∈rs2,p.1<aa h/\k0<=p.1:=λp hp=>by
  rw[hrs2]at hp;rcases zrf.1 hp with hp|hp
  ·exact⟨(zqe (k.hrs p hp).1).1,(k.hrs p hp).2.1⟩
  ·rw[zrc.1 hp];exact⟨lr,k.rk⟩
 have H1d:∀q,aa h<=q->∀(j:Nat)(o:O),H1[j]? =ar o->o.drop (λx=>x==q)=o:=λq hq j o ho=>by
  by_cases j1:j=b
  ·subst j1;rw[H1b]at ho;cases ho;have e1:(C==q)=am:=by simp;omega
   have e2:(L==q)=am:=by simp;omega
   have e3:(r==q)=am:=by simp;omega
   simp only[O.drop,aE,V.drop,e1,e2,e3,zrm,if_false]
  ·by_cases j2:j=L
   ·subst j2;rw[H1L,hX2]at ho;cases ho;show aw (aE _ _)=_;rw[vX λp hp=>by have:=(rs2r p hp).1;simp;omega]
   ·exact H1p j o ho j1 j2 _
 have H1m:∀q,aa h<=q->H1.map (O.drop λx=>x==q)=H1:=λq hq=>by
  refine List.ext_getElem? λj=> ?_;rw[zqo];cases ho:H1[j]? with
  |none=>rfl
  |some o=>rw[zrw,H1d q hq j o ho]
 refine vn ?_;simp only[wq.1,seval,t0];refine vn ?_;simp only[wq.1,Nat.reduceLT];refine iF 9 1 (rfl) ?_;have H1bl:b<aa H1:=by omega
 have H1rl:r<aa H1:=by omega
 have fqb:∀cs,(H1++[aw cs])[b]? =ar (bU g s.n (.ls C 1 0 (aa s.cl) (aa s.cl)) (.ls L 1 0 (aa rs2) (aa rs2)) (.ls r 1 0 (aa s.row) (aa s.row))):=λcs=>by rw[zqj H1bl];exact H1b
 have fqr:∀cs,(H1++[aw cs])[r]? =ar (aw (s.row.map vi)):=λcs=>by rw[zqj H1rl];exact H1r
 have fqq:∀cs,(H1++[aw cs])[aa H1]? =ar (aw cs):=λcs=>by rw[zsb (zrb _),Nat.sub_self];rfl
 have nbq:(b==aa H1)=am:=by simp;omega
 have rb:∀x∈s.row,-1000000<=x/\x<=1000000:=λx hx=>by have:=sok.r x hx;obtain⟨_,b1,b2⟩:=this;omega
 have hmq:=H1m (aa H1) (by omega);refine vn ?_;simp only[wq.1,seval,t0,hd,fqb];refine aA (λm f h'=>∃(i:Nat)(cs:List V),m+i=aa g.next/\f.t 0= .lp b 0/\f.t 8= .fn (.func 70) [.lp b 0] []/\f.t 9= .ls (aa H1) 1 0 i i/\f.t 102=az g.next/\f.t 103=vi (aa g.next)/\f.t 104=vi i/\f.d=[]/\(∀j,f.k j=ab->(aM (j=C)||aM (j=L)||aM (k0<=j))=ab)/\cs=((g.next.take i).map (wV s.row)).map vi/\h'=H1++[aw cs]) (aa g.next) ⟨0,[],by omega,t0,rfl,rfl,rfl,rfl,rfl,rfl,hk,rfl,rfl⟩ ?_
 clear t0 hd hk f;rintro m f h' ⟨i,cs,hm,t0,t8,t9,t102,t103,t104,hd,hk,hcs,rfl⟩;refine vn ?_;simp only[wq.1,Nat.reduceLT,t103,t104];refine ak (aX (b:=aM ((i:Int)<aa g.next)) (by simp only[wq.1,↓reduceIte]) (by simp only[wq.1,↓reduceIte]) (λhlt=> ?_) (λhlt=> ?_))
 ·simp only[zqb,zqi]at hlt;have hw:=ax (show i<maxLen by omega);have hgn:(g.next.map vi).getD i .any=vi g.next[i]:=sU hlt _
  have hr3:=r3 _ (zqu hlt);have hcl2:aa cs=i*1:=by rw[hcs];simp;omega
  have dcs:∀p,aE p cs=cs:=λp=>by rw[hcs];exact aN _
  refine vm ?_;simp only[wq.1];refine vm ?_;simp only[wq.1,seval,t8,t9,t102,t104,hgn];refine⟨⟨by omega,by omega⟩,?_⟩;refine vV (fqb _) (fqr _) rb hr3.1 (by omega) (by omega) ?_;simp only[wq.1,↓reduceIte,Nat.reduceEqDiff,Nat.reduceLT,reduceCtorEq,Nat.reduceMul,t104,hd,fqq,hmq,hcl2,dcs];have hk1:=k.rk;refine⟨⟨rfl,by decide⟩,⟨by omega,by omega⟩,.inl ⟨m-1,by omega,i+1,cs++[vi (wV s.row g.next[i])],by omega,by simp only[wq.1,seval,aG,Tryz.results63,t0,nbq],by simp only[wq.1,seval,aG,Tryz.results63,t8,nbq],rfl,by simp only[wq.1,seval,aG,Tryz.results63,t102],by simp only[wq.1,seval,aG,Tryz.results63,t103],by simp only[wq.1,seval,aG,Tryz.results63,hw],hd,λj hj=> ?_,?_,?_⟩⟩
  ·have hj:(f.k j||j==aa H1)=ab:=hj;simp only[Bool.or_eq_true,beq_iff_eq]at hj;rcases hj with hj|hj
   ·exact hk j hj
   ·simp only[Bool.or_eq_true,zqb];right;omega
  ·rw[hcs,zrg,zqk hlt,zql,zql];rfl
  ·rw[List.set_append_right _ _ (zrb _),Nat.sub_self];rfl
 simp only[zqd,zqi]at hlt;have:i=aa g.next:=by omega
 subst this;rw[zrx]at hcs;obtain⟨lat,hlat⟩:∃lat,lat=(u.step g).lat:=⟨_,rfl⟩;have hlat2:lat=g.next.map (wV s.row):=by rw[hlat,hs];rfl
 have hll2:aa lat=aa g.next:=by rw[hlat2,zra]
 rw[<-hlat2]at hcs;subst hcs;rw[<-hll2]at t9;obtain⟨H2,hH2⟩:∃H2,H2=H1++[aw (lat.map vi)]:=⟨_,rfl⟩;rw[<-hH2];have H2l:aa H2=aa H1+1:=by rw[hH2,zqa];rfl
 have H2b:H2[b]? =ar (bU g s.n (.ls C 1 0 (aa s.cl) (aa s.cl)) (.ls L 1 0 (aa rs2) (aa rs2)) (.ls r 1 0 (aa s.row) (aa s.row))):=by rw[hH2];exact fqb _
 have H2q:H2[aa H1]? =ar (aw (lat.map vi)):=by rw[hH2];exact fqq _
 have H2o:∀j,j<aa H1->H2[j]? =H1[j]? :=λj hj=>by rw[hH2,zqj hj]
 have H2p:∀(j:Nat)(o:O),H2[j]? =ar o->j≠b->j≠L->∀D,o.drop D=o:=λj o ho j1 j2 D=>by
  by_cases hl:j<aa H1
  ·rw[H2o j hl]at ho;exact H1p j o ho j1 j2 D
  ·have hjl:=(zqe ho).1;have:j=aa H1:=by omega
   subst this;rw[H2q]at ho;cases ho;show aw (aE D _)=_;rw[aN]
 refine vm ?_;simp only[wq.1];refine vm ?_;simp only[wq.1,seval,t0,t9];refine wY (lat:=lat) H2b H2q (λj o ho=> ?_) i0 (by omega) (by omega) (by omega) ?_
 ·by_cases hl:j<aa H1
  ·rw[H2o j hl]at ho;exact H1d _ (by omega) j o ho
  ·have hjl:=(zqe ho).1;have:j=aa H1:=by omega
   subst this;rw[H2q]at ho;cases ho;show aw (aE _ _)=_;rw[aN]
 simp only[wq.1,bC,hd];have hk1:=k.rk;have hbk:=k.bk;refine⟨λj hj=> ?_,?_⟩
 ·simp only[Bool.or_eq_true,beq_iff_eq]at hj;rcases hj with hj|hj
  ·exact hk j hj
  ·simp only[Bool.or_eq_true,zqb];right;omega
 have es:u.ands g (aa g.ands)=s:=hs.symm;obtain⟨Bo,hBo⟩:∃Bo:O,Bo=bU g s.n (.ls C 1 0 (aa s.cl) (aa s.cl)) (.ls L 1 0 (aa rs2) (aa rs2)) (.ls (aa H2) 1 0 (aa (vW g lat)) (aa (vW g lat))):=⟨_,rfl⟩;rw[<-hBo];have H2bl:b<aa H2:=by omega
 have eo:∀j,j<aa H2->j≠b->(H2.set b Bo++[aw ((vW g lat).map vi)])[j]? =H2[j]? :=λj hj hjb=>by rw[zqj (by simpa using hj),zqn (Ne.symm hjb)]
 have eb:(H2.set b Bo++[aw ((vW g lat).map vi)])[b]? =ar Bo:=by rw[zqj (by simpa using H2bl),zqt H2bl]
 have er:(H2.set b Bo++[aw ((vW g lat).map vi)])[aa H2]? =ar (aw ((vW g lat).map vi)):=by rw[zsb (by simp)];simp
 have hres:=hr (H2.set b Bo++[aw ((vW g lat).map vi)]) (aa H2);rw[<-hlat,es]at hres;have e1:(u.step g).n=s.n:=by show(u.ands g (aa g.ands)).n=_;rw[es]
 have e2:(u.step g).cl=s.cl:=by show(u.ands g (aa g.ands)).cl=_;rw[es]
 rw [e1,e2,<- hrs2] at hres;refine hres {
  hb:=by rw[eb,hBo]
  hC:=by rw[eo C (by omega) (Ne.symm n1),H2o C (by omega)];exact H1C
  hL:=by rw[eo L (by omega) (Ne.symm k.n2),H2o L (by omega),H1L,hX2]
  hr:=er
  hrs:=λp hp=> ?_
  n1:=n1
  n2:=k.n2
  n3:=k.n3
  bk:=k.bk
  Ck:=k.Ck
  Lk:=k.Lk
  rk:=by omega
  pl:=λj o ho j1 j2 D=> ?_
  bs:=λj j0 j1 j2 j3=> ?_}
 ·obtain⟨p1,p2⟩:=rs2r p hp;have pC:p.1≠C:=by have:=k.Ck;omega
  have pL:p.1≠L:=by have:=k.Lk;omega
  refine⟨?_,p2,by omega⟩;rw[eo _ (by omega) (by omega),H2o _ (by omega)];rw[hrs2]at hp;rcases zrf.1 hp with hp|hp
  ·rw[H1o _ (by omega) pC pL (k.hrs p hp).2.2 p1];exact(k.hrs p hp).1
  ·rw[zrc.1 hp];exact H1r
 ·by_cases hl:j<aa H2
  ·rw[eo j hl j1]at ho;exact H2p j o ho j1 j2 D
  ·have hjl:=(zqe ho).1;rw[zqa,zrn]at hjl;have:j=aa H2:=by simp at hjl;omega
   subst this;rw[er]at ho;cases ho;show aw (aE D _)=_;rw[aN]
 ·rw[eo j (by omega) j1,H2o j (by omega),H1o j j1 j2 j3 (by omega) (by omega)];exact k.bs j j0 j1 j2 j3
theorem TR(a:Int):Ev TE 89 [vi a] (.bool (xN a)):=by
 unfold xN;refine aC Tryz.func89 rfl (by simp[nts]) (vm ?_);cases h1:aM (a<0)with
 |true=>simp only[wq.1,seval,Tryz.results89,h1];exact aH.dat rfl
 |false=>simp only[wq.1,seval,Tryz.results89,h1];exact aH.dat rfl
def YA(g:Gr)(k:Int)(l:Cl):Int:=l.foldl (λn b=>n+b/2) (1+k*(g.ins+aa g.ands))
def zH(g:Gr)(b:Cl)(k:Int):Int :=
 if g.chk≠0 then g.chk else if aa b≠aa g.next\/b.any xN=ab then 1 else if k<0\/40<k then 8 else if 20000<YA g k b then 8 else 0
theorem V9(g:Gr)(b:Cl)(k:Int)(hs:g.Sm)(hb:aa b<=1000000):Ev TE 59 [g.v,az b,vi k] (vi (zH g b k)):=by
 have hM:=mLx;have hck:=kY g hs;have hct:=JE b 89 [] xN (by decide +kernel) rfl (λx _=>TR x);unfold zH;unfold Gr.v at hck ⊢;refine aC Tryz.func59 rfl (by simp[nts]) (vm ?_);simp only[wq.1,seval,Tryz.results59];refine ag.ev hck (by simp only[a7,a6,zre]) ?_;simp only[wq.1,seval];refine vcB.mk (λhc=> ?_) (λhc=> ?_)
 ·have hc:g.chk≠0:=by simpa using hc
  rw[if_pos hc];simp only[wq.1,seval];exact aH.dat rfl
 have hc:g.chk=0:=by simpa using hc
 rw[if_neg (by simp[hc])];obtain⟨_,i0,i1,i2,i3,i4,i5⟩:=aU hc;simp only[wq.1,seval];refine CG.ev (q:=84) (vs:=[az b,.fn (.func 89) [] []]) (by simp only[wq.1,↓reduceIte]) (by simp only[wq.1,↓reduceIte]) (by decide +kernel) (λ_=>hct) (λ_=>by simp only[a7,a6,zre]) ?_;simp only[wq.1,seval];have hbe:((aa b:Int) != (aa g.next:Int))=aM (aa b≠aa g.next):=by
  rw[Bool.eq_iff_iff];simp only[bne_iff_ne,ne_eq,zqb];omega
 refine vcB.mk (λh1=> ?_) (λh1=> ?_)
 ·rw[if_pos (by rw[hbe]at h1;simpa using h1)];simp only[wq.1,seval];exact aH.dat rfl
 rw[if_neg (by rw[hbe]at h1;simpa using h1)];simp only[wq.1,seval];have hkd:(aM (k<0)||aM (40<k))=aM (k<0\/40<k):=by rw[Bool.eq_iff_iff];simp
 refine vcB.mk (λh2=> ?_) (λh2=> ?_)
 ·rw[if_pos (by simpa using h2)];simp only[wq.1,seval];exact aH.dat rfl
 have h2':¬(k<0\/40<k):=by simpa using h2
 rw[if_neg h2'];have hmul:0<=k*(g.ins+(aa g.ands:Int))/\k*(g.ins+(aa g.ands:Int))<=160000:=by
  have a1:0<=g.ins+(aa g.ands:Int):=by omega
  have a2:g.ins+(aa g.ands:Int)<=4000:=by omega
  exact⟨Int.mul_nonneg (by omega) a1,by have:=Int.mul_le_mul (show k<=40 by omega) a2 a1 (by omega);omega⟩
 obtain⟨q,hq⟩:∃q,q=k*(g.ins+(aa g.ands:Int)):=⟨_,rfl⟩;have hnu:YA g k b=b.foldl (λn b=>n+b/2) (1+q):=by rw[hq];rfl
 have w1:a5 .i64 (g.ins+(aa g.ands:Int))=g.ins+(aa g.ands:Int):=fM (by omega) (by omega);rw[<-hq]at hmul;have w2:a5 .i64 q=q:=fM (by omega) (by omega);have w3:a5 .i64 (1+q)=1+q:=fM (by omega) (by omega);simp only[wq.1,seval,w1,<-hq,w2,w3];have hbd:∀x∈b,0<=x/\x<=2:=λx hx=>by
  have h1':b.any xN=am:=by rw[zsf]at h1;exact h1.2
  have:=List.any_eq_false.1 h1' x hx;simpa [xN]using this
 have hsum:∀i,i<=aa b->1+q<=(b.take i).foldl (λn b=>n+b/2) (1+q)/\(b.take i).foldl (λn b=>n+b/2) (1+q)<=1+q+i:=by
  intro i
  induction i with
  |zero=>intro _;simp
  |succ i ih=>intro hi;have:=ih (by omega);have hx:=hbd _ (zqu (show i<aa b by omega));rw[zrg,zqk (show i<aa b by omega),Option.toList_some,List.foldl_append,List.foldl_cons,List.foldl_nil];omega
 refine aA (λm f h=>∃i,m+i=aa b/\f.t 8=vi ((b.take i).foldl (λn b=>n+b/2) (1+q))/\f.t 41=az b/\f.t 42=vi (aa b)/\f.t 43=vi i/\f.d=[]/\h=[aw [vi g.ins,az g.next,az g.init,prs g.ands,az g.outs]]) (aa b) ⟨0,by omega,rfl,rfl,rfl,rfl,rfl,rfl⟩ ?_;rintro m f h ⟨i,hm,t8,t41,t42,t43,hd,rfl⟩;have hsi:=hsum i (by omega);refine vm ?_;simp only[wq.1,seval,t42,t43];refine vcB.mk (λhlt=> ?_) (λhlt=> ?_)
 ·simp only[zqb,zqi]at hlt;have hw:=ax (show i<maxLen by omega);have hgb:(b.map vi).getD i .any=vi b[i]:=sU hlt _;have hx:=hbd _ (zqu hlt);have v1:a5 .i64 (b[i].tdiv 2)=b[i]/2:=by rw[Int.tdiv_eq_ediv_of_nonneg hx.1,fM (by omega) (by omega)]
  obtain⟨S,hS⟩:∃S,S=(b.take i).foldl (λn b=>n+b/2) (1+q):=⟨_,rfl⟩;rw[<-hS]at t8 hsi;have v2:a5 .i64 (S+b[i]/2)=S+b[i]/2:=fM (by omega) (by omega);simp only[wq.1,↓reduceIte,Nat.reduceEqDiff,Nat.reduceLT,Nat.reduceLeDiff,Nat.reduceAdd,Nat.reduceSub,Int.reduceToNat,Nat.reduceDiv,Int.reduceLT,Int.reduceLE,Int.reduceNeg,Int.reduceBEq,Int.reduceBNe,Int.reduceAdd,Int.reduceSub,Nat.reduceBEq,reduceCtorEq,Nat.reduceMul,aG,Tryz.results59,t8,t41,t42,t43,hd,hgb,v1,v2,hw];refine⟨⟨by omega,by omega⟩,by decide,.inl ⟨m-1,by omega,i+1,by omega,?_,t41,t42,rfl,hd,rfl⟩⟩;rw[zrg,zqk hlt,Option.toList_some,List.foldl_append,List.foldl_cons,List.foldl_nil,<-hS];simp only[wq.1,seval]
 ·simp only[zqd,zqi]at hlt;have:i=aa b:=by omega
  subst this;rw[zrx,<-hnu]at t8;simp only[wq.1,seval,t8];refine vcB.mk (λh3=> ?_) (λh3=> ?_)
  ·rw[if_pos (by simpa using h3)];simp only[wq.1,seval,hd];exact aH.dat rfl
  ·rw[if_neg (by simpa using h3)];simp only[wq.1,seval,hd];exact aH.dat rfl
def lY(rows:List Cl)(t a:Int):Int:=if t<0\/(aa rows:Int)<=t\/a<0\/(aa (rows.getD t.toNat []):Int)<=a/2 then 0 else wV (rows.getD t.toNat []) a
theorem Iw{x0 x1 x2 x3 x4 x5 x6 x7:V}{a:Int}{R:AEnd->H->(Nat->Bool)->Prop}(hh:h[b]? =ar (aw [x0,x1,x2,x3,x4,x5,x6,x7,az row]))
 (hb:∀x∈row,-1000000<=x/\x<=1000000) (a0:0<=a) (a1:a/2<aa row) (a2:a<=1000000)
 (hr:R (.ret (vi (wV row a))) h (λ_=>am)):ag TE 70 [.lp b 0,vi a] h R:=by
 have hM:=mLx;obtain⟨k,hk⟩:∃k:Nat,a/2=k:=⟨(a/2).toNat,by omega⟩;have hkl:k<aa row:=by omega
 have hg:(row.map vi).getD k .any=vi row[k]:=sU hkl _;have hx:=hb _ (zqu hkl);have q1:=VX a;have q2:=WT a0 (show a<=1000000000 by omega);have hgd:row.getD (a/2).toNat 0=row[k]:=by rw[hk,zsg,aP hkl]
 have wn:a5 .i64 (0-row[k])=-row[k]:=DJ hx.1 hx.2;refine ah Tryz.func70 rfl (by simp[nts]) (vm ?_);rcases Int.emod_two_eq a with hm|hm
 ·rw[FY hm,hgd]at hr;simp only[wq.1,seval,Tryz.results70,q1,q2,hm,hk,hh,hg];exact⟨⟨by omega,by omega⟩,hr⟩
 ·rw[JJ hm,hgd]at hr;simp only[wq.1,seval,Tryz.results70,q1,q2,hm,hk,hh,hg,wn];exact⟨⟨by omega,by omega⟩,hr⟩
theorem DK(n:Int)(cl rows:List Cl)(t a:Int)(hb:∀r∈rows,∀x∈r,-1000000<=x/\x<=1000000)(ha:a<=1000000)(hr:aa rows<=1000):Ev TE 39 [.agg [vi n,cls cl,cls rows],vi t,vi a] (vi (lY rows t a)):=by
 have hM:=mLx;have q1:=VX a;unfold lY;by_cases hin:t<0\/(aa rows:Int)<=t\/a<0
 ·have hd:(aM (t<0)||aM ((aa rows:Int)<=t)||aM (a<0))=ab:=by simp only[Bool.or_eq_true,zqb];rcases hin with h|h|h<;>simp[h]
  rw[if_pos (by rcases hin with h|h|h;exact .inl h;exact .inr (.inl h);exact .inr (.inr (.inl h)))];have hgx:(∃c:Cl,(rows.map λc=>az c).getD t.toNat .any=az c)\/(rows.map λc=>az c).getD t.toNat .any= .any:=by
   by_cases hl:t.toNat<aa rows
   ·exact .inl ⟨_,YG hl _⟩
   ·exact .inr (by rw[zqg,zsj (by simp;omega)];rfl)
  rcases hgx with⟨c,hgx⟩|hgx
  ·refine aC Tryz.func39 rfl (by simp[nts]) (vm ?_);simp only[wq.1,seval,Tryz.results39,hd,hgx,q1];exact aH.dat rfl
  ·refine aC Tryz.func39 rfl (by simp[nts]) (vm ?_);have hn:(V.int .i64 (a/2)).nil? =aL:=rfl;simp only[wq.1,seval,Tryz.results39,hd,hgx,q1,hn,gV];exact aH.dat rfl
 ·obtain⟨k,rfl⟩:∃k:Nat,t=k:=⟨t.toNat,by omega⟩;have hk:k<aa rows:=by omega
  have hd:(aM ((k:Int)<0)||aM ((aa rows:Int)<=(k:Int))||aM (a<0))=am:=by simp only[zsf,zqd];omega
  have hg:(rows.map λc=>az c).getD k .any=az rows[k]:=YG hk _;have hgd:rows.getD ((k:Int)).toNat []=rows[k]:=by rw[zsg,aP hk]
  rw[hgd];refine aC Tryz.func39 rfl (by simp[nts]) (vm ?_);simp only[wq.1,seval,Tryz.results39,hd,hg,q1];refine⟨⟨by omega,by omega⟩,?_⟩;refine vcB.mk (λhc=> ?_) (λhc=> ?_)
  ·rw[if_pos (.inr (.inr (.inr (by simpa using hc))))];simp only[wq.1,seval];exact aH.dat rfl
  ·have hc:¬((rows[k].length:Int)<=a/2):=by simpa using hc
   rw[if_neg (by omega)];simp only[wq.1,seval,hg];refine⟨⟨by omega,by omega⟩,?_⟩;refine Iw rfl (hb _ (zqu hk)) (by omega) (by omega) ha ?_;simp only[wq.1,seval];exact aH.dat rfl
theorem P5:∀(l:Cl)(s:Nat×Cl)(d:Int),(∀b∈l,0<=b/\b<=2)->l.foldl (λn b=>n+b/2) ((s.1:Int)+d)=((l.foldl ru s).1:Int)+d
 |[],s,d,_=>rfl
 |b::l,s,d,hl=>by
  have hb:=hl b (by simp);have hr:∀x∈l,0<=x/\x<=2:=λx hx=>hl x (by simp[hx]);rw[List.foldl_cons,List.foldl_cons,<-P5 l (ru s b) d hr]
  congr 1
  unfold ru;split
  ·rename_i h;subst h;show(s.1:Int)+d+2/2=((s.1+1:Nat):Int)+d;omega
  ·show(s.1:Int)+d+b/2=(s.1:Int)+d;have:b/2=0:=by omega
   omega
theorem We{g:Gr}{b:Cl}:∀k,(cO g b k).n=(vT b).1+k*(g.ins.toNat+aa g.ands)
 |0=>by simp[cO]
 |k+1=>by show((cO g b k).ands g (aa g.ands)).n=_;rw[nU (zrb _),We k,Nat.add_mul,Nat.one_mul];omega
theorem P6{g:Gr}{b:Cl}:∀k,(cO g b k).cl.length=1+3*(k*aa g.ands)
 |0=>by simp[cO]
 |k+1=>by show((cO g b k).ands g (aa g.ands)).cl.length=_;rw[vZ (zrb _),P6 k,Nat.add_mul,Nat.one_mul];omega
theorem oW{g:Gr}{b:Cl}:∀k,(cO g b k).rows.length=k
 |0=>rfl
 |k+1=>by show aa ((cO g b k).rows++[_])=_;rw[zqa,oW k];rfl
def iy(g:Gr)(b:Cl)(k:Nat):List Cl:=(cO g b k).rows++[vW g (cO g b k).lat++aD (aa g.ands) 0]
def YW(g:Gr)(b:Cl)(k:Nat):V:= .agg [vi (cO g b k).n,cls (cO g b k).cl,cls (iy g b k)]
def sH(g:Gr)(b:Cl)(k:Int):V:=if zH g b k=0 then YW g b k.toNat else .agg [vi 0,cls [],cls []]
abbrev hU5(g:Gr)(n:Nat)(cl lat:Cl):H:=[aw [vi g.ins,az g.next,az g.init,prs g.ands,az g.outs],aw [vi 0,.nils,.nils],bU g n (.ls 3 1 0 1 1) (.ls 4 1 0 0 0) .nils,aw [xC cl],aw [],aw (lat.map vi)]
theorem Wh{b:Cl}{k:Int}(h:zH g b k=0):g.chk=0/\aa b=aa g.next/\(∀x∈b,0<=x/\x<=2)/\0<=k/\k<=40/\YA g k b<=20000:=by
 unfold zH at h;split at h
 ·rename_i hc;exact absurd h hc
 ·rename_i hc;split at h
  ·cases h
  ·rename_i ho;split at h
   ·cases h
   ·rename_i hk;split at h
    ·cases h
    ·rename_i hn;refine⟨by omega,by omega,λx hx=> ?_,by omega,by omega,by omega⟩;have:xN x=am:=by
      cases e:xN x with
      |false=>rfl
      |true=>exact absurd (.inr (List.any_eq_true.2 ⟨x,hx,e⟩)) ho
     simp only[xN,zsf,zqd]at this;omega
theorem zI:∀l:List Cl,fH 1 (l.map λc=>az c)=ab/\(l.map λc=>az c).flatMap V.vc=l.map λc=>az c
 |[]=>⟨rfl,rfl⟩
 |c::l=>by
  obtain⟨h1,h2⟩:=zI l;refine⟨?_,?_⟩
  ·show(_&&fH 1 (l.map λc=>az c))=ab;rw[h1];rfl
  ·rw[zrd,List.flatMap_cons,h2];rfl
theorem JL{h:H}:∀l:List Cl,aj TE h (l.map xC) (l.map λc=>az c)
 |[]=>aj.nil
 |c::l=>aj.cons (λok pl w x hs hv=>dJ _ _ (aH.dat (by simp only[a6]) ok pl w x hs hv)) (JL l)
theorem JM{h:H}:∀rs:List (Nat×Cl),(∀p∈rs,h[p.1]? =ar (aw (p.2.map vi)))->aj TE h (rs.map λp=>V.ls p.1 1 0 (aa p.2) (aa p.2)) (rs.map ((λc=>az c)∘λp=>p.2))
 |[],_=>aj.nil
 |p::rs,hp=>aj.cons (dG (hp p (by simp)) rfl) (JM rs λq hq=>hp q (by simp[hq]))
def P7:Plan:=tkZ [0,1,2,3,4,6,7,8,10]<| .alt 5 (.alt 9 (onZ [11,12,13,14,15]<|tkZ [16,17,18]<| .one 19<| .fin) (.one 11 (.alt 9 (onZ [12,13,14,15]<|tkZ [16,17,18]<| .one 19<| .fin) (.one 12 (onZ [9,13,14,15]<|tkZ [16,17,18]<| .one 19<| .fin))))) (.alt 9 (.alt 5 (onZ [11,12,13,14,15]<|tkZ [16,17,18]<| .one 19<| .fin) (.one 11 (.alt 5 (onZ [12,13,14,15]<|tkZ [16,17,18]<| .one 19<| .fin) (.one 12 (.alt 5 (onZ [13,14,15]<|tkZ [16,17,18]<| .one 19<| .fin) (.one 13 (.alt 5 (.one 14<| .one 15<|tkZ [16,17,18]<| .one 19<| .fin) (.one 14 (.one 5<| .one 15<|tkZ [16,17,18]<| .one 19<| .fin))))))))) (.one 11 (.alt 5 (.alt 9 (onZ [12,13,14,15]<|tkZ [16,17,18]<| .one 19<| .fin) (.one 12 (onZ [9,13,14,15]<|tkZ [16,17,18]<| .one 19<| .fin))) (.alt 9 (.alt 5 (onZ [12,13,14,15]<|tkZ [16,17,18]<| .one 19<| .fin) (.one 12 (.alt 5 (onZ [13,14,15]<|tkZ [16,17,18]<| .one 19<| .fin) (.one 13 (.alt 5 (.one 14<| .one 15<|tkZ [16,17,18]<| .one 19<| .fin) (.one 14 (.one 5<| .one 15<|tkZ [16,17,18]<| .one 19<| .fin))))))) (.one 12 (.alt 5 (onZ [9,13,14,15]<|tkZ [16,17,18]<| .one 19<| .fin) (.one 9 (.alt 5 (onZ [13,14,15]<|tkZ [16,17,18]<| .one 19<| .fin) (.one 13 (.alt 5 (.one 14<| .one 15<|tkZ [16,17,18]<| .one 19<| .fin) (.one 14 (.one 5<| .one 15<|tkZ [16,17,18]<| .one 19<| .fin))))))))))))
abbrev hU6(g:Gr)(n:Nat)(lat:Cl):H:=[aw [vi g.ins,az g.next,az g.init,prs g.ands,az g.outs],aw [vi 0,.nils,.nils],bU g n (.ls 3 1 0 1 1) (.ls 4 1 0 0 0) (.ls 6 1 0 (aa (vW g lat)) (aa (vW g lat))),aw [xC [1]],aw [],aw (lat.map vi),aw ((vW g lat).map vi)]
theorem P8(g:Gr)(b:Cl)(k:Int)(hs:g.Sm)(hb:aa b<=1000000):Ev TE 35 [g.v,az b,vi k] (.tup [sH g b k,vi (zH g b k)]):=by
 have hM:=mLx;have hc0:=V9 g b k hs hb;unfold Gr.v at hc0 ⊢;refine aC Tryz.func35 rfl (by simp[nts]) ?_;refine vn ?_;simp only[wq.1,Nat.reduceLT,Tryz.results35];refine vn ?_;simp only[wq.1,seval];refine ag.ev hc0 rfl ?_;simp only[wq.1,seval];refine vcB.mk (λhz=> ?_) (λhz=> ?_)
 ·have hz:zH g b k≠0:=by simpa using hz
  unfold sH;rw[if_neg hz];simp only[wq.1,seval];refine aH.tup (aj.cons (aH.agg (aj.cons (aH.dat rfl) (aj.cons aH.nils (aj.cons aH.nils aj.nil)))) (aj.cons (aH.dat rfl) aj.nil))
 ·have hz:zH g b k=0:=by simpa using hz
  unfold sH;rw[if_pos hz,hz];simp only[wq.1,Int.reduceBNe];obtain⟨hg,hbl,hb2,k0,k1,hnu⟩:=Wh hz;obtain⟨q,rfl⟩:∃q:Nat,k=q:=⟨k.toNat,by omega⟩;clear hc0;obtain⟨_,i0,i1,i2,i3,i4,i5⟩:=aU hg;rw[zsg];refine vn ?_;simp only[wq.1,seval];refine gz (gz ?_);refine lF (h':=[aw [vi g.ins,az g.next,az g.init,prs g.ands,az g.outs],aw [vi 0,.nils,.nils],bU g 0 (.ls 3 1 0 0 0) (.ls 4 1 0 0 0) .nils,aw [],aw []]) (HLe.set (i:=2) (o':=bU g 0 (.ls 3 1 0 0 0) (.ls 4 1 0 0 0) .nils) rfl (OLe.cells (by simp) (fD.cons (VLe.refl _) (fD.cons dH (fD.cons dH (fD.refl _)))))) ?_;refine vn ?_;simp only[wq.1,↓reduceIte,Nat.reduceEqDiff,Nat.reduceLT];refine oU (b:=2) (g:=g) (n:=0) (cv:= .ls 3 1 0 0 0) (lv:= .ls 4 1 0 0 0) (rv:= .nils) rfl (by omega) ?_;simp only[wq.1,↓reduceIte,Nat.reduceEqDiff,Nat.reduceLT,reduceCtorEq,Nat.reduceMul];refine⟨⟨rfl,by decide⟩,?_⟩;refine qN (b:=2) (C:=3) (n:=1) (g:=g) (cl:=[]) (c:=[1]) (lv:= .ls 4 1 0 0 0) (rv:= .nils) (by decide) rfl rfl (λj o ho hj=> ?_) rfl rfl (by simp) ?_
  ·rcases j with _|_|_|_|_|j
   all_goals first
    |exact absurd rfl hj
    |(obtain rfl:=Option.some.inj ho;rfl)
    |(simp at ho)
  simp only[wq.1,bC];refine vn ?_;simp only[wq.1,Nat.reduceLT];refine iF 10 1 (by simp only[wq.1,↓reduceIte]) ?_;refine vn ?_;simp only[wq.1,seval];refine aA (λm f h=>∃i,m+i=aa b/\f.t 2=vi q/\f.t 3= .lp 0 0/\f.t 6= .lp 1 0/\f.t 9= .lp 2 0/\f.t 10= .ls 5 1 0 i i/\f.t 30=az b/\f.t 31=vi (aa b)/\f.t 32=vi i/\f.d=[]/\h=hU5 g ((b.take i).foldl ru (1,[])).1 [1] ((b.take i).foldl ru (1,[])).2) (aa b) ⟨0,by omega,by simp only[wq.1,seval],by simp only[wq.1,seval],by simp only[wq.1,seval],by simp only[wq.1,seval],by simp only[wq.1,seval],by simp only[wq.1,seval],by simp only[wq.1,seval],rfl,by simp only[wq.1],rfl⟩ ?_;rintro m f h ⟨i,hm,t2,t3,t6,t9,t10,t30,t31,t32,hd,rfl⟩;refine vn ?_;simp only[wq.1,Nat.reduceLT,t31,t32];refine ak (aX (b:=aM ((i:Int)<aa b)) (by simp only[wq.1,↓reduceIte]) (by simp only[wq.1,↓reduceIte]) (λhlt=> ?_) (λhlt=> ?_))
  ·simp only[zqb,zqi]at hlt;have hw:=ax (show i<maxLen by omega);have hgn:(b.map vi).getD i .any=vi b[i]:=sU hlt _;have hbi:=hb2 _ (zqu hlt);have hnx:(b.take (i+1)).foldl ru (1,[])=ru ((b.take i).foldl ru (1,[])) b[i]:=by
    rw[zrg,zqk hlt,List.foldl_append];rfl
   have hbo:=zF (b.take i) (1,[]) (λx hx=>hb2 x (zsh hx)) (zrb _) (λa ha=>by cases ha);obtain⟨s,hsd⟩:∃s,s=(b.take i).foldl ru (1,[]):=⟨_,rfl⟩;rw[<-hsd]at hnx hbo ⊢;obtain⟨s1,s2⟩:=s;obtain⟨o1,o2,o3,o4⟩:=hbo;have o4:aa s2=i:=by rw[o4];simp;omega
   have o2:s1<=1+i:=by
    have:aa (b.take i)=i:=by simp;omega
    simp only at o2;omega
   refine vm ?_;simp only[wq.1];refine vm ?_;have w1:a5 .i64 (2*b[i])=2*b[i]:=fM (by omega) (by omega);have w2:a5 .i64 (2*b[i]-1)=2*b[i]-1:=fM (by omega) (by omega);simp only[wq.1,seval,t30,t32,hgn,w1,w2];have hcl2:aa (s2.map vi)=i*1:=by rw[zra];omega
   have dcs:∀p,aE p (s2.map vi)=s2.map vi:=λp=>aN _;refine⟨⟨by omega,by omega⟩,?_⟩;refine vcB.mk (λh2=> ?_) (λh2=> ?_)
   ·have h2:b[i]=2:=by simpa using h2
    simp only[wq.1,seval,t9];refine oU (b:=2) (g:=g) (n:=s1) (cv:= .ls 3 1 0 1 1) (lv:= .ls 4 1 0 0 0) (rv:= .nils) rfl (by omega) ?_;simp only[wq.1,↓reduceIte,Nat.reduceEqDiff,Nat.reduceLT,Nat.reduceBEq,reduceCtorEq,Nat.reduceMul,t10,t32,hd,dcs,hw];refine⟨⟨rfl,by decide⟩,⟨by omega,by omega,by omega⟩,.inl ⟨m-1,by omega,i+1,by omega,by simp only[wq.1,seval,aG,Tryz.results35,t2],by simp only[wq.1,seval,aG,Tryz.results35,t3],by simp only[wq.1,seval,aG,Tryz.results35,t6],by simp only[wq.1,seval,aG,Tryz.results35,t9],by simp only[wq.1,seval,aG,Tryz.results35],by simp only[wq.1,seval,aG,Tryz.results35,t30],by simp only[wq.1,seval,aG,Tryz.results35,t31],by simp only[wq.1,seval,aG,Tryz.results35],by simp only[wq.1,seval,aG,Tryz.results35,hd],?_⟩⟩;rw[hnx];simp only[hU5,ru,if_pos h2,zql];rfl
   ·have h2:b[i]≠2:=by simpa using h2
    simp only[wq.1,↓reduceIte,Nat.reduceEqDiff,Nat.reduceLT,Nat.reduceBEq,reduceCtorEq,Nat.reduceMul,t10,t32,hd,dcs,hw];refine⟨⟨rfl,by decide⟩,⟨by omega,by omega,by omega⟩,.inl ⟨m-1,by omega,i+1,by omega,by simp only[wq.1,seval,aG,Tryz.results35,t2],by simp only[wq.1,seval,aG,Tryz.results35,t3],by simp only[wq.1,seval,aG,Tryz.results35,t6],by simp only[wq.1,seval,aG,Tryz.results35,t9],by simp only[wq.1,seval,aG,Tryz.results35],by simp only[wq.1,seval,aG,Tryz.results35,t30],by simp only[wq.1,seval,aG,Tryz.results35,t31],by simp only[wq.1,seval,aG,Tryz.results35],by simp only[wq.1,seval,aG,Tryz.results35,hd],?_⟩⟩;rw[hnx];simp only[hU5,ru,if_neg h2,zql];rfl
  ·simp only[zqd,zqi]at hlt;have:i=aa b:=by omega
   subst this;have hbo:=zF b (1,[]) hb2 (zrb _) (λa ha=>by cases ha);rw[zrx];obtain⟨o1,o2,o3,o4⟩:=hbo;obtain⟨lat,hlat⟩:∃lat,lat=(b.foldl ru (1,[])).2:=⟨_,rfl⟩;obtain⟨n0,hn0⟩:∃n0,n0=(b.foldl ru (1,[])).1:=⟨_,rfl⟩;rw[<-hlat,<-hn0]at o3;rw[<-hlat]at o4;rw[<-hn0]at o1 o2;rw[<-hlat,<-hn0];have o4:aa lat=aa b:=by rw[o4];simp
   rw[<-o4]at t10;refine vm ?_;simp only[wq.1];refine vm ?_;simp only[wq.1,seval,t9,t10];refine wY (b:=2) (q:=5) (n:=n0) (g:=g) (cv:= .ls 3 1 0 1 1) (lv:= .ls 4 1 0 0 0) (rv:= .nils) (lat:=lat) rfl rfl (λj o ho=> ?_) i0 (by omega) (by omega) (by decide) ?_
   ·rcases j with _|_|_|_|_|_|j
    all_goals first
     |(obtain rfl:=Option.some.inj ho;rfl)
     |(obtain rfl:=Option.some.inj ho;show aw (aE _ _)=_;rw[aN])
     |(simp at ho)
   simp only[wq.1,seval,bC,t2,hd];have hnb:n0+q*(g.ins.toNat+aa g.ands)<=20000:=by
    have e:=P5 b (1,[]) (q*(g.ins+aa g.ands)) hb2;have e2:YA g q b=b.foldl (λn b=>n+b/2) (((1:Nat):Int)+q*(g.ins+aa g.ands)):=rfl;rw[e2,e,<-hn0]at hnu;have e3:((q*(g.ins.toNat+aa g.ands):Nat):Int)=q*(g.ins+aa g.ands):=by rw[Int.natCast_mul,Int.natCast_add,Int.toNat_of_nonneg i0]
    omega
   have hB0:BH g 6 (hU6 g n0 lat) 2 3 4 (cO g b 0).n (cO g b 0).cl [] 6 (vW g (cO g b 0).lat) (hU6 g n0 lat):=by
    have e1 : (cO g b 0).n = n0 := hn0.symm;have e2 : (cO g b 0).lat = lat := hlat.symm;rw [e1,e2];exact {
     hb:=rfl
     hC:=rfl
     hL:=rfl
     hr:=rfl
     hrs:=λp hp=>by cases hp
     n1:=by decide
     n2:=by decide
     n3:=by decide
     bk:=by decide
     Ck:=by decide
     Lk:=by decide
     rk:=by decide
     pl:=λj o ho j1 j2 D=>by
      rcases j with _|_|_|_|_|_|_|j
      all_goals first
       |exact absurd rfl j1
       |exact absurd rfl j2
       |(obtain rfl:=Option.some.inj ho;rfl)
       |(obtain rfl:=Option.some.inj ho;show aw (aE _ _)=_;rw[aN])
       |(simp at ho)
     bs:=λ_ _ _ _ _=>rfl}
   refine aA (λm f h=>∃(i r:Nat)(rs:List (Nat×Cl)),m+i=q/\BH g 6 (hU6 g n0 lat) 2 3 4 (cO g b i).n (cO g b i).cl rs r (vW g (cO g b i).lat) h/\rs.map (·.2)=(cO g b i).rows/\f.t 3= .lp 0 0/\f.t 6= .lp 1 0/\f.t 9= .lp 2 0/\f.t 51=vi q/\f.t 52=vi i/\f.d=[]) q ⟨0,6,[],by omega,hB0,rfl,by simp only[wq.1,seval,t3],by simp only[wq.1,seval,t6],by simp only[wq.1,seval,t9],by simp only[wq.1,seval],rfl,by simp only[wq.1,hd]⟩ ?_;clear t2 t3 t6 t9 t10 t30 t31 t32 hd hm f;rintro m f h ⟨i,r,rs,hm,hB,hrs,t3,t6,t9,t51,t52,hd⟩;have hrl:aa rs=i:=by rw[<-oW (g:=g) (b:=b) i,<-hrs,zra]
   have hni:=We (g:=g) (b:=b) i;have hci:=P6 (g:=g) (b:=b) i;have hmul:i*(g.ins.toNat+aa g.ands)<=q*(g.ins.toNat+aa g.ands):=Nat.mul_le_mul_right _ (by omega);have hmul2:i*aa g.ands<=i*(g.ins.toNat+aa g.ands):=Nat.mul_le_mul_left _ (by omega);have hb0:(vT b).1=n0:=hn0.symm;rw[hb0]at hni;refine vn ?_;simp only[wq.1,Nat.reduceLT,t51,t52];refine ak (aX (b:=aM ((i:Int)<q)) (by simp only[wq.1,↓reduceIte]) (by simp only[wq.1,↓reduceIte]) (λhlt=> ?_) (λhlt=> ?_))
   ·simp only[zqb,zqi]at hlt;have hw:=ax (show i<maxLen by omega);refine vm ?_;simp only[wq.1];refine vm ?_;simp only[wq.1,seval,t9];refine ML hg hB (wW hg hbl hb2 i) (by omega) (by omega) (by omega) (λh' r' hB'=> ?_);simp only[wq.1,seval,bC,t52,hd,hw];refine .inl ⟨m-1,by omega,i+1,r',_,by omega,hB',?_,by simp only[wq.1,seval,t3],by simp only[wq.1,seval,t6],by simp only[wq.1,seval,t9],by simp only[wq.1,seval,t51],by simp only[wq.1,↓reduceIte],by simp only[wq.1,hd]⟩;rw[zql,hrs];rfl
   ·simp only[zqd,zqi]at hlt;have:i=q:=by omega
    subst this;refine vm ?_;simp only[wq.1];show awp _ _ _ _ _ _ _;have hti:ti TE.P 22=ar ⟨.slice 3,1,24,.nils⟩:=by simp only[wq.1]
    have htn:ti TE.P 3=ar ⟨.int .i64,1,8,.int .i64 0⟩:=by simp only[wq.1]
    have hrk:=hB.rk;have e2r:(2==r)=am:=by simp;omega
    have e4r:(4==r)=am:=by simp;omega
    have e3r:(3==r)=am:=by simp;omega
    have hll:=(wW hg hbl hb2 i).l;obtain⟨row,hrow⟩:∃row,row=vW g (cO g b i).lat:=⟨_,rfl⟩;have hrl2:aa row=1+g.ins.toNat+aa g.next:=by rw[hrow];unfold vW;simp;omega
    rw[<-hrow]at hB;have hbl2:=(zqe hB.hb).1;have hLl:=(zqe hB.hL).1;have hrl3:=(zqe hB.hr).1;obtain⟨H1,hH1⟩:∃H1,(h.map (O.drop λx=>x==r)).set r (aw (aE (λx=>x==r) (row.map vi++aD (aa g.ands) (vi 0))))=H1:=⟨_,rfl⟩;have H1b:H1[2]? =ar (aw [vi (cO g b i).n,.ls 3 1 0 (cO g b i).cl.length (cO g b i).cl.length,.ls 4 1 0 (aa rs) (aa rs),vi g.ins,az g.next,az g.init,prs g.ands,az g.outs,.any]):=by
     rw[<-hH1,zqn (by omega),zqo,hB.hb];simp only[zrw,bU,O.drop,aE,V.drop,beq_self_eq_true,if_true,e3r,e4r,zrm,if_false]
    have H1L:H1[4]? =ar (aw (rs.map λp=> .ls p.1 1 0 (aa p.2) (aa p.2))):=by rw[<-hH1,zqn (by omega),zqo,hB.hL];show ar (aw (aE _ _))=_;rw[vX λp hp=>by have:=(hB.hrs p hp).2.2;simpa using this]
    have r4:(r==4)=am:=by simp;omega
    have e1r:(1==r)=am:=by simp;omega
    have hv4:aE (λx=>x==4) (rs.map λp=>V.ls p.1 1 0 (aa p.2) (aa p.2))=rs.map λp=>V.ls p.1 1 0 (aa p.2) (aa p.2):=vX λp hp=>by have:=(hB.hrs p hp).2.1;simp;omega
    have H1l:aa H1=aa h:=by rw[<-hH1];simp
    obtain⟨H2,hH2⟩:∃H2,(H1.map (O.drop λx=>x==4)).set 4 (aw ((rs.map λp=>V.ls p.1 1 0 (aa p.2) (aa p.2))++[.ls r 1 0 (aa row+aa g.ands) (aa row+aa g.ands)]))=H2:=⟨_,rfl⟩;have H2b:H2[2]? =ar (aw [vi (cO g b i).n,.ls 3 1 0 (cO g b i).cl.length (cO g b i).cl.length,.any,vi g.ins,az g.next,az g.init,prs g.ands,az g.outs,.any]):=by rw[<-hH2,zqn (by omega),zqo,H1b];rfl
    refine OZ dV 13 P7 (λf' h'=>f'.t 6= .lp 1 0/\f'.t 9= .lp 2 0/\f'.d=[]/\h'=H2.set 2 (aw [vi (cO g b i).n,.ls 3 1 0 (cO g b i).cl.length (cO g b i).cl.length,.ls 4 1 0 (aa rs+1) (aa rs+1),vi g.ins,az g.next,az g.init,prs g.ands,az g.outs,.any])) (by decide +kernel) (by decide +kernel) ?_ ?_
    ·intro K hK;have h00:h[0]? =ar (aw [vi g.ins,az g.next,az g.init,prs g.ands,az g.outs]):=hB.bs 0 (by decide) (by decide) (by decide) (by decide);simp only[wq.1,seval,P7,qc,OY,t3,t9,hB.hb,h00]
     repeat' apply zsa
     all_goals refine SI (d:=70) rfl rfl rfl rfl (λr' o ho hod=> ?_)
     all_goals refine o8 (x:= .tmp 66) (y:= .tmp 69) (t:=22) (xt:=3) (el:=3) (by subst ho;exact⟨⟨_,rfl,rfl,rfl⟩,hti,rfl,htn,rfl,rfl,Nat.zero_lt_one⟩) (by simp only[wq.1,seval]) (by simp only[wq.1,seval]) (id:=r) (len:=aa row) (cap:=aa row) (by simp only[wq.1,seval]) hB.hr (by show aa (row.map vi)=aa row*1;simp) (m:=aa g.ands) (by simp only[wq.1,seval]) htn rfl (by omega) rfl (zv:=vi 0) rfl (cs:=aD (aa g.ands) (vi 0)) rfl (by rw[<-List.map_replicate (f:=vi)];exact qg _) (by omega) (by show(aa row+aa g.ands)*8<=_;omega) (by simp only[wq.1,seval,aG,Tryz.results35,hd]) (hK _ _ _ ?_)
     all_goals rw[hH1,hod]
     all_goals simp only[wq.1,↓reduceIte,Nat.reduceEqDiff,Nat.reduceLT,Nat.reduceLeDiff,Nat.reduceAdd,Nat.reduceSub,Int.reduceToNat,Nat.reduceDiv,Int.reduceLT,Int.reduceLE,Int.reduceNeg,Int.reduceBEq,Int.reduceBNe,Int.reduceAdd,Int.reduceSub,Nat.reduceBEq,reduceCtorEq,Nat.reduceMul,aG,Tryz.results35,t3,t6,t9,t51,t52,hd,H1b,H1L,e2r,e4r,r4,e1r,hv4,hH2,H2b]
     all_goals exact⟨⟨rfl,by decide⟩,by omega,by omega,by omega⟩
    ·rintro f h' ⟨t6,t9,hd,rfl⟩;have H2l:aa H2=aa H1:=by rw[<-hH2];simp
     have h1l:1<aa h:=by omega
     obtain⟨H3,hH3⟩:∃H3,H2.set 2 (aw [vi (cO g b i).n,.ls 3 1 0 (cO g b i).cl.length (cO g b i).cl.length,.ls 4 1 0 (aa rs+1) (aa rs+1),vi g.ins,az g.next,az g.init,prs g.ands,az g.outs,.any])=H3:=⟨_,rfl⟩;have H3l:aa H3=aa h:=by rw[<-hH3];simp;omega
     have H3b:H3[2]? =ar (aw [vi (cO g b i).n,.ls 3 1 0 (cO g b i).cl.length (cO g b i).cl.length,.ls 4 1 0 (aa rs+1) (aa rs+1),vi g.ins,az g.next,az g.init,prs g.ands,az g.outs,.any]):=by rw[<-hH3,zqt (by omega)]
     have go:∀(j:Nat)(cs:List V),j≠2->j≠4->j≠r->h[j]? =ar (aw cs)->(∀D,aE D cs=cs)->H3[j]? =ar (aw cs):=λj cs j2 j4 jr hj hD=>by rw[<-hH3,zqn (Ne.symm j2),<-hH2,zqn (Ne.symm j4),zqo,<-hH1,zqn (Ne.symm jr),zqo,hj];show ar (aw (aE _ (aE _ cs)))=_;rw[hD,hD]
     have H31:H3[1]? =ar (aw [vi 0,.nils,.nils]):=go 1 _ (by decide) (by decide) (by omega) (hB.bs 1 (by decide) (by decide) (by decide) (by decide)) (λD=>rfl);have H33:H3[3]? =ar (aw ((cO g b i).cl.map xC)):=go 3 _ (by decide) (by decide) (by omega) hB.hC (λD=>uC _);have H34:H3[4]? =ar (aw ((rs.map λp=>V.ls p.1 1 0 (aa p.2) (aa p.2))++[.ls r 1 0 (aa row+aa g.ands) (aa row+aa g.ands)])):=by rw[<-hH3,zqn (by decide),<-hH2,zqt (by simp;omega)]
     have H3r:H3[r]? =ar (aw ((row++aD (aa g.ands) 0).map vi)):=by rw[<-hH3,zqn (by omega),<-hH2,zqn (by omega),zqo,<-hH1,zqt (by simpa using hrl3)];show ar (aw (aE _ (aE _ _)))=_;rw[<-List.map_replicate (f:=vi),<-zql,aN,aN]
     have H3p:∀p∈rs,H3[p.1]? =ar (aw (p.2.map vi)):=λp hp=>by obtain⟨p1,p2,p3⟩:=hB.hrs p hp;exact go p.1 _ (by omega) (by omega) p3 p1 (λD=>aN _)
     show vc _ _ _ _ _ _ _;simp only[wq.1,seval,t6,t9,hd,H3b,H31,hH3];obtain⟨Y,hY⟩:∃Y:O,aw [vi (cO g b i).n,V.ls 3 1 0 (cO g b i).cl.length (cO g b i).cl.length,V.ls 4 1 0 (aa rs+1) (aa rs+1)]=Y:=⟨_,rfl⟩;have H41:(H3.set 1 Y)[1]? =ar Y:=zqt (by omega);have H4o:∀j,j≠1->(H3.set 1 Y)[j]? =H3[j]? :=λj hj=>zqn (Ne.symm hj);rw[hY,H41,<-hY];rw[<-hY]at H4o;have hE:iy g b i=rs.map (·.2)++[row++aD (aa g.ands) 0]:=by unfold iy;rw[hrs,hrow]
     refine⟨zrb _,aH.tup (aj.cons (aH.agg (aj.cons (aH.dat rfl) (aj.cons ?_ (aj.cons ?_ aj.nil)))) (aj.cons (aH.dat rfl) aj.nil))⟩
     ·exact aH.ls ((H4o 3 (by decide)).trans H33) (JL _) (zI _).1 (zI _).2 (by simp)
     ·refine aH.ls ((H4o 4 (by decide)).trans H34) (cs':=(iy g b i).map λc=>az c) ?_ (zI _).1 (zI _).2 (by rw[hE];simp);rw[hE,zql,List.map_map];refine aj.append (JM _ λp hp=> ?_) (aj.cons (dG (l:=row++aD (aa g.ands) 0) (len:=aa row+aa g.ands) ?_ (by rw[zqa,zsc])) aj.nil) (by simp)
      ·exact(H4o _ (by have:=(hB.hrs p hp).2.1;omega)).trans (H3p p hp)
      ·exact(H4o _ (by omega)).trans H3r
theorem mx(a b:Int):yh [vi a,vi b]=(True,vi (max a b)):=by simp only[yh,Int.max_def];split<;>split<;>first|rfl|(congr 2;omega)
theorem mn(a b:Int):NI [vi a,vi b]=(True,vi (min a b)):=by simp only[NI,Int.min_def];split<;>split<;>first|rfl|(congr 2;omega)
theorem WV{c:Cl}:(az c).dat=ab:=by simp only[a6,jP]
end Go.Proofs.YthdidjjecjhenaaGreat
