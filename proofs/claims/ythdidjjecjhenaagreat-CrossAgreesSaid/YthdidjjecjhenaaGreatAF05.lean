/- Lemmas for this claim, part F05: each holds under what it names. -/
import Derived.Test.YthdidjjecjhenaaGreatAF04
set_option linter.all false
set_option maxRecDepth 20000
namespace Go.Proofs.YthdidjjecjhenaaGreat
open Go Go.Proofs Go.Abs
open List renaming length → aa, replicate → aD
open Bool renaming true → ab, false → am
open Option renaming some → ar, none → aL
open Decidable renaming decide → aM
open Go.IntKind renaming wrap → a5
open Go.Result renaming andThen → a8
open Go.Abs.O renaming cells → aw
open Go.Abs.V renaming drops → aE, dat → a6, dats → a7
section
variable{n:Nat}{bud:Int}{L:Lay}{S:St}{h:H}{a:Int}{j:Nat}{l d Lc:List Cl}
theorem Inv.wlen(i:Inv n l d Lc S)(a:Int):aa (S.wt a)<=S.nc:=gY (i.c.wnd a) λj hj=>(i.c.wts a j hj).1
theorem Inv.clen(i:Inv n l d Lc S)(hj:j<S.nc):aa (S.cl j)<=n+1:=by
 have:=gY (m:=n+1) (i.c.cnd j hj) λx hx=>by obtain⟨a,ha,rfl⟩:=zrh.1 hx;have:=(i.c.crg j hj a ha).2;omega
 rwa [zra]at this
theorem Inv.valb(i:Inv n l d Lc S){k:Nat}(h1:1<=k)(h2:k<=n):-1<=(S.v k).value/\(S.v k).value<=1:=by
 rw[i.t.val k h1 h2];unfold G6;split
 ·omega
 ·split<;>omega
variable{c:Cl}
theorem VN{S:St}{nt b:Int}{j:Nat}{F:List Nat}{c2:Cl}(hb:b≠nt):G7 (swS (iP S nt F) j c2) b j=iP (mvS (swS S j c) j nt b c2) nt F:=by
 have e1:upd (upd S.cl j c) j c2=upd S.cl j c2:=funext λq=>by
  by_cases he:q=j
  ·subst he;rw[bD,bD]
  ·rw[bM he,bM he,bM he]
 have e2:(λx=>if x=b then(if b=nt then F else S.wt b)++[j]else if x=nt then F else S.wt x)=λx=>if x=nt then F else if x=nt then(S.wt nt).erase j else if x=b then S.wt b++[j]else S.wt x:=funext λx=>by
  by_cases hx:x=nt
  ·subst hx;rw[if_neg (Ne.symm hb),if_pos rfl,if_pos rfl]
  ·rw[if_neg hb,if_neg hx,if_neg hx,if_neg hx]
 show {S with cl:=upd S.cl j c2,wt:=λx=>if x=b then(if b=nt then F else S.wt b)++[j]else if x=nt then F else S.wt x}={S with cl:=upd (upd S.cl j c) j c2,wt:=λx=>if x=nt then F else if x=nt then(S.wt nt).erase j else if x=b then S.wt b++[j]else S.wt x};rw[e1,e2]
theorem vO(f:Nat->V){F:List Nat}{k j:Nat}(h:k<aa F):List.take (k*1) (F.map f)++[f j]++List.drop (k*1+1) (F.map f)=(F.set k j).map f:=by rw[Nat.mul_one,oP (by simpa using h),List.map_set]
theorem HS.nextH(hs:HS n bud L S h):HS n bud L (Ic S) (h.set L.s (aw (ay n bud L (Ic S)))) :=
 ⟨have k := hs.toHR.setS (aw (ay n bud L (Ic S)))
  ⟨k.var,k.map,k.trl,k.lvl,k.nxl,k.lnl,k.lnk,k.cla,k.wat,k.fre,k.fwt,k.rs,k.rv,k.rm,k.rt,k.rl,k.rx,k.rg,k.rlt,k.ext⟩,zqt (hs.rlt _ _ hs.rs)⟩
theorem Fh(L:Lay)(S:St):∀F:List Nat,dD (F.map (clV L S))=ab
 |[]=>rfl
 |_::F=>by show(ab&&dD (F.map (clV L S)))=ab;rw[Fh L S F];rfl
def Ii:Plan:=tkZ [0,1,2,4,5,6,7,8,9]<| .alt 3 (.one 10<| .one 11<| .fin) (.one 10 (.one 3<| .one 11<| .fin))
def Dr(L:Lay)(p:Nat->Bool):Prop:=∀q,p q=ab->(∃a,L.ro q=ar (.w a))\/q=L.t
theorem Me(hs:HS n bud L S h)(hn:n<=20000)(hnc:S.nc<=21000000000)(i0:Inv n l d Lc S){R:AEnd->H->(Nat->Bool)->Prop}
 (r1:∀S' L' h' p,Inv n l d Lc S'->Pr S S'->S'.hd=aa S'.tr->LX S.nc L L'->HS n bud L' S' h'->aa h<=aa h'->Dr L' p->R (.ret .nils) h' p)
 (r2:∀S' L' h' p j,Inv n l d Lc S'->Pr S S'->j<S'.nc->(∀a∈S'.cl j,-a∈S'.tr)->(∃b∈S'.cl j,gG S' b=aa S'.lv)->LX S.nc L L'->HS n bud L' S' h'->aa h<=aa h'->Dr L' p->R (.ret (clV L' S' j)) h' p) :
 ag TE 100 [.lp L.s 0] h R:=by
 have hM := mLx;refine vz ?_;refine ah Tryz.func100 rfl (by simp [nts]) (vm ?_);simp only [wq.1,Nat.reduceLT,Tryz.results100];refine aA (λm f h' => ∃ S' L',m = n - S'.hd /\ f.t 0 = .lp L.s 0 /\ f.d = [] /\ Dr L' f.k /\ Inv n l d Lc S' /\ Pr S S' /\ LX S.nc L L' /\ HS n bud L' S' h' /\ aa h <= aa h') (n - S.hd)
  ⟨S,L,rfl,rfl,by simp only[wq.1];try rfl,(λq hq=>absurd hq Bool.false_ne_true),i0,Pr.refl S,LX.refl _ L,hs,zrb _⟩ ?_
 rintro m f h1 ⟨S1,L1,hm,g0,gd,gk,i1,pr1,lx1,hs1,hl1⟩;have hsol:=hs1.sol;rw[lx1.s]at hsol;have htl:=i1.t.len;have htrl:=hs1.trl;by_cases hd:S1.hd<aa S1.tr
 ·have eb:aM ((S1.hd:Int)<(aa S1.tr:Int))=ab:=by rw[zqb];omega
  obtain⟨nt,ent⟩:∃nt,nt=-S1.tr[S1.hd]:=⟨_,rfl⟩;have hab:=(i1.t.rng _ (zqu hd)).2;have hnt:a5 .i64 (0-S1.tr[S1.hd])=nt:=by rw[aV (by omega) (by omega)];omega
  have hg:(S1.tr.map vi).getD (S1.hd*1) .any=vi S1.tr[S1.hd]:=by rw[Nat.mul_one];simp[zqg,hd]
  obtain⟨ks,hm1,hm2,hm3⟩:=hs1.mapv;have hget:=xJ (ks:=ks) (f:=mwV L1 S1) (zero:=V.nils) nt λhn=>by unfold mwV;rw[(hm3 nt hn).1];rfl
  have p0:PI n l d Lc S1 nt [] (S1.wt nt):=by rw[ent];exact PI.start i1 hd
  have hwl:=i1.wlen nt;rw[pr1.nc]at hwl;cases hw:L1.w nt with
  |none =>
   have hwt:S1.wt nt=[]:=by have:=hs1.wat nt;unfold iG at this;rw[hw]at this;simpa using this
   have hnil:mwV L1 S1 nt= .nils:=by unfold mwV;rw[hw];rfl
   rw[hnil]at hget;refine vn ?_;simp only[wq.1,seval,g0,hsol,ay,eb];refine⟨by decide +kernel,?_⟩;refine ak (aB ?_);refine vn ?_;simp only[wq.1,seval,g0,hsol,ay,htrl,hg,hnt];refine⟨by decide +kernel,⟨by omega,by omega⟩,by omega,?_⟩;refine vn ?_;simp only[wq.1,seval,g0,hsol,ay,hm1,hget];obtain⟨ks2,hp1,hp2,hp3,hp4⟩:=mD hm2 (mwV L1 S1) nt (.ls (aa h1) 1 0 0 0);have hW:=hs1.wopen hw hp2 hp3 λb hb=>hm3 b λhb2=>hb (hp4 b hb2);have hls:=hs1.rlt _ _ hs1.rs;have hlm:=hs1.rlt _ _ hs1.rm;rw[lx1.s]at hls;have en1:(h1++[aw []])[L.s]? =ar (aw (ay n bud L1 S1)):=by rw[zqj hls];exact hsol
   have en2:(h1++[aw []])[L1.m]? =ar (.map (ks.map vi) (ks.map (mwV L1 S1))):=by rw[zqj hlm];exact hm1
   have hms:L1.m≠L.s:=by rw[<-lx1.s];exact bW L1 hs1.rm hs1.rs (by simp)
   have en3:∀q:O,(List.set (h1++[aw []]) L1.m q)[L.s]? =ar (aw (ay n bud L1 S1)):=λq=>by rw[zqn hms];exact en1
   refine gz (wL (FLe.one (v := .ls (aa h1) 1 0 0 0) 4 (by simp only [wq.1,seval,aG,Tryz.results100];exact dH)) (HLe.refl _) ?_);refine vm ?_;simp only [wq.1,seval,-Int.reduceNatCast,-Int.reduceNatCast',aG,Tryz.results100,g0,gd];refine ⟨.inl (Int.le_refl _),?_⟩;refine aA (λm f h' => f.t 0 = .lp L.s 0 /\ f.t 3 = vi nt /\ f.t 5 = .ls (aa h1) 1 0 0 0 /\ f.t 47 = vi 0 /\ f.t 48 = vi 0 /\ f.d = [] /\ Dr L1 f.k /\ h' = h1 ++ [aw []]) 0
    ⟨g0,rfl,rfl,rfl,rfl,(rfl),gk,rfl⟩ ?_
   rintro m2 f2 h2 ⟨e0,e3,e5,e47,e48,ed,ek,rfl⟩;refine vm ?_;have eb2:aM ((0:Int)<0)=am:=rfl;simp only[wq.1,seval,e0,e3,e5,e47,e48,en1,ay,en2,hp1];have hwd:a5 .i64 ((S1.hd:Int)+1)=((S1.hd+1:Nat):Int):=by rw[aV (by omega) (by omega)];omega
   have hN:=hW.nextH;rw[show(AP L1 nt (aa h1)).s=L.s from lx1.s]at hN;have hlsX:L.s<aa (h1++[aw []]):=by rw[zqa];omega
   refine vm ?_;simp only[wq.1,seval,e0,en3,ay,hwd];refine .inl ⟨n-(S1.hd+1),by omega,Ic S1,AP L1 nt (aa h1),rfl,e0,ed,λq hq=> ?_,PI.done (K:=[]) (by rw[hwt]at p0;exact p0),pr1.trans ⟨rfl,rfl,rfl,rfl⟩,lx1.trans (oQ (.inl ⟨Po hs1,hw⟩)),hN,by simp;omega⟩;rcases ek q hq with⟨b,hb⟩|hb
   ·exact .inl ⟨b,(oQ (m:=0) (.inl ⟨Po hs1,hw⟩)).ro _ _ hb⟩
   ·exact .inr hb
  |some id =>
   obtain⟨W,eW⟩:∃W,W=S1.wt nt:=⟨_,rfl⟩;rw[<-eW]at p0 hwl;have hv1:mwV L1 S1 nt= .ls id 1 0 (aa W) (aa W):=by unfold mwV;rw[hw,eW];rfl
   rw[hv1]at hget;refine vn ?_;simp only[wq.1,seval,g0,hsol,ay,eb];refine⟨by decide +kernel,?_⟩;refine ak (aB ?_);refine vm ?_;simp only[wq.1,seval,g0,hsol,ay,htrl,hg,hnt,hm1,hget];refine⟨by decide +kernel,⟨by omega,by omega⟩,by omega,by omega,?_⟩;refine aA (λm f' h'=>∃(S2:St)(L2:Lay)(K:List Nat)(i:Nat),m=aa W-i/\i<=aa W/\aa K<=i/\f'.t 0= .lp L.s 0/\f'.t 3=vi nt/\f'.t 4= .ls id 1 0 (aa W) (aa W)/\f'.t 5= .ls id 1 0 (aa K) (aa W)/\f'.t 46= .ls id 1 0 (aa W) (aa W)/\f'.t 47=vi (aa W)/\f'.t 48=vi i/\f'.d=[]/\Dr L2 f'.k /\
    PI n l d Lc S2 nt K (W.drop i)/\Pr S1 S2/\S2.hd=S1.hd/\LX S.nc L1 L2/\HS n bud L2 (iP S2 nt (K++W.drop (aa K))) h'/\aa h1<=aa h') (aa W)
    ⟨S1,L1,[],0,rfl,Nat.zero_le _,zrb _,g0,rfl,rfl,by simp only[wq.1,seval];try rfl,rfl,by simp only[wq.1,seval];try rfl,by simp only[wq.1,↓reduceIte];try rfl,gd,gk,p0,Pr.refl _,rfl,LX.refl _ _,by rw[List.nil_append,List.length_nil,List.drop_zero,eW,lT];exact hs1,zrb _⟩ ?_
   rintro m2 f2 h2 ⟨S2,L2,K,i,hm2',hiW,hKi,e0,e3,e4,e5,e46,e47,e48,ed,ek,p2,pr2,hdq,lx2,hs2,hl2⟩;obtain⟨F,eF⟩:∃F,F=K++W.drop (aa K):=⟨_,rfl⟩;rw[<-eF]at hs2;have hFl:aa F=aa W:=by rw[eF,zqa,List.length_drop];omega
   have hw2:=lx2.w _ _ hw;have hrow:=hs2.wat nt;unfold iG at hrow;rw[hw2,show(iP S2 nt F).wt nt=F from if_pos rfl]at hrow;obtain⟨hrow,hro⟩:=hrow;have lx12:=lx1.trans lx2;by_cases hi:i<aa W
   ·have eb2:aM ((i:Int)<(aa W:Int))=ab:=by rw[zqb];omega
    obtain⟨j,ej⟩:∃j,j=W[i]:=⟨_,rfl⟩;have edr:W.drop i=j::W.drop (i+1):=by rw[ej];exact List.drop_eq_getElem_cons hi
    rw[edr]at p2;obtain⟨hj,_⟩:=p2.mem;obtain⟨u,r,hcl,p3⟩:=p2.shape;have hcu:(swS S2 j (u::nt::r)).cl j=u::nt::r:=bD _ _ _;have hFi:F[i]? =ar j:=by
     rw[eF,zsb hKi,List.getElem?_drop,show aa K+(i-aa K)=i by omega,zqk hi,ej]
    have hgF:(F.map (clV L2 (iP S2 nt F))).getD (i*1) .any= .ls (L2.c j) 1 0 (aa (S2.cl j)) (aa (S2.cl j)):=by rw[Nat.mul_one,zqg,zqo,hFi];rfl
    have hFm:aa (F.map (clV L2 (iP S2 nt F)))=aa W:=by rw[zra];exact hFl
    have hnc2:S2.nc<=21000000000:=by rw[pr2.nc,pr1.nc];exact hnc
    have hcn:=p2.i.clen hj;have htl2:=p2.i.t.len;have hid1:∀p:Nat->Bool,(∀q,p q=ab->q=L2.t)->p id=am/\p L.s=am/\p (L2.c j)=am:=λp hp=>by
     refine⟨?_,?_,?_⟩
     ·cases e:p id with
      |false=>rfl
      |true=>exact absurd (hp _ e) (bW L2 hro hs2.rt (by simp))
     ·cases e:p L.s with
      |false=>rfl
      |true=>exact absurd (hp _ e) (by rw[<-lx12.s];exact bW L2 hs2.rs hs2.rt (by simp))
     ·cases e:p (L2.c j)with
      |false=>rfl
      |true=>exact absurd (hp _ e) (bW L2 (hs2.cla j hj).2 hs2.rt (by simp))
    have hws:a5 .i64 ((i:Int)+1)=((i+1:Nat):Int):=by rw[aV (by omega) (by omega)];omega
    refine vm ?_;simp only[wq.1,seval,e0,e3,e46,e47,e48,eb2,hrow,hgF];refine⟨by omega,by omega,?_⟩;have hA:∀K vs,ag TE 119 (.lp L2.s 0::vs) h2 K->ag TE 119 (.lp L.s 0::vs) h2 K:=λK vs hk=>by rw[<-lx12.s];exact hk
    have hKF:aa K<aa F:=by omega
    obtain⟨hu0,hun⟩:=p2.i.c.crg j hj u ((uw nt _ _).1 (by rw[hcl];simp));have eK:F.set (aa K) j=(K++[j])++W.drop (aa (K++[j])):=by rw[eF,List.set_append_right _ _ (zrb _),Nat.sub_self,List.drop_eq_getElem_cons (by omega:aa K<aa W),List.set_cons_zero,zqa];simp
    have hcr:∀q∈F.set (aa K) j,q<S2.nc:=λq hq=>by
     rcases List.mem_or_eq_of_mem_set hq with hq|rfl
     ·exact hs2.fwt nt q (by rw[show(iP S2 nt F).wt nt=F from if_pos rfl];exact hq)
     ·exact hj
    have hone:∀id k len,dD [V.ls id 1 0 k len]=ab:=λ_ _ _=>rfl;have hdec:aM (aa K<aa W)=ab:=by rw[zqb];omega
    refine hA _ _ (Ih hs2 hn hj hcl (p2.i.c.c2 j hj) (by show aa (S2.cl j)<=_;omega) (p2.i.c.crg j hj) (λk h1 h2=>p2.i.valb h1 h2) (λa=> ?_) (by show aa S2.tr<=_;omega) (λh3 hu hs3 hl3=> ?_) (λL3 h3 p k hk hb hbef hnu lx3 hs3 hl3 hp=> ?_) (λh3 hu hall hs3 hl3=> ?_) (λh3 p hu hall hs3 hl3 hp=> ?_))
    ·show aa (if a=nt then F else S2.wt a)<=30000000000;have:=p2.i.wlen a;split<;>omega
    ·have hu:0<mY S2 u:=hu;obtain⟨S3,eS3⟩:∃S3,S3=swS S2 j (u::nt::r):=⟨_,rfl⟩;have hs3:HS n bud L2 (iP S3 nt F) h3:=by rw[eS3];exact hs3
     have p4:PI n l d Lc S3 nt (K++[j]) (W.drop (i+1)):=by rw[eS3];exact p3.stay hcu ((p2.i.t.lval_pos hu0 hun).1 hu)
     have q3:Pr S2 S3:=by rw[eS3];exact⟨rfl,rfl,rfl,rfl⟩
     have hlen3:aa (S3.cl j)=aa (S2.cl j):=by rw[eS3,hcu,<-hcl,xK]
     have hrow3:h3[id]? =ar (aw (F.map (clV L2 (iP S3 nt F)))):=by have:=hs3.wat nt;unfold iG at this;rw[hw2,show(iP S3 nt F).wt nt=F from if_pos rfl]at this;exact this.1
     have hFm3:aa (F.map (clV L2 (iP S3 nt F)))=aa W:=by rw[zra];exact hFl
     have hsp:List.take (aa K*1) (F.map (clV L2 (iP S3 nt F)))++[.ls (L2.c j) 1 0 (aa (S2.cl j)) (aa (S2.cl j))]++List.drop (aa K*1+1) (F.map (clV L2 (iP S3 nt F)))=(F.set (aa K) j).map (clV L2 (iP S3 nt F)):=by have:=vO (clV L2 (iP S3 nt F)) (j:=j) hKF;rw[show clV L2 (iP S3 nt F) j= .ls (L2.c j) 1 0 (aa (S2.cl j)) (aa (S2.cl j)) by show V.ls (L2.c j) 1 0 (aa (S3.cl j)) (aa (S3.cl j))=_;rw[hlen3]]at this;exact this
     have hW3:=hs3.wover hw2 (F:=F.set (aa K) j) (by rw[show(iP S3 nt F).nc=S2.nc from q3.nc];exact hcr) (by rw[show(iP S3 nt F).wt nt=F from if_pos rfl,zrn]);rw[nS,eK]at hW3;rw[eK]at hsp;simp only[wq.1,↓reduceIte,Nat.reduceEqDiff,Nat.reduceLT,Nat.reduceAdd,reduceCtorEq,Nat.reduceMul,e5,e48,hrow3,hdec,hsp,hws];refine⟨⟨rfl,by decide⟩,⟨by omega,by omega,by omega⟩,.inl ⟨aa W-(i+1),by omega,S3,L2,K++[j],i+1,rfl,by omega,by simp;omega,e0,e3,e4,by simp only[wq.1,seval,aG,Tryz.results100,zqa,zrk],e46,e47,rfl,ed,ek,p4,pr2.trans q3,(by rw[eS3];exact hdq),lx2,(by simpa only[zql,zrd,List.map_nil,zqa,zrt,List.length_nil]using hW3),by simp;omega⟩⟩
    ·obtain⟨b,eb3⟩:∃b,b=r[k]:=⟨_,rfl⟩;have hnd:=p3.i.c.cnd j hj;rw[hcu,zrd,zrd,List.nodup_cons,List.nodup_cons]at hnd;have hbn:b≠nt:=λe=>hnd.2.1 (by rw[<-e,eb3];exact List.mem_map_of_mem (zqu hk));obtain⟨b0,bn⟩:=p2.i.c.crg j hj r[k] ((uw nt _ _).1 (by rw[hcl];simp[zqu]));have p4:=p3.move hcu hk (λhm=>hnu ((p2.i.t.lval_pos hu0 hun).2 hm)) ((p2.i.t.lval_nn b0 bn).1 hb);rw[<-eb3]at p4 hs3 hp;rw[VN (c:=u::nt::r) hbn]at hs3;obtain⟨S3,eS3⟩:∃S3,S3=mvS (swS S2 j (u::nt::r)) j nt b (u::b::r.set k nt):=⟨_,rfl⟩;rw[<-eS3]at p4 hs3;have q3:Pr S2 S3:=by rw[eS3];exact⟨rfl,rfl,rfl,rfl⟩
     have lx3':LX S.nc L2 L3:=by rw[show S.nc=(iP S2 nt F).nc by show S.nc=S2.nc;rw[pr2.nc,pr1.nc]];exact lx3
     have y1:p id=am:=by
      cases e:p id with
      |false=>rfl
      |true=>exact absurd ((hp _ e).symm.trans (lx3.ro _ _ hro)) (by simpa using hbn)
     have y2:p L.s=am:=by
      cases e:p L.s with
      |false=>rfl
      |true=>have h7:=lx3.ro _ _ hs2.rs;rw[lx12.s]at h7;exact absurd ((hp _ e).symm.trans h7) (by simp)
     simp only[wq.1,seval,bC,e48,ed,hws];refine .inl ⟨aa W-(i+1),by omega,S3,L3,K,i+1,rfl,by omega,by omega,by simp only[wq.1,seval,y2,e0],by simp only[wq.1,seval,e3],by simp only[wq.1,seval,y1,e4],by simp only[wq.1,seval,y1,e5],by simp only[wq.1,seval,y1,e46],by simp only[wq.1,seval,e47],rfl,ed,(λq hq=>(zsi hq).elim (λhq=> ?_) λhq=> .inl ⟨b,hp q hq⟩),p4,pr2.trans q3,(by rw[eS3];exact hdq),lx2.trans lx3',by rw[<-eF];exact hs3,by omega⟩;rcases ek q hq with⟨c,hc⟩|hc
     ·exact .inl ⟨c,lx3.ro _ _ hc⟩
     ·exact .inr (hc.trans lx3.t.symm)
    ·have hu:mY S2 u<0:=hu;obtain⟨S3,eS3⟩:∃S3,S3=swS S2 j (u::nt::r):=⟨_,rfl⟩;have hs3:HS n bud L2 (iP S3 nt F) h3:=by rw[eS3];exact hs3
     have q3:Pr S2 S3:=by rw[eS3];exact⟨rfl,rfl,rfl,rfl⟩
     have hlen3:aa (S3.cl j)=aa (S2.cl j):=by rw[eS3,hcu,<-hcl,xK]
     have i3:Inv n l d Lc S3:=by rw[eS3];exact p3.i
     have w3:S3.wt nt=K++j::W.drop (i+1):=by rw[eS3];exact p3.wt
     have top3:∃b∈S3.cl j,gG S3 b=aa S3.lv:=by refine⟨nt,by rw[eS3,hcu];simp,?_⟩;rw[eS3];show gG S2 nt=aa S2.lv;have:=p2.i.t.top p2.h;rw[p2.e,gI]at this;exact this
     have neg3:∀a∈S3.cl j,-a∈S3.tr:=by
      rw[eS3];intro a ha;rw[hcu]at ha;simp only[zrj]at ha;rcases ha with rfl|rfl|ha
      ·exact(p2.i.t.lval_neg hu0 hun).1 hu
      ·show -a∈S2.tr;rw[<-p2.e];exact zqu p2.h
      ·obtain⟨k,hk,rfl⟩:=List.getElem_of_mem ha;obtain⟨b0,bn⟩:=p2.i.c.crg j hj r[k] ((uw nt _ _).1 (by rw[hcl];simp[zqu]));exact(p2.i.t.lval_neg b0 bn).1 (hall k hk)
     have hrow3:h3[id]? =ar (aw (F.map (clV L2 (iP S3 nt F)))):=by have:=hs3.wat nt;unfold iG at this;rw[hw2,show(iP S3 nt F).wt nt=F from if_pos rfl]at this;exact this.1
     have hFm3:aa (F.map (clV L2 (iP S3 nt F)))=aa W:=by rw[zra];exact hFl
     have hsp:List.take (aa K*1) (F.map (clV L2 (iP S3 nt F)))++[.ls (L2.c j) 1 0 (aa (S2.cl j)) (aa (S2.cl j))]++List.drop (aa K*1+1) (F.map (clV L2 (iP S3 nt F)))=(F.set (aa K) j).map (clV L2 (iP S3 nt F)):=by have:=vO (clV L2 (iP S3 nt F)) (j:=j) hKF;rw[show clV L2 (iP S3 nt F) j= .ls (L2.c j) 1 0 (aa (S2.cl j)) (aa (S2.cl j)) by show V.ls (L2.c j) 1 0 (aa (S3.cl j)) (aa (S3.cl j))=_;rw[hlen3]]at this;exact this
     have hW3:=hs3.wover hw2 (F:=F.set (aa K) j) (by rw[show(iP S3 nt F).nc=S2.nc from q3.nc];exact hcr) (by rw[show(iP S3 nt F).wt nt=F from if_pos rfl,zrn]);rw[nS]at hW3;have hsp:List.take (aa K*1) (List.map (clV L2 (iP S3 nt F)) F)++[.ls (L2.c j) 1 0 (aa (S2.cl j)) (aa (S2.cl j))]++List.drop (aa K*1+1) (List.map (clV L2 (iP S3 nt F)) F)=List.map (clV L2 S3) (F.set (aa K) j):=hsp;have hW3:HS n bud L2 (iP S3 nt (F.set (aa K) j)) (h3.set id (aw (List.map (clV L2 S3) (F.set (aa K) j)))):=hW3;obtain⟨F2,eF2⟩:∃F2,F2=F.set (aa K) j:=⟨_,rfl⟩;rw[<-eF2]at hsp hW3;obtain⟨hA,ehA⟩:∃hA,hA=h3.set id (aw (List.map (clV L2 S3) F2)):=⟨_,rfl⟩;rw[<-ehA]at hW3;simp only[wq.1,↓reduceIte,Nat.reduceEqDiff,Nat.reduceLT,Nat.reduceAdd,reduceCtorEq,Nat.reduceMul,e5,hrow3,hdec,hsp];rw[<-ehA];refine⟨⟨rfl,by decide⟩,⟨by omega,by omega,by omega⟩,?_⟩;have hF2l:aa F2=aa W:=by rw[eF2,zrn];exact hFl
     have hF2:F2=K++[j]++W.drop (aa K+1):=by rw[eF2,eK,zqa,zrk]
     have hrA:hA[id]? =ar (aw (F2.map (clV L2 S3))):=by have:=hW3.wat nt;unfold iG at this;rw[hw2,show(iP S3 nt F2).wt nt=F2 from if_pos rfl]at this;exact this.1
     have hF2m:aa (F2.map (clV L2 S3))=aa W:=by rw[zra];exact hF2l
     have hsolA:=hW3.sol;rw[lx12.s]at hsolA;obtain⟨ks3,hm1',hm2',hm3'⟩:=hW3.mapv;refine bK dV Ii (λf' h'=>f'.t 7= .ls (L2.c j) 1 0 (aa (S2.cl j)) (aa (S2.cl j))/\f'.d=[]/\Dr L2 f'.k/\∃L3 h4,HLe h' h4/\LX S.nc L2 L3/\HS n bud L3 S3 h4/\L3.t=L2.t/\aa h3<=aa h4) (by decide +kernel) (by decide +kernel) ?_ ?_
     ·have hdrop:F2.drop (i+1)=W.drop (i+1):=by
       rw[hF2,List.drop_append,List.drop_drop,List.drop_of_length_le (by simp;omega),List.nil_append,zqa,zrk]
       congr 1;omega
      have hsrc:(if(i+1)*1+(aa W-(i+1))*1<=aa F2 then ar (aa W-(i+1),List.take ((aa W-(i+1))*1) (List.drop ((i+1)*1) (List.map (clV L2 S3) F2)))else aL)=ar (aa W-(i+1),(W.drop (i+1)).map (clV L2 S3)):=by rw[if_pos (by omega),Nat.mul_one,Nat.mul_one,<-List.map_drop,hdrop,zqh (by simp)]
      have hone2:dD ((W.drop (i+1)).map (clV L2 S3))=ab:=Fh _ _ _;have hl9:aa (W.drop (i+1))=aa W-(i+1):=List.length_drop ..;have hwS:S3.wt nt=K++[j]++W.drop (i+1):=by rw[w3];simp
      by_cases hkw:aa K+1<aa W
      ·have hdec2:aM (aa K+1<aa W)=ab:=by rw[zqb];omega
       obtain⟨F3,eF3⟩:∃F3,F3=F2.take (aa K+1)++W.drop (i+1)++F2.drop (aa K+1+(aa W-(i+1))):=⟨_,rfl⟩;have hF3l:aa F3=aa W:=by rw[eF3];simp;omega
       have hF3t:F3.take (aa K+1+(aa W-(i+1)))=S3.wt nt:=by
        have e1:F2.take (aa K+1)=K++[j]:=by rw[hF2,List.take_left' (by simp)]
        rw[eF3,e1,hwS,List.take_left' (by simp;omega)]
       have hWA:=hW3.wover hw2 (F:=F3) (λq hq=>by
        rw[show(iP S3 nt F2).nc=S2.nc from q3.nc];rw[eF3]at hq;have hF2c:∀q∈F2,q<S2.nc:=λq hq=>hcr q (eF2▸hq);rcases zrf.1 hq with hq|hq
        ·rcases zrf.1 hq with hq|hq
         ·exact hF2c q (zsh hq)
         ·rw[<-hdrop]at hq;exact hF2c q (List.mem_of_mem_drop hq)
        ·exact hF2c q (List.mem_of_mem_drop hq)) (by rw[show(iP S3 nt F2).wt nt=F2 from if_pos rfl];omega)
       rw[nS]at hWA;have emw:mwV L2 (iP S3 nt F3)=mwV L2 (iP S3 nt F2):=funext λb=>by
        unfold mwV;show Jp (L2.w b) 1 (aa (if b=nt then F3 else S3.wt b))=Jp (L2.w b) 1 (aa (if b=nt then F2 else S3.wt b));split
        ·rw[hF3l,hF2l]
        ·rfl
       obtain⟨ks2,hp1,hp2,hp3,hp4⟩:=mD hm2' (mwV L2 (iP S3 nt F2)) nt (.ls id 1 0 (aa K+1+(aa W-(i+1))) (aa W));have hspA:List.take ((aa K+1)*1) (List.map (clV L2 S3) F2)++List.map (clV L2 S3) (W.drop (i+1))++List.drop ((aa K+1)*1+(aa W-(i+1))) (List.map (clV L2 S3) F2)=List.map (clV L2 S3) F3:=by rw[eF3,Nat.mul_one];simp
       obtain⟨hB,ehB⟩:∃hB,hB=hA.set id (aw (List.map (clV L2 S3) F3)):=⟨_,rfl⟩;have hWA:HS n bud L2 (iP S3 nt F3) hB:=by rw[ehB];exact hWA
       obtain⟨h5,hle,hs5,hl5⟩:=hWA.wtrim hw2 (k:=aa K+1+(aa W-(i+1))) (cap:=aa W) (by rw[show(iP S3 nt F3).wt nt=F3 from if_pos rfl];omega) (by omega) hp2 (λb hb=>by
        have:=hm3' b λhb2=>hb (hp4 b hb2);refine⟨this.1,?_⟩;by_cases he:b=nt
        ·subst he;rw[hw2]at this;cases this.1
        ·have h9:(if b=nt then F2 else S3.wt b)=[]:=this.2;show(if b=nt then F3 else S3.wt b)=[];rw[if_neg he]at h9 ⊢;exact h9)
       rw[show(iP S3 nt F3).wt nt=F3 from if_pos rfl,nS,hF3t,lT]at hs5;rw[emw]at hle;have hidm:L2.m≠id:=bW L2 hs2.rm hro (by simp);have hids:L.s≠id:=by rw[<-lx12.s];exact bW L2 hs2.rs hro (by simp)
       have r1':hB[L2.m]? =ar (.map (ks3.map vi) (ks3.map (mwV L2 (iP S3 nt F2)))):=by rw[ehB,zqn hidm.symm];exact hm1'
       have r2':hB[L.s]? =ar (aw (ay n bud L2 (iP S3 nt F2))):=by rw[ehB,zqn hids.symm];exact hsolA
       have key:∃L3 h4,HLe (hB.set L2.m (.map (ks2.map vi) (ks2.map λb=>if b=nt then .ls id 1 0 (aa K+1+(aa W-(i+1))) (aa W)else mwV L2 (iP S3 nt F2) b))) h4/\LX S.nc L2 L3/\HS n bud L3 S3 h4/\L3.t=L2.t/\aa h3<=aa h4 :=
        ⟨L2,h5,hle,LX.refl _ _,hs5,rfl,by rw[hl5,ehB,ehA];simp⟩
       simp only[wq.1,seval,Ii,e0,e3,e4,ed,hws,hrA,hsolA,ay,hdec2,dZ,hsrc,hone2,hl9,hspA,<-ehB,r1',r2',hp1]
       and_intros<;>first|exact key|exact ek|omega|rfl
      ·have hdec2:aM (aa K+1<aa W)=am:=by rw[zqd];omega
       have hW0:W.drop (i+1)=[]:=List.drop_of_length_le (by omega);have hFS:F2=S3.wt nt:=by rw[hF2,hwS,hW0,List.drop_of_length_le (by omega)]
       have hW4:HS n bud L2 S3 hA:=by
        have:=hW3
        rwa [hFS,lT]at this
       rw[hFS,lT]at hm1';have hm4:∀b,¬b∈ks3->L2.w b=aL/\S3.wt b=[]:=λb hb=>by
        have:=hm3' b hb
        rwa [hFS,lT]at this
       have hsolA:hA[L.s]? =ar (aw (ay n bud L2 S3)):=hsolA;obtain⟨ks2,hp1,hp2,hp3,hp4⟩:=mD hm2' (λb=>(mwV L2 S3 b).drop λx=>x==id) nt (.ls id 1 0 (aa W) (aa W));obtain⟨q1,q2,b2,b1,bc,q3',hH⟩:=hW4.wanew hw2 hp2 λb hb=>hm4 b λhb2=>hb (hp4 b hb2);rw[lx12.s]at q2 b1;rw[<-hFS,hF2l]at hH;rw[<-hFS]at q3';have bj:=bc j (by rw[q3.nc];exact hj);have q1':∀o:O,((List.map (O.drop λx=>x==id) hA).set id o)[L2.m]? =ar (.map (ks3.map vi) (ks3.map λb=>(mwV L2 S3 b).drop λx=>x==id)):=λo=>by rw[q1 o,hm1',zrw,kU,eP (λv hv=>by obtain⟨_,_,rfl⟩:=zrh.1 hv;exact fA),uu]
       have q4:∀o q:O,(((List.map (O.drop λx=>x==id) hA).set id o).set L2.m q)[L.s]? =ar (aw (ay n bud L2 S3)):=λo q=>by rw[zqn (by rw[<-lx12.s];exact bW L2 hs2.rm hs2.rs (by simp))];exact q2 o
       have he0:aa K+1+(aa W-(i+1))=aa W:=by omega
       have hd0:aE (λx=>x==id) []=[]:=rfl;have hkk:Dr L2 λq=>f2.k q||q==id:=λq hq=>(zsi hq).elim (ek q) λhq=> .inl ⟨nt,by rw[show q=id by simpa using hq];exact hro⟩;have key:∃L3 h4,HLe (((List.map (O.drop λx=>x==id) hA).set id (aw (F2.map (clV L2 S3)))).set L2.m (.map (ks2.map vi) (ks2.map λb=>if b=nt then .ls id 1 0 (aa W) (aa W)else(mwV L2 S3 b).drop λx=>x==id))) h4/\LX S.nc L2 L3/\HS n bud L3 S3 h4/\L3.t=L2.t/\aa h3<=aa h4 :=
        ⟨L2,_,HLe.refl _,LX.refl _ _,hH,rfl,by rw[ehA];simp⟩
       simp only[wq.1,seval,Ii,e0,e3,e4,ed,hws,hrA,hsolA,ay,hdec2,dZ,hsrc,b1,b2,bj,q1',q2,q3',he0,hp1,hW0]
       and_intros<;>first|exact key|exact hkk|omega|rfl
     ·rintro f4 h4 ⟨k7,kd,kk,L3,h5,hle,lx3,hs5,ht3,hl5⟩;simp only[wq.1,seval,k7,kd];have hjS:j<S.nc:=by rw[<-pr1.nc,<-pr2.nc];exact hj
      have ecv:V.ls (L2.c j) 1 0 (aa (S2.cl j)) (aa (S2.cl j))=clV L3 S3 j:=by unfold clV;rw[lx3.c j hjS,hlen3]
      rw[ecv];refine⟨h5,hle,r2 S3 L3 h5 f4.k j i3 (pr1.trans (pr2.trans q3)) (by rw[q3.nc];exact hj) neg3 top3 (lx12.trans lx3) hs5 (by omega) λq hq=> ?_⟩;rcases kk q hq with⟨c,hc⟩|hc
      ·exact .inl ⟨c,lx3.ro _ _ hc⟩
      ·exact .inr (hc.trans ht3.symm)
    ·have hu:mY S2 u=0:=hu;obtain⟨S3,eS3⟩:∃S3,S3=kR (swS S2 j (u::nt::r)) u (ar j):=⟨_,rfl⟩;have hs3:HS n bud L2 (iP S3 nt F) h3:=by rw[eS3];exact hs3
     obtain⟨z1,z2⟩:=(p2.i.t.lval_zero hu0 hun).1 hu;have p4:PI n l d Lc S3 nt (K++[j]) (W.drop (i+1)):=by rw[eS3];refine p3.lets hcu z1 z2 λb hb=> ?_;obtain⟨k,hk,rfl⟩:=List.getElem_of_mem hb;obtain⟨b0,bn⟩:=p2.i.c.crg j hj r[k] ((uw nt _ _).1 (by rw[hcl];simp[zqu]));exact(p2.i.t.lval_neg b0 bn).1 (hall k hk)
     have q3:Pr S2 S3:=by rw[eS3];exact⟨rfl,rfl,rfl,rfl⟩
     have hlen3:aa (S3.cl j)=aa (S2.cl j):=by rw[eS3];show aa ((swS S2 j (u::nt::r)).cl j)=_;rw[hcu,<-hcl,xK]
     have hrow3:h3[id]? =ar (aw (F.map (clV L2 (iP S3 nt F)))):=by have:=hs3.wat nt;unfold iG at this;rw[hw2,show(iP S3 nt F).wt nt=F from if_pos rfl]at this;exact this.1
     have hFm3:aa (F.map (clV L2 (iP S3 nt F)))=aa W:=by rw[zra];exact hFl
     have hsp:List.take (aa K*1) (F.map (clV L2 (iP S3 nt F)))++[.ls (L2.c j) 1 0 (aa (S2.cl j)) (aa (S2.cl j))]++List.drop (aa K*1+1) (F.map (clV L2 (iP S3 nt F)))=(F.set (aa K) j).map (clV L2 (iP S3 nt F)):=by have:=vO (clV L2 (iP S3 nt F)) (j:=j) hKF;rw[show clV L2 (iP S3 nt F) j= .ls (L2.c j) 1 0 (aa (S2.cl j)) (aa (S2.cl j)) by show V.ls (L2.c j) 1 0 (aa (S3.cl j)) (aa (S3.cl j))=_;rw[hlen3]]at this;exact this
     have hW3:=hs3.wover hw2 (F:=F.set (aa K) j) (by rw[show(iP S3 nt F).nc=S2.nc from q3.nc];exact hcr) (by rw[show(iP S3 nt F).wt nt=F from if_pos rfl,zrn]);rw[nS,eK]at hW3;rw[eK]at hsp;obtain⟨y1,y2,y3⟩:=hid1 p hp;simp only[wq.1,↓reduceIte,Nat.reduceEqDiff,Nat.reduceLT,Nat.reduceAdd,reduceCtorEq,Nat.reduceMul,bC,y1,y3,e5,e48,ed,hrow3,hdec,hsp,hws];refine⟨⟨rfl,by decide⟩,⟨by omega,by omega,by omega⟩,.inl ⟨aa W-(i+1),by omega,S3,L2,K++[j],i+1,rfl,by omega,by simp;omega,by simp only[wq.1,seval,aG,Tryz.results100,y1,y2,y3,e0],by simp only[wq.1,seval,aG,Tryz.results100,y1,y2,y3,e3],by simp only[wq.1,seval,aG,Tryz.results100,y1,y2,y3,e4],by simp only[wq.1,seval,aG,Tryz.results100,zqa,zrk],by simp only[wq.1,seval,aG,Tryz.results100,y1,y2,y3,e46],by simp only[wq.1,seval,aG,Tryz.results100,y1,y2,y3,e47],rfl,ed,(λq hq=>(zsi hq).elim (ek q) λhq=> .inr (hp q hq)),p4,pr2.trans q3,(by rw[eS3];exact hdq),lx2,(by simpa only[zql,zrd,List.map_nil,zqa,zrt,List.length_nil]using hW3),by simp;omega⟩⟩
   ·have eb2:aM ((i:Int)<(aa W:Int))=am:=by rw[zqd];omega
    have hiW2:i=aa W:=by omega
    subst hiW2;rw[List.drop_length]at p2;have hwK:S2.wt nt=K:=by rw[p2.wt,zqp]
    have hsol2:=hs2.sol;rw[lx12.s]at hsol2;obtain⟨ks3,hm1',hm2',hm3'⟩:=hs2.mapv;obtain⟨ks2,hp1,hp2,hp3,hp4⟩:=mD hm2' (mwV L2 (iP S2 nt F)) nt (.ls id 1 0 (aa K) (aa W));refine vm ?_;simp only[wq.1,seval,e0,e3,e5,e47,e48,eb2,hsol2,ay,hm1',hp1];obtain⟨h3,hh,hs3,hl3⟩:=hs2.wtrim hw2 (k:=aa K) (cap:=aa W) (by rw[show(iP S2 nt F).wt nt=F from if_pos rfl];omega) hKi hp2 (λb hb=>hm3' b λhb2=>hb (hp4 b hb2));rw[show(iP S2 nt F).wt nt=F from if_pos rfl,nS,eF,List.take_left,<-hwK,lT]at hs3;refine lF hh ?_;have hN:=hs3.nextH;have hls3:=hs3.rlt _ _ hs3.rs;have hsol3:=hs3.sol;rw[lx12.s]at hN hls3 hsol3;have hwd:a5 .i64 ((S2.hd:Int)+1)=((S2.hd+1:Nat):Int):=by have:=p2.i.t.hdl;have:=p2.i.t.len;rw[aV (by omega) (by omega)];omega
    refine vm ?_;simp only[wq.1,seval,e0,hsol3,ay,hwd];exact .inl ⟨n-(S2.hd+1),by omega,Ic S2,L2,rfl,e0,ed,ek,p2.done,pr1.trans (pr2.trans ⟨rfl,rfl,rfl,rfl⟩),lx12,hN,by simp;omega⟩
 ·have eb:aM ((S1.hd:Int)<(aa S1.tr:Int))=am:=by rw[zqd];omega
  refine vm ?_;simp only[wq.1,seval,g0,gd,hsol,ay,eb];refine⟨by decide +kernel,?_⟩;exact⟨h1,HLe.refl _,r1 S1 L1 h1 f.k i1 pr1 (by have:=i1.t.hdl;omega) lx1 hs1 hl1 gk⟩
end
section
variable{n:Nat}{bud:Int}{L:Lay}{S:St}{h:H}{a:Int}{j:Nat}{l d Lc:List Cl}
def UM:Plan:=tkZ [0,1,2,3,5,6,7]<| .alt 4 (onZ [8,9,10,11]<| .take 12<| .take 13<| .one 14<| .fin) (.one 8 (.alt 4 (onZ [9,10,11]<| .take 12<| .take 13<| .one 14<| .fin) (.one 9 (.alt 4 (.one 10<| .one 11<| .take 12<| .take 13<| .one 14<| .fin) (.one 10 (.one 4<| .one 11<| .take 12<| .take 13<| .one 14<| .fin))))))
theorem Tr.lvlen(t:Tr n S):aa S.lv<=n+1:=gY (t.lvs.imp λh=>by omega) λx hx=>by have:=t.lvh x hx;have:=t.hdl;have:=t.len;omega
def lvS(S:St):St:={S with lv:=S.lv++[aa S.tr]}
theorem HS.pushLv(hs:HS n bud L S h):HS n bud L (lvS S) (((h.map (O.drop λx=>x==L.l)).set L.l (aw (iH S.lv++[vi (aa S.tr)]))).set L.s
 (aw [.ls L.v 5 0 (n+1) (n+1),.lm L.m,.ls L.t 1 0 (aa S.tr) (aa S.tr),vi S.hd,.ls L.l 1 0 (aa S.lv+1) (aa S.lv+1),.ls L.x 2 0 (aa S.nx) (aa S.nx),.ls L.g 1 0 (aa S.ln) (aa S.ln),vi bud])):=by
 have k2:=hs.toHR.drop (p:=λx=>x==L.l) (Tf L hs.rl (.inr (.inl rfl)));have k3:=k2.setRow (id:=L.l) (cs:=iH S.lv++[vi (aa S.tr)]) hs.rl S.tr (S.lv++[aa S.tr]) S.nx (.inr (.inl ⟨rfl,by simp[iH],rfl,rfl,rfl⟩));refine⟨k3.setS _,?_⟩;rw[zqt (by simpa using hs.rlt _ _ hs.rs)];simp[ay,lvS]
theorem Fj(hs:HS n bud L S h)(hn:n<=20000)(i0:Inv n l d Lc S)(hh:S.hd=aa S.tr)(hnx:aa S.nx<=1000000000000){R:AEnd->H->(Nat->Bool)->Prop}
 (r1:∀h',Inv n l d Lc (nxS S [])->HS n bud L (nxS S []) h'->aa h<=aa h'->R (.pan (.iface 134 (.agg [vi 1]))) h' (λ_=>am))
 (r2:∀nx a h' p,Inv n l d Lc (Nu (nxS S nx) a)->aa nx<=aa S.nx->HS n bud L (Nu (nxS S nx) a) h'->aa h<=aa h'->(∀q,p q=ab->q=L.l\/q=L.t)->R (.ret (.tup [])) h' p) :
 ag TE 102 [.lp L.s 0] h R:=by
 have hM := mLx;refine ah Tryz.func102 rfl (by simp [nts]) (vm ?_);simp only [wq.1,Tryz.results102];refine aA (λm f h' => ∃ nx,m = aa nx /\ f.t 0 = .lp L.s 0 /\ f.d = [] /\ (∀ q,f.k q = am) /\ Inv n l d Lc (nxS S nx) /\ aa nx <= aa S.nx /\ HS n bud L (nxS S nx) h' /\ aa h <= aa h') (aa S.nx)
  ⟨S.nx,rfl,rfl,by simp only[wq.1];try rfl,(λ_=>rfl),i0,zrb _,hs,zrb _⟩ ?_
 rintro m f h1 ⟨nx,rfl,g0,gd,gk,i1,hlen,hs1,hl1⟩;have hsol:=hs1.sol;have gk':f.k=λ_=>am:=funext gk;refine vm ?_;simp only[wq.1,seval,g0,hsol,ay];refine zf _ ?_;by_cases hne:nx=[]
 ·subst hne;have eb:aM ((0:Int)<(((nxS S []).nx.length:Nat):Int))=am:=rfl;simp only[wq.1,seval,gd,eb];rw[gk'];exact⟨by decide,r1 h1 i1 hs1 hl1⟩
 ·have eb:aM ((0:Int)<(((nxS S nx).nx.length:Nat):Int))=ab:=by have:=List.length_pos_iff.2 hne;rw[zqb];show(0:Int)<((aa nx:Nat):Int);omega
  simp only[wq.1,seval,g0,eb];refine⟨by decide,Pn hs1 (by show aa nx<=_;omega) hne λnx2 t h2 hp hs2 hl2=> ?_⟩;simp only[wq.1,seval,g0];have hpl:=hp.length_eq;rw[zqa,zrk]at hpl;have hpl:aa nx2+1=aa nx:=hpl;have hs2:HS n bud L (nxS S nx2) h2:=hs2;obtain⟨ht1,ht2⟩:=i1.x.rng t (hp.mem_iff.1 (by simp));obtain⟨v,ev⟩:∃v:Nat,t.1=v:=⟨t.1.toNat,by omega⟩;rw[ev]at ht1 ht2;have hvn:v<=n:=by omega
  have e1:∀o:O,(h2++[o])[List.length h2]? =ar o:=λo=>by simp
  have e2:∀o o':O,List.set (h2++[o]) (List.length h2) o'=h2++[o']:=λo o'=>by rw[List.set_append_right _ _ (zrb _)];simp
  have hA:=hs2.app [aw [vi v,vi t.2]];have hsolA:=hA.sol;have hvarA:=hA.var;simp only[wq.1,seval,e1,e2,ev,hsolA,ay,hvarA,bY,vc0 hvn,vc4 hvn];refine⟨by decide,by decide +kernel,⟨by omega,by omega⟩,by decide +kernel,by omega,λhf=>⟨hf,by omega⟩,?_⟩;have hvv:(nxS S nx2).v v=S.v v:=rfl;rw[hvv];obtain⟨hB,ehB⟩:∃hB,hB=h2++[aw [vi v,vi t.2]]:=⟨_,rfl⟩;have htB:hB[aa h2]? =ar (aw [vi v,vi t.2]):=by rw[ehB];exact e1 _
  have hlB:aa hB=aa h2+1:=by rw[ehB];simp
  rw[<-ehB]at hA hsolA hvarA ⊢;by_cases hst:((S.v v).value != 0||(S.v v).score != t.2)=ab
  ·have i2:Inv n l d Lc (nxS S nx2):=UH i1 (λk k1 k2 kv=>by
    have hm:=hp.mem_iff.2 (i1.x.all k k1 k2 kv);rcases zrf.1 hm with hm|hm
    ·exact hm
    ·exfalso;have hm:((k:Int),(S.v k).score)=t:=zrc.1 hm;have hk:k=v:=by have:=congrArg Prod.fst hm;simp only[ev]at this;omega
     have hs:(S.v k).score=t.2:=congrArg Prod.snd hm;subst hk;have kv:(S.v k).value=0:=kv;rw[kv,hs]at hst;simp at hst) (λx hx=>i1.x.rng x (hp.mem_iff.1 (List.mem_append_left _ hx)))
   simp only[wq.1,hst];exact .inl ⟨aa nx2,by omega,nx2,rfl,g0,gd,gk,i2,by omega,hA,by omega⟩
  ·have hst:((S.v v).value != 0||(S.v v).score != t.2)=am:=by simpa using hst
   have hv0:(S.v v).value=0:=by have:=hst;simp only[zsf,bne_eq_false_iff_eq]at this;exact this.1
   have hlvl:=hA.lvl;have hll:=hA.rlt _ _ hA.rl;have hls:=hA.rlt _ _ hA.rs;have hsl:L.s≠L.l:=bW L hs.rs hs.rl (by simp);have hls':=hsl.symm;have b1:(L.s==L.l)=am:=by simp[hsl]
   have b2:(L.v==L.l)=am:=by simp[bW L hs.rv hs.rl (by simp)]
   have b3:(L.m==L.l)=am:=by simp[bW L hs.rm hs.rl (by simp)]
   have b4:(L.t==L.l)=am:=by simp[bW L hs.rt hs.rl (by simp)]
   have b5:(L.x==L.l)=am:=by simp[bW L hs.rx hs.rl (by simp)]
   have b6:(L.g==L.l)=am:=by simp[bW L hs.rg hs.rl (by simp)]
   have b7:(aa h2==L.l)=am:=by have:=hs2.rlt _ _ hs2.rl;simp;omega
   have hH:=hA.pushLv;have hlvn:aa S.lv<=n+1:=i1.t.lvlen;have hel:aa (iH (nxS S nx2).lv)=aa S.lv:=by simp[iH,nxS]
   have hdl:aE (λx=>x==L.l) (iH (nxS S nx2).lv)=iH (nxS S nx2).lv:=eP λx hx=>by obtain⟨y,_,rfl⟩:=zrh.1 hx;exact fA
   simp only[wq.1,hst];refine bK dV UM (λf' h'=>f'.t 0= .lp L.s 0/\f'.t 2= .lp (aa h2) 0/\f'.t 3= .lp L.v (v*5)/\f'.d=[]/\(∀q,f'.k q=ab->q=L.l)/\HS n bud L (lvS (nxS S nx2)) h'/\h'[aa h2]? =ar (aw [vi v,vi t.2])/\aa h<=aa h') (by decide +kernel) (by decide +kernel) ?_ ?_
   ·simp only[wq.1,↓reduceIte,Nat.reduceEqDiff,Nat.reduceLT,Nat.reduceLeDiff,Nat.reduceAdd,reduceCtorEq,Nat.reduceMul,UM,g0,gd,hsolA,ay,hlvl,hel,zqn,hls',ne_eq,not_false_eq_true,b1,b2,b3,b4,b5,b6,b7,hdl,zrn,zqo];have hls2:=hs2.rlt _ _ hs2.rs;have hll2:=hs2.rlt _ _ hs2.rl;refine⟨⟨rfl,by decide⟩,⟨by simp[nxS],by show aa S.lv+1<=_;omega,by show(aa S.lv+1)*8<=_;omega⟩,λq hq=> ?_,hH,?_,by omega⟩
    ·rw[gk,Bool.false_or]at hq;simpa using hq
    ·rw[zqn (by omega),zqn (by omega),zqo,htB,zrw,aZ,eP λx hx=> ?_];simp only[zrj,zrp,or_false]at hx;rcases hx with rfl|rfl<;>exact fA
   ·rintro f3 h3 ⟨k0,k2,k3,kd,kk,hs3,ht,hl3⟩;have hvar3:=hs3.var;simp only[wq.1,seval,k3,hvar3,bY,vc3 hvn];have ha:∀a:Int,a.natAbs=v->Inv n l d Lc (Nu (nxS S nx2) a):=λa ea=>by
     have hl0:mY S a=0:=by unfold mY;split<;>rw[ea,hv0]<;>rfl
     have hl0:mY (nxS S nx) a=0:=hl0;obtain⟨n1,n2⟩:=(i1.t.lval_zero (by omega) (by omega)).1 hl0;have i2:Inv n l d Lc (Nu (nxS S nx) a):=i1.decS hh (by omega) (by omega) n1 n2;refine UH i2 (λk k1 k2 kv=> ?_) (λx hx=>i1.x.rng x (hp.mem_iff.1 (List.mem_append_left _ hx)));have hm:=hp.mem_iff.2 (i2.x.all k k1 k2 kv);rcases zrf.1 hm with hm|hm
     ·exact hm
     ·exfalso;have hm:((k:Int),((Nu (nxS S nx) a).v k).score)=t:=zrc.1 hm;have hk:k=a.natAbs:=by have:=congrArg Prod.fst hm;simp only[ev]at this;omega
      rw[hk]at kv;have h9:(kR {nxS S nx with lv:=(nxS S nx).lv++[(nxS S nx).tr.length]} a aL).v a.natAbs=_:=oM;rw[show(Nu (nxS S nx) a).v a.natAbs=_ from h9]at kv;have kv:(if a<0 then(-1:Int)else 1)=0:=kv;split at kv<;>omega
    have htl:=i1.t.len;have hg0:([vi v,vi t.2]:List V).getD 0 .any=vi v:=rfl;have hwn:a5 .i64 (0-(v:Int))=-(v:Int):=by rw[aV (by omega) (by omega)];omega
    refine⟨by omega,vcB.mk (λhc=> ?_) (λhc=> ?_)⟩
    ·simp only[wq.1,seval,k0,k2,ht];refine kW hs3 hn (a:=(v:Int)) (by omega) (by show aa S.tr<=_;exact Nat.le_trans htl hn) aL (λ_ h=>by cases h) λh4 p hs4 hp4 hl4=> ?_;simp only[wq.1,bC,kd];exact r2 nx2 v h4 _ (ha v (by omega)) (by omega) hs4 (by omega) λq hq=>(zsi hq).elim (λhq=> .inl (kk q hq)) λhq=> .inr (hp4 q hq)
    ·simp only[wq.1,seval,k0,k2,ht,hwn];refine kW hs3 hn (a:=-(v:Int)) (by omega) (by show aa S.tr<=_;exact Nat.le_trans htl hn) aL (λ_ h=>by cases h) λh4 p hs4 hp4 hl4=> ?_;simp only[wq.1,bC,kd];exact r2 nx2 (-(v:Int)) h4 _ (ha _ (by omega)) (by omega) hs4 (by omega) λq hq=>(zsi hq).elim (λhq=> .inl (kk q hq)) λhq=> .inr (hp4 q hq)
end
section
variable{h:H}
def CAt(h:H)(x:V)(c:Cl):Prop:=(x= .nils/\c=[])\/∃id,x= .ls id 1 0 (aa c) (aa c)/\h[id]? =ar (aw (c.map vi))
variable{x:V}{c:Cl}
theorem Ij{a:Int}(hx:CAt h x c)(hc:aa c<=1000000){R:AEnd->H->(Nat->Bool)->Prop}(hr:∀i:Int,(0<=i↔a∈c)->R (.ret (vi i)) h (λ_=>am)) :
 ag TE 115 [x,vi a] h R:=by
 have hM:=mLx;rcases hx with⟨rfl,rfl⟩|⟨id,rfl,hid⟩
 ·refine ah Tryz.func115 rfl (by simp[nts]) (vm ?_);simp only[wq.1,seval,Tryz.results115];refine aA (λm f h'=>f.t 7=vi 0/\f.t 8=vi 0/\f.d=[]/\(∀q,f.k q=am)/\h'=h) 0 ⟨rfl,by simp only[wq.1,↓reduceIte];try rfl,rfl,λ_=>rfl,rfl⟩ ?_;rintro m f h' ⟨g7,g8,gd,gk,rfl⟩;have gk':f.k=λ_=>am:=funext gk;have eb:aM ((0:Int)<0)=am:=rfl;refine vm ?_;simp only[wq.1,seval,g7,g8,gd];rw[gk'];exact hr (-1) (by simp)
 ·have hl:aa (c.map vi)=aa c:=zra ..;refine ah Tryz.func115 rfl (by simp[nts]) (vm ?_);simp only[wq.1,seval,Tryz.results115];refine aA (λm f h'=>∃i:Nat,m+i=aa c/\f.t 0= .ls id 1 0 (aa c) (aa c)/\f.t 1=vi a/\f.t 7=vi (aa c)/\f.t 8=vi i/\f.d=[]/\(∀q,f.k q=am)/\h'=h/\¬a∈c.take i) (aa c) ⟨0,rfl,rfl,rfl,rfl,by simp only[wq.1,↓reduceIte];try rfl,rfl,λ_=>rfl,rfl,by simp⟩ ?_;rintro m f h' ⟨i,hm,g0,g1,g7,g8,gd,gk,rfl,hn⟩;have gk':f.k=λ_=>am:=funext gk;refine vm ?_;by_cases hi:i<aa c
  ·have eb:aM ((i:Int)<(aa c:Int))=ab:=by rw[zqb];omega
   have hg:(c.map vi).getD (i*1) .any=vi c[i]:=by rw[Nat.mul_one];simp[zqg,hi]
   have etk:c.take (i+1)=c.take i++[c[i]]:=by rw[zrg,zqk hi];rfl
   have hw:a5 .i64 ((i:Int)+1)=((i+1:Nat):Int):=by rw[aV (by omega) (by omega)];omega
   simp only[wq.1,seval,g0,g1,g7,g8,eb,hid,hg];refine⟨⟨by omega,by omega⟩,by omega,vcB.mk (λhc=> ?_) (λhc=> ?_)⟩
   ·have hc:a=c[i]:=by simpa using hc
    simp only[wq.1,seval,gd];rw[gk'];exact hr i ⟨λ_=>hc▸zqu hi,λ_=>by omega⟩
   ·have hc:a≠c[i]:=by simpa using hc
    simp only[wq.1,seval,g8,hw];exact .inl ⟨m-1,by omega,i+1,by omega,g0,g1,g7,rfl,gd,gk,rfl,λhm=>by
     rw[etk]at hm;rcases zrf.1 hm with hm|hm
     ·exact hn hm
     ·exact hc (zrc.1 hm)⟩
  ·have eb:aM ((i:Int)<(aa c:Int))=am:=by rw[zqd];omega
   simp only[wq.1,seval,g7,g8,gd,eb];rw[gk'];exact hr (-1) ⟨λh=>by omega,λh=>absurd h (by rwa [zqh (by omega)]at hn)⟩
theorem gm{a:Int}(hx:CAt h x c)(hc:aa c<=1000000){R:AEnd->H->(Nat->Bool)->Prop}(hr:R (.ret (.bool (aM (a∈c)))) h (λ_=>am)) :
 ag TE 95 [x,vi a] h R:=by
 have hx2:=hx;have hb:∀i:Int,(0<=i↔a∈c)->aM (0<=i)=aM (a∈c):=λi hi=>by
  by_cases ha:a∈c
  ·rw[decide_eq_true ha,decide_eq_true (hi.2 ha)]
  ·rw[decide_eq_false ha,decide_eq_false (λh=>ha (hi.1 h))]
 rcases hx with⟨rfl,rfl⟩|⟨id,rfl,hid⟩
 all_goals
  refine ah Tryz.func95 rfl (by simp[nts]) (vm ?_);simp only[wq.1,seval,Tryz.results95];refine Ij hx2 hc λi hi=> ?_;simp only[wq.1,seval,hb i hi];exact hr
end
section
variable{n:Nat}{bud:Int}{L:Lay}{S:St}{h:H}{a:Int}{j:Nat}{l d Lc:List Cl}
theorem HS.congr(hs:HS n bud L S h){h':H}(he:∀i r,L.ro i=ar r->h'[i]? =h[i]?)(hl:aa h<=aa h'):HS n bud L S h' :=
 ⟨hs.toHR.congr (λi r hr _=>he i r hr) hl,by rw[he _ _ hs.rs];exact hs.sol⟩
theorem HS.dropN(hs:HS n bud L S h){p:Nat->Bool}(hp:∀i r,L.ro i=ar r->p i=am):HS n bud L S (h.map (O.drop p)):=by
 refine⟨hs.toHR.drop λi r hi hpi=>(by rw[hp i r hi]at hpi;cases hpi),?_⟩;rw[zqo,hs.sol,zrw,aZ,eP λv hv=> ?_];simp only[ay,zrj,zrp,or_false]at hv;rcases hv with rfl|rfl|rfl|rfl|rfl|rfl|rfl|rfl<;>first|exact fA|exact bV (hp _ _ hs.rv)|exact bV (hp _ _ hs.rt)|exact bV (hp _ _ hs.rl)|exact bV (hp _ _ hs.rx)|exact bV (hp _ _ hs.rg)|skip
 rw[V.drop,hp _ _ hs.rm];rfl
def Ik(L:Lay)(j id:Nat):Lay:={L with c:=λq=>if q=j then id else L.c q,ro:=λi=>if i=id then ar (.c j)else L.ro i}
def Fp(S:St)(c:Cl):St:={S with cl:=upd S.cl S.nc c,nc:=S.nc+1}
variable{id:Nat}
theorem zn(h0:L.ro id=aL):LX S.nc L (Ik L S.nc id) :=
 ⟨rfl,rfl,rfl,rfl,rfl,rfl,rfl,λq hq=>if_neg (Nat.ne_of_lt hq),λ_ _ h=>h,λi r hi=>by
  show(if i=id then ar (Ro.c S.nc)else L.ro i)=ar r;rw[if_neg λe=>by rw[e,h0]at hi;cases hi];exact hi⟩
theorem HR.newC(k:HR n L S h){id:Nat}{c:Cl}(h0:L.ro id=aL)(hid:h[id]? =ar (aw (c.map vi))):HR n (Ik L S.nc id) (Fp S c) h:=by
 have RO:∀ {i:Nat} {r:Ro},L.ro i=ar r->(Ik L S.nc id).ro i=ar r:=λhi=>(zn h0).ro _ _ hi;have cv:∀q,q<S.nc->clV (Ik L S.nc id) (Go.Proofs.YthdidjjecjhenaaGreat.Fp S c) q=clV L S q:=λq hq=>by unfold clV;rw[(zn h0).c q hq,show(Go.Proofs.YthdidjjecjhenaaGreat.Fp S c).cl q=S.cl q from bM (Nat.ne_of_lt hq)]
 refine {var:= ?_,map:=k.map,trl:=k.trl,lvl:=k.lvl,nxl:=k.nxl,lnl:=k.lnl,lnk:=λi hi=>⟨(k.lnk i hi).1,RO (k.lnk i hi).2⟩,cla:=λq hq=> ?_,wat:=λb=> ?_,fre:=λi hi q hq=>Nat.lt_succ_of_lt (k.fre i hi q hq),fwt:=λb q hq=>Nat.lt_succ_of_lt (k.fwt b q hq),rs:=RO k.rs,rv:=RO k.rv,rm:=RO k.rm,rt:=RO k.rt,rl:=RO k.rl,rx:=RO k.rx,rg:=RO k.rg,rlt:=λi r hr=> ?_,ext:=λi o ho=> ?_}
 ·have e:eH (Ik L S.nc id) (Go.Proofs.YthdidjjecjhenaaGreat.Fp S c) n=eH L S n:=by
   rw[jy,jy];refine nO λi hi=> ?_;show iE _ _ (S.v i)=iE L S (S.v i);unfold iE;cases hr:(S.v i).reason with
   |none=>rfl
   |some q=>simp only[reV,cv q (k.fre i hi q hr)]
  rw[e];exact k.var
 ·show h[(Ik L S.nc id).c q]? =ar (aw ((upd S.cl S.nc c q).map vi))/\(Ik L S.nc id).ro ((Ik L S.nc id).c q)=ar (.c q);by_cases he:q=S.nc
  ·subst he;rw[show(Ik L S.nc id).c S.nc=id from if_pos rfl,bD];exact⟨hid,if_pos rfl⟩
  ·have hq2:q<S.nc:=by have:q<S.nc+1:=hq;omega
   rw[(zn h0).c q hq2,bM he];exact⟨(k.cla q hq2).1,RO (k.cla q hq2).2⟩
 ·have kw:=k.wat b;unfold iG at kw ⊢;rw[show(Ik L S.nc id).w b=L.w b from rfl];have em:(S.wt b).map (clV (Ik L S.nc id) (Go.Proofs.YthdidjjecjhenaaGreat.Fp S c))=(S.wt b).map (clV L S):=zsd λq hq=>cv q (k.fwt b q hq);rw[show(Go.Proofs.YthdidjjecjhenaaGreat.Fp S c).wt b=S.wt b from rfl,em];cases hw:L.w b with
  |none=>rw[hw]at kw;exact kw
  |some i=>rw[hw]at kw;exact⟨kw.1,RO kw.2⟩
 ·have hr:(if i=id then ar (Ro.c S.nc)else L.ro i)=ar r:=hr;split at hr
  ·rename_i e;rw[e];exact(zqe hid).1
  ·exact k.rlt i r hr
 ·have ho:(if i=id then ar (Ro.c S.nc)else L.ro i)=ar (.e o):=ho;split at ho
  ·cases ho
  ·exact⟨(k.ext i o ho).1,(k.ext i o ho).2.mono λi r hi=>RO hi⟩
theorem HS.newC(hs:HS n bud L S h){id:Nat}{c:Cl}(h0:L.ro id=aL)(hid:h[id]? =ar (aw (c.map vi))):HS n bud (Ik L S.nc id) (Fp S c) h:=⟨hs.toHR.newC h0 hid,hs.sol⟩
theorem wQ(S:St){x y:Int}{r:Cl}(hne:x≠y):xn (Fp S (x::y::r)) S.nc ((x::y::r).take 2)=fP S (x::y::r):=by
 have e:(λb=>if b=y then(if y=x then S.wt x++[S.nc]else S.wt y)++[S.nc]else if b=x then S.wt x++[S.nc]else S.wt b)=λb=>if b∈(x::y::r).take 2 then S.wt b++[S.nc]else S.wt b:=funext λb=>by
  simp only[List.take_succ_cons,List.take_zero,zrj,zrp,or_false];by_cases h1:b=y
  ·subst h1;rw[if_pos rfl,if_neg (Ne.symm hne),if_pos (.inr rfl)]
  ·by_cases h2:b=x
   ·subst h2;rw[if_neg h1,if_pos rfl,if_pos (.inl rfl)]
   ·rw[if_neg h1,if_neg h2,if_neg (λh=>h.elim h2 h1)]
 show {S with cl:=upd S.cl S.nc (x::y::r),nc:=S.nc+1,wt:=λb=>if b=y then(if y=x then S.wt x++[S.nc]else S.wt y)++[S.nc]else if b=x then S.wt x++[S.nc]else S.wt b}=fP S (x::y::r);rw[e];rfl
end
section
variable{n:Nat}{bud:Int}{L:Lay}{S:St}{h:H}{a:Int}{j:Nat}{l d Lc:List Cl}
variable{k:Nat}
theorem LX.mono{m:Nat}{A B:Lay}(p:LX k A B)(h:m<=k):LX m A B:=⟨p.s,p.v,p.m,p.t,p.l,p.x,p.g,λj hj=>p.c j (Nat.lt_of_lt_of_le hj h),p.w,p.ro⟩
def YJ(L:Lay)(h:H)(x:V)(c:Cl):Prop:=(x= .nils/\c=[])\/∃id,x= .ls id 1 0 (aa c) (aa c)/\h[id]? =ar (aw (c.map vi))/\L.ro id=aL
variable{x:V}{c:Cl}
theorem YJ.at(h1:YJ L h x c):CAt h x c:=h1.elim .inl λ⟨id,h2,h3,_⟩=> .inr ⟨id,h2,h3⟩
theorem PE(hs:HS n bud L S h)(hn:n<=20000)(hnc:S.nc<=20000100000){c:Cl}(i0:Inv n l d Lc S)(hcl:c∈l)(hcr:∀a∈c,a≠0/\a.natAbs<=n)(hcn:aa c<=1000)(hlv:S.lv=[])(hhd:S.hd=0){R:AEnd->H->(Nat->Bool)->Prop}
 (r1:∀S' L' h' p,Inv n l (d++[c]) Lc S'->S'.lv=[]->S'.hd=0->S'.nc<=S.nc+1->S'.nx=S.nx->S'.ln=S.ln->LX S.nc L L'->HS n bud L' S' h'->aa h<=aa h'->(∀q,p q=ab->L.ro q=aL\/(∃a,L'.ro q=ar (.w a))\/q=L.t)->R (.ret (.tup [])) h' p)
 (r2:∀h' p,Bad (l++S.ln) []->HS n bud L S h'->aa h<=aa h'->(∀q,p q=ab->L.ro q=aL)->R (.pan (.iface 134 (.agg [vi 0]))) h' p) :
 ag TE 67 [.lp L.s 0,az c] h R:=by
 have hM := mLx;have hli : (az c) = .is am 1 (c.map vi) := rfl;refine ah Tryz.func67 rfl (by simp [nts]) (vm ?_);simp only [wq.1,seval,Tryz.results67,hli];refine aA (λm f h' => ∃ (i : Nat) (e : Cl) (x : V),m + i = aa c /\ ddp [] c = ddp e (c.drop i) /\ aa e <= i /\ f.t 0 = .lp L.s 0 /\ f.t 4 = x /\ YJ L h' x e /\ f.t 7 = .is am 1 (c.map vi) /\ f.t 8 = vi (aa c) /\ f.t 9 = vi i /\ f.d = [] /\ (∀ q,f.k q = ab -> L.ro q = aL) /\ HS n bud L S h' /\ aa h <= aa h') (aa c)
  ⟨0,[],.nils,rfl,rfl,zrb _,rfl,rfl,.inl ⟨rfl,rfl⟩,rfl,by simp only[wq.1,seval];try rfl,by simp only[wq.1,↓reduceIte];try rfl,by simp only[wq.1];try rfl,(λq hq=>absurd hq Bool.false_ne_true),hs,zrb _⟩ ?_
 rintro m f h1 ⟨i,e,x,hm,hdd,hei,g0,g4,hx,g7,g8,g9,gd,gk,hs1,hl1⟩;by_cases hi:i<aa c
 ·have eb:aM ((i:Int)<(aa c:Int))=ab:=by rw[zqb];omega
  obtain⟨a,ea⟩:∃a,a=c[i]:=⟨_,rfl⟩;have hg:(c.map vi).getD i .any=vi a:=by rw[ea];simp[zqg,hi]
  have hlm:aa (c.map vi)=aa c:=zra ..;have edr:c.drop i=a::c.drop (i+1):=by rw[ea];exact List.drop_eq_getElem_cons hi
  obtain⟨ha0,han⟩:=hcr a (ea▸zqu hi);have hwn:a5 .i64 (0-a)=-a:=by rw[aV (by omega) (by omega)];omega
  have hws:a5 .i64 ((i:Int)+1)=((i+1:Nat):Int):=by rw[aV (by omega) (by omega)];omega
  have hat:=hx.at;rw[edr]at hdd;have hdd:ddp [] c=(if -a∈e then aL else if a∈e then ddp e (c.drop (i+1))else ddp (e++[a]) (c.drop (i+1))):=hdd;rcases hx with⟨rfl,rfl⟩|⟨id,rfl,hid,hro⟩
  ·rw[if_neg (by simp),if_neg (by simp),List.nil_append]at hdd;have d1:aM (-a∈([]:Cl))=am:=by simp
   have d2:aM (a∈([]:Cl))=am:=by simp
   refine vm ?_;simp only[wq.1,seval,g4,g7,g8,g9,eb,hg];refine⟨⟨by omega,by omega⟩,?_⟩;simp only[wq.1,hwn];refine gm hat (by simp) ?_;simp only[wq.1,seval,g4];refine gm hat (by simp) ?_;simp only[wq.1,↓reduceIte,Nat.reduceEqDiff,Nat.reduceLT,Nat.reduceLeDiff,reduceCtorEq,Nat.reduceMul,g4,g9,hws];refine⟨⟨rfl,by decide⟩,by decide,.inl ⟨m-1,by omega,i+1,[a],.ls (aa h1) 1 0 1 1,by omega,hdd,by simp,g0,rfl,.inr ⟨aa h1,rfl,by simp,Po hs1⟩,g7,g8,rfl,gd,gk,hs1.app _,by simp;omega⟩⟩
  ·have hem:aa (e.map vi)=aa e:=zra ..;by_cases d1:-a∈e
   ·have d1b:aM (-a∈e)=ab:=decide_eq_true d1;rw[if_pos d1]at hdd;refine vm ?_;simp only[wq.1,seval,g4,g7,g8,g9,eb,hg];refine⟨⟨by omega,by omega⟩,?_⟩;simp only[wq.1,hwn];refine gm hat (by omega) ?_;simp only[wq.1,↓reduceIte,d1b,gd];exact r1 S L h1 f.k (Tc i0 hdd) hlv hhd (Nat.le_succ _) rfl rfl (LX.refl _ L) hs1 hl1 λq hq=> .inl (gk q hq)
   ·have d1b:aM (-a∈e)=am:=decide_eq_false d1;rw[if_neg d1]at hdd;by_cases d2:a∈e
    ·have d2b:aM (a∈e)=ab:=decide_eq_true d2;rw[if_pos d2]at hdd;refine vm ?_;simp only[wq.1,seval,g4,g7,g8,g9,eb,hg];refine⟨⟨by omega,by omega⟩,?_⟩;simp only[wq.1,hwn];refine gm hat (by omega) ?_;simp only[wq.1,seval,d1b,g4];refine gm hat (by omega) ?_;simp only[wq.1,seval,d2b,g9,hws];exact .inl ⟨m-1,by omega,i+1,e,.ls id 1 0 (aa e) (aa e),by omega,hdd,by omega,g0,g4,.inr ⟨id,rfl,hid,hro⟩,g7,g8,rfl,gd,gk,hs1,hl1⟩
    ·have d2b:aM (a∈e)=am:=decide_eq_false d2;rw[if_neg d2]at hdd;have hne:∀ {i r},L.ro i=ar r->(i==id)=am:=λ{i r} hi=>by simp only[beq_eq_false_iff_ne];rintro rfl;rw[hro]at hi;cases hi
     have hdv:aE (λx=>x==id) (e.map vi)=e.map vi:=aN _;have bs:=hne hs1.rs;have hD:HS n bud L S ((List.map (O.drop λx=>x==id) h1).set id (aw (e.map vi++[vi a]))) :=
      (hs1.dropN (p:=λx=>x==id) λi r hi=>hne hi).congr (λi r hi=>zqn λe=>by rw[<-e,hro]at hi;cases hi) (by simp)
     have hil:=(zqe hid).1;refine vm ?_;simp only[wq.1,seval,g4,g7,g8,g9,eb,hg];refine⟨⟨by omega,by omega⟩,?_⟩;simp only[wq.1,hwn];refine gm hat (by omega) ?_;simp only[wq.1,seval,d1b,g4];refine gm hat (by omega) ?_;simp only[wq.1,↓reduceIte,Nat.reduceEqDiff,Nat.reduceLT,reduceCtorEq,Nat.reduceMul,d2b,g4,g9,gd,hws,hid,hdv];refine⟨⟨rfl,by decide⟩,⟨by omega,by omega,by omega⟩,.inl ⟨m-1,by omega,i+1,e++[a],.ls id 1 0 (aa e+1) (aa e+1),by omega,hdd,by simp;omega,by simp only[wq.1,seval,aG,Tryz.results67,g0,bs],rfl,.inr ⟨id,by simp,?_,hro⟩,by simp only[wq.1,seval,aG,Tryz.results67,g7],by simp only[wq.1,seval,aG,Tryz.results67,g8],rfl,gd,λq hq=> ?_,hD,by simp;omega⟩⟩
     ·rw[zqt (by simpa using hil)];simp
     ·rcases zsi hq with hq|hq
      ·exact gk q hq
      ·rw[show q=id by simpa using hq];exact hro
 ·have eb:aM ((i:Int)<(aa c:Int))=am:=by rw[zqd];omega
  rw[List.drop_of_length_le (by omega)]at hdd;have hdd:ddp [] c=ar e:=hdd;refine vm ?_;rcases hx with⟨rfl,rfl⟩|⟨id,rfl,hid,hro⟩
  ·have z0:((0:Int)==0)=ab:=rfl;simp only[wq.1,seval,g4,g8,g9,gd,eb,yG];refine⟨by decide,?_⟩;exact r2 h1 f.k (Fa hcr hcl hdd) hs1 hl1 gk
  ·by_cases he0:e=[]
   ·subst he0;have z0:(((0:Nat):Int)==0)=ab:=rfl;simp only[wq.1,seval,g4,g8,g9,gd,eb,z0,yG];refine⟨by decide,?_⟩;exact r2 h1 f.k (Fa hcr hcl hdd) hs1 hl1 gk
   ·have hep:=List.length_pos_iff.2 he0;have z0:((aa e:Int)==0)=am:=by rw[beq_eq_false_iff_ne];omega
    obtain⟨hen,hem⟩:=qK (by simp) (λa ha=>(hcr a ha).1) hdd;have hec:∀a∈e,a∈c:=λa ha=>by simpa using(hem a).1 ha
    by_cases he2:2<=aa e
    ·have z1:aM ((1:Int)<(aa e:Int))=ab:=by rw[zqb];omega
     simp only[wq.1,seval,g0,g4,g8,g9,eb,z0,z1];obtain⟨u,w,r,rfl⟩:∃u w r,e=u::w::r:=by
      match e,he2 with
      |u::w::r,_=>exact⟨u,w,r,rfl⟩
     have huw:u≠w:=by rintro rfl;simp at hen
     have hC:=hs1.newC hro hid;have ev:V.ls id 1 0 (aa (u::w::r)) (aa (u::w::r))=clV (Ik L S.nc id) (Fp S (u::w::r)) S.nc:=by unfold clV;rw[show(Ik L S.nc id).c S.nc=id from if_pos rfl,show(Fp S (u::w::r)).cl S.nc=u::w::r from bD _ _ _]
     have hc2:(Fp S (u::w::r)).cl S.nc=u::w::r:=bD _ _ _;rw[ev];refine zi hC (Nat.lt_succ_self _) (by rw[hc2];exact he2) (by rw[hc2];omega) (λb=>by have:=i0.wlen b;show aa (S.wt b)<=_;omega) λL2 h2 p lx2 hs2 hl2 hp2=> ?_;rw[hc2,wQ S huw]at hs2;simp only[wq.1,seval,aG,Tryz.results67,bC,gd];refine r1 (fP S (u::w::r)) L2 h2 _ (VF i0 hcl hcr hdd he2 hhd) hlv hhd (zrb _) rfl rfl ((zn hro).trans (lx2.mono (Nat.le_succ _))) hs2 (by omega) λq hq=> ?_;rcases zsi hq with hq|hq
     ·exact .inl (gk q hq)
     ·exact .inr (.inl (hp2 q hq))
    ·obtain⟨a,rfl⟩:∃a,e=[a]:=List.length_eq_one_iff.1 (by omega);obtain⟨a0,an⟩:=hcr a (hec a (by simp));have z1:aM ((1:Int)<((1:Nat):Int))=am:=rfl;have z2:(((1:Nat):Int)==0)=am:=rfl;have z3:((0:Int)<((1:Nat):Int))=True:=by simp
     have hid1:h1[id]? =ar (aw [vi a]):=hid;have hg0:(([a]:Cl).map vi).getD 0 .any=vi a:=rfl;have hlv0:=i0.valb (k:=a.natAbs) (by omega) an;simp only[wq.1,seval,-Int.reduceNatCast,-Int.reduceNatCast',aG,Tryz.results67,g0,g4,g7,g8,g9,gd,eb,z2,z1,hid1,zsg];refine⟨by decide,lS hs1 hn an hlv0 ?_⟩;by_cases y1:mY S a<0
     ·have y1b:aM (mY S a<0)=ab:=decide_eq_true y1;simp only[wq.1,seval,aG,Tryz.results67,g0,g4,gd,y1b,yG];exact⟨by decide,r2 h1 f.k (VI i0 hcl hcr hdd hlv ((i0.t.lval_neg a0 an).1 y1)) hs1 hl1 gk⟩
     ·have y1b:aM (mY S a<0)=am:=decide_eq_false y1;simp only[wq.1,seval,-Int.reduceNatCast,-Int.reduceNatCast',aG,Tryz.results67,g0,g4,gd,y1b,hid1];refine⟨by decide,lS hs1 hn an hlv0 ?_⟩;by_cases y2:mY S a=0
      ·have y2b:(mY S a==0)=ab:=by simpa using y2
       obtain⟨t1,t2⟩:=(i0.t.lval_zero a0 an).1 y2;simp only[wq.1,seval,-Int.reduceNatCast,-Int.reduceNatCast',aG,Tryz.results67,g0,g4,gd,y2b,hid1];refine⟨by decide,kW hs1 hn an (Nat.le_trans i0.t.len hn) aL (λ_ h=>by cases h) λh2 p hs2 hp2 hl2=> ?_⟩;simp only[wq.1,bC,gd];refine r1 (kR S a aL) L h2 _ (VG i0 hcl hcr hdd hlv t1 t2) hlv hhd (Nat.le_succ _) rfl rfl (LX.refl _ L) hs2 (by omega) λq hq=> ?_;rcases zsi hq with hq|hq
       ·exact .inl (gk q hq)
       ·exact .inr (.inr (hp2 q hq))
      ·have y2b:(mY S a==0)=am:=by simpa using y2
       simp only[wq.1,seval,gd,y2b];exact r1 S L h1 f.k (VH i0 hcr hdd hlv ((i0.t.lval_pos a0 an).1 (by omega))) hlv hhd (Nat.le_succ _) rfl rfl (LX.refl _ L) hs1 hl1 λq hq=> .inl (gk q hq)
end
def lub:Nat->Nat->Nat
 |0,_=>0
 |k+1,i=>if i+1=2*2^i.log2 then 2^i.log2 else lub k (i+1-2^i.log2)
def WS(i:Int):Int:=if i<1\/2147483647<i then 0 else(lub i.toNat i.toNat:Nat)
variable{p k i:Nat}
theorem VO(hp:p=2^k)(h1:p<=i)(h2:i<2*p):p=2^i.log2:=by
 have h0:i≠0:=by have:=Nat.two_pow_pos k;omega
 have:i.log2=k:=(Nat.log2_eq_iff h0).2 ⟨by omega,by rw[Nat.pow_succ];omega⟩;rw[this,hp]
theorem Jv{f:Nat}(hp:p=2^k)(h1:p<=i)(h2:i<2*p):lub (f+1) i=if i+1=2*p then p else lub f (i+1-p):=by rw[lub,<-VO hp h1 h2]
theorem Jw:∀(f g i:Nat),1<=i->i<=f->i<=g->lub f i=lub g i
 |0,_,i,h0,h1,_=>by omega
 |_,0,i,h0,_,h1=>by omega
 |f+1,g+1,i,h0,h1,h2=>by
  have hlo:2^i.log2<=i:=Nat.log2_self_le (by omega);have hhi:i<2^(i.log2+1):=Nat.lt_log2_self;rw[Nat.pow_succ]at hhi;simp only[lub];split
  ·rfl
  ·rename_i hne;have hp:1<2^i.log2:=by
    have:=Nat.two_pow_pos i.log2;omega
   exact Jw f g _ (by omega) (by omega) (by omega)
theorem Jy(hp:p=2^k)(h1:p<=i)(h2:i<2*p)(hne:i+1≠2*p):lub i i=lub (i+1-p) (i+1-p)/\1<=i+1-p/\i+1-p<i:=by
 have hp1:1<p:=by have:=Nat.two_pow_pos k;omega
 obtain⟨f,rfl⟩:∃f,i=f+1:=⟨i-1,by omega⟩;refine⟨?_,by omega,by omega⟩;rw[Jv hp h1 h2,if_neg hne];exact Jw _ _ _ (by omega) (by omega) (by omega)
theorem Jz(hp:p=2^k)(h1:p<=i)(h2:i<2*p)(he:i+1=2*p):lub i i=p:=by obtain⟨f,rfl⟩:∃f,i=f+1:=⟨i-1,by have:=Nat.two_pow_pos k;omega⟩;rw[Jv hp h1 h2,if_pos he]
theorem VP(i:Int):Ev TE 118 [vi i] (vi (WS i)):=by
 refine aC Tryz.func118 rfl (by simp[nts]) (vm ?_);by_cases hr:i<1
 ·have e1:aM (i<1)=ab:=decide_eq_true hr;have ev:WS i=0:=if_pos (.inl hr);rw[ev];simp only[wq.1,seval,Tryz.results118,e1];exact aH.dat rfl
 ·have e1:aM (i<1)=am:=decide_eq_false hr;by_cases hr2:2147483647<i
  ·have e2:aM (2147483647<i)=ab:=decide_eq_true hr2;have ev:WS i=0:=if_pos (.inr hr2);rw[ev];simp only[wq.1,seval,Tryz.results118,e1,e2];exact aH.dat rfl
  ·have e2:aM (2147483647<i)=am:=decide_eq_false hr2;obtain⟨m0,rfl⟩:∃m0:Nat,i=m0:=⟨i.toNat,by omega⟩;have ev:WS (m0:Int)=(lub m0 m0:Nat):=if_neg (by omega);rw[ev];simp only[wq.1,seval,Tryz.results118,e1,e2];refine aA (λm f h=>∃i:Nat,m=i/\f.t 0=vi i/\f.d=[]/\1<=i/\i<=m0/\lub i i=lub m0 m0) m0 ⟨m0,rfl,rfl,rfl,by omega,zrb _,rfl⟩ ?_;rintro i f h ⟨_,rfl,g0,gd,hi1,hi2,hl⟩;refine vm ?_;simp only[wq.1,Nat.reduceLT];refine aA (λm f h=>∃k:Nat,m=i-2^k/\f.t 0=vi i/\f.t 3=vi (2^k:Nat)/\f.d=[]/\2^k<=i) (i-1) ⟨0,by simp,g0,by simp only[wq.1,↓reduceIte];try rfl,gd,by simpa using hi1⟩ ?_;rintro m2 f2 h2 ⟨k,rfl,k0,k3,kd,hk⟩;refine vm ?_;simp only[wq.1,seval,k0,k3];have hpk:=Nat.two_pow_pos k;have w1:a5 .i64 (2*((2^k:Nat):Int))=((2*2^k:Nat):Int):=by rw[aV (by omega) (by omega)];omega
   have w2:a5 .i64 (((2^k:Nat):Int)*2)=((2^(k+1):Nat):Int):=by rw[Nat.pow_succ,aV (by omega) (by omega)];omega
   by_cases h2k:2*2^k<=i
   ·have eb:aM (((2*2^k:Nat):Int)<=(i:Int))=ab:=by rw[zqb];omega
    simp only[wq.1,seval,k3,w1,eb,w2];exact .inl ⟨i-2^(k+1),by rw[Nat.pow_succ];omega,k+1,rfl,k0,rfl,kd,by rw[Nat.pow_succ];omega⟩
   ·have eb:aM (((2*2^k:Nat):Int)<=(i:Int))=am:=by rw[zqd];omega
    have w3:a5 .i64 (((2*2^k:Nat):Int)-1)=((2*2^k-1:Nat):Int):=by rw[aV (by omega) (by omega)];omega
    by_cases he:i+1=2*2^k
    ·have eq1:((i:Int)==((2*2^k-1:Nat):Int))=ab:=by rw[beq_iff_eq];omega
     simp only[wq.1,seval,k0,k3,kd,w1,eb,w3,eq1];rw[<-hl,Jz rfl hk (by omega) he];exact aH.dat rfl
    ·have eq1:((i:Int)==((2*2^k-1:Nat):Int))=am:=by rw[beq_eq_false_iff_ne];omega
     have w4:a5 .i64 (((2^k:Nat):Int)-1)=((2^k-1:Nat):Int):=by rw[aV (by omega) (by omega)];omega
     have w5:a5 .i64 ((i:Int)-((2^k-1:Nat):Int))=((i+1-2^k:Nat):Int):=by rw[aV (by omega) (by omega)];omega
     obtain⟨n1,n2,n3⟩:=Jy rfl hk (by omega) he;simp only[wq.1,seval,k0,k3,w1,eb,w3,eq1,w4,w5];exact .inl ⟨i+1-2^k,n3,i+1-2^k,rfl,rfl,kd,n2,by omega,n1▸hl⟩
theorem PG:∀(b i:Nat),1<=i->i<=b->∃k,lub i i=2^k/\2^k<=i
 |0,i,h1,h2=>by omega
 |b+1,i,h1,h2=>by
  have hlo:2^i.log2<=i:=Nat.log2_self_le (by omega);have hhi:i<2^(i.log2+1):=Nat.lt_log2_self;rw[Nat.pow_succ]at hhi;by_cases he:i+1=2*2^i.log2
  ·exact⟨i.log2,Jz rfl hlo (by omega) he,hlo⟩
  ·obtain⟨n1,n2,n3⟩:=Jy rfl hlo (by omega) he;obtain⟨k,k1,k2⟩:=PG b _ n2 (by omega);exact⟨k,n1.trans k1,by omega⟩
section
variable{h:H}
variable{id:Nat}{c:Cl}
theorem zo(hid:h[id]? =ar (aw (c.map vi)))(hc:c≠[])(hcl:aa c<=1000000){R:AEnd->H->(Nat->Bool)->Prop}(hr:R (.ret (.ls (aa h) 1 0 (aa c) (aa c))) (h++[aw (c.map vi)]) (λ_=>am)) :
 ag TE 121 [.ls id 1 0 (aa c) (aa c)] h R:=by
 have hM:=mLx;have hl:aa (c.map vi)=aa c:=zra ..;have hp:=List.length_pos_iff.2 hc;have ht:(if aa c*1<=aa c then ar (aa c,List.take (aa c*1) (c.map vi))else aL)=ar (aa c,c.map vi):=by rw[if_pos (by omega),Nat.mul_one,zqh (by simp)]
 refine ah Tryz.func121 rfl (by simp[nts]) (vm ?_);simp only[wq.1,↓reduceIte,Nat.reduceLT,reduceCtorEq,Tryz.results121];intro b hb;have hb:b=am:=by
  cases b with
  |false=>rfl
  |true=>have:=hb rfl;omega
 subst hb;simp only[wq.1,↓reduceIte,Nat.reduceEqDiff,Nat.reduceLT,reduceCtorEq,Nat.reduceMul,hid,ht,dZ];exact⟨⟨rfl,by decide⟩,⟨by omega,by omega⟩,hr⟩
end
end Go.Proofs.YthdidjjecjhenaaGreat
