/- Lemmas for this claim, part F04: each holds under what it names. -/
import Derived.Test.YthdidjjecjhenaaGreatF03
import Derived.Test.YthdidjjecjhenaaGreatA7
set_option linter.unusedVariables false
set_option linter.unusedSimpArgs false
set_option linter.unnecessarySimpa false
set_option maxRecDepth 20000
namespace Go.Proofs.YthdidjjecjhenaaGreat
open Go Go.Proofs Go.Abs
section
variable{n:Nat}{bud:Int}{L:Lay}{S:St}{h:H}
def Lh:Plan:=tkZ [0,1,2,4,5,6,7,9,11]<| .alt 3 (.alt 8 (.alt 10 (onZ [12,13,14]<| .fin) (.one 12 (onZ [10,13,14]<| .fin))) (.one 12 (onZ [8,10,13,14]<| .fin))) (.alt 8 (.alt 3 (.alt 10 (onZ [12,13,14]<| .fin) (.one 12 (onZ [10,13,14]<| .fin))) (.alt 10 (.alt 3 (onZ [12,13,14]<| .fin) (.one 12 (.alt 3 (.one 13<| .one 14<| .fin) (.one 13 (.one 3<| .one 14<| .fin))))) (.one 12 (.alt 3 (onZ [10,13,14]<| .fin) (.one 10 (.alt 3 (.one 13<| .one 14<| .fin) (.one 13 (.one 3<| .one 14<| .fin)))))))) (.one 12 (.alt 3 (onZ [8,10,13,14]<| .fin) (.one 8 (.alt 3 (onZ [10,13,14]<| .fin) (.one 10 (.alt 3 (.one 13<| .one 14<| .fin) (.one 13 (.one 3<| .one 14<| .fin)))))))))
def wK(S:St)(j:Nat)(c:Cl):St:=c.foldl (fun S a=>Gp S a j) S
theorem I9(S:St)(j:Nat):∀c:Cl,(wK S j c).cl=S.cl/\(wK S j c).nc=S.nc:=by
 intro c
 induction c generalizing S with
 |nil=>exact⟨rfl,rfl⟩
 |cons a c ih=>exact ih (Gp S a j)
theorem tV{p:Nat->Bool}(f:Int->V):∀ks:List Int,V.drops p (ks.map f)=ks.map fun b=>(f b).drop p
 |[]=>rfl
 |b::ks=>by simp only[zrd,V.drops,tV f ks]
theorem Sl(S:St)(a b:Int)(j:Nat):((Gp S a j).wt b).length<=(S.wt b).length+1:=by
 show(if b=a then S.wt a++[j]else S.wt b).length<=_;split
 ·rename_i e;subst e;simp
 ·omega
theorem EM(j:Nat)(b:Int):∀(c:Cl)(S:St),((wK S j c).wt b).length<=(S.wt b).length+c.length
 |[],S=>by simp[wK]
 |a::c,S=>by have h1:=EM j b c (Gp S a j);have h2:=Sl S a b j;have e:wK S j (a::c)=wK (Gp S a j) j c:=rfl;rw[e,zrt];omega
theorem OJ(hs:HS n bud L S h):L.ro h.length=none:=by
 cases e:L.ro h.length with
 |none=>rfl
 |some r=>exact absurd (hs.rlt _ _ e) (Nat.lt_irrefl _)
variable{id:Nat}
theorem OL{o:O}{i:Nat}(hi:h[i]? =some o)(hv:o.drop (fun x=>x==id)=o):(h.map (O.drop fun x=>x==id))[i]? =some o:=by rw[zqo,hi,zrw,hv]
theorem OM{cs:List V}{i:Nat}(hi:h[i]? =some (.cells cs))(hv:∀v∈cs,v.drop (fun x=>x==id)=v):(h.map (O.drop fun x=>x==id))[i]? =some (.cells cs):=by rw[zqo,hi,zrw,aZ,dQ hv]
def mwV(L:Lay)(S:St)(a:Int):V:=IZ (L.w a) 1 (S.wt a).length
theorem HR.mapv(k:HR n L S h):∃ks:List Int,h[L.m]? =some (.map (ks.map vi) (ks.map (mwV L S)))/\ks.Nodup/\∀a,¬a∈ks->L.w a=none/\S.wt a=[]:=k.map
theorem yM(hs:HS n bud L S h){j:Nat}(hj:j<S.nc)(h2:2<=(S.cl j).length)(hcl:(S.cl j).length<=1000000)(hw:∀a,(S.wt a).length<=30000000000){R:AEnd->H->(Nat->Bool)->Prop}
 (hr:∀L' h' p,LX S.nc L L'->HS n bud L' (wK S j ((S.cl j).take 2)) h'->h.length<=h'.length->(∀i,p i=true->∃a,L'.ro i=some (.w a))->R (.ret (.tup [])) h' p):ag TE 96 [.lp L.s 0,clV L S j] h R:=by
 have hM := mLx;unfold clV;refine ah Tryz.func96 rfl (by simp [nts]) (vm ?_);simp only [wq.1,seval,Tryz.results96];refine ⟨by omega,?_⟩;refine aC (fun m f h' => ∃ (i : Nat) (L' : Lay),m = 2 - i /\ i <= 2 /\ f.t 0 = .lp L.s 0 /\ f.t 1 = .ls (L.c j) 1 0 (S.cl j).length (S.cl j).length /\ f.t 7 = .ls (L.c j) 1 0 2 (S.cl j).length /\ f.t 8 = vi 2 /\ f.t 9 = vi i /\ f.d = [] /\ (∀ q,f.k q = true -> ∃ a,L'.ro q = some (.w a)) /\ LX S.nc L L' /\ HS n bud L' (wK S j ((S.cl j).take i)) h' /\ h.length <= h'.length) 2
  ⟨0,L,rfl,by omega,rfl,rfl,rfl,rfl,rfl,rfl,(fun q hq=>absurd hq Bool.false_ne_true),LX.refl _ L,hs,zrb _⟩ ?_
 rintro m f h' ⟨i,L',hm,hi,h0,h1,h7,h8,h9,hd,hkf,hx,hs',hlen⟩;obtain⟨S1,hS1⟩:∃S1,S1=wK S j ((S.cl j).take i):=⟨_,rfl⟩;have ecl:S1.cl=S.cl:=by rw[hS1];exact(I9 _ _ _).1
 have enc:S1.nc=S.nc:=by rw[hS1];exact(I9 _ _ _).2
 have hw0:∀b,(S1.wt b).length<=30000000002:=fun b=>by have h1:=EM j b ((S.cl j).take i) S;have h2:=hw b;rw[<-hS1,zrl]at h1;omega
 rw[<-hS1]at hs';refine vm ?_;simp only[wq.1,seval,h8,h9];by_cases hi2:i=2
 ·subst hi2;have e:decide (((2:Nat):Int)<2)=false:=rfl;simp only[wq.1,e,hd];exact hr L' h' f.k hx (hS1▸hs') hlen hkf
 ·have e:decide ((i:Int)<2)=true:=by rw[zqb];omega
  have hij:i<(S.cl j).length:=by omega
  have hj':j<S1.nc:=by rw[enc];exact hj
  have hc:=(hs'.cla j hj').1;rw[ecl,hx.c j hj]at hc;have hg:((S.cl j).map vi).getD (i*1) .any=vi (S.cl j)[i]:=by simp[zqg,hij]
  obtain⟨a,ha⟩:∃a,a=(S.cl j)[i]:=⟨_,rfl⟩;rw[<-ha]at hg;simp only[wq.1,↓reduceIte,Nat.reduceEqDiff,Nat.reduceLT,e,h7,h9,hc,hg];refine⟨by omega,by omega,?_⟩;refine bM dV Lh (fun f' h''=>∃L2,LX S.nc L' L2/\HS n bud L2 (Gp S1 a j) h''/\f'.t 0= .lp L.s 0/\f'.t 1= .ls (L.c j) 1 0 (S.cl j).length (S.cl j).length/\f'.t 7= .ls (L.c j) 1 0 2 (S.cl j).length/\f'.t 8=vi 2/\f'.t 9=vi i/\f'.d=[]/\(∀q,f'.k q=true->∃a,L2.ro q=some (.w a))/\h'.length<=h''.length) (by decide +kernel) (by decide +kernel) ?_ ?_
  ·obtain⟨ks,hm1,hm2,hm3⟩:=hs'.mapv;have hsol:=hs'.sol;have hls:=hs'.rlt _ _ hs'.rs;have hlm:=hs'.rlt _ _ hs'.rm;rw[hx.s]at hsol hls;have en1:∀o:O,(h'++[o])[L.s]? =some (.cells (ax n bud L' S1)):=fun o=>by rw[zqj hls];exact hsol
   have en2:∀o:O,(h'++[o])[L'.m]? =some (.map (ks.map vi) (ks.map (mwV L' S1))):=fun o=>by rw[zqj hlm];exact hm1
   have hms:L'.m≠L.s:=by rw[<-hx.s];exact bT L' hs'.rm hs'.rs (by simp)
   have en3:∀(o q:O),(List.set (h'++[o]) L'.m q)[L.s]? =some (.cells (ax n bud L' S1)):=fun o q=>by rw[zqn hms];exact en1 o
   have hfm:∀id len,List.flatMap V.vc [V.ls id 1 0 len len]=[V.ls id 1 0 len len]:=fun _ _=>rfl;have hft:∀id len,mf 1 [V.ls id 1 0 len len]=true:=fun _ _=>rfl;have hget:=wW (ks:=ks) (f:=mwV L' S1) (zero:=V.nils) a fun hn=>by unfold mwV;rw[(hm3 a hn).1];rfl
   cases hw:L'.w a with
   |none =>
    have hnil:mwV L' S1 a= .nils:=by unfold mwV;rw[hw];rfl
    rw[hnil]at hget;obtain⟨ks2,hp1,hp2,hp3,hp4⟩:=lZ hm2 (mwV L' S1) a (.ls h'.length 1 0 1 1);simp only[wq.1,↓reduceIte,Nat.reduceEqDiff,Nat.reduceLT,Nat.reduceLeDiff,Nat.reduceAdd,reduceCtorEq,Nat.reduceMul,Lh,h0,h1,h7,h8,h9,hd,hsol,ax,hm1,hget,en1,en2,hp1];refine⟨⟨rfl,by decide⟩,by omega,zW L' a h'.length,oL (.inl ⟨?_,hw⟩),⟨hs'.toHR.wstep hj' (.inl ⟨?_,hw⟩) ?_ ?_ ⟨ks2,?_,hp2,hp3,fun b hb=>hm3 b fun hb2=>hb (hp4 b hb2)⟩ (by simp) (by simp),?_⟩,fun q hq=> ?_,by simp⟩
    ·exact OJ hs'
    ·exact OJ hs'
    ·intro q cs hq hv hr hne hqm;have hlt:=(zqe hq).1;have hqm:=hqm.symm;rw[zqn hqm,zqj hlt];exact hq
    ·have hwt:S1.wt a=[]:=by have:=hs'.wat a;unfold gX at this;rw[hw]at this;simpa using this
     rw[zqn (by omega),hwt];simp[clV,ecl,hx.c j hj]
    ·have hwt:S1.wt a=[]:=by have:=hs'.wat a;unfold gX at this;rw[hw]at this;simpa using this
     rw[zqt (by simp;omega),hwt];rfl
    ·rw[show(zW L' a h'.length).s=L'.s from rfl,hx.s];exact en3 _ _
    ·obtain⟨b,hb⟩:=hkf q hq;exact⟨b,(oL (m:=0) (.inl ⟨OJ hs',hw⟩)).ro _ _ hb⟩
   |some id =>
    have hrow:=hs'.wat a;unfold gX at hrow;rw[hw]at hrow;obtain⟨hr1,hr2⟩:=hrow;have hv1:mwV L' S1 a= .ls id 1 0 (S1.wt a).length (S1.wt a).length:=by unfold mwV;rw[hw];rfl
    rw[hv1]at hget;have hlen2:((S1.wt a).map (clV L' S1)).length=(S1.wt a).length:=zra ..;have hsi:L.s≠id:=by rw[<-hx.s];exact bT L' hs'.rs hr2 (by simp)
    have b1:(L.s==id)=false:=by simp[hsi]
    have b2:(L'.m==id)=false:=by simp[bT L' hs'.rm hr2 (by simp)]
    have b3:(L.c j==id)=false:=by rw[<-hx.c j hj];simp[bT L' (hs'.cla j hj').2 hr2 (by simp)]
    obtain⟨ks2,hp1,hp2,hp3,hp4⟩:=lZ hm2 (fun b=>(mwV L' S1 b).drop fun x=>x==id) a (.ls id 1 0 ((S1.wt a).length+1) ((S1.wt a).length+1));have q1:∀o:O,((List.map (O.drop fun x=>x==id) h').set id o)[L'.m]? =some (.map (ks.map vi) (ks.map fun b=>(mwV L' S1 b).drop fun x=>x==id)):=fun o=>by rw[zqn (bT L' hr2 hs'.rm (by simp)),zqo,hm1,zrw,kM,dQ (fun v hv=>by obtain⟨_,_,rfl⟩:=zrh.1 hv;exact dY),tV]
    have nb:∀ {i r},L'.ro i=some r->r≠ .w a->(i==id)=false:=fun hi hr=>by simp[bT L' hi hr2 hr]
    have hsol2:∀v∈ax n bud L' S1,v.drop (fun x=>x==id)=v:=fun v hv=>by
     simp only[ax,zrj,zrp,or_false]at hv;rcases hv with rfl|rfl|rfl|rfl|rfl|rfl|rfl|rfl<;>first|exact dY|exact bK (nb hs'.rv (by simp))|exact bK (nb hs'.rt (by simp))|exact bK (nb hs'.rl (by simp))|exact bK (nb hs'.rx (by simp))|exact bK (nb hs'.rg (by simp))|skip
     rw[V.drop,b2];rfl
    have q2:∀o:O,((List.map (O.drop fun x=>x==id) h').set id o)[L.s]? =some (.cells (ax n bud L' S1)):=fun o=>by rw[zqn hsi.symm];exact OM hsol hsol2
    have q3:V.drops (fun x=>x==id) (List.map (clV L' S1) (S1.wt a))=List.map (clV L' S1) (S1.wt a):=dQ fun v hv=>by obtain⟨q,hq,rfl⟩:=zrh.1 hv;exact bK (nb (hs'.cla q (hs'.fwt a q hq)).2 (by simp))
    have q4:∀o q:O,(((List.map (O.drop fun x=>x==id) h').set id o).set L'.m q)[L.s]? =some (.cells (ax n bud L' S1)):=fun o q=>by rw[zqn hms];exact q2 o
    have hwb:=hw0 a;have key:∃L2,LX S.nc L' L2/\HS n bud L2 (Gp S1 a j) (((List.map (O.drop fun x=>x==id) h').set id (.cells (List.map (clV L' S1) (S1.wt a)++[.ls (L.c j) 1 0 (S.cl j).length (S.cl j).length]))).set L'.m (.map (ks2.map vi) (ks2.map fun b=>if b=a then .ls id 1 0 ((S1.wt a).length+1) ((S1.wt a).length+1)else(mwV L' S1 b).drop fun x=>x==id))) /\
     (∀q,(f.k q||q==id)=true->∃a,L2.ro q=some (.w a))/\h'.length<=(((List.map (O.drop fun x=>x==id) h').set id (.cells (List.map (clV L' S1) (S1.wt a)++[.ls (L.c j) 1 0 (S.cl j).length (S.cl j).length]))).set L'.m (.map (ks2.map vi) (ks2.map fun b=>if b=a then .ls id 1 0 ((S1.wt a).length+1) ((S1.wt a).length+1)else(mwV L' S1 b).drop fun x=>x==id))).length:=by
     have hil:=hs'.rlt _ _ hr2;refine⟨zW L' a id,oL (.inr ⟨hr2,hw⟩),⟨hs'.toHR.wstep hj' (.inr ⟨hr2,hw⟩) ?_ ?_ ⟨ks2,?_,hp2,hp3,fun b hb=>hm3 b fun hb2=>hb (hp4 b hb2)⟩ (by simp) (by simpa using hil),?_⟩,fun q hq=> ?_,by simp⟩
     ·intro q cs hq hv hr hne hqm;have hqm:=hqm.symm;rw[zqn hqm,zqn (Ne.symm hne)];exact OL hq hv
     ·rw[zqn (bT L' hs'.rm hr2 (by simp)),zqt (by simpa using hil)];simp[clV,ecl,hx.c j hj]
     ·rw[zqt (by simpa using hlm)]
      congr 2
      refine zsd fun b hb=> ?_;by_cases he:b=a
      ·rw[if_pos he,if_pos he]
      ·rw[if_neg he,if_neg he];unfold mwV;have kw:=hs'.wat b;unfold gX at kw;cases hwb:L'.w b with
       |none=>simp only[IZ,V.drop]
       |some i=>rw[hwb]at kw;exact bK (nb kw.2 (by simpa using he))
     ·rw[show(zW L' a id).s=L'.s from rfl,hx.s];exact q4 _ _
     ·rcases zsi hq with hq|hq
      ·obtain⟨b,hb⟩:=hkf q hq;exact⟨b,(oL (m:=0) (.inr ⟨hr2,hw⟩)).ro _ _ hb⟩
      ·exact⟨a,by rw[show q=id by simpa using hq];exact if_pos rfl⟩
    simp only[wq.1,seval,Lh,h0,h1,h7,h8,h9,hd,hsol,ax,hm1,hget,hp1,hr1,b1,b2,b3,q1,q2,q3]
    and_intros<;>first|exact key|omega|rfl|decide
  ·rintro f2 h2 ⟨L2,hx2,hs2,g0,g1,g7,g8,g9,gd,gk,gl⟩;have hw2:IntKind.i64.wrap ((i:Int)+1)=((i+1:Nat):Int):=by rw[aU (by omega) (by omega)];omega
   simp only[wq.1,seval,g9,hw2];have e2:Gp S1 a j=wK S j ((S.cl j).take (i+1)):=by
    rw[zrg,zqk hij,<-ha,hS1];unfold wK;rw[List.foldl_append];rfl
   exact .inl ⟨2-(i+1),by omega,i+1,L2,rfl,by omega,g0,g1,g7,g8,rfl,gd,gk,hx.trans hx2,e2▸hs2,by omega⟩
end
section
variable{n:Nat}{bud:Int}{L:Lay}{S:St}{h:H}{a:Int}{j:Nat}
theorem OO(hs:HS n bud L S h)(hj:j<S.nc)(hw:L.w a=none):∃ks ks2:List Int,h[L.m]? =some (.map (ks.map vi) (ks.map (mwV L S))) /\
 qp (.int .i64) (vi a) (ks.map vi) (ks.map (mwV L S)) .nils false=(True,.nils) /\
 Iw (.int .i64) (vi a) (.ls h.length 1 0 1 1) (ks.map vi) (ks.map (mwV L S))=some (ks2.map vi,ks2.map fun b=>if b=a then .ls h.length 1 0 1 1 else mwV L S b) /\
 HS n bud (zW L a h.length) (Gp S a j) (List.set (h++[O.cells [.ls (L.c j) 1 0 (S.cl j).length (S.cl j).length]]) L.m (.map (ks2.map vi) (ks2.map fun b=>if b=a then .ls h.length 1 0 1 1 else mwV L S b))):=by
 obtain⟨ks,hm1,hm2,hm3⟩:=hs.mapv;have hsol:=hs.sol;have hls:=hs.rlt _ _ hs.rs;have hlm:=hs.rlt _ _ hs.rm;have hms:L.m≠L.s:=bT L hs.rm hs.rs (by simp);have hget:=wW (ks:=ks) (f:=mwV L S) (zero:=V.nils) a fun hn=>by unfold mwV;rw[(hm3 a hn).1];rfl
 have hnil:mwV L S a= .nils:=by unfold mwV;rw[hw];rfl
 rw[hnil]at hget;obtain⟨ks2,hp1,hp2,hp3,hp4⟩:=lZ hm2 (mwV L S) a (.ls h.length 1 0 1 1);refine⟨ks,ks2,hm1,hget,hp1,hs.toHR.wstep hj (.inl ⟨OJ hs,hw⟩) ?_ ?_ ⟨ks2,?_,hp2,hp3,fun b hb=>hm3 b fun hb2=>hb (hp4 b hb2)⟩ (by simp) (by simp),?_⟩
 ·intro q cs hq hv hr hne hqm;have hlt:=(zqe hq).1;have hqm:=hqm.symm;rw[zqn hqm,zqj hlt];exact hq
 ·have hwt:S.wt a=[]:=by have:=hs.wat a;unfold gX at this;rw[hw]at this;simpa using this
  rw[zqn (by omega),hwt];simp[clV]
 ·have hwt:S.wt a=[]:=by have:=hs.wat a;unfold gX at this;rw[hw]at this;simpa using this
  rw[zqt (by simp;omega),hwt];rfl
 ·rw[show(zW L a h.length).s=L.s from rfl,zqn hms,zqj hls];exact hsol
theorem OQ(hs:HS n bud L S h)(hj:j<S.nc){id:Nat}(hw:L.w a=some id):∃ks ks2:List Int,h[L.m]? =some (.map (ks.map vi) (ks.map (mwV L S)))/\h[id]? =some (.cells ((S.wt a).map (clV L S)))/\L.ro id=some (.w a) /\
 qp (.int .i64) (vi a) (ks.map vi) (ks.map (mwV L S)) .nils false=(True,.ls id 1 0 (S.wt a).length (S.wt a).length) /\
 Iw (.int .i64) (vi a) (.ls id 1 0 ((S.wt a).length+1) ((S.wt a).length+1)) (ks.map vi) (ks.map fun b=>(mwV L S b).drop fun x=>x==id)=some (ks2.map vi,ks2.map fun b=>if b=a then .ls id 1 0 ((S.wt a).length+1) ((S.wt a).length+1)else(mwV L S b).drop fun x=>x==id) /\
 HS n bud (zW L a id) (Gp S a j) (((List.map (O.drop fun x=>x==id) h).set id (.cells (List.map (clV L S) (S.wt a)++[.ls (L.c j) 1 0 (S.cl j).length (S.cl j).length]))).set L.m (.map (ks2.map vi) (ks2.map fun b=>if b=a then .ls id 1 0 ((S.wt a).length+1) ((S.wt a).length+1)else(mwV L S b).drop fun x=>x==id))) /\
 (∀o:O,((List.map (O.drop fun x=>x==id) h).set id o)[L.m]? =some (.map (ks.map vi) (ks.map fun b=>(mwV L S b).drop fun x=>x==id))) /\
 (∀o:O,((List.map (O.drop fun x=>x==id) h).set id o)[L.s]? =some (.cells (ax n bud L S))) /\
 (V.drops (fun x=>x==id) (List.map (clV L S) (S.wt a))=List.map (clV L S) (S.wt a)) /\
 (∀o q:O,(((List.map (O.drop fun x=>x==id) h).set id o).set L.m q)[L.s]? =some (.cells (ax n bud L S))):=by
 obtain⟨ks,hm1,hm2,hm3⟩:=hs.mapv;have hsol:=hs.sol;have hls:=hs.rlt _ _ hs.rs;have hlm:=hs.rlt _ _ hs.rm;have hms:L.m≠L.s:=bT L hs.rm hs.rs (by simp);have hget:=wW (ks:=ks) (f:=mwV L S) (zero:=V.nils) a fun hn=>by unfold mwV;rw[(hm3 a hn).1];rfl
 have hrow:=hs.wat a;unfold gX at hrow;rw[hw]at hrow;obtain⟨hr1,hr2⟩:=hrow;have hv1:mwV L S a= .ls id 1 0 (S.wt a).length (S.wt a).length:=by unfold mwV;rw[hw];rfl
 rw[hv1]at hget;have hsi:L.s≠id:=bT L hs.rs hr2 (by simp);have b2:(L.m==id)=false:=by simp[bT L hs.rm hr2 (by simp)]
 obtain⟨ks2,hp1,hp2,hp3,hp4⟩:=lZ hm2 (fun b=>(mwV L S b).drop fun x=>x==id) a (.ls id 1 0 ((S.wt a).length+1) ((S.wt a).length+1));have q1:∀o:O,((List.map (O.drop fun x=>x==id) h).set id o)[L.m]? =some (.map (ks.map vi) (ks.map fun b=>(mwV L S b).drop fun x=>x==id)):=fun o=>by rw[zqn (bT L hr2 hs.rm (by simp)),zqo,hm1,zrw,kM,dQ (fun v hv=>by obtain⟨_,_,rfl⟩:=zrh.1 hv;exact dY),tV]
 have nb:∀ {i r},L.ro i=some r->r≠ .w a->(i==id)=false:=fun hi hr=>by simp[bT L hi hr2 hr]
 have hsol2:∀v∈ax n bud L S,v.drop (fun x=>x==id)=v:=fun v hv=>by
  simp only[ax,zrj,zrp,or_false]at hv;rcases hv with rfl|rfl|rfl|rfl|rfl|rfl|rfl|rfl<;>first|exact dY|exact bK (nb hs.rv (by simp))|exact bK (nb hs.rt (by simp))|exact bK (nb hs.rl (by simp))|exact bK (nb hs.rx (by simp))|exact bK (nb hs.rg (by simp))|skip
  rw[V.drop,b2];rfl
 have q2:∀o:O,((List.map (O.drop fun x=>x==id) h).set id o)[L.s]? =some (.cells (ax n bud L S)):=fun o=>by rw[zqn hsi.symm];exact OM hsol hsol2
 have q3:V.drops (fun x=>x==id) (List.map (clV L S) (S.wt a))=List.map (clV L S) (S.wt a):=dQ fun v hv=>by obtain⟨q,hq,rfl⟩:=zrh.1 hv;exact bK (nb (hs.cla q (hs.fwt a q hq)).2 (by simp))
 have q4:∀o q:O,(((List.map (O.drop fun x=>x==id) h).set id o).set L.m q)[L.s]? =some (.cells (ax n bud L S)):=fun o q=>by rw[zqn hms];exact q2 o
 have hil:=hs.rlt _ _ hr2;refine⟨ks,ks2,hm1,hr1,hr2,hget,hp1,⟨hs.toHR.wstep hj (.inr ⟨hr2,hw⟩) ?_ ?_ ⟨ks2,?_,hp2,hp3,fun b hb=>hm3 b fun hb2=>hb (hp4 b hb2)⟩ (by simp) (by simpa using hil),q4 _ _⟩,q1,q2,q3,q4⟩
 ·intro q cs hq hv hr hne hqm;have hqm:=hqm.symm;rw[zqn hqm,zqn (Ne.symm hne)];exact OL hq hv
 ·rw[zqn (bT L hs.rm hr2 (by simp)),zqt (by simpa using hil)];simp[clV]
 ·rw[zqt (by simpa using hlm)]
  congr 2
  refine zsd fun b hb=> ?_;by_cases he:b=a
  ·rw[if_pos he,if_pos he]
  ·rw[if_neg he,if_neg he];unfold mwV;have kw:=hs.wat b;unfold gX at kw;cases hwb:L.w b with
   |none=>simp only[IZ,V.drop]
   |some i=>rw[hwb]at kw;exact bK (nb kw.2 (by simpa using he))
theorem HR.setC(k:HR n L S h)(hj:j<S.nc){c:Cl}(hl:c.length=(S.cl j).length):HR n L (swS S j c) (h.set (L.c j) (.cells (c.map vi))):=by
 have hc:=(k.cla j hj).2;have hlen:∀q,((swS S j c).cl q).length=(S.cl q).length:=fun q=>by
  show(upd S.cl j c q).length=_;by_cases he:q=j
  ·subst he;rw[bC,hl]
  ·rw[bI he]
 have hcv:clV L (swS S j c)=clV L S:=funext fun q=>by unfold clV;rw[hlen]
 have hvc:dP L (swS S j c) n=dP L S n:=by
  unfold dP gV;have:reV L (swS S j c)=reV L S:=funext fun r=>by cases r<;>simp only[reV,hcv]
  rw[this];rfl
 refine {var:= ?_,map:= ?_,trl:= ?_,lvl:= ?_,nxl:= ?_,lnl:= ?_,lnk:= ?_,cla:= ?_,wat:= ?_,fre:=k.fre,fwt:=k.fwt,rs:=k.rs,rv:=k.rv,rm:=k.rm,rt:=k.rt,rl:=k.rl,rx:=k.rx,rg:=k.rg,rlt:=fun i q hq=>by rw[zrn];exact k.rlt i q hq,ext:=fun i o ho=>⟨by rw[bu hc ho (by simp)];exact(k.ext i o ho).1,(k.ext i o ho).2⟩}
 ·rw[bu hc k.rv (by simp),hvc];exact k.var
 ·obtain⟨ks,h1,h2⟩:=k.map;exact⟨ks,by rw[bu hc k.rm (by simp)];exact h1,h2⟩
 ·rw[bu hc k.rt (by simp)];exact k.trl
 ·rw[bu hc k.rl (by simp)];exact k.lvl
 ·rw[bu hc k.rx (by simp)];exact k.nxl
 ·rw[bu hc k.rg (by simp)];exact k.lnl
 ·intro i hi;obtain⟨h1,h2⟩:=k.lnk i hi;exact⟨by rw[bu hc h2 (by simp)];exact h1,h2⟩
 ·intro q hq;obtain⟨h1,h2⟩:=k.cla q hq;refine⟨?_,h2⟩;show(h.set (L.c j) _)[L.c q]? =some (.cells ((upd S.cl j c q).map vi));by_cases he:q=j
  ·subst he;rw[bC,zqt (k.rlt _ _ hc)]
  ·rw[bI he,bu hc h2 (by simpa using Ne.symm he)];exact h1
 ·intro b;have:=k.wat b;unfold gX at this ⊢;rw[hcv];cases hw:L.w b with
  |none=>rw[hw]at this;exact this
  |some id=>rw[hw]at this;exact⟨by rw[bu hc this.2 (by simp)];exact this.1,this.2⟩
theorem HS.setC(hs:HS n bud L S h)(hj:j<S.nc){c:Cl}(hl:c.length=(S.cl j).length):HS n bud L (swS S j c) (h.set (L.c j) (.cells (c.map vi))) :=
 ⟨hs.toHR.setC hj hl,by rw[bu (hs.cla j hj).2 hs.rs (by simp)];exact hs.sol⟩
end
section
variable{n:Nat}{bud:Int}{L:Lay}{S:St}{h:H}{a:Int}{j:Nat}
def Xf:Plan:=tkZ [0,1,2,3,5,6]<| .alt 4 (.one 7<| .take 8<| .one 9<| .take 10<| .one 11<| .fin) (.one 7 (.one 4<| .take 8<| .one 9<| .take 10<| .one 11<| .fin))
theorem wX(nt:Int):∀c:Cl,(V7 nt c).length=c.length
 |[]=>rfl
 |[_]=>rfl
 |x::y::r=>by show(if x=nt then y::x::r else x::y::r).length=_;split<;>rfl
theorem tX(nt:Int):∀(c:Cl)(b:Int),b∈V7 nt c↔b∈c
 |[],_=>Iff.rfl
 |[_],_=>Iff.rfl
 |x::y::r,b=>by
  show b∈(if x=nt then y::x::r else x::y::r)↔_;split
  ·simp only[zrj];exact⟨fun h=>h.elim (fun h=> .inr (.inl h)) (fun h=>h.elim .inl fun h=> .inr (.inr h)),fun h=>h.elim (fun h=> .inr (.inl h)) (fun h=>h.elim .inl fun h=> .inr (.inr h))⟩
  ·exact Iff.rfl
theorem Hl(hs:HS n bud L S h)(hn:n<=20000)(hj:j<S.nc){nt u w:Int}{r:Cl}(hcl:V7 nt (S.cl j)=u::w::r)(h2:2<=(S.cl j).length)(hlen:(S.cl j).length<=1000000)(hlit:∀a∈S.cl j,a≠0/\a.natAbs<=n)
 (hv:∀i,1<=i->i<=n->-1<=(S.v i).value/\(S.v i).value<=1) (hw:∀a,(S.wt a).length<=30000000000) (htr:S.tr.length<=20000) {R:AEnd->H->(Nat->Bool)->Prop}
 (r1:∀h',0<mJ S u->HS n bud L (swS S j (u::w::r)) h'->h'.length=h.length->R (.ret (.tup [.bool true,.bool false])) h' (fun _=>false))
 (r2:∀L' h' p i (hi:i<r.length),0<=mJ S r[i]->(∀k (hk:k<i),mJ S (r[k]'(by omega))<0)->¬0<mJ S u->LX S.nc L L'->HS n bud L' (Gp (swS S j (u::r[i]::r.set i nt)) r[i] j) h'->h.length<=h'.length->(∀q,p q=true->L'.ro q=some (.w r[i]))->R (.ret (.tup [.bool false,.bool false])) h' p)
 (r3:∀h',mJ S u<0->(∀k (hk:k<r.length),mJ S r[k]<0)->HS n bud L (swS S j (u::w::r)) h'->h'.length=h.length->R (.ret (.tup [.bool true,.bool true])) h' (fun _=>false))
 (r4:∀h' p,mJ S u=0->(∀k (hk:k<r.length),mJ S r[k]<0)->HS n bud L (kK (swS S j (u::w::r)) u (some j)) h'->h.length<=h'.length->(∀q,p q=true->q=L.t)->R (.ret (.tup [.bool true,.bool false])) h' p) :
 ag TE 119 [.lp L.s 0,clV L S j,vi nt] h R:=by
 have hM:=mLx;have hc:=(hs.cla j hj).1;have hlr:=hs.rlt _ _ (hs.cla j hj).2;unfold clV;refine ah Tryz.func119 rfl (by simp[nts]) (Rt dV (fun f' h'=>f'.t 0= .lp L.s 0/\f'.t 1= .ls (L.c j) 1 0 (S.cl j).length (S.cl j).length/\f'.t 2=vi nt/\f'.d=[]/\(∀q,f'.k q=false)/\HS n bud L (swS S j (u::w::r)) h'/\h'.length=h.length) ?_ ?_)
 ·obtain⟨x,y,r0,ec⟩:∃x y r0,S.cl j=x::y::r0:=by
   match S.cl j,h2 with
   |x::y::r0,_=>exact⟨x,y,r0,rfl⟩
  rw[ec]at hc hcl ⊢;have hl3:(x::y::r0).length=r0.length+2:=rfl;simp only[wq.1,seval,hc];refine⟨by omega,vcB.mk (fun hx=> ?_) (fun hx=> ?_)⟩
  ·have hx:x=nt:=by simpa using hx
   have e:y=u/\x=w/\r0=r:=by simp only[V7,if_pos hx,List.cons.injEq]at hcl;exact⟨hcl.1,hcl.2.1,hcl.2.2⟩
   obtain⟨rfl,rfl,rfl⟩:=e;have hH:=hs.setC hj (c:=y::x::r0) (by rw[ec];rfl);simp only[wq.1];refine bM dV Xf (fun f' h'=>f'.t 0= .lp L.s 0/\f'.t 1= .ls (L.c j) 1 0 (r0.length+2) (r0.length+2)/\f'.t 2=vi nt/\f'.d=[]/\(∀q,f'.k q=false)/\h'=h.set (L.c j) (.cells ((y::x::r0).map vi))) (by decide +kernel) (by decide +kernel) ?_ ?_
   ·simp only[wq.1,seval,Xf,hc,hlr,zqt,List.set_set]
    and_intros<;>first|omega|rfl|trivial
   ·rintro f' h' ⟨g0,g1,g2,gd,gk,rfl⟩;simp only[wq.1,g0,g1,g2,gd]
    and_intros<;>first|rfl|exact gk|exact hH|exact zrn ..
  ·have hx:¬x=nt:=by simpa using hx
   have e:x=u/\y=w/\r0=r:=by simp only[V7,if_neg hx,List.cons.injEq]at hcl;exact⟨hcl.1,hcl.2.1,hcl.2.2⟩
   obtain⟨rfl,rfl,rfl⟩:=e;simp only[wq.1,seval];rw[<-ec,IX];exact hs
 ·rintro f1 h1 ⟨g0,g1,g2,gd,gk,hs1,hl1⟩;have hl3:(S.cl j).length=r.length+2:=by rw[<-wX nt (S.cl j),hcl];rfl
  have hmem:∀b∈u::w::r,b≠0/\b.natAbs<=n:=fun b hb=>hlit b ((tX nt (S.cl j) b).1 (hcl▸hb));obtain⟨hu0,hu⟩:=hmem u (by simp);have hc1:=(hs1.cla j hj).1;rw[show(swS S j (u::w::r)).cl j=u::w::r from bC _ _ _]at hc1;have hg0:(vi u::vi w::r.map vi).getD 0 .any=vi u:=rfl;have hl5:(vi u::vi w::r.map vi).length=r.length+2:=by simp
  rw[hl3]at g1;rw[zrd,zrd]at hc1;have lv0:∀b,mJ (swS S j (u::w::r)) b=mJ S b:=fun _=>rfl;have gk':f1.k=fun _=>false:=funext gk;refine vm ?_;simp only[wq.1,seval,Tryz.results119,g0,g1,hc1];refine⟨by omega,lF hs1 hn hu (hv _ (by omega) hu) ?_⟩;rw[lv0];simp only[wq.1,seval];refine vcB.mk (fun hx=> ?_) (fun hx=> ?_)
  ·simp only[wq.1,seval,gd];rw[gk'];exact r1 h1 (by simpa using hx) hs1 hl1
  have hx:¬0<mJ S u:=by simpa using hx
  simp only[wq.1,↓reduceIte,Nat.reduceEqDiff,Nat.reduceLT,Nat.reduceLeDiff,Nat.reduceAdd,Nat.reduceSub,Int.reduceToNat,Nat.reduceDiv,Int.reduceLT,Int.reduceLE,Int.reduceNeg,Int.reduceBEq,Int.reduceBNe,Int.reduceAdd,Int.reduceSub,Nat.reduceBEq,reduceCtorEq,Nat.reduceMul,aG,Tryz.results119,g0,g1,g2,gd,hc1,hl5];refine⟨by omega,?_⟩;have hl6:(((r.length+2:Nat):Int)-2).toNat=r.length:=by omega
  refine aC (fun m f' h' => ∃ i : Nat,m + i = r.length /\ f'.t 0 = .lp L.s 0 /\ f'.t 1 = .ls (L.c j) 1 0 (r.length + 2) (r.length + 2) /\ f'.t 2 = vi nt /\ f'.t 32 = .ls (L.c j) 1 2 r.length r.length /\ f'.t 33 = vi r.length /\ f'.t 34 = vi i /\ f'.d = [] /\ (∀ q,f'.k q = false) /\ h' = h1 /\ ∀ k (hk : k < r.length),k < i -> mJ S r[k] < 0) r.length
   ⟨0,rfl,g0,g1,g2,by simp only[wq.1,↓reduceIte,Nat.reduceEqDiff,Nat.reduceLT,Nat.reduceLeDiff,Nat.reduceAdd,Nat.reduceSub,Int.reduceToNat,Nat.reduceDiv,Int.reduceLT,Int.reduceLE,Int.reduceNeg,Int.reduceBEq,Int.reduceBNe,Int.reduceAdd,Int.reduceSub,Nat.reduceBEq,reduceCtorEq,Nat.reduceMul,aG,Tryz.results119,hl6];rfl,by simp only[wq.1,↓reduceIte,Nat.reduceEqDiff,Nat.reduceLT,Nat.reduceLeDiff,Nat.reduceAdd,Nat.reduceSub,Int.reduceToNat,Nat.reduceDiv,Int.reduceLT,Int.reduceLE,Int.reduceNeg,Int.reduceBEq,Int.reduceBNe,Int.reduceAdd,Int.reduceSub,Nat.reduceBEq,reduceCtorEq,Nat.reduceMul,aG,Tryz.results119,hl6];rfl,rfl,gd,gk,rfl,fun _ _ hk=>absurd hk (Nat.not_lt_zero _)⟩ ?_
  rintro m f2 h2 ⟨i,hm,e0,e1,e2,e32,e33,e34,ed,ek,rfl,hneg⟩;have ek':f2.k=fun _=>false:=funext ek;refine vm ?_;simp only[wq.1,seval,e33,e34];by_cases hi:i<r.length
  ·have eb:decide ((i:Int)<(r.length:Int))=true:=by rw[zqb];omega
   have hg:(vi u::vi w::r.map vi).getD (2+i*1) .any=vi r[i]:=by rw[show 2+i*1=i+1+1 by omega];simp[zqg,hi]
   obtain⟨hri0,hri⟩:=hmem r[i] (by simp[zqu]);simp only[wq.1,seval,eb,e0,e32,e34,hc1,hg];refine⟨by omega,by omega,lF hs1 hn hri (hv _ (by omega) hri) ?_⟩;rw[lv0];simp only[wq.1,seval];refine vcB.mk (fun hy=> ?_) (fun hy=> ?_)
   ·have hy:0<=mJ S r[i]:=by simpa using hy
    simp only[wq.1,seval,e1,e2,hc1];have hlc:L.c j<h2.length:=hs1.rlt _ _ (hs1.cla j hj).2;have hw3:IntKind.i64.wrap ((i:Int)+2)=((i+2:Nat):Int):=by rw[aU (by omega) (by omega)];omega
    have hl7:(vi u::vi r[i]::r.map vi).length=r.length+2:=by simp
    have hfold:List.take ((i+2)*1) (vi u::vi r[i]::r.map vi)++[vi nt]++List.drop ((i+2)*1) (vi r[i]::r.map vi)=vi u::vi r[i]::(r.set i nt).map vi:=by have:=oK (cs:=vi u::vi r[i]::r.map vi) (i:=(i+2)*1) (v:=vi nt) (by simp;omega);rw[List.drop_succ_cons]at this;rw[this,show(i+2)*1=i+1+1 by omega];simp[List.map_set]
    simp only[wq.1,seval,hw3,hlc,zqt,hfold,List.set_set];have hsC:=hs1.setC hj (c:=u::r[i]::r.set i nt) (by simp[swS,clS,bC]);have eS:swS (swS S j (u::w::r)) j (u::r[i]::r.set i nt)=swS S j (u::r[i]::r.set i nt):=by
     unfold swS clS
     congr 1
     funext q
     by_cases he:q=j
     ·subst he;simp[bC]
     ·simp[bI he]
    rw[eS]at hsC;refine⟨by omega,⟨by omega,by omega⟩,by omega,?_⟩;obtain⟨h4,eh4⟩:∃h4,h4=h2.set (L.c j) (.cells (vi u::vi r[i]::List.map vi (r.set i nt))):=⟨_,rfl⟩;rw[zrd,zrd]at hsC;rw[<-eh4]at hsC ⊢;have hl8:h4.length=h.length:=by rw[eh4,zrn];exact hl1
    obtain⟨b,eb2⟩:∃b,b=r[i]:=⟨_,rfl⟩;rw[<-eb2];obtain⟨S0,eS0⟩:∃S0,S0=swS S j (u::r[i]::r.set i nt):=⟨_,rfl⟩;rw[<-eS0]at hsC;have ecl:(S0.cl j).length=r.length+2:=by rw[eS0];simp[swS,clS,bC]
    have hj0:j<S0.nc:=by rw[eS0];exact hj
    refine bM dV Lh (fun f' h''=>∃L2,LX S.nc L L2/\HS n bud L2 (Gp S0 b j) h''/\f'.d=[]/\(∀q,f'.k q=true->L2.ro q=some (.w b))/\h4.length<=h''.length) (by decide +kernel) (by decide +kernel) ?_ ?_
    ·have hsol:=hsC.sol;have hls:=hsC.rlt _ _ hsC.rs;have hlm:=hsC.rlt _ _ hsC.rm;cases hwb:L.w b with
     |none =>
      obtain⟨ks,ks2,hm1,hget,hp1,hH⟩:=OO hsC hj0 hwb;rw[ecl]at hH;have hms:L.m≠L.s:=bT L hsC.rm hsC.rs (by simp);have en1:∀o:O,(h4++[o])[L.s]? =some (.cells (ax n bud L S0)):=fun o=>by rw[zqj hls];exact hsol
      have en2:∀o:O,(h4++[o])[L.m]? =some (.map (ks.map vi) (ks.map (mwV L S0))):=fun o=>by rw[zqj hlm];exact hm1
      have en3:∀(o q:O),(List.set (h4++[o]) L.m q)[L.s]? =some (.cells (ax n bud L S0)):=fun o q=>by rw[zqn hms];exact en1 o
      have key:∃L2,LX S.nc L L2/\HS n bud L2 (Gp S0 b j) (List.set (h4++[O.cells [.ls (L.c j) 1 0 (r.length+2) (r.length+2)]]) L.m (.map (ks2.map vi) (ks2.map fun a=>if a=b then .ls h4.length 1 0 1 1 else mwV L S0 a)))/\(∀q,f2.k q=true->L2.ro q=some (.w b))/\h4.length<=(List.set (h4++[O.cells [.ls (L.c j) 1 0 (r.length+2) (r.length+2)]]) L.m (.map (ks2.map vi) (ks2.map fun a=>if a=b then .ls h4.length 1 0 1 1 else mwV L S0 a))).length :=
       ⟨_,oL (.inl ⟨OJ hsC,hwb⟩),hH,fun q hq=>(by rw[ek]at hq;cases hq),by simp⟩
      simp only[wq.1,seval,Lh,e0,e1,ed,hsol,ax,hm1,hget,en1,en2,hp1]
      and_intros<;>first|exact key|omega|rfl|decide
     |some id =>
      obtain⟨ks,ks2,hm1,hr1,hro,hget,hp1,hH,q1,q2,q3,q4⟩:=OQ hsC hj0 hwb;rw[ecl]at hH;have hlen2:((S0.wt b).map (clV L S0)).length=(S0.wt b).length:=zra ..;have hwb2:(S0.wt b).length<=30000000000:=by rw[eS0];exact hw b
      have b1:(L.s==id)=false:=by simp[bT L hsC.rs hro (by simp)]
      have b2:(L.m==id)=false:=by simp[bT L hsC.rm hro (by simp)]
      have b3:(L.c j==id)=false:=by simp[bT L (hsC.cla j hj0).2 hro (by simp)]
      have key:∃L2,LX S.nc L L2/\HS n bud L2 (Gp S0 b j) (((List.map (O.drop fun x=>x==id) h4).set id (.cells (List.map (clV L S0) (S0.wt b)++[.ls (L.c j) 1 0 (r.length+2) (r.length+2)]))).set L.m (.map (ks2.map vi) (ks2.map fun a=>if a=b then .ls id 1 0 ((S0.wt b).length+1) ((S0.wt b).length+1)else(mwV L S0 a).drop fun x=>x==id))) /\
       (∀q,(f2.k q||q==id)=true->L2.ro q=some (.w b))/\h4.length<=(((List.map (O.drop fun x=>x==id) h4).set id (.cells (List.map (clV L S0) (S0.wt b)++[.ls (L.c j) 1 0 (r.length+2) (r.length+2)]))).set L.m (.map (ks2.map vi) (ks2.map fun a=>if a=b then .ls id 1 0 ((S0.wt b).length+1) ((S0.wt b).length+1)else(mwV L S0 a).drop fun x=>x==id))).length :=
       ⟨_,oL (.inr ⟨hro,hwb⟩),hH,fun q hq=>by
        rw[ek,Bool.false_or]at hq;rw[show q=id by simpa using hq];exact if_pos rfl,by simp⟩
      simp only[wq.1,seval,Lh,e0,e1,ed,hsol,ax,hm1,hget,hp1,hr1,b1,b2,b3,q1,q2,q3]
      and_intros<;>first|exact key|omega|rfl|decide
    ·rintro f3 h5 ⟨L2,hx2,hs5,d5,k5,l5⟩;simp only[wq.1,seval,d5];subst eb2;exact r2 L2 h5 f3.k i hi hy (fun k hk=>hneg k (by omega) hk) hx hx2 (eS0▸hs5) (by omega) k5
   ·have hy:mJ S r[i]<0:=by simpa using hy
    have hw2:IntKind.i64.wrap ((i:Int)+1)=((i+1:Nat):Int):=by rw[aU (by omega) (by omega)];omega
    simp only[wq.1,seval,e34,hw2];exact .inl ⟨m-1,by omega,i+1,by omega,e0,e1,e2,e32,e33,rfl,ed,ek,rfl,fun k hk hki=>by
     by_cases he:k=i
     ·subst he;exact hy
     ·exact hneg k hk (by omega)⟩
  ·have eb:decide ((i:Int)<(r.length:Int))=false:=by rw[zqd];omega
   simp only[wq.1,seval,eb,e0,e1,hc1];have hall:∀k (hk:k<r.length),mJ S r[k]<0:=fun k hk=>hneg k hk (by omega);refine⟨by omega,lF hs1 hn hu (hv _ (by omega) hu) ?_⟩;rw[lv0];simp only[wq.1,seval];refine vcB.mk (fun hy=> ?_) (fun hy=> ?_)
   ·have hy:mJ S u<0:=by simpa using hy
    simp only[wq.1,seval,ed];rw[ek'];exact r3 h2 hy hall hs1 hl1
   ·have hy:mJ S u=0:=by
     have:¬mJ S u<0:=by simpa using hy
     omega
    simp only[wq.1,seval,e0,e1,hc1];have ev:V.ls (L.c j) 1 0 (r.length+2) (r.length+2)=reV L (swS S j (u::w::r)) (some j):=by
     simp[reV,clV,swS,clS,bC]
    rw[ev];refine⟨by omega,kQ hs1 hn hu htr (some j) (fun q hq=>by cases hq;exact hj) fun h3 p hs3 hp hl3=> ?_⟩;simp only[wq.1,seval,ed,ek',bJ];exact r4 h3 p hy hall hs3 (by rw[<-hl1];exact hl3) hp
end
section
variable{n:Nat}{bud:Int}{L:Lay}{S:St}{h:H}{a:Int}{j:Nat}
def Ud:Plan:=tkZ [0,1,2,3,4,5,6,8,9,10]<| .alt 7 (.one 11<| .one 12<| .take 13<| .one 14<| .fin) (.one 11 (.one 7<| .one 12<| .take 13<| .one 14<| .fin))
def Ue:Plan:=tkZ [0,1,2,3,4,6,8,9,10,12]<| .alt 5 (.take 7<| .one 11<|tkZ [13,14,15]<| .one 16<| .take 17<| .take 18<| .one 19<| .fin) (.one 11 (.take 13<| .one 5<|tkZ [7,14,15]<| .one 16<| .take 17<| .take 18<| .one 19<| .fin))
def iV(S:St)(ts:Cl)(nx:List (Int×Int)):St :=
 {S with v:=fun i=>if i∈ts.map Int.natAbs then {S.v i with last:=(S.v i).value,value:=0,reason:=none} else S.v i,nx:=nx}
theorem Sr:iV S [] S.nx=S:=by unfold iV;simp
variable{nx:List (Int×Int)}
theorem Lj{ts:Cl}(h1:a.natAbs<=n)(h2:¬a.natAbs∈ts.map Int.natAbs) :
 ((((dP L (iV S ts nx) n).set (a.natAbs*5+3) (vi (S.v a.natAbs).value)).set (a.natAbs*5) (vi 0)).set (a.natAbs*5+2) .nils)=dP L (iV S (ts++[a]) nx) n:=by
 have hf:∀i,(gV L (iV S ts nx) ((iV S ts nx).v i)).length=5:=fun _=>rfl;rw[jd,jd,lY hf h1 (by omega)];have hf1:=yJ hf (k:=a.natAbs) (l:=(gV L (iV S ts nx) ((iV S ts nx).v a.natAbs)).set 3 (vi (S.v a.natAbs).value)) rfl;have e2:=lY (n:=n) (k:=a.natAbs) (j:=0) (v:=vi 0) hf1 h1 (by omega);rw[Nat.add_zero]at e2;rw[e2];have hf2:=yJ hf1 (k:=a.natAbs) (l:=(upd (fun i=>gV L (iV S ts nx) ((iV S ts nx).v i)) a.natAbs ((gV L (iV S ts nx) ((iV S ts nx).v a.natAbs)).set 3 (vi (S.v a.natAbs).value)) a.natAbs).set 0 (vi 0)) (by rw[bC];rfl);rw[lY (n:=n) (k:=a.natAbs) (j:=2) (v:= .nils) hf2 h1 (by omega)];refine nH fun i hi=> ?_;by_cases he:i=a.natAbs
 ·subst he;simp only[bC];have e3:(iV S ts nx).v a.natAbs=S.v a.natAbs:=if_neg h2;have e4:(iV S (ts++[a]) nx).v a.natAbs={S.v a.natAbs with last:=(S.v a.natAbs).value,value:=0,reason:=none}:=if_pos (by simp);rw[e3,e4];rfl
 ·simp only[bI he];have e3:(iV S (ts++[a]) nx).v i=(iV S ts nx).v i:=by
   show(if _ then _ else _)=(if _ then _ else _);by_cases hm:i∈ts.map Int.natAbs
   ·rw[if_pos hm,if_pos (by rw[zql];exact List.mem_append_left _ hm)]
   ·rw[if_neg hm,if_neg (by rw[zql];simp only[zrd,List.map_nil,zrf,zrc];exact fun h=>h.elim hm he)]
  rw[e3];rfl
theorem HS.undo{ts:Cl}(hs:HS n bud L (iV S ts nx) h):HS n bud L (iV S (ts++[a]) nx) (h.set L.v (.cells (dP L (iV S (ts++[a]) nx) n))):=by
 have k1:=hs.toHR.setV (iV S (ts++[a]) nx).v (fun i hi j hj=>by
  have hj:(if i∈(ts++[a]).map Int.natAbs then {S.v i with last:=(S.v i).value,value:=0,reason:=none} else S.v i).reason=some j:=hj;by_cases hm:i∈(ts++[a]).map Int.natAbs
  ·rw[if_pos hm]at hj;cases hj
  ·rw[if_neg hm]at hj;refine hs.fre i hi j ?_;show(if i∈ts.map Int.natAbs then {S.v i with last:=(S.v i).value,value:=0,reason:=none} else S.v i).reason=some j;rw[if_neg fun h=>hm (by rw[zql];exact List.mem_append_left _ h)];exact hj)
 refine⟨k1,?_⟩;rw[bu hs.rv hs.rs (by simp)];exact hs.sol
theorem OT(hs:HS n bud L S h){k:Nat}(hk:S.lv.length<=k)(hk2:k<=1000000000000){R:AEnd->H->(Nat->Bool)->Prop}(hr:R (.ret (.tup [])) h (fun _=>false)):ag TE 103 [.lp L.s 0,vi k] h R:=by
 have hsol:=hs.sol;have e:decide ((S.lv.length:Int)<=(k:Int))=true:=by rw[zqb];omega
 refine ah Tryz.func103 rfl (by simp[nts]) (vm ?_);simp only[wq.1,seval,Tryz.results103,hsol,ax,e];exact hr
theorem uZ(hs:HS n bud L S h)(hn:n<=20000){k b:Nat}(hk:k<S.lv.length)(eb:S.lv.getD k 0=b)(hb:b<=S.tr.length)(htr:S.tr.length<=20000)(hlv:S.lv.length<=20000)
 (hnd:(S.tr.map Int.natAbs).Nodup) (hlit:∀a∈S.tr,a.natAbs<=n) (hnx:S.nx.length<=2000000000000) {R:AEnd->H->(Nat->Bool)->Prop}
 (hr:∀nx h' p,nx.Perm (S.nx++(S.tr.drop b).map fun a=>((a.natAbs:Int),(S.v a.natAbs).score))->HS n bud L (fG S k nx) h'->h.length<=h'.length->(∀q,p q=true->q=L.x)->R (.ret (.tup [])) h' p) :
 ag TE 103 [.lp L.s 0,vi k] h R:=by
 have hM:=mLx;have hsol:=hs.sol;have hlvl:=hs.lvl;have e1:decide ((S.lv.length:Int)<=(k:Int))=false:=by rw[zqd];omega
 have eg:(gY S.lv).getD (k*1) .any=vi b:=by unfold gY;rw[Nat.mul_one,zqg,zqo,zqk hk,<-eb,zqg,zqk hk];rfl
 have el:(gY S.lv).length=S.lv.length:=zra ..;refine uM ?_;refine ah Tryz.func103 rfl (by simp[nts]) (vm ?_);simp only[wq.1,seval,Tryz.results103,hsol,ax,e1,hlvl,eg,el];refine⟨⟨by omega,by omega⟩,by omega,⟨by omega,by omega⟩,?_⟩;obtain⟨tl,etl⟩:∃tl,tl=S.tr.drop b:=⟨_,rfl⟩;have hltl:tl.length=S.tr.length-b:=by rw[etl,List.length_drop]
 have hndt:(tl.map Int.natAbs).Nodup:=by rw[etl];exact(List.Nodup.sublist ((List.drop_sublist b S.tr).map _) hnd)
 refine aC (fun m f' h'=>∃(i:Nat)(nx:List (Int×Int)),m+i=S.tr.length-b/\f'.t 0= .lp L.s 0/\f'.t 1=vi k/\f'.t 4=vi b/\f'.t 27= .ls L.t 1 b (S.tr.length-b) (S.tr.length-b)/\f'.t 28=vi (S.tr.length-b:Nat)/\f'.t 29=vi i/\f'.d=[]/\(∀q,f'.k q=true->q=L.x) /\
  nx.Perm (S.nx++(tl.take i).map fun a=>((a.natAbs:Int),(S.v a.natAbs).score))/\HS n bud L (iV S (tl.take i) nx) h'/\h.length<=h'.length) (S.tr.length-b)
  ⟨0,S.nx,rfl,rfl,rfl,by simp only[wq.1,seval];try rfl,by simp only[wq.1,seval];try simp,by simp only[wq.1,seval];try simp,by simp only[wq.1,↓reduceIte];try rfl,by simp only[wq.1];try rfl,(fun q hq=>absurd hq Bool.false_ne_true),by simp,by rw[List.take_zero,Sr];exact hs,zrb _⟩ ?_
 rintro m f h2 ⟨i,nx,hm,g0,g1,g4,g27,g28,g29,gd,gk,hp,hs2,hl2⟩;have hsol2:=hs2.sol;have htrl2:h2[L.t]? =some (.cells (S.tr.map vi)):=hs2.trl;have hpl:=hp.length_eq;rw[zqa,zra,zrl]at hpl;by_cases hi:i<S.tr.length-b
 ·have eb1:decide ((i:Int)<((S.tr.length-b:Nat):Int))=true:=by rw[zqb];omega
  have hib:b+i<S.tr.length:=by omega
  obtain⟨a,ea⟩:∃a,a=S.tr[b+i]:=⟨_,rfl⟩;have hga:(S.tr.map vi).getD (b+i*1) .any=vi a:=by rw[ea];simp[zqg,hib]
  have ha:a.natAbs<=n:=hlit a (by rw[ea];exact zqu hib);have eta:tl[i]'(by omega)=a:=by simp only[etl,ea,List.getElem_drop]
  have etk:tl.take (i+1)=tl.take i++[a]:=by rw[zrg,zqk (by omega),eta];rfl
  have hnm:¬a.natAbs∈(tl.take i).map Int.natAbs:=by intro hm2;have h3:((tl.take (i+1)).map Int.natAbs).Nodup:=List.Nodup.sublist ((List.take_sublist _ _).map _) hndt;rw[etk,zql,List.nodup_append]at h3;exact h3.2.2 _ hm2 a.natAbs (by simp) rfl
  have ev:(iV S (tl.take i) nx).v a.natAbs=S.v a.natAbs:=if_neg hnm;have hvar:=hs2.var;have c0:=vc0 (L:=L) (S:=iV S (tl.take i) nx) ha;have c4:=vc4 (L:=L) (S:=iV S (tl.take i) nx) ha;rw[ev]at c0 c4;have dN:=Lj (L:=L) (S:=S) (nx:=nx) ha hnm;have hlv2:=hs2.rlt _ _ hs2.rv;have hsU:=hs2.undo (a:=a);have c4n:(dP L (iV S (tl.take i++[a]) nx) n).getD (a.natAbs*5+4) .any=vi (S.v a.natAbs).score:=by rw[vc4 ha];have:(iV S (tl.take i++[a]) nx).v a.natAbs={S.v a.natAbs with last:=(S.v a.natAbs).value,value:=0,reason:=none}:=if_pos (by simp);rw[this]
  have hvs:L.v≠L.s:=bT L hs2.rv hs2.rs (by simp);have hpl2:nx.length<=2500000000000:=by omega
  refine vn ?_;simp only[wq.1,Nat.reduceLT,g28,g29];refine vn ?_;simp only[wq.1,↓reduceIte,eb1];refine ak (aB ?_);refine vn ?_;simp only[wq.1,seval,g27,g29,htrl2,hga];refine⟨by omega,by omega,?_⟩;refine vn ?_;simp only[wq.1,seval,g0];refine oJ hs2 hn ha ?_;simp only[wq.1,seval];refine vn ?_;simp only[wq.1,seval,hvar,bV,c0,Yc ha,Vd ha,Ve ha,hlv2,zqt,List.set_set,zrn,dN];refine⟨by omega,by omega,by omega,by omega,?_⟩;refine bM dV Ud (fun f' h'=>∃nx2,nx2.Perm (nx++[((a.natAbs:Int),(S.v a.natAbs).score)])/\HS n bud L (iV S (tl.take i++[a]) nx2) h'/\h2.length<=h'.length/\f'.t 0= .lp L.s 0/\f'.t 1=vi k/\f'.t 4=vi b/\f'.t 27= .ls L.t 1 b (S.tr.length-b) (S.tr.length-b)/\f'.t 28=vi (S.tr.length-b:Nat)/\f'.t 29=vi i/\f'.d=[]/\(∀q,f'.k q=true->q=L.x)) (by decide +kernel) (by decide +kernel) ?_ ?_
  ·simp only[wq.1,seval,Ud,g0,bV,c4n,Ub hn ha,zqt,hlv2];have fin:∀nx2 h3 (p:Nat->Bool),nx2.Perm (nx++[((a.natAbs:Int),(S.v a.natAbs).score)])->HS n bud L (iV S (tl.take i++[a]) nx2) h3->h3.length=(h2.set L.v (.cells (dP L (iV S (tl.take i++[a]) nx) n))).length->(∀q,p q=true->q=L.x)->p L.s=false/\p L.t=false:=fun nx2 h3 p q1 q2 q3 q4=>by
    refine⟨?_,?_⟩
    ·cases e:p L.s with
     |false=>rfl
     |true=>exact absurd (q4 _ e) (bT L hs2.rs hs2.rx (by simp))
    ·cases e:p L.t with
     |false=>rfl
     |true=>exact absurd (q4 _ e) (bT L hs2.rt hs2.rx (by simp))
   refine⟨by decide,⟨by omega,by decide,uY hsU (by show nx.length<=_;omega) _ _ fun nx2 h3 p q1 q2 q3 q4=> ?_⟩,⟨by omega,by decide,uY hsU (by show nx.length<=_;omega) _ _ fun nx2 h3 p q1 q2 q3 q4=> ?_⟩⟩
   all_goals
    obtain⟨p1,p2⟩:=fin nx2 h3 p q1 q2 q3 q4;simp only[wq.1,seval,bJ,p1,p2,g0,g1,g4,g27,g28,g29,gd];refine⟨nx2,q1,q2,by rw[q3,zrn];exact zrb _,fun q hq=> ?_⟩;rcases zsi hq with hq|hq
    ·exact gk q hq
    ·exact q4 q hq
  ·rintro f2 h3 ⟨nx2,q1,q2,q3,e0,e1,e4,e27,e28,e29,ed,ek⟩;have hw2:IntKind.i64.wrap ((i:Int)+1)=((i+1:Nat):Int):=by rw[aU (by omega) (by omega)];omega
   simp only[wq.1];refine vm ?_;simp only[wq.1,seval,e29,hw2];refine .inl ⟨m-1,by omega,i+1,nx2,by omega,e0,e1,e4,e27,e28,rfl,ed,ek,q1.trans ?_,by rw[etk];exact q2,by omega⟩;rw[etk,zql,<-zqc];exact hp.append_right _
 ·have eb1:decide ((i:Int)<((S.tr.length-b:Nat):Int))=false:=by rw[zqd];omega
  have hit:tl.take i=tl:=zqh (by omega);rw[hit]at hp hs2;have hsol3:h2[L.s]? =some (.cells [.ls L.v 5 0 (n+1) (n+1),.lm L.m,.ls L.t 1 0 S.tr.length S.tr.length,vi S.hd,.ls L.l 1 0 S.lv.length S.lv.length,.ls L.x 2 0 nx.length nx.length,.ls L.g 1 0 S.ln.length S.ln.length,vi bud]):=hs2.sol;have hls:=hs2.rlt _ _ hs2.rs;refine vm ?_;simp only[wq.1,seval,g28,g29,eb1];refine bM dV Ue (fun f' h'=>f'.t 0= .lp L.s 0/\f'.t 4=vi b/\f'.d=[]/\(∀q,f'.k q=true->q=L.x)/\h'=h2.set L.s (.cells [.ls L.v 5 0 (n+1) (n+1),.lm L.m,.ls L.t 1 0 b S.tr.length,vi S.hd,.ls L.l 1 0 k S.lv.length,.ls L.x 2 0 nx.length nx.length,.ls L.g 1 0 S.ln.length S.ln.length,vi bud])) (by decide +kernel) (by decide +kernel) ?_ ?_
  ·simp only[wq.1,seval,Ue,g0,g1,g4,gd,hsol3,hls,zqt,List.set_set];exact⟨⟨⟨by omega,by omega⟩,⟨by omega,by omega⟩,gk⟩,⟨by omega,by omega⟩,⟨by omega,by omega⟩,gk⟩
  ·rintro f2 h3 ⟨e0,e4,ed,ek,rfl⟩;simp only[wq.1,seval,e0,e4,ed,hls,zqt,List.set_set];have hlen0:h.length<=h2.length:=hl2;have htl:tl=S.tr.drop (S.lv.getD k 0):=by rw[etl,eb]
   have eS:fG S k nx={iV S tl nx with tr:=S.tr.take b,lv:=S.lv.take k,hd:=b}:=by unfold fG iV;rw[<-htl,eb]
   have k1:=hs2.toHR.setRow (id:=L.t) (cs:=(S.tr.take b).map vi) hs2.rt (S.tr.take b) S.lv nx (.inl ⟨rfl,rfl,rfl,rfl,rfl⟩);have k2:=k1.setRow (id:=L.l) (cs:=gY (S.lv.take k)) hs2.rl (S.tr.take b) (S.lv.take k) nx (.inr (.inl ⟨rfl,rfl,rfl,rfl,rfl⟩));have k3:=k2.setS (.cells (ax n bud L (fG S k nx)));have hst:L.s≠L.t:=bT L hs2.rs hs2.rt (by simp);have hsl:L.s≠L.l:=bT L hs2.rs hs2.rl (by simp);have htl2:L.t≠L.l:=bT L hs2.rt hs2.rl (by simp);have hB:HS n bud L (fG S k nx) (((h2.set L.t (.cells ((S.tr.take b).map vi))).set L.l (.cells (gY (S.lv.take k)))).set L.s (.cells (ax n bud L (fG S k nx)))):=by refine⟨?_,zqt (by simpa using hls)⟩;rw[eS]at k3 ⊢;exact⟨k3.var,k3.map,k3.trl,k3.lvl,k3.nxl,k3.lnl,k3.lnk,k3.cla,k3.wat,k3.fre,k3.fwt,k3.rs,k3.rv,k3.rm,k3.rt,k3.rl,k3.rx,k3.rg,k3.rlt,k3.ext⟩
   refine⟨_,?_,hr nx _ f2.k (by rw[<-etl];exact hp) hB (by simpa using hlen0) ek⟩;have hlk:(S.lv.take k).length=k:=by rw[zrl];omega
   have hlb:(S.tr.take b).length=b:=by rw[zrl];omega
   refine HLe.trans (HLe.set (i:=L.s) (zqt hls) (o':= .cells (ax n bud L (fG S k nx))) (OLe.cells (zrb _) ?_)) ?_
   ·simp only[ax,fG,zrt,List.length_nil,List.take_succ_cons,List.take_nil,List.take_zero,eb,hlk,hlb];exact .cons (.refl _)<| .cons (.refl _)<| .cons (VLe.cap (by omega))<| .cons (.refl _)<| .cons (VLe.cap (by omega))<| .refl _
   ·rw[List.set_set,List.set_comm _ _ hsl.symm,List.set_comm _ _ hst.symm];have t1:(h2.set L.s (.cells (ax n bud L (fG S k nx))))[L.t]? =some (.cells (S.tr.map vi)):=by rw[zqn hst];exact hs2.trl
    have t2:((h2.set L.s (.cells (ax n bud L (fG S k nx)))).set L.t (.cells ((S.tr.take b).map vi)))[L.l]? =some (.cells (gY S.lv)):=by rw[zqn htl2,zqn hsl];exact hs2.lvl
    refine HLe.trans (HLe.set t1 (o':= .cells ((S.tr.take b).map vi)) ?_) (HLe.set t2 ?_)
    ·have:=OLe.take (S.tr.map vi) b
     rwa [<-List.map_take]at this
    ·have:=OLe.take (gY S.lv) k;unfold gY at this ⊢
     rwa [<-List.map_take]at this
end
def iy(S:St)(a:Int)(F:List Nat):St:={S with wt:=fun b=>if b=a then F else S.wt b}
section
variable{n:Nat}{bud:Int}{L:Lay}{S:St}{h:H}{a:Int}{j:Nat}
theorem lG(S:St)(a:Int):iy S a (S.wt a)=S:=by
 have:(fun b=>if b=a then S.wt a else S.wt b)=S.wt:=funext fun b=>by
  by_cases he:b=a
  ·subst he;rw[if_pos rfl]
  ·rw[if_neg he]
 show {S with wt:=fun b=>if b=a then S.wt a else S.wt b}=S;rw[this]
theorem nK(S:St)(a:Int)(F G:List Nat):iy (iy S a F) a G=iy S a G:=by
 have:(fun b=>if b=a then G else if b=a then F else S.wt b)=fun b=>if b=a then G else S.wt b:=funext fun b=>by
  by_cases he:b=a
  ·simp only[he,if_true]
  ·simp only[he,if_false]
 show {S with wt:=fun b=>if b=a then G else if b=a then F else S.wt b}={S with wt:=fun b=>if b=a then G else S.wt b};rw[this]
theorem HR.wput(k:HR n L S h){id:Nat}(hw:L.w a=some id){F:List Nat}(hF:∀q∈F,q<S.nc){h':H}(hh:∀i r,L.ro i=some r->r≠ .w a->r≠ .m->h'[i]? =h[i]?)
 (hid:h'[id]? =some (.cells (F.map (clV L S))))
 (hm:∃ks:List Int,h'[L.m]? =some (.map (ks.map vi) (ks.map fun b=>if b=a then .ls id 1 0 F.length F.length else mwV L S b))/\ks.Nodup/\∀b,¬b∈ks->L.w b=none/\S.wt b=[])
 (hl:h.length<=h'.length):HR n L (iy S a F) h' where
 var:=by rw[hh _ _ k.rv (by simp) (by simp)];exact k.var
 map:=by
  obtain⟨ks,h1,h2,h3⟩:=hm;refine⟨ks,?_,h2,fun b hb=> ?_⟩
  ·rw[h1]
   congr 2
   refine zsd fun b hb=> ?_;show _=IZ (L.w b) 1 (if b=a then F else S.wt b).length;by_cases he:b=a
   ·subst he;rw[if_pos rfl,if_pos rfl,hw];rfl
   ·rw[if_neg he,if_neg he];rfl
  ·have he:b≠a:=fun e=>by have:=(h3 b hb).1;rw[e,hw]at this;cases this
   show L.w b=none/\(if b=a then F else S.wt b)=[];rw[if_neg he];exact h3 b hb
 trl:=by rw[hh _ _ k.rt (by simp) (by simp)];exact k.trl
 lvl:=by rw[hh _ _ k.rl (by simp) (by simp)];exact k.lvl
 nxl:=by rw[hh _ _ k.rx (by simp) (by simp)];exact k.nxl
 lnl:=by rw[hh _ _ k.rg (by simp) (by simp)];exact k.lnl
 lnk i hi:=by
  obtain⟨h1,h2⟩:=k.lnk i hi;exact⟨by rw[hh _ _ h2 (by simp) (by simp)];exact h1,h2⟩
 cla q hq:=by
  obtain⟨h1,h2⟩:=k.cla q hq;exact⟨by rw[hh _ _ h2 (by simp) (by simp)];exact h1,h2⟩
 wat b:=by
  have kw:=k.wat b;unfold gX at kw ⊢;by_cases he:b=a
  ·subst he;rw[hw]at kw ⊢;show h'[id]? =some (.cells ((if b=b then F else S.wt b).map (clV L S)))/\_;rw[if_pos rfl];exact⟨hid,kw.2⟩
  ·have e:(iy S a F).wt b=S.wt b:=if_neg he;rw[e];cases hwb:L.w b with
   |none=>rw[hwb]at kw;exact kw
   |some i=>rw[hwb]at kw;exact⟨by rw[hh _ _ kw.2 (by simpa using he) (by simp)];exact kw.1,kw.2⟩
 fre:=k.fre
 fwt b q hq:=by
  have hq:q∈(if b=a then F else S.wt b):=hq;split at hq
  ·exact hF q hq
  ·exact k.fwt b q hq
 rs:=k.rs
 rv:=k.rv
 rm:=k.rm
 rt:=k.rt
 rl:=k.rl
 rx:=k.rx
 rg:=k.rg
 rlt i r hr:=Nat.lt_of_lt_of_le (k.rlt i r hr) hl
 ext i o ho:=⟨by rw[hh _ _ ho (by simp) (by simp)];exact(k.ext i o ho).1,(k.ext i o ho).2⟩
theorem HS.wover(hs:HS n bud L S h){id:Nat}(hw:L.w a=some id){F:List Nat}(hF:∀q∈F,q<S.nc)(hl:F.length=(S.wt a).length):HS n bud L (iy S a F) (h.set id (.cells (F.map (clV L S)))):=by
 have hrow:=hs.wat a;unfold gX at hrow;rw[hw]at hrow;refine⟨hs.toHR.wput hw hF (fun i r hi h1 h2=>bu hrow.2 hi (Ne.symm h1)) (zqt (hs.rlt _ _ hrow.2)) ?_ (by simp),by rw[bu hrow.2 hs.rs (by simp)];exact hs.sol⟩;obtain⟨ks,h1,h2,h3⟩:=hs.mapv;refine⟨ks,?_,h2,h3⟩;rw[bu hrow.2 hs.rm (by simp),h1]
 congr 2
 refine zsd fun b hb=> ?_;by_cases he:b=a
 ·subst he;rw[if_pos rfl,hl];unfold mwV;rw[hw];rfl
 ·rw[if_neg he]
theorem OLe.map{ks vs vs':List V}(hv:eH vs vs'):OLe (.map ks vs) (.map ks vs'):=by refine⟨fun c b ho=> ?_,fun h=>by rcases h with h|h<;>cases h⟩;obtain⟨es,clk,h1,h2,h3,h4⟩:=ho;exact⟨es,clk,h1,h2,hv _ _ h3,h4⟩
theorem qW{f g:Int->V}:∀(ks:List Int),(∀b,VLe (f b) (g b))->eH (ks.map f) (ks.map g)
 |[],_=>eH.nil
 |b::ks,h=>eH.cons (h b) (qW ks h)
theorem HS.wtrim(hs:HS n bud L S h){id:Nat}(hw:L.w a=some id){k cap:Nat}(hk:k<=(S.wt a).length)(hc:k<=cap){ks2:List Int}
 (hn:ks2.Nodup) (h0:∀b,¬b∈ks2->L.w b=none/\S.wt b=[]) :
 ∃h2,HLe (h.set L.m (.map (ks2.map vi) (ks2.map fun b=>if b=a then .ls id 1 0 k cap else mwV L S b))) h2/\HS n bud L (iy S a ((S.wt a).take k)) h2/\h2.length=h.length:=by
 have hrow:=hs.wat a;unfold gX at hrow;rw[hw]at hrow;have hlm:=hs.rlt _ _ hs.rm;have hil:=hs.rlt _ _ hrow.2;have hmi:L.m≠id:=bT L hs.rm hrow.2 (by simp);have hF:((S.wt a).take k).length=k:=by rw[zrl];omega
 refine⟨(h.set L.m (.map (ks2.map vi) (ks2.map fun b=>if b=a then .ls id 1 0 k k else mwV L S b))).set id (.cells (((S.wt a).take k).map (clV L S))),?_,⟨hs.toHR.wput hw (fun q hq=>hs.fwt a q (zsh hq)) (fun i r hi h1 h2=> ?_) ?_ ⟨ks2,?_,hn,h0⟩ (by simp),?_⟩,by simp⟩
 ·refine HLe.trans (HLe.set (i:=L.m) (zqt hlm) (o':= .map (ks2.map vi) (ks2.map fun b=>if b=a then .ls id 1 0 k k else mwV L S b)) (OLe.map (qW ks2 fun b=> ?_))) ?_
  ·by_cases he:b=a
   ·rw[if_pos he,if_pos he];exact VLe.cap hc
   ·rw[if_neg he,if_neg he];exact VLe.refl _
  ·rw[List.set_set];refine HLe.set (o:= .cells ((S.wt a).map (clV L S))) ?_ ?_
   ·rw[zqn hmi];exact hrow.1
   ·have:=OLe.take ((S.wt a).map (clV L S)) k
    rwa [<-List.map_take]at this
 ·rw[bu hrow.2 hi (Ne.symm h1),bu hs.rm hi (Ne.symm h2)]
 ·rw[zqt (by simpa using hil)]
 ·rw[bu hrow.2 hs.rm (by simp),zqt hlm,hF]
 ·rw[bu hrow.2 hs.rs (by simp),bu hs.rm hs.rs (by simp)];exact hs.sol
theorem HS.wopen(hs:HS n bud L S h)(hw:L.w a=none){ks2:List Int}(hn:ks2.Nodup)(ha:a∈ks2)(h0:∀b,¬b∈ks2->L.w b=none/\S.wt b=[]) :
 HS n bud (zW L a h.length) S (List.set (h++[O.cells []]) L.m (.map (ks2.map vi) (ks2.map fun b=>if b=a then .ls h.length 1 0 0 0 else mwV L S b))):=by
 have hlm:=hs.rlt _ _ hs.rm;have k:=hs.toHR;have hwt:S.wt a=[]:=by have:=hs.wat a;unfold gX at this;rw[hw]at this;simpa using this
 have ne:∀ {i:Nat} {r:Ro},L.ro i=some r->r≠ .m->∀o:O,(List.set (h++[O.cells []]) L.m o)[i]? =h[i]? :=fun {i r} hi hr o=>by rw[zqn (bT L hs.rm hi (Ne.symm hr)),zqj (hs.rlt _ _ hi)]
 have RO:∀ {i:Nat} {r:Ro},L.ro i=some r->(zW L a h.length).ro i=some r:=fun {i r} hi=>by show(if i=h.length then some (Ro.w a)else L.ro i)=_;rw[if_neg (by have:=hs.rlt _ _ hi;omega)];exact hi
 refine⟨{var:=(ne k.rv (by simp) _).trans k.var,map:=⟨ks2,?_,hn,fun b hb=> ?_⟩,trl:=(ne k.rt (by simp) _).trans k.trl,lvl:=(ne k.rl (by simp) _).trans k.lvl,nxl:=(ne k.rx (by simp) _).trans k.nxl,lnl:=(ne k.rg (by simp) _).trans k.lnl,lnk:=fun i hi=>⟨(ne (k.lnk i hi).2 (by simp) _).trans (k.lnk i hi).1,RO (k.lnk i hi).2⟩,cla:=fun q hq=>⟨(ne (k.cla q hq).2 (by simp) _).trans (k.cla q hq).1,RO (k.cla q hq).2⟩,wat:=fun b=> ?_,fre:=k.fre,fwt:=k.fwt,rs:=RO k.rs,rv:=RO k.rv,rm:=RO k.rm,rt:=RO k.rt,rl:=RO k.rl,rx:=RO k.rx,rg:=RO k.rg,rlt:=fun i r hr=> ?_,ext:=fun i o ho=> ?_},by rw[show(zW L a h.length).s=L.s from rfl,ne hs.rs (by simp)];exact hs.sol⟩
 ·rw[show(zW L a h.length).m=L.m from rfl,zqt (by simp;omega)]
  congr 2
  refine zsd fun b hb=> ?_;show _=IZ (if b=a then some h.length else L.w b) 1 (S.wt b).length;by_cases he:b=a
  ·subst he;rw[if_pos rfl,if_pos rfl,hwt];rfl
  ·rw[if_neg he,if_neg he];rfl
 ·have he:b≠a:=fun e=>hb (e▸ha);refine⟨?_,(h0 b hb).2⟩;show(if b=a then some h.length else L.w b)=none;rw[if_neg he];exact(h0 b hb).1
 ·have kw:=k.wat b;unfold gX at kw ⊢;by_cases he:b=a
  ·subst he;rw[show(zW L b h.length).w b=some h.length from if_pos rfl,hwt];refine⟨?_,if_pos rfl⟩;rw[zqn (by omega)];simp
  ·rw[show(zW L a h.length).w b=L.w b from if_neg he];cases hwb:L.w b with
   |none=>rw[hwb]at kw;exact kw
   |some i=>rw[hwb]at kw;exact⟨(ne kw.2 (by simp) _).trans kw.1,RO kw.2⟩
 ·have hr:(if i=h.length then some (Ro.w a)else L.ro i)=some r:=hr;rw[zrn,zqa,zrk];split at hr
  ·omega
  ·have:=hs.rlt _ _ hr;omega
 ·have ho:(if i=h.length then some (Ro.w a)else L.ro i)=some (.e o):=ho;split at ho
  ·cases ho
  ·exact⟨(ne ho (by simp) _).trans (k.ext i o ho).1,(k.ext i o ho).2.mono fun i r hi=>RO hi⟩
theorem HR.wputD(k:HR n L S h){id:Nat}(hw:L.w a=some id){F:List Nat}(hF:∀q∈F,q<S.nc){h':H}
 (get:∀i o,h[i]? =some o->o.drop (fun x=>x==id)=o->i≠id->i≠L.m->h'[i]? =some o)
 (hid:h'[id]? =some (.cells (F.map (clV L S))))
 (hm:∃ks:List Int,h'[L.m]? =some (.map (ks.map vi) (ks.map fun b=>if b=a then .ls id 1 0 F.length F.length else mwV L S b))/\ks.Nodup/\∀b,¬b∈ks->L.w b=none/\S.wt b=[])
 (hl:h.length<=h'.length):HR n L (iy S a F) h':=by
 have hr0:L.ro id=some (.w a):=by have kw:=k.wat a;unfold gX at kw;rw[hw]at kw;exact kw.2
 have ne:∀ {i:Nat} {r:Ro},L.ro i=some r->r≠ .w a->i≠id:=fun hi hr=>bT L hi hr0 hr;have G:∀ {i:Nat} {r:Ro} {cs:List V},L.ro i=some r->r≠ .w a->h[i]? =some (.cells cs)->(∀v∈cs,v.drop (fun x=>x==id)=v)->h'[i]? =some (.cells cs) :=
  fun hi hr hc hv=>get _ _ hc (by rw[aZ,dQ hv]) (ne hi hr) (fun e=>by have:=k.map;obtain⟨ks,h1,_⟩:=this;rw[<-e,hc]at h1;cases h1)
 have GI:∀ {i:Nat} {r:Ro} {c:Cl},L.ro i=some r->r≠ .w a->h[i]? =some (.cells (c.map vi))->h'[i]? =some (.cells (c.map vi)) :=
  fun hi hr hc=>G hi hr hc fun v hv=>by
   obtain⟨a,_,rfl⟩:=zrh.1 hv;exact dY
 have pc:∀q,q<S.nc->((fun x=>x==id) (L.c q))=false:=fun q hq=>by simpa using ne (k.cla q hq).2 (by simp)
 have pk:∀q,q<S.ln.length->((fun x=>x==id) (L.k q))=false:=fun q hq=>by simpa using ne (k.lnk q hq).2 (by simp)
 refine {var:=G k.rv (by simp) k.var ?_,map:= ?_,trl:=GI k.rt (by simp) k.trl,lvl:=G k.rl (by simp) k.lvl ?_,nxl:=G k.rx (by simp) k.nxl ?_,lnl:=G k.rg (by simp) k.lnl ?_,lnk:=fun i hi=>⟨GI (k.lnk i hi).2 (by simp) (k.lnk i hi).1,(k.lnk i hi).2⟩,cla:=fun q hq=>⟨GI (k.cla q hq).2 (by simp) (k.cla q hq).1,(k.cla q hq).2⟩,wat:= ?_,fre:=k.fre,fwt:= ?_,rs:=k.rs,rv:=k.rv,rm:=k.rm,rt:=k.rt,rl:=k.rl,rx:=k.rx,rg:=k.rg,rlt:=fun i r hr=>Nat.lt_of_lt_of_le (k.rlt i r hr) hl,ext:=fun i o ho=>⟨get i o (k.ext i o ho).1 ((k.ext i o ho).2 _ fun q r hq hpq=>by
  have e:q=id:=by simpa using hpq
  subst e;rw[hq]at hr0;cases hr0;exact .inr (.inr (.inr (.inr ⟨a,rfl⟩)))) (ne ho (by simp)) (bT L ho k.rm (by simp)),(k.ext i o ho).2⟩}
 ·intro v hv;unfold dP at hv;obtain⟨i,hi,hv⟩:=List.mem_flatMap.1 hv;have hi:i<=n:=by have:=List.mem_range.1 hi;omega
  simp only[gV,zrj,zrp,or_false]at hv;rcases hv with rfl|rfl|rfl|rfl|rfl<;>try exact dY
  show V.drop _ (reV L S (S.v i).reason)=reV L S (S.v i).reason;cases hr:(S.v i).reason with
  |none=>simp only[reV,V.drop]
  |some j=>exact bK (pc j (k.fre i hi j hr))
 ·obtain⟨ks,h1,h2,h3⟩:=hm;refine⟨ks,?_,h2,fun b hb=> ?_⟩
  ·rw[h1]
   congr 2
   refine zsd fun b hb=> ?_;show _=IZ (L.w b) 1 (if b=a then F else S.wt b).length;by_cases he:b=a
   ·subst he;rw[if_pos rfl,if_pos rfl,hw];rfl
   ·rw[if_neg he,if_neg he];rfl
  ·have he:b≠a:=fun e=>by have:=(h3 b hb).1;rw[e,hw]at this;cases this
   show L.w b=none/\(if b=a then F else S.wt b)=[];rw[if_neg he];exact h3 b hb
 ·intro v hv;obtain⟨a,_,rfl⟩:=zrh.1 hv;exact dY
 ·intro v hv;obtain⟨t,_,hv⟩:=List.mem_flatMap.1 hv;simp only[zrj,zrp,or_false]at hv;rcases hv with rfl|rfl<;>exact dY
 ·intro v hv;obtain⟨i,hi,rfl⟩:=zrh.1 hv;exact bK (pk i (List.mem_range.1 hi))
 ·intro b;have kw:=k.wat b;unfold gX at kw ⊢;by_cases he:b=a
  ·subst he;rw[hw]at kw ⊢;show h'[id]? =some (.cells ((if b=b then F else S.wt b).map (clV L S)))/\_;rw[if_pos rfl];exact⟨hid,kw.2⟩
  ·have e:(iy S a F).wt b=S.wt b:=if_neg he;rw[e];cases hwb:L.w b with
   |none=>rw[hwb]at kw;exact kw
   |some i=>rw[hwb]at kw;refine⟨G kw.2 (by simpa using he) kw.1 fun v hv=> ?_,kw.2⟩;obtain⟨q,hq,rfl⟩:=zrh.1 hv;exact bK (pc q (k.fwt b q hq))
 ·intro b q hq;have hq:q∈(if b=a then F else S.wt b):=hq;split at hq
  ·exact hF q hq
  ·exact k.fwt b q hq
theorem HS.wanew(hs:HS n bud L S h){id:Nat}(hw:L.w a=some id){ks2:List Int}(hn:ks2.Nodup)(h0:∀b,¬b∈ks2->L.w b=none/\S.wt b=[]) :
 (∀o:O,((List.map (O.drop fun x=>x==id) h).set id o)[L.m]? =(h[L.m]?).map (O.drop fun x=>x==id)) /\
 (∀o:O,((List.map (O.drop fun x=>x==id) h).set id o)[L.s]? =some (.cells (ax n bud L S)))/\(L.m==id)=false/\(L.s==id)=false/\(∀j,j<S.nc->(L.c j==id)=false) /\
 V.drops (fun x=>x==id) ((S.wt a).map (clV L S))=(S.wt a).map (clV L S) /\
 HS n bud L S (((List.map (O.drop fun x=>x==id) h).set id (.cells ((S.wt a).map (clV L S)))).set L.m (.map (ks2.map vi) (ks2.map fun b=>if b=a then .ls id 1 0 (S.wt a).length (S.wt a).length else(mwV L S b).drop fun x=>x==id))):=by
 have hrow:=hs.wat a;unfold gX at hrow;rw[hw]at hrow;obtain⟨hr1,hr2⟩:=hrow;have hsol:=hs.sol;have hil:=hs.rlt _ _ hr2;have hlm:=hs.rlt _ _ hs.rm;have hms:L.m≠L.s:=bT L hs.rm hs.rs (by simp);have hmi:L.m≠id:=bT L hs.rm hr2 (by simp);have hsi:L.s≠id:=bT L hs.rs hr2 (by simp);have nb:∀ {i r},L.ro i=some r->r≠ .w a->(i==id)=false:=fun hi hr=>by simp[bT L hi hr2 hr]
 have b2:=nb hs.rm (by simp);have hsol2:∀v∈ax n bud L S,v.drop (fun x=>x==id)=v:=fun v hv=>by
  simp only[ax,zrj,zrp,or_false]at hv;rcases hv with rfl|rfl|rfl|rfl|rfl|rfl|rfl|rfl<;>first|exact dY|exact bK (nb hs.rv (by simp))|exact bK (nb hs.rt (by simp))|exact bK (nb hs.rl (by simp))|exact bK (nb hs.rx (by simp))|exact bK (nb hs.rg (by simp))|skip
  rw[V.drop,b2];rfl
 have q2:∀o:O,((List.map (O.drop fun x=>x==id) h).set id o)[L.s]? =some (.cells (ax n bud L S)):=fun o=>by rw[zqn hsi.symm];exact OM hsol hsol2
 refine⟨fun o=>by rw[zqn hmi.symm,zqo],q2,b2,nb hs.rs (by simp),fun j hj=>nb (hs.cla j hj).2 (by simp),dQ fun v hv=> ?_,?_,?_⟩
 ·obtain⟨q,hq,rfl⟩:=zrh.1 hv;exact bK (nb (hs.cla q (hs.fwt a q hq)).2 (by simp))
 ·have:=hs.toHR.wputD hw (F:=S.wt a) (hs.fwt a) (h':=((List.map (O.drop fun x=>x==id) h).set id (.cells ((S.wt a).map (clV L S)))).set L.m (.map (ks2.map vi) (ks2.map fun b=>if b=a then .ls id 1 0 (S.wt a).length (S.wt a).length else(mwV L S b).drop fun x=>x==id))) ?_ ?_ ⟨ks2,?_,hn,h0⟩ (by simp)
  ·rwa [lG]at this
  ·intro i cs hi hv hne hqm;have hqm:=hqm.symm;rw[zqn hqm,zqn (Ne.symm hne)];exact OL hi hv
  ·rw[zqn hmi,zqt (by simpa using hil)]
  ·rw[zqt (by simpa using hlm)]
   congr 2
   refine zsd fun b hb=> ?_;by_cases he:b=a
   ·rw[if_pos he,if_pos he]
   ·rw[if_neg he,if_neg he];unfold mwV;have kw:=hs.wat b;unfold gX at kw;cases hwb:L.w b with
    |none=>simp only[IZ,V.drop]
    |some i=>rw[hwb]at kw;exact bK (nb kw.2 (by simpa using he))
 ·rw[zqn hms];exact q2 _
end
end Go.Proofs.YthdidjjecjhenaaGreat
