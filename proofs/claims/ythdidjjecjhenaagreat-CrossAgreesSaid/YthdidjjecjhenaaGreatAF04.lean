/- Lemmas for this claim, part F04: each holds under what it names. -/
import Derived.Test.YthdidjjecjhenaaGreatAF03
import Derived.Test.YthdidjjecjhenaaGreatAA7
set_option linter.all false
set_option maxRecDepth 20000
namespace Go.Proofs.YthdidjjecjhenaaGreat
open Go Go.Proofs Go.Abs
open List renaming length → aa, replicate → aD
open Bool renaming true → ab, false → am
open Option renaming some → ar, none → aL
open Decidable renaming decide → aM
open Go.IntKind renaming wrap → a5
open Go.Result renaming andThen → a8
open Go.Abs.O renaming cells → aw
open Go.Abs.V renaming drops → aE, dat → a6, dats → a7
section
variable{n:Nat}{bud:Int}{L:Lay}{S:St}{h:H}
def Mc:Plan:=tkZ [0,1,2,4,5,6,7,9,11]<| .alt 3 (.alt 8 (.alt 10 (onZ [12,13,14]<| .fin) (.one 12 (onZ [10,13,14]<| .fin))) (.one 12 (onZ [8,10,13,14]<| .fin))) (.alt 8 (.alt 3 (.alt 10 (onZ [12,13,14]<| .fin) (.one 12 (onZ [10,13,14]<| .fin))) (.alt 10 (.alt 3 (onZ [12,13,14]<| .fin) (.one 12 (.alt 3 (.one 13<| .one 14<| .fin) (.one 13 (.one 3<| .one 14<| .fin))))) (.one 12 (.alt 3 (onZ [10,13,14]<| .fin) (.one 10 (.alt 3 (.one 13<| .one 14<| .fin) (.one 13 (.one 3<| .one 14<| .fin)))))))) (.one 12 (.alt 3 (onZ [8,10,13,14]<| .fin) (.one 8 (.alt 3 (onZ [10,13,14]<| .fin) (.one 10 (.alt 3 (.one 13<| .one 14<| .fin) (.one 13 (.one 3<| .one 14<| .fin)))))))))
def xn(S:St)(j:Nat)(c:Cl):St:=c.foldl (λS a=>G7 S a j) S
theorem Ju(S:St)(j:Nat):∀c:Cl,(xn S j c).cl=S.cl/\(xn S j c).nc=S.nc:=by
 intro c
 induction c generalizing S with
 |nil=>exact⟨rfl,rfl⟩
 |cons a c ih=>exact ih (G7 S a j)
theorem uu{p:Nat->Bool}(f:Int->V):∀ks:List Int,aE p (ks.map f)=ks.map λb=>(f b).drop p
 |[]=>rfl
 |b::ks=>by simp only[zrd,aE,uu f ks]
theorem Tq(S:St)(a b:Int)(j:Nat):aa ((G7 S a j).wt b)<=aa (S.wt b)+1:=by
 show aa (if b=a then S.wt a++[j]else S.wt b)<=_;split
 ·rename_i e;subst e;simp
 ·omega
theorem Fg(j:Nat)(b:Int):∀(c:Cl)(S:St),aa ((xn S j c).wt b)<=aa (S.wt b)+aa c
 |[],S=>by simp[xn]
 |a::c,S=>by have h1:=Fg j b c (G7 S a j);have h2:=Tq S a b j;have e:xn S j (a::c)=xn (G7 S a j) j c:=rfl;rw[e,zrt];omega
theorem Po(hs:HS n bud L S h):L.ro (aa h)=aL:=by
 cases e:L.ro (aa h)with
 |none=>rfl
 |some r=>exact absurd (hs.rlt _ _ e) (Nat.lt_irrefl _)
variable{id:Nat}
theorem Pv{o:O}{i:Nat}(hi:h[i]? =ar o)(hv:o.drop (λx=>x==id)=o):(h.map (O.drop λx=>x==id))[i]? =ar o:=by rw[zqo,hi,zrw,hv]
theorem Px{cs:List V}{i:Nat}(hi:h[i]? =ar (aw cs))(hv:∀v∈cs,v.drop (λx=>x==id)=v):(h.map (O.drop λx=>x==id))[i]? =ar (aw cs):=by rw[zqo,hi,zrw,aZ,eP hv]
def mwV(L:Lay)(S:St)(a:Int):V:=Jp (L.w a) 1 (aa (S.wt a))
theorem HR.mapv(k:HR n L S h):∃ks:List Int,h[L.m]? =ar (.map (ks.map vi) (ks.map (mwV L S)))/\ks.Nodup/\∀a,¬a∈ks->L.w a=aL/\S.wt a=[]:=k.map
theorem zi(hs:HS n bud L S h){j:Nat}(hj:j<S.nc)(h2:2<=aa (S.cl j))(hcl:aa (S.cl j)<=1000000)(hw:∀a,aa (S.wt a)<=30000000000){R:AEnd->H->(Nat->Bool)->Prop}
 (hr:∀L' h' p,LX S.nc L L'->HS n bud L' (xn S j ((S.cl j).take 2)) h'->aa h<=aa h'->(∀i,p i=ab->∃a,L'.ro i=ar (.w a))->R (.ret (.tup [])) h' p):ag TE 96 [.lp L.s 0,clV L S j] h R:=by
 have hM := mLx;unfold clV;refine ah Tryz.func96 rfl (by simp [nts]) (vm ?_);simp only [wq.1,seval,Tryz.results96];refine ⟨by omega,?_⟩;refine aA (λm f h' => ∃ (i : Nat) (L' : Lay),m = 2 - i /\ i <= 2 /\ f.t 0 = .lp L.s 0 /\ f.t 1 = .ls (L.c j) 1 0 (aa (S.cl j)) (aa (S.cl j)) /\ f.t 7 = .ls (L.c j) 1 0 2 (aa (S.cl j)) /\ f.t 8 = vi 2 /\ f.t 9 = vi i /\ f.d = [] /\ (∀ q,f.k q = ab -> ∃ a,L'.ro q = ar (.w a)) /\ LX S.nc L L' /\ HS n bud L' (xn S j ((S.cl j).take i)) h' /\ aa h <= aa h') 2
  ⟨0,L,rfl,by omega,rfl,rfl,rfl,rfl,rfl,rfl,(λq hq=>absurd hq Bool.false_ne_true),LX.refl _ L,hs,zrb _⟩ ?_
 rintro m f h' ⟨i,L',hm,hi,h0,h1,h7,h8,h9,hd,hkf,hx,hs',hlen⟩;obtain⟨S1,hS1⟩:∃S1,S1=xn S j ((S.cl j).take i):=⟨_,rfl⟩;have ecl:S1.cl=S.cl:=by rw[hS1];exact(Ju _ _ _).1
 have enc:S1.nc=S.nc:=by rw[hS1];exact(Ju _ _ _).2
 have hw0:∀b,aa (S1.wt b)<=30000000002:=λb=>by have h1:=Fg j b ((S.cl j).take i) S;have h2:=hw b;rw[<-hS1,zrl]at h1;omega
 rw[<-hS1]at hs';refine vm ?_;simp only[wq.1,seval,h8,h9];by_cases hi2:i=2
 ·subst hi2;have e:aM (((2:Nat):Int)<2)=am:=rfl;simp only[wq.1,e,hd];exact hr L' h' f.k hx (hS1▸hs') hlen hkf
 ·have e:aM ((i:Int)<2)=ab:=by rw[zqb];omega
  have hij:i<aa (S.cl j):=by omega
  have hj':j<S1.nc:=by rw[enc];exact hj
  have hc:=(hs'.cla j hj').1;rw[ecl,hx.c j hj]at hc;have hg:((S.cl j).map vi).getD (i*1) .any=vi (S.cl j)[i]:=by simp[zqg,hij]
  obtain⟨a,ha⟩:∃a,a=(S.cl j)[i]:=⟨_,rfl⟩;rw[<-ha]at hg;simp only[wq.1,↓reduceIte,Nat.reduceEqDiff,Nat.reduceLT,e,h7,h9,hc,hg];refine⟨by omega,by omega,?_⟩;refine bK dV Mc (λf' h''=>∃L2,LX S.nc L' L2/\HS n bud L2 (G7 S1 a j) h''/\f'.t 0= .lp L.s 0/\f'.t 1= .ls (L.c j) 1 0 (aa (S.cl j)) (aa (S.cl j))/\f'.t 7= .ls (L.c j) 1 0 2 (aa (S.cl j))/\f'.t 8=vi 2/\f'.t 9=vi i/\f'.d=[]/\(∀q,f'.k q=ab->∃a,L2.ro q=ar (.w a))/\aa h'<=aa h'') (by decide +kernel) (by decide +kernel) ?_ ?_
  ·obtain⟨ks,hm1,hm2,hm3⟩:=hs'.mapv;have hsol:=hs'.sol;have hls:=hs'.rlt _ _ hs'.rs;have hlm:=hs'.rlt _ _ hs'.rm;rw[hx.s]at hsol hls;have en1:∀o:O,(h'++[o])[L.s]? =ar (aw (ay n bud L' S1)):=λo=>by rw[zqj hls];exact hsol
   have en2:∀o:O,(h'++[o])[L'.m]? =ar (.map (ks.map vi) (ks.map (mwV L' S1))):=λo=>by rw[zqj hlm];exact hm1
   have hms:L'.m≠L.s:=by rw[<-hx.s];exact bW L' hs'.rm hs'.rs (by simp)
   have en3:∀(o q:O),(List.set (h'++[o]) L'.m q)[L.s]? =ar (aw (ay n bud L' S1)):=λo q=>by rw[zqn hms];exact en1 o
   have hfm:∀id len,List.flatMap V.vc [V.ls id 1 0 len len]=[V.ls id 1 0 len len]:=λ_ _=>rfl;have hft:∀id len,mJ 1 [V.ls id 1 0 len len]=ab:=λ_ _=>rfl;have hget:=xJ (ks:=ks) (f:=mwV L' S1) (zero:=V.nils) a λhn=>by unfold mwV;rw[(hm3 a hn).1];rfl
   cases hw:L'.w a with
   |none =>
    have hnil:mwV L' S1 a= .nils:=by unfold mwV;rw[hw];rfl
    rw[hnil]at hget;obtain⟨ks2,hp1,hp2,hp3,hp4⟩:=mD hm2 (mwV L' S1) a (.ls (aa h') 1 0 1 1);simp only[wq.1,↓reduceIte,Nat.reduceEqDiff,Nat.reduceLT,Nat.reduceLeDiff,Nat.reduceAdd,reduceCtorEq,Nat.reduceMul,Mc,h0,h1,h7,h8,h9,hd,hsol,ay,hm1,hget,en1,en2,hp1];refine⟨⟨rfl,by decide⟩,by omega,AP L' a (aa h'),oQ (.inl ⟨?_,hw⟩),⟨hs'.toHR.wstep hj' (.inl ⟨?_,hw⟩) ?_ ?_ ⟨ks2,?_,hp2,hp3,λb hb=>hm3 b λhb2=>hb (hp4 b hb2)⟩ (by simp) (by simp),?_⟩,λq hq=> ?_,by simp⟩
    ·exact Po hs'
    ·exact Po hs'
    ·intro q cs hq hv hr hne hqm;have hlt:=(zqe hq).1;have hqm:=hqm.symm;rw[zqn hqm,zqj hlt];exact hq
    ·have hwt:S1.wt a=[]:=by have:=hs'.wat a;unfold iG at this;rw[hw]at this;simpa using this
     rw[zqn (by omega),hwt];simp[clV,ecl,hx.c j hj]
    ·have hwt:S1.wt a=[]:=by have:=hs'.wat a;unfold iG at this;rw[hw]at this;simpa using this
     rw[zqt (by simp;omega),hwt];rfl
    ·rw[show(AP L' a (aa h')).s=L'.s from rfl,hx.s];exact en3 _ _
    ·obtain⟨b,hb⟩:=hkf q hq;exact⟨b,(oQ (m:=0) (.inl ⟨Po hs',hw⟩)).ro _ _ hb⟩
   |some id =>
    have hrow:=hs'.wat a;unfold iG at hrow;rw[hw]at hrow;obtain⟨hr1,hr2⟩:=hrow;have hv1:mwV L' S1 a= .ls id 1 0 (aa (S1.wt a)) (aa (S1.wt a)):=by unfold mwV;rw[hw];rfl
    rw[hv1]at hget;have hlen2:aa ((S1.wt a).map (clV L' S1))=aa (S1.wt a):=zra ..;have hsi:L.s≠id:=by rw[<-hx.s];exact bW L' hs'.rs hr2 (by simp)
    have b1:(L.s==id)=am:=by simp[hsi]
    have b2:(L'.m==id)=am:=by simp[bW L' hs'.rm hr2 (by simp)]
    have b3:(L.c j==id)=am:=by rw[<-hx.c j hj];simp[bW L' (hs'.cla j hj').2 hr2 (by simp)]
    obtain⟨ks2,hp1,hp2,hp3,hp4⟩:=mD hm2 (λb=>(mwV L' S1 b).drop λx=>x==id) a (.ls id 1 0 (aa (S1.wt a)+1) (aa (S1.wt a)+1));have q1:∀o:O,((List.map (O.drop λx=>x==id) h').set id o)[L'.m]? =ar (.map (ks.map vi) (ks.map λb=>(mwV L' S1 b).drop λx=>x==id)):=λo=>by rw[zqn (bW L' hr2 hs'.rm (by simp)),zqo,hm1,zrw,kU,eP (λv hv=>by obtain⟨_,_,rfl⟩:=zrh.1 hv;exact fA),uu]
    have nb:∀ {i r},L'.ro i=ar r->r≠ .w a->(i==id)=am:=λhi hr=>by simp[bW L' hi hr2 hr]
    have hsol2:∀v∈ay n bud L' S1,v.drop (λx=>x==id)=v:=λv hv=>by
     simp only[ay,zrj,zrp,or_false]at hv;rcases hv with rfl|rfl|rfl|rfl|rfl|rfl|rfl|rfl<;>first|exact fA|exact bV (nb hs'.rv (by simp))|exact bV (nb hs'.rt (by simp))|exact bV (nb hs'.rl (by simp))|exact bV (nb hs'.rx (by simp))|exact bV (nb hs'.rg (by simp))|skip
     rw[V.drop,b2];rfl
    have q2:∀o:O,((List.map (O.drop λx=>x==id) h').set id o)[L.s]? =ar (aw (ay n bud L' S1)):=λo=>by rw[zqn hsi.symm];exact Px hsol hsol2
    have q3:aE (λx=>x==id) (List.map (clV L' S1) (S1.wt a))=List.map (clV L' S1) (S1.wt a):=eP λv hv=>by obtain⟨q,hq,rfl⟩:=zrh.1 hv;exact bV (nb (hs'.cla q (hs'.fwt a q hq)).2 (by simp))
    have q4:∀o q:O,(((List.map (O.drop λx=>x==id) h').set id o).set L'.m q)[L.s]? =ar (aw (ay n bud L' S1)):=λo q=>by rw[zqn hms];exact q2 o
    have hwb:=hw0 a;have key:∃L2,LX S.nc L' L2/\HS n bud L2 (G7 S1 a j) (((List.map (O.drop λx=>x==id) h').set id (aw (List.map (clV L' S1) (S1.wt a)++[.ls (L.c j) 1 0 (aa (S.cl j)) (aa (S.cl j))]))).set L'.m (.map (ks2.map vi) (ks2.map λb=>if b=a then .ls id 1 0 (aa (S1.wt a)+1) (aa (S1.wt a)+1)else(mwV L' S1 b).drop λx=>x==id))) /\
     (∀q,(f.k q||q==id)=ab->∃a,L2.ro q=ar (.w a))/\aa h'<=aa (((List.map (O.drop λx=>x==id) h').set id (aw (List.map (clV L' S1) (S1.wt a)++[.ls (L.c j) 1 0 (aa (S.cl j)) (aa (S.cl j))]))).set L'.m (.map (ks2.map vi) (ks2.map λb=>if b=a then .ls id 1 0 (aa (S1.wt a)+1) (aa (S1.wt a)+1)else(mwV L' S1 b).drop λx=>x==id))):=by
     have hil:=hs'.rlt _ _ hr2;refine⟨AP L' a id,oQ (.inr ⟨hr2,hw⟩),⟨hs'.toHR.wstep hj' (.inr ⟨hr2,hw⟩) ?_ ?_ ⟨ks2,?_,hp2,hp3,λb hb=>hm3 b λhb2=>hb (hp4 b hb2)⟩ (by simp) (by simpa using hil),?_⟩,λq hq=> ?_,by simp⟩
     ·intro q cs hq hv hr hne hqm;have hqm:=hqm.symm;rw[zqn hqm,zqn (Ne.symm hne)];exact Pv hq hv
     ·rw[zqn (bW L' hs'.rm hr2 (by simp)),zqt (by simpa using hil)];simp[clV,ecl,hx.c j hj]
     ·rw[zqt (by simpa using hlm)]
      congr 2
      refine zsd λb hb=> ?_;by_cases he:b=a
      ·rw[if_pos he,if_pos he]
      ·rw[if_neg he,if_neg he];unfold mwV;have kw:=hs'.wat b;unfold iG at kw;cases hwb:L'.w b with
       |none=>simp only[Jp,V.drop]
       |some i=>rw[hwb]at kw;exact bV (nb kw.2 (by simpa using he))
     ·rw[show(AP L' a id).s=L'.s from rfl,hx.s];exact q4 _ _
     ·rcases zsi hq with hq|hq
      ·obtain⟨b,hb⟩:=hkf q hq;exact⟨b,(oQ (m:=0) (.inr ⟨hr2,hw⟩)).ro _ _ hb⟩
      ·exact⟨a,by rw[show q=id by simpa using hq];exact if_pos rfl⟩
    simp only[wq.1,seval,Mc,h0,h1,h7,h8,h9,hd,hsol,ay,hm1,hget,hp1,hr1,b1,b2,b3,q1,q2,q3]
    and_intros<;>first|exact key|omega|rfl|decide
  ·rintro f2 h2 ⟨L2,hx2,hs2,g0,g1,g7,g8,g9,gd,gk,gl⟩;have hw2:a5 .i64 ((i:Int)+1)=((i+1:Nat):Int):=by rw[aV (by omega) (by omega)];omega
   simp only[wq.1,seval,g9,hw2];have e2:G7 S1 a j=xn S j ((S.cl j).take (i+1)):=by
    rw[zrg,zqk hij,<-ha,hS1];unfold xn;rw[List.foldl_append];rfl
   exact .inl ⟨2-(i+1),by omega,i+1,L2,rfl,by omega,g0,g1,g7,g8,rfl,gd,gk,hx.trans hx2,e2▸hs2,by omega⟩
end
section
variable{n:Nat}{bud:Int}{L:Lay}{S:St}{h:H}{a:Int}{j:Nat}
theorem Py(hs:HS n bud L S h)(hj:j<S.nc)(hw:L.w a=aL):∃ks ks2:List Int,h[L.m]? =ar (.map (ks.map vi) (ks.map (mwV L S))) /\
 qF (.int .i64) (vi a) (ks.map vi) (ks.map (mwV L S)) .nils am=(True,.nils) /\
 IZ (.int .i64) (vi a) (.ls (aa h) 1 0 1 1) (ks.map vi) (ks.map (mwV L S))=ar (ks2.map vi,ks2.map λb=>if b=a then .ls (aa h) 1 0 1 1 else mwV L S b) /\
 HS n bud (AP L a (aa h)) (G7 S a j) (List.set (h++[aw [.ls (L.c j) 1 0 (aa (S.cl j)) (aa (S.cl j))]]) L.m (.map (ks2.map vi) (ks2.map λb=>if b=a then .ls (aa h) 1 0 1 1 else mwV L S b))):=by
 obtain⟨ks,hm1,hm2,hm3⟩:=hs.mapv;have hsol:=hs.sol;have hls:=hs.rlt _ _ hs.rs;have hlm:=hs.rlt _ _ hs.rm;have hms:L.m≠L.s:=bW L hs.rm hs.rs (by simp);have hget:=xJ (ks:=ks) (f:=mwV L S) (zero:=V.nils) a λhn=>by unfold mwV;rw[(hm3 a hn).1];rfl
 have hnil:mwV L S a= .nils:=by unfold mwV;rw[hw];rfl
 rw[hnil]at hget;obtain⟨ks2,hp1,hp2,hp3,hp4⟩:=mD hm2 (mwV L S) a (.ls (aa h) 1 0 1 1);refine⟨ks,ks2,hm1,hget,hp1,hs.toHR.wstep hj (.inl ⟨Po hs,hw⟩) ?_ ?_ ⟨ks2,?_,hp2,hp3,λb hb=>hm3 b λhb2=>hb (hp4 b hb2)⟩ (by simp) (by simp),?_⟩
 ·intro q cs hq hv hr hne hqm;have hlt:=(zqe hq).1;have hqm:=hqm.symm;rw[zqn hqm,zqj hlt];exact hq
 ·have hwt:S.wt a=[]:=by have:=hs.wat a;unfold iG at this;rw[hw]at this;simpa using this
  rw[zqn (by omega),hwt];simp[clV]
 ·have hwt:S.wt a=[]:=by have:=hs.wat a;unfold iG at this;rw[hw]at this;simpa using this
  rw[zqt (by simp;omega),hwt];rfl
 ·rw[show(AP L a (aa h)).s=L.s from rfl,zqn hms,zqj hls];exact hsol
theorem Pz(hs:HS n bud L S h)(hj:j<S.nc){id:Nat}(hw:L.w a=ar id):∃ks ks2:List Int,h[L.m]? =ar (.map (ks.map vi) (ks.map (mwV L S)))/\h[id]? =ar (aw ((S.wt a).map (clV L S)))/\L.ro id=ar (.w a) /\
 qF (.int .i64) (vi a) (ks.map vi) (ks.map (mwV L S)) .nils am=(True,.ls id 1 0 (aa (S.wt a)) (aa (S.wt a))) /\
 IZ (.int .i64) (vi a) (.ls id 1 0 (aa (S.wt a)+1) (aa (S.wt a)+1)) (ks.map vi) (ks.map λb=>(mwV L S b).drop λx=>x==id)=ar (ks2.map vi,ks2.map λb=>if b=a then .ls id 1 0 (aa (S.wt a)+1) (aa (S.wt a)+1)else(mwV L S b).drop λx=>x==id) /\
 HS n bud (AP L a id) (G7 S a j) (((List.map (O.drop λx=>x==id) h).set id (aw (List.map (clV L S) (S.wt a)++[.ls (L.c j) 1 0 (aa (S.cl j)) (aa (S.cl j))]))).set L.m (.map (ks2.map vi) (ks2.map λb=>if b=a then .ls id 1 0 (aa (S.wt a)+1) (aa (S.wt a)+1)else(mwV L S b).drop λx=>x==id))) /\
 (∀o:O,((List.map (O.drop λx=>x==id) h).set id o)[L.m]? =ar (.map (ks.map vi) (ks.map λb=>(mwV L S b).drop λx=>x==id))) /\
 (∀o:O,((List.map (O.drop λx=>x==id) h).set id o)[L.s]? =ar (aw (ay n bud L S))) /\
 (aE (λx=>x==id) (List.map (clV L S) (S.wt a))=List.map (clV L S) (S.wt a)) /\
 (∀o q:O,(((List.map (O.drop λx=>x==id) h).set id o).set L.m q)[L.s]? =ar (aw (ay n bud L S))):=by
 obtain⟨ks,hm1,hm2,hm3⟩:=hs.mapv;have hsol:=hs.sol;have hls:=hs.rlt _ _ hs.rs;have hlm:=hs.rlt _ _ hs.rm;have hms:L.m≠L.s:=bW L hs.rm hs.rs (by simp);have hget:=xJ (ks:=ks) (f:=mwV L S) (zero:=V.nils) a λhn=>by unfold mwV;rw[(hm3 a hn).1];rfl
 have hrow:=hs.wat a;unfold iG at hrow;rw[hw]at hrow;obtain⟨hr1,hr2⟩:=hrow;have hv1:mwV L S a= .ls id 1 0 (aa (S.wt a)) (aa (S.wt a)):=by unfold mwV;rw[hw];rfl
 rw[hv1]at hget;have hsi:L.s≠id:=bW L hs.rs hr2 (by simp);have b2:(L.m==id)=am:=by simp[bW L hs.rm hr2 (by simp)]
 obtain⟨ks2,hp1,hp2,hp3,hp4⟩:=mD hm2 (λb=>(mwV L S b).drop λx=>x==id) a (.ls id 1 0 (aa (S.wt a)+1) (aa (S.wt a)+1));have q1:∀o:O,((List.map (O.drop λx=>x==id) h).set id o)[L.m]? =ar (.map (ks.map vi) (ks.map λb=>(mwV L S b).drop λx=>x==id)):=λo=>by rw[zqn (bW L hr2 hs.rm (by simp)),zqo,hm1,zrw,kU,eP (λv hv=>by obtain⟨_,_,rfl⟩:=zrh.1 hv;exact fA),uu]
 have nb:∀ {i r},L.ro i=ar r->r≠ .w a->(i==id)=am:=λhi hr=>by simp[bW L hi hr2 hr]
 have hsol2:∀v∈ay n bud L S,v.drop (λx=>x==id)=v:=λv hv=>by
  simp only[ay,zrj,zrp,or_false]at hv;rcases hv with rfl|rfl|rfl|rfl|rfl|rfl|rfl|rfl<;>first|exact fA|exact bV (nb hs.rv (by simp))|exact bV (nb hs.rt (by simp))|exact bV (nb hs.rl (by simp))|exact bV (nb hs.rx (by simp))|exact bV (nb hs.rg (by simp))|skip
  rw[V.drop,b2];rfl
 have q2:∀o:O,((List.map (O.drop λx=>x==id) h).set id o)[L.s]? =ar (aw (ay n bud L S)):=λo=>by rw[zqn hsi.symm];exact Px hsol hsol2
 have q3:aE (λx=>x==id) (List.map (clV L S) (S.wt a))=List.map (clV L S) (S.wt a):=eP λv hv=>by obtain⟨q,hq,rfl⟩:=zrh.1 hv;exact bV (nb (hs.cla q (hs.fwt a q hq)).2 (by simp))
 have q4:∀o q:O,(((List.map (O.drop λx=>x==id) h).set id o).set L.m q)[L.s]? =ar (aw (ay n bud L S)):=λo q=>by rw[zqn hms];exact q2 o
 have hil:=hs.rlt _ _ hr2;refine⟨ks,ks2,hm1,hr1,hr2,hget,hp1,⟨hs.toHR.wstep hj (.inr ⟨hr2,hw⟩) ?_ ?_ ⟨ks2,?_,hp2,hp3,λb hb=>hm3 b λhb2=>hb (hp4 b hb2)⟩ (by simp) (by simpa using hil),q4 _ _⟩,q1,q2,q3,q4⟩
 ·intro q cs hq hv hr hne hqm;have hqm:=hqm.symm;rw[zqn hqm,zqn (Ne.symm hne)];exact Pv hq hv
 ·rw[zqn (bW L hs.rm hr2 (by simp)),zqt (by simpa using hil)];simp[clV]
 ·rw[zqt (by simpa using hlm)]
  congr 2
  refine zsd λb hb=> ?_;by_cases he:b=a
  ·rw[if_pos he,if_pos he]
  ·rw[if_neg he,if_neg he];unfold mwV;have kw:=hs.wat b;unfold iG at kw;cases hwb:L.w b with
   |none=>simp only[Jp,V.drop]
   |some i=>rw[hwb]at kw;exact bV (nb kw.2 (by simpa using he))
theorem HR.setC(k:HR n L S h)(hj:j<S.nc){c:Cl}(hl:aa c=aa (S.cl j)):HR n L (swS S j c) (h.set (L.c j) (aw (c.map vi))):=by
 have hc:=(k.cla j hj).2;have hlen:∀q,aa ((swS S j c).cl q)=aa (S.cl q):=λq=>by
  show aa (upd S.cl j c q)=_;by_cases he:q=j
  ·subst he;rw[bD,hl]
  ·rw[bM he]
 have hcv:clV L (swS S j c)=clV L S:=funext λq=>by unfold clV;rw[hlen]
 have hvc:eH L (swS S j c) n=eH L S n:=by
  unfold eH iE;have:reV L (swS S j c)=reV L S:=funext λr=>by cases r<;>simp only[reV,hcv]
  rw[this];rfl
 refine {var:= ?_,map:= ?_,trl:= ?_,lvl:= ?_,nxl:= ?_,lnl:= ?_,lnk:= ?_,cla:= ?_,wat:= ?_,fre:=k.fre,fwt:=k.fwt,rs:=k.rs,rv:=k.rv,rm:=k.rm,rt:=k.rt,rl:=k.rl,rx:=k.rx,rg:=k.rg,rlt:=λi q hq=>by rw[zrn];exact k.rlt i q hq,ext:=λi o ho=>⟨by rw[bu hc ho (by simp)];exact(k.ext i o ho).1,(k.ext i o ho).2⟩}
 ·rw[bu hc k.rv (by simp),hvc];exact k.var
 ·obtain⟨ks,h1,h2⟩:=k.map;exact⟨ks,by rw[bu hc k.rm (by simp)];exact h1,h2⟩
 ·rw[bu hc k.rt (by simp)];exact k.trl
 ·rw[bu hc k.rl (by simp)];exact k.lvl
 ·rw[bu hc k.rx (by simp)];exact k.nxl
 ·rw[bu hc k.rg (by simp)];exact k.lnl
 ·intro i hi;obtain⟨h1,h2⟩:=k.lnk i hi;exact⟨by rw[bu hc h2 (by simp)];exact h1,h2⟩
 ·intro q hq;obtain⟨h1,h2⟩:=k.cla q hq;refine⟨?_,h2⟩;show(h.set (L.c j) _)[L.c q]? =ar (aw ((upd S.cl j c q).map vi));by_cases he:q=j
  ·subst he;rw[bD,zqt (k.rlt _ _ hc)]
  ·rw[bM he,bu hc h2 (by simpa using Ne.symm he)];exact h1
 ·intro b;have:=k.wat b;unfold iG at this ⊢;rw[hcv];cases hw:L.w b with
  |none=>rw[hw]at this;exact this
  |some id=>rw[hw]at this;exact⟨by rw[bu hc this.2 (by simp)];exact this.1,this.2⟩
theorem HS.setC(hs:HS n bud L S h)(hj:j<S.nc){c:Cl}(hl:aa c=aa (S.cl j)):HS n bud L (swS S j c) (h.set (L.c j) (aw (c.map vi))) :=
 ⟨hs.toHR.setC hj hl,by rw[bu (hs.cla j hj).2 hs.rs (by simp)];exact hs.sol⟩
end
section
variable{n:Nat}{bud:Int}{L:Lay}{S:St}{h:H}{a:Int}{j:Nat}
def XL:Plan:=tkZ [0,1,2,3,5,6]<| .alt 4 (.one 7<| .take 8<| .one 9<| .take 10<| .one 11<| .fin) (.one 7 (.one 4<| .take 8<| .one 9<| .take 10<| .one 11<| .fin))
theorem xK(nt:Int):∀c:Cl,aa (WQ nt c)=aa c
 |[]=>rfl
 |[_]=>rfl
 |x::y::r=>by show aa (if x=nt then y::x::r else x::y::r)=_;split<;>rfl
theorem uw(nt:Int):∀(c:Cl)(b:Int),b∈WQ nt c↔b∈c
 |[],_=>Iff.rfl
 |[_],_=>Iff.rfl
 |x::y::r,b=>by
  show b∈(if x=nt then y::x::r else x::y::r)↔_;split
  ·simp only[zrj];exact⟨λh=>h.elim (λh=> .inr (.inl h)) (λh=>h.elim .inl λh=> .inr (.inr h)),λh=>h.elim (λh=> .inr (.inl h)) (λh=>h.elim .inl λh=> .inr (.inr h))⟩
  ·exact Iff.rfl
theorem Ih(hs:HS n bud L S h)(hn:n<=20000)(hj:j<S.nc){nt u w:Int}{r:Cl}(hcl:WQ nt (S.cl j)=u::w::r)(h2:2<=aa (S.cl j))(hlen:aa (S.cl j)<=1000000)(hlit:∀a∈S.cl j,a≠0/\a.natAbs<=n)
 (hv:∀i,1<=i->i<=n->-1<=(S.v i).value/\(S.v i).value<=1) (hw:∀a,aa (S.wt a)<=30000000000) (htr:aa S.tr<=20000) {R:AEnd->H->(Nat->Bool)->Prop}
 (r1:∀h',0<mY S u->HS n bud L (swS S j (u::w::r)) h'->aa h'=aa h->R (.ret (.tup [.bool ab,.bool am])) h' (λ_=>am))
 (r2:∀L' h' p i (hi:i<aa r),0<=mY S r[i]->(∀k (hk:k<i),mY S (r[k]'(by omega))<0)->¬0<mY S u->LX S.nc L L'->HS n bud L' (G7 (swS S j (u::r[i]::r.set i nt)) r[i] j) h'->aa h<=aa h'->(∀q,p q=ab->L'.ro q=ar (.w r[i]))->R (.ret (.tup [.bool am,.bool am])) h' p)
 (r3:∀h',mY S u<0->(∀k (hk:k<aa r),mY S r[k]<0)->HS n bud L (swS S j (u::w::r)) h'->aa h'=aa h->R (.ret (.tup [.bool ab,.bool ab])) h' (λ_=>am))
 (r4:∀h' p,mY S u=0->(∀k (hk:k<aa r),mY S r[k]<0)->HS n bud L (kR (swS S j (u::w::r)) u (ar j)) h'->aa h<=aa h'->(∀q,p q=ab->q=L.t)->R (.ret (.tup [.bool ab,.bool am])) h' p) :
 ag TE 119 [.lp L.s 0,clV L S j,vi nt] h R:=by
 have hM:=mLx;have hc:=(hs.cla j hj).1;have hlr:=hs.rlt _ _ (hs.cla j hj).2;unfold clV;refine ah Tryz.func119 rfl (by simp[nts]) (SC dV (λf' h'=>f'.t 0= .lp L.s 0/\f'.t 1= .ls (L.c j) 1 0 (aa (S.cl j)) (aa (S.cl j))/\f'.t 2=vi nt/\f'.d=[]/\(∀q,f'.k q=am)/\HS n bud L (swS S j (u::w::r)) h'/\aa h'=aa h) ?_ ?_)
 ·obtain⟨x,y,r0,ec⟩:∃x y r0,S.cl j=x::y::r0:=by
   match S.cl j,h2 with
   |x::y::r0,_=>exact⟨x,y,r0,rfl⟩
  rw[ec]at hc hcl ⊢;have hl3:aa (x::y::r0)=aa r0+2:=rfl;simp only[wq.1,seval,hc];refine⟨by omega,vcB.mk (λhx=> ?_) (λhx=> ?_)⟩
  ·have hx:x=nt:=by simpa using hx
   have e:y=u/\x=w/\r0=r:=by simp only[WQ,if_pos hx,List.cons.injEq]at hcl;exact⟨hcl.1,hcl.2.1,hcl.2.2⟩
   obtain⟨rfl,rfl,rfl⟩:=e;have hH:=hs.setC hj (c:=y::x::r0) (by rw[ec];rfl);simp only[wq.1];refine bK dV XL (λf' h'=>f'.t 0= .lp L.s 0/\f'.t 1= .ls (L.c j) 1 0 (aa r0+2) (aa r0+2)/\f'.t 2=vi nt/\f'.d=[]/\(∀q,f'.k q=am)/\h'=h.set (L.c j) (aw ((y::x::r0).map vi))) (by decide +kernel) (by decide +kernel) ?_ ?_
   ·simp only[wq.1,seval,XL,hc,hlr,zqt,List.set_set]
    and_intros<;>first|omega|rfl|trivial
   ·rintro f' h' ⟨g0,g1,g2,gd,gk,rfl⟩;simp only[wq.1,g0,g1,g2,gd]
    and_intros<;>first|rfl|exact gk|exact hH|exact zrn ..
  ·have hx:¬x=nt:=by simpa using hx
   have e:x=u/\y=w/\r0=r:=by simp only[WQ,if_neg hx,List.cons.injEq]at hcl;exact⟨hcl.1,hcl.2.1,hcl.2.2⟩
   obtain⟨rfl,rfl,rfl⟩:=e;simp only[wq.1,seval];rw[<-ec,Jn];exact hs
 ·rintro f1 h1 ⟨g0,g1,g2,gd,gk,hs1,hl1⟩;have hl3:aa (S.cl j)=aa r+2:=by rw[<-xK nt (S.cl j),hcl];rfl
  have hmem:∀b∈u::w::r,b≠0/\b.natAbs<=n:=λb hb=>hlit b ((uw nt (S.cl j) b).1 (hcl▸hb));obtain⟨hu0,hu⟩:=hmem u (by simp);have hc1:=(hs1.cla j hj).1;rw[show(swS S j (u::w::r)).cl j=u::w::r from bD _ _ _]at hc1;have hg0:(vi u::vi w::r.map vi).getD 0 .any=vi u:=rfl;have hl5:aa (vi u::vi w::r.map vi)=aa r+2:=by simp
  rw[hl3]at g1;rw[zrd,zrd]at hc1;have lv0:∀b,mY (swS S j (u::w::r)) b=mY S b:=λ_=>rfl;have gk':f1.k=λ_=>am:=funext gk;refine vm ?_;simp only[wq.1,seval,Tryz.results119,g0,g1,hc1];refine⟨by omega,lS hs1 hn hu (hv _ (by omega) hu) ?_⟩;rw[lv0];simp only[wq.1,seval];refine vcB.mk (λhx=> ?_) (λhx=> ?_)
  ·simp only[wq.1,seval,gd];rw[gk'];exact r1 h1 (by simpa using hx) hs1 hl1
  have hx:¬0<mY S u:=by simpa using hx
  simp only[wq.1,↓reduceIte,Nat.reduceEqDiff,Nat.reduceLT,g0,g1,g2,gd,hc1,hl5];refine⟨by omega,?_⟩;have hl6:(((aa r+2:Nat):Int)-2).toNat=aa r:=by omega
  refine aA (λm f' h' => ∃ i : Nat,m + i = aa r /\ f'.t 0 = .lp L.s 0 /\ f'.t 1 = .ls (L.c j) 1 0 (aa r + 2) (aa r + 2) /\ f'.t 2 = vi nt /\ f'.t 32 = .ls (L.c j) 1 2 (aa r) (aa r) /\ f'.t 33 = vi (aa r) /\ f'.t 34 = vi i /\ f'.d = [] /\ (∀ q,f'.k q = am) /\ h' = h1 /\ ∀ k (hk : k < aa r),k < i -> mY S r[k] < 0) (aa r)
   ⟨0,rfl,g0,g1,g2,by simp only[wq.1,hl6];rfl,by simp only[wq.1,hl6];rfl,rfl,gd,gk,rfl,λ_ _ hk=>absurd hk (Nat.not_lt_zero _)⟩ ?_
  rintro m f2 h2 ⟨i,hm,e0,e1,e2,e32,e33,e34,ed,ek,rfl,hneg⟩;have ek':f2.k=λ_=>am:=funext ek;refine vm ?_;simp only[wq.1,seval,e33,e34];by_cases hi:i<aa r
  ·have eb:aM ((i:Int)<(aa r:Int))=ab:=by rw[zqb];omega
   have hg:(vi u::vi w::r.map vi).getD (2+i*1) .any=vi r[i]:=by rw[show 2+i*1=i+1+1 by omega];simp[zqg,hi]
   obtain⟨hri0,hri⟩:=hmem r[i] (by simp[zqu]);simp only[wq.1,seval,eb,e0,e32,e34,hc1,hg];refine⟨by omega,by omega,lS hs1 hn hri (hv _ (by omega) hri) ?_⟩;rw[lv0];simp only[wq.1,seval];refine vcB.mk (λhy=> ?_) (λhy=> ?_)
   ·have hy:0<=mY S r[i]:=by simpa using hy
    simp only[wq.1,seval,e1,e2,hc1];have hlc:L.c j<aa h2:=hs1.rlt _ _ (hs1.cla j hj).2;have hw3:a5 .i64 ((i:Int)+2)=((i+2:Nat):Int):=by rw[aV (by omega) (by omega)];omega
    have hl7:aa (vi u::vi r[i]::r.map vi)=aa r+2:=by simp
    have hfold:List.take ((i+2)*1) (vi u::vi r[i]::r.map vi)++[vi nt]++List.drop ((i+2)*1) (vi r[i]::r.map vi)=vi u::vi r[i]::(r.set i nt).map vi:=by have:=oP (cs:=vi u::vi r[i]::r.map vi) (i:=(i+2)*1) (v:=vi nt) (by simp;omega);rw[List.drop_succ_cons]at this;rw[this,show(i+2)*1=i+1+1 by omega];simp[List.map_set]
    simp only[wq.1,seval,hw3,hlc,zqt,hfold,List.set_set];have hsC:=hs1.setC hj (c:=u::r[i]::r.set i nt) (by simp[swS,clS,bD]);have eS:swS (swS S j (u::w::r)) j (u::r[i]::r.set i nt)=swS S j (u::r[i]::r.set i nt):=by
     unfold swS clS
     congr 1
     funext q
     by_cases he:q=j
     ·subst he;simp[bD]
     ·simp[bM he]
    rw[eS]at hsC;refine⟨by omega,⟨by omega,by omega⟩,by omega,?_⟩;obtain⟨h4,eh4⟩:∃h4,h4=h2.set (L.c j) (aw (vi u::vi r[i]::List.map vi (r.set i nt))):=⟨_,rfl⟩;rw[zrd,zrd]at hsC;rw[<-eh4]at hsC ⊢;have hl8:aa h4=aa h:=by rw[eh4,zrn];exact hl1
    obtain⟨b,eb2⟩:∃b,b=r[i]:=⟨_,rfl⟩;rw[<-eb2];obtain⟨S0,eS0⟩:∃S0,S0=swS S j (u::r[i]::r.set i nt):=⟨_,rfl⟩;rw[<-eS0]at hsC;have ecl:aa (S0.cl j)=aa r+2:=by rw[eS0];simp[swS,clS,bD]
    have hj0:j<S0.nc:=by rw[eS0];exact hj
    refine bK dV Mc (λf' h''=>∃L2,LX S.nc L L2/\HS n bud L2 (G7 S0 b j) h''/\f'.d=[]/\(∀q,f'.k q=ab->L2.ro q=ar (.w b))/\aa h4<=aa h'') (by decide +kernel) (by decide +kernel) ?_ ?_
    ·have hsol:=hsC.sol;have hls:=hsC.rlt _ _ hsC.rs;have hlm:=hsC.rlt _ _ hsC.rm;cases hwb:L.w b with
     |none =>
      obtain⟨ks,ks2,hm1,hget,hp1,hH⟩:=Py hsC hj0 hwb;rw[ecl]at hH;have hms:L.m≠L.s:=bW L hsC.rm hsC.rs (by simp);have en1:∀o:O,(h4++[o])[L.s]? =ar (aw (ay n bud L S0)):=λo=>by rw[zqj hls];exact hsol
      have en2:∀o:O,(h4++[o])[L.m]? =ar (.map (ks.map vi) (ks.map (mwV L S0))):=λo=>by rw[zqj hlm];exact hm1
      have en3:∀(o q:O),(List.set (h4++[o]) L.m q)[L.s]? =ar (aw (ay n bud L S0)):=λo q=>by rw[zqn hms];exact en1 o
      have key:∃L2,LX S.nc L L2/\HS n bud L2 (G7 S0 b j) (List.set (h4++[aw [.ls (L.c j) 1 0 (aa r+2) (aa r+2)]]) L.m (.map (ks2.map vi) (ks2.map λa=>if a=b then .ls (aa h4) 1 0 1 1 else mwV L S0 a)))/\(∀q,f2.k q=ab->L2.ro q=ar (.w b))/\aa h4<=aa (List.set (h4++[aw [.ls (L.c j) 1 0 (aa r+2) (aa r+2)]]) L.m (.map (ks2.map vi) (ks2.map λa=>if a=b then .ls (aa h4) 1 0 1 1 else mwV L S0 a))) :=
       ⟨_,oQ (.inl ⟨Po hsC,hwb⟩),hH,λq hq=>(by rw[ek]at hq;cases hq),by simp⟩
      simp only[wq.1,seval,Mc,e0,e1,ed,hsol,ay,hm1,hget,en1,en2,hp1]
      and_intros<;>first|exact key|omega|rfl|decide
     |some id =>
      obtain⟨ks,ks2,hm1,hr1,hro,hget,hp1,hH,q1,q2,q3,q4⟩:=Pz hsC hj0 hwb;rw[ecl]at hH;have hlen2:aa ((S0.wt b).map (clV L S0))=aa (S0.wt b):=zra ..;have hwb2:aa (S0.wt b)<=30000000000:=by rw[eS0];exact hw b
      have b1:(L.s==id)=am:=by simp[bW L hsC.rs hro (by simp)]
      have b2:(L.m==id)=am:=by simp[bW L hsC.rm hro (by simp)]
      have b3:(L.c j==id)=am:=by simp[bW L (hsC.cla j hj0).2 hro (by simp)]
      have key:∃L2,LX S.nc L L2/\HS n bud L2 (G7 S0 b j) (((List.map (O.drop λx=>x==id) h4).set id (aw (List.map (clV L S0) (S0.wt b)++[.ls (L.c j) 1 0 (aa r+2) (aa r+2)]))).set L.m (.map (ks2.map vi) (ks2.map λa=>if a=b then .ls id 1 0 (aa (S0.wt b)+1) (aa (S0.wt b)+1)else(mwV L S0 a).drop λx=>x==id))) /\
       (∀q,(f2.k q||q==id)=ab->L2.ro q=ar (.w b))/\aa h4<=aa (((List.map (O.drop λx=>x==id) h4).set id (aw (List.map (clV L S0) (S0.wt b)++[.ls (L.c j) 1 0 (aa r+2) (aa r+2)]))).set L.m (.map (ks2.map vi) (ks2.map λa=>if a=b then .ls id 1 0 (aa (S0.wt b)+1) (aa (S0.wt b)+1)else(mwV L S0 a).drop λx=>x==id))) :=
       ⟨_,oQ (.inr ⟨hro,hwb⟩),hH,λq hq=>by
        rw[ek,Bool.false_or]at hq;rw[show q=id by simpa using hq];exact if_pos rfl,by simp⟩
      simp only[wq.1,seval,Mc,e0,e1,ed,hsol,ay,hm1,hget,hp1,hr1,b1,b2,b3,q1,q2,q3]
      and_intros<;>first|exact key|omega|rfl|decide
    ·rintro f3 h5 ⟨L2,hx2,hs5,d5,k5,l5⟩;simp only[wq.1,seval,d5];subst eb2;exact r2 L2 h5 f3.k i hi hy (λk hk=>hneg k (by omega) hk) hx hx2 (eS0▸hs5) (by omega) k5
   ·have hy:mY S r[i]<0:=by simpa using hy
    have hw2:a5 .i64 ((i:Int)+1)=((i+1:Nat):Int):=by rw[aV (by omega) (by omega)];omega
    simp only[wq.1,seval,e34,hw2];exact .inl ⟨m-1,by omega,i+1,by omega,e0,e1,e2,e32,e33,rfl,ed,ek,rfl,λk hk hki=>by
     by_cases he:k=i
     ·subst he;exact hy
     ·exact hneg k hk (by omega)⟩
  ·have eb:aM ((i:Int)<(aa r:Int))=am:=by rw[zqd];omega
   simp only[wq.1,seval,eb,e0,e1,hc1];have hall:∀k (hk:k<aa r),mY S r[k]<0:=λk hk=>hneg k hk (by omega);refine⟨by omega,lS hs1 hn hu (hv _ (by omega) hu) ?_⟩;rw[lv0];simp only[wq.1,seval];refine vcB.mk (λhy=> ?_) (λhy=> ?_)
   ·have hy:mY S u<0:=by simpa using hy
    simp only[wq.1,seval,ed];rw[ek'];exact r3 h2 hy hall hs1 hl1
   ·have hy:mY S u=0:=by
     have:¬mY S u<0:=by simpa using hy
     omega
    simp only[wq.1,seval,e0,e1,hc1];have ev:V.ls (L.c j) 1 0 (aa r+2) (aa r+2)=reV L (swS S j (u::w::r)) (ar j):=by
     simp[reV,clV,swS,clS,bD]
    rw[ev];refine⟨by omega,kW hs1 hn hu htr (ar j) (λq hq=>by cases hq;exact hj) λh3 p hs3 hp hl3=> ?_⟩;simp only[wq.1,seval,ed,ek',bC];exact r4 h3 p hy hall hs3 (by rw[<-hl1];exact hl3) hp
end
section
variable{n:Nat}{bud:Int}{L:Lay}{S:St}{h:H}{a:Int}{j:Nat}
def UK:Plan:=tkZ [0,1,2,3,4,5,6,8,9,10]<| .alt 7 (.one 11<| .one 12<| .take 13<| .one 14<| .fin) (.one 11 (.one 7<| .one 12<| .take 13<| .one 14<| .fin))
def UL:Plan:=tkZ [0,1,2,3,4,6,8,9,10,12]<| .alt 5 (.take 7<| .one 11<|tkZ [13,14,15]<| .one 16<| .take 17<| .take 18<| .one 19<| .fin) (.one 11 (.take 13<| .one 5<|tkZ [7,14,15]<| .one 16<| .take 17<| .take 18<| .one 19<| .fin))
def ji(S:St)(ts:Cl)(nx:List (Int×Int)):St :=
 {S with v:=λi=>if i∈ts.map Int.natAbs then {S.v i with last:=(S.v i).value,value:=0,reason:=aL} else S.v i,nx:=nx}
theorem Tt:ji S [] S.nx=S:=by unfold ji;simp
variable{nx:List (Int×Int)}
theorem Md{ts:Cl}(h1:a.natAbs<=n)(h2:¬a.natAbs∈ts.map Int.natAbs) :
 ((((eH L (ji S ts nx) n).set (a.natAbs*5+3) (vi (S.v a.natAbs).value)).set (a.natAbs*5) (vi 0)).set (a.natAbs*5+2) .nils)=eH L (ji S (ts++[a]) nx) n:=by
 have hf:∀i,aa (iE L (ji S ts nx) ((ji S ts nx).v i))=5:=λ_=>rfl;rw[jy,jy,mr hf h1 (by omega)];have hf1:=y9 hf (k:=a.natAbs) (l:=(iE L (ji S ts nx) ((ji S ts nx).v a.natAbs)).set 3 (vi (S.v a.natAbs).value)) rfl;have e2:=mr (n:=n) (k:=a.natAbs) (j:=0) (v:=vi 0) hf1 h1 (by omega);rw[Nat.add_zero]at e2;rw[e2];have hf2:=y9 hf1 (k:=a.natAbs) (l:=(upd (λi=>iE L (ji S ts nx) ((ji S ts nx).v i)) a.natAbs ((iE L (ji S ts nx) ((ji S ts nx).v a.natAbs)).set 3 (vi (S.v a.natAbs).value)) a.natAbs).set 0 (vi 0)) (by rw[bD];rfl);rw[mr (n:=n) (k:=a.natAbs) (j:=2) (v:= .nils) hf2 h1 (by omega)];refine nO λi hi=> ?_;by_cases he:i=a.natAbs
 ·subst he;simp only[bD];have e3:(ji S ts nx).v a.natAbs=S.v a.natAbs:=if_neg h2;have e4:(ji S (ts++[a]) nx).v a.natAbs={S.v a.natAbs with last:=(S.v a.natAbs).value,value:=0,reason:=aL}:=if_pos (by simp);rw[e3,e4];rfl
 ·simp only[bM he];have e3:(ji S (ts++[a]) nx).v i=(ji S ts nx).v i:=by
   show(if _ then _ else _)=(if _ then _ else _);by_cases hm:i∈ts.map Int.natAbs
   ·rw[if_pos hm,if_pos (by rw[zql];exact List.mem_append_left _ hm)]
   ·rw[if_neg hm,if_neg (by rw[zql];simp only[zrd,List.map_nil,zrf,zrc];exact λh=>h.elim hm he)]
  rw[e3];rfl
theorem HS.undo{ts:Cl}(hs:HS n bud L (ji S ts nx) h):HS n bud L (ji S (ts++[a]) nx) (h.set L.v (aw (eH L (ji S (ts++[a]) nx) n))):=by
 have k1:=hs.toHR.setV (ji S (ts++[a]) nx).v (λi hi j hj=>by
  have hj:(if i∈(ts++[a]).map Int.natAbs then {S.v i with last:=(S.v i).value,value:=0,reason:=aL} else S.v i).reason=ar j:=hj;by_cases hm:i∈(ts++[a]).map Int.natAbs
  ·rw[if_pos hm]at hj;cases hj
  ·rw[if_neg hm]at hj;refine hs.fre i hi j ?_;show(if i∈ts.map Int.natAbs then {S.v i with last:=(S.v i).value,value:=0,reason:=aL} else S.v i).reason=ar j;rw[if_neg λh=>hm (by rw[zql];exact List.mem_append_left _ h)];exact hj)
 refine⟨k1,?_⟩;rw[bu hs.rv hs.rs (by simp)];exact hs.sol
theorem PD(hs:HS n bud L S h){k:Nat}(hk:aa S.lv<=k)(hk2:k<=1000000000000){R:AEnd->H->(Nat->Bool)->Prop}(hr:R (.ret (.tup [])) h (λ_=>am)):ag TE 103 [.lp L.s 0,vi k] h R:=by
 have hsol:=hs.sol;have e:aM ((aa S.lv:Int)<=(k:Int))=ab:=by rw[zqb];omega
 refine ah Tryz.func103 rfl (by simp[nts]) (vm ?_);simp only[wq.1,seval,Tryz.results103,hsol,ay,e];exact hr
theorem vN(hs:HS n bud L S h)(hn:n<=20000){k b:Nat}(hk:k<aa S.lv)(eb:S.lv.getD k 0=b)(hb:b<=aa S.tr)(htr:aa S.tr<=20000)(hlv:aa S.lv<=20000)
 (hnd:(S.tr.map Int.natAbs).Nodup) (hlit:∀a∈S.tr,a.natAbs<=n) (hnx:aa S.nx<=2000000000000) {R:AEnd->H->(Nat->Bool)->Prop}
 (hr:∀nx h' p,nx.Perm (S.nx++(S.tr.drop b).map λa=>((a.natAbs:Int),(S.v a.natAbs).score))->HS n bud L (fV S k nx) h'->aa h<=aa h'->(∀q,p q=ab->q=L.x)->R (.ret (.tup [])) h' p) :
 ag TE 103 [.lp L.s 0,vi k] h R:=by
 have hM:=mLx;have hsol:=hs.sol;have hlvl:=hs.lvl;have e1:aM ((aa S.lv:Int)<=(k:Int))=am:=by rw[zqd];omega
 have eg:(iH S.lv).getD (k*1) .any=vi b:=by unfold iH;rw[Nat.mul_one,zqg,zqo,zqk hk,<-eb,zqg,zqk hk];rfl
 have el:aa (iH S.lv)=aa S.lv:=zra ..;refine vz ?_;refine ah Tryz.func103 rfl (by simp[nts]) (vm ?_);simp only[wq.1,seval,Tryz.results103,hsol,ay,e1,hlvl,eg,el];refine⟨⟨by omega,by omega⟩,by omega,⟨by omega,by omega⟩,?_⟩;obtain⟨tl,etl⟩:∃tl,tl=S.tr.drop b:=⟨_,rfl⟩;have hltl:aa tl=aa S.tr-b:=by rw[etl,List.length_drop]
 have hndt:(tl.map Int.natAbs).Nodup:=by rw[etl];exact(List.Nodup.sublist ((List.drop_sublist b S.tr).map _) hnd)
 refine aA (λm f' h'=>∃(i:Nat)(nx:List (Int×Int)),m+i=aa S.tr-b/\f'.t 0= .lp L.s 0/\f'.t 1=vi k/\f'.t 4=vi b/\f'.t 27= .ls L.t 1 b (aa S.tr-b) (aa S.tr-b)/\f'.t 28=vi (aa S.tr-b:Nat)/\f'.t 29=vi i/\f'.d=[]/\(∀q,f'.k q=ab->q=L.x) /\
  nx.Perm (S.nx++(tl.take i).map λa=>((a.natAbs:Int),(S.v a.natAbs).score))/\HS n bud L (ji S (tl.take i) nx) h'/\aa h<=aa h') (aa S.tr-b)
  ⟨0,S.nx,rfl,rfl,rfl,by simp only[wq.1,seval];try rfl,by simp only[wq.1,seval];try simp,by simp only[wq.1,seval];try simp,by simp only[wq.1,↓reduceIte];try rfl,by simp only[wq.1];try rfl,(λq hq=>absurd hq Bool.false_ne_true),by simp,by rw[List.take_zero,Tt];exact hs,zrb _⟩ ?_
 rintro m f h2 ⟨i,nx,hm,g0,g1,g4,g27,g28,g29,gd,gk,hp,hs2,hl2⟩;have hsol2:=hs2.sol;have htrl2:h2[L.t]? =ar (aw (S.tr.map vi)):=hs2.trl;have hpl:=hp.length_eq;rw[zqa,zra,zrl]at hpl;by_cases hi:i<aa S.tr-b
 ·have eb1:aM ((i:Int)<((aa S.tr-b:Nat):Int))=ab:=by rw[zqb];omega
  have hib:b+i<aa S.tr:=by omega
  obtain⟨a,ea⟩:∃a,a=S.tr[b+i]:=⟨_,rfl⟩;have hga:(S.tr.map vi).getD (b+i*1) .any=vi a:=by rw[ea];simp[zqg,hib]
  have ha:a.natAbs<=n:=hlit a (by rw[ea];exact zqu hib);have eta:tl[i]'(by omega)=a:=by simp only[etl,ea,List.getElem_drop]
  have etk:tl.take (i+1)=tl.take i++[a]:=by rw[zrg,zqk (by omega),eta];rfl
  have hnm:¬a.natAbs∈(tl.take i).map Int.natAbs:=by intro hm2;have h3:((tl.take (i+1)).map Int.natAbs).Nodup:=List.Nodup.sublist ((List.take_sublist _ _).map _) hndt;rw[etk,zql,List.nodup_append]at h3;exact h3.2.2 _ hm2 a.natAbs (by simp) rfl
  have ev:(ji S (tl.take i) nx).v a.natAbs=S.v a.natAbs:=if_neg hnm;have hvar:=hs2.var;have c0:=vc0 (L:=L) (S:=ji S (tl.take i) nx) ha;have c4:=vc4 (L:=L) (S:=ji S (tl.take i) nx) ha;rw[ev]at c0 c4;have dZ:=Md (L:=L) (S:=S) (nx:=nx) ha hnm;have hlv2:=hs2.rlt _ _ hs2.rv;have hsU:=hs2.undo (a:=a);have c4n:(eH L (ji S (tl.take i++[a]) nx) n).getD (a.natAbs*5+4) .any=vi (S.v a.natAbs).score:=by rw[vc4 ha];have:(ji S (tl.take i++[a]) nx).v a.natAbs={S.v a.natAbs with last:=(S.v a.natAbs).value,value:=0,reason:=aL}:=if_pos (by simp);rw[this]
  have hvs:L.v≠L.s:=bW L hs2.rv hs2.rs (by simp);have hpl2:aa nx<=2500000000000:=by omega
  refine vn ?_;simp only[wq.1,Nat.reduceLT,g28,g29];refine vn ?_;simp only[wq.1,↓reduceIte,eb1];refine ak (aB ?_);refine vn ?_;simp only[wq.1,seval,g27,g29,htrl2,hga];refine⟨by omega,by omega,?_⟩;refine vn ?_;simp only[wq.1,seval,g0];refine oO hs2 hn ha ?_;simp only[wq.1,seval];refine vn ?_;simp only[wq.1,seval,hvar,bY,c0,YH ha,VJ ha,VK ha,hlv2,zqt,List.set_set,zrn,dZ];refine⟨by omega,by omega,by omega,by omega,?_⟩;refine bK dV UK (λf' h'=>∃nx2,nx2.Perm (nx++[((a.natAbs:Int),(S.v a.natAbs).score)])/\HS n bud L (ji S (tl.take i++[a]) nx2) h'/\aa h2<=aa h'/\f'.t 0= .lp L.s 0/\f'.t 1=vi k/\f'.t 4=vi b/\f'.t 27= .ls L.t 1 b (aa S.tr-b) (aa S.tr-b)/\f'.t 28=vi (aa S.tr-b:Nat)/\f'.t 29=vi i/\f'.d=[]/\(∀q,f'.k q=ab->q=L.x)) (by decide +kernel) (by decide +kernel) ?_ ?_
  ·simp only[wq.1,seval,UK,g0,bY,c4n,UI hn ha,zqt,hlv2];have fin:∀nx2 h3 (p:Nat->Bool),nx2.Perm (nx++[((a.natAbs:Int),(S.v a.natAbs).score)])->HS n bud L (ji S (tl.take i++[a]) nx2) h3->aa h3=aa (h2.set L.v (aw (eH L (ji S (tl.take i++[a]) nx) n)))->(∀q,p q=ab->q=L.x)->p L.s=am/\p L.t=am:=λnx2 h3 p q1 q2 q3 q4=>by
    refine⟨?_,?_⟩
    ·cases e:p L.s with
     |false=>rfl
     |true=>exact absurd (q4 _ e) (bW L hs2.rs hs2.rx (by simp))
    ·cases e:p L.t with
     |false=>rfl
     |true=>exact absurd (q4 _ e) (bW L hs2.rt hs2.rx (by simp))
   refine⟨by decide,⟨by omega,by decide,vM hsU (by show aa nx<=_;omega) _ _ λnx2 h3 p q1 q2 q3 q4=> ?_⟩,⟨by omega,by decide,vM hsU (by show aa nx<=_;omega) _ _ λnx2 h3 p q1 q2 q3 q4=> ?_⟩⟩
   all_goals
    obtain⟨p1,p2⟩:=fin nx2 h3 p q1 q2 q3 q4;simp only[wq.1,seval,bC,p1,p2,g0,g1,g4,g27,g28,g29,gd];refine⟨nx2,q1,q2,by rw[q3,zrn];exact zrb _,λq hq=> ?_⟩;rcases zsi hq with hq|hq
    ·exact gk q hq
    ·exact q4 q hq
  ·rintro f2 h3 ⟨nx2,q1,q2,q3,e0,e1,e4,e27,e28,e29,ed,ek⟩;have hw2:a5 .i64 ((i:Int)+1)=((i+1:Nat):Int):=by rw[aV (by omega) (by omega)];omega
   simp only[wq.1];refine vm ?_;simp only[wq.1,seval,e29,hw2];refine .inl ⟨m-1,by omega,i+1,nx2,by omega,e0,e1,e4,e27,e28,rfl,ed,ek,q1.trans ?_,by rw[etk];exact q2,by omega⟩;rw[etk,zql,<-zqc];exact hp.append_right _
 ·have eb1:aM ((i:Int)<((aa S.tr-b:Nat):Int))=am:=by rw[zqd];omega
  have hit:tl.take i=tl:=zqh (by omega);rw[hit]at hp hs2;have hsol3:h2[L.s]? =ar (aw [.ls L.v 5 0 (n+1) (n+1),.lm L.m,.ls L.t 1 0 (aa S.tr) (aa S.tr),vi S.hd,.ls L.l 1 0 (aa S.lv) (aa S.lv),.ls L.x 2 0 (aa nx) (aa nx),.ls L.g 1 0 (aa S.ln) (aa S.ln),vi bud]):=hs2.sol;have hls:=hs2.rlt _ _ hs2.rs;refine vm ?_;simp only[wq.1,seval,g28,g29,eb1];refine bK dV UL (λf' h'=>f'.t 0= .lp L.s 0/\f'.t 4=vi b/\f'.d=[]/\(∀q,f'.k q=ab->q=L.x)/\h'=h2.set L.s (aw [.ls L.v 5 0 (n+1) (n+1),.lm L.m,.ls L.t 1 0 b (aa S.tr),vi S.hd,.ls L.l 1 0 k (aa S.lv),.ls L.x 2 0 (aa nx) (aa nx),.ls L.g 1 0 (aa S.ln) (aa S.ln),vi bud])) (by decide +kernel) (by decide +kernel) ?_ ?_
  ·simp only[wq.1,seval,UL,g0,g1,g4,gd,hsol3,hls,zqt,List.set_set];exact⟨⟨⟨by omega,by omega⟩,⟨by omega,by omega⟩,gk⟩,⟨by omega,by omega⟩,⟨by omega,by omega⟩,gk⟩
  ·rintro f2 h3 ⟨e0,e4,ed,ek,rfl⟩;simp only[wq.1,seval,e0,e4,ed,hls,zqt,List.set_set];have hlen0:aa h<=aa h2:=hl2;have htl:tl=S.tr.drop (S.lv.getD k 0):=by rw[etl,eb]
   have eS:fV S k nx={ji S tl nx with tr:=S.tr.take b,lv:=S.lv.take k,hd:=b}:=by unfold fV ji;rw[<-htl,eb]
   have k1:=hs2.toHR.setRow (id:=L.t) (cs:=(S.tr.take b).map vi) hs2.rt (S.tr.take b) S.lv nx (.inl ⟨rfl,rfl,rfl,rfl,rfl⟩);have k2:=k1.setRow (id:=L.l) (cs:=iH (S.lv.take k)) hs2.rl (S.tr.take b) (S.lv.take k) nx (.inr (.inl ⟨rfl,rfl,rfl,rfl,rfl⟩));have k3:=k2.setS (aw (ay n bud L (fV S k nx)));have hst:L.s≠L.t:=bW L hs2.rs hs2.rt (by simp);have hsl:L.s≠L.l:=bW L hs2.rs hs2.rl (by simp);have htl2:L.t≠L.l:=bW L hs2.rt hs2.rl (by simp);have hB:HS n bud L (fV S k nx) (((h2.set L.t (aw ((S.tr.take b).map vi))).set L.l (aw (iH (S.lv.take k)))).set L.s (aw (ay n bud L (fV S k nx)))):=by refine⟨?_,zqt (by simpa using hls)⟩;rw[eS]at k3 ⊢;exact⟨k3.var,k3.map,k3.trl,k3.lvl,k3.nxl,k3.lnl,k3.lnk,k3.cla,k3.wat,k3.fre,k3.fwt,k3.rs,k3.rv,k3.rm,k3.rt,k3.rl,k3.rx,k3.rg,k3.rlt,k3.ext⟩
   refine⟨_,?_,hr nx _ f2.k (by rw[<-etl];exact hp) hB (by simpa using hlen0) ek⟩;have hlk:aa (S.lv.take k)=k:=by rw[zrl];omega
   have hlb:aa (S.tr.take b)=b:=by rw[zrl];omega
   refine HLe.trans (HLe.set (i:=L.s) (zqt hls) (o':=aw (ay n bud L (fV S k nx))) (OLe.cells (zrb _) ?_)) ?_
   ·simp only[ay,fV,zrt,List.length_nil,List.take_succ_cons,List.take_nil,List.take_zero,eb,hlk,hlb];exact .cons (.refl _)<| .cons (.refl _)<| .cons (VLe.cap (by omega))<| .cons (.refl _)<| .cons (VLe.cap (by omega))<| .refl _
   ·rw[List.set_set,List.set_comm _ _ hsl.symm,List.set_comm _ _ hst.symm];have t1:(h2.set L.s (aw (ay n bud L (fV S k nx))))[L.t]? =ar (aw (S.tr.map vi)):=by rw[zqn hst];exact hs2.trl
    have t2:((h2.set L.s (aw (ay n bud L (fV S k nx)))).set L.t (aw ((S.tr.take b).map vi)))[L.l]? =ar (aw (iH S.lv)):=by rw[zqn htl2,zqn hsl];exact hs2.lvl
    refine HLe.trans (HLe.set t1 (o':=aw ((S.tr.take b).map vi)) ?_) (HLe.set t2 ?_)
    ·have:=OLe.take (S.tr.map vi) b
     rwa [<-List.map_take]at this
    ·have:=OLe.take (iH S.lv) k;unfold iH at this ⊢
     rwa [<-List.map_take]at this
end
def iP(S:St)(a:Int)(F:List Nat):St:={S with wt:=λb=>if b=a then F else S.wt b}
section
variable{n:Nat}{bud:Int}{L:Lay}{S:St}{h:H}{a:Int}{j:Nat}
theorem lT(S:St)(a:Int):iP S a (S.wt a)=S:=by
 have:(λb=>if b=a then S.wt a else S.wt b)=S.wt:=funext λb=>by
  by_cases he:b=a
  ·subst he;rw[if_pos rfl]
  ·rw[if_neg he]
 show {S with wt:=λb=>if b=a then S.wt a else S.wt b}=S;rw[this]
theorem nS(S:St)(a:Int)(F G:List Nat):iP (iP S a F) a G=iP S a G:=by
 have:(λb=>if b=a then G else if b=a then F else S.wt b)=λb=>if b=a then G else S.wt b:=funext λb=>by
  by_cases he:b=a
  ·simp only[he,if_true]
  ·simp only[he,if_false]
 show {S with wt:=λb=>if b=a then G else if b=a then F else S.wt b}={S with wt:=λb=>if b=a then G else S.wt b};rw[this]
theorem HR.wput(k:HR n L S h){id:Nat}(hw:L.w a=ar id){F:List Nat}(hF:∀q∈F,q<S.nc){h':H}(hh:∀i r,L.ro i=ar r->r≠ .w a->r≠ .m->h'[i]? =h[i]?)
 (hid:h'[id]? =ar (aw (F.map (clV L S))))
 (hm:∃ks:List Int,h'[L.m]? =ar (.map (ks.map vi) (ks.map λb=>if b=a then .ls id 1 0 (aa F) (aa F)else mwV L S b))/\ks.Nodup/\∀b,¬b∈ks->L.w b=aL/\S.wt b=[])
 (hl:aa h<=aa h'):HR n L (iP S a F) h' where
 var:=by rw[hh _ _ k.rv (by simp) (by simp)];exact k.var
 map:=by
  obtain⟨ks,h1,h2,h3⟩:=hm;refine⟨ks,?_,h2,λb hb=> ?_⟩
  ·rw[h1]
   congr 2
   refine zsd λb hb=> ?_;show _=Jp (L.w b) 1 (aa (if b=a then F else S.wt b));by_cases he:b=a
   ·subst he;rw[if_pos rfl,if_pos rfl,hw];rfl
   ·rw[if_neg he,if_neg he];rfl
  ·have he:b≠a:=λe=>by have:=(h3 b hb).1;rw[e,hw]at this;cases this
   show L.w b=aL/\(if b=a then F else S.wt b)=[];rw[if_neg he];exact h3 b hb
 trl:=by rw[hh _ _ k.rt (by simp) (by simp)];exact k.trl
 lvl:=by rw[hh _ _ k.rl (by simp) (by simp)];exact k.lvl
 nxl:=by rw[hh _ _ k.rx (by simp) (by simp)];exact k.nxl
 lnl:=by rw[hh _ _ k.rg (by simp) (by simp)];exact k.lnl
 lnk i hi:=by
  obtain⟨h1,h2⟩:=k.lnk i hi;exact⟨by rw[hh _ _ h2 (by simp) (by simp)];exact h1,h2⟩
 cla q hq:=by
  obtain⟨h1,h2⟩:=k.cla q hq;exact⟨by rw[hh _ _ h2 (by simp) (by simp)];exact h1,h2⟩
 wat b:=by
  have kw:=k.wat b;unfold iG at kw ⊢;by_cases he:b=a
  ·subst he;rw[hw]at kw ⊢;show h'[id]? =ar (aw ((if b=b then F else S.wt b).map (clV L S)))/\_;rw[if_pos rfl];exact⟨hid,kw.2⟩
  ·have e:(iP S a F).wt b=S.wt b:=if_neg he;rw[e];cases hwb:L.w b with
   |none=>rw[hwb]at kw;exact kw
   |some i=>rw[hwb]at kw;exact⟨by rw[hh _ _ kw.2 (by simpa using he) (by simp)];exact kw.1,kw.2⟩
 fre:=k.fre
 fwt b q hq:=by
  have hq:q∈(if b=a then F else S.wt b):=hq;split at hq
  ·exact hF q hq
  ·exact k.fwt b q hq
 rs:=k.rs
 rv:=k.rv
 rm:=k.rm
 rt:=k.rt
 rl:=k.rl
 rx:=k.rx
 rg:=k.rg
 rlt i r hr:=Nat.lt_of_lt_of_le (k.rlt i r hr) hl
 ext i o ho:=⟨by rw[hh _ _ ho (by simp) (by simp)];exact(k.ext i o ho).1,(k.ext i o ho).2⟩
theorem HS.wover(hs:HS n bud L S h){id:Nat}(hw:L.w a=ar id){F:List Nat}(hF:∀q∈F,q<S.nc)(hl:aa F=aa (S.wt a)):HS n bud L (iP S a F) (h.set id (aw (F.map (clV L S)))):=by
 have hrow:=hs.wat a;unfold iG at hrow;rw[hw]at hrow;refine⟨hs.toHR.wput hw hF (λi r hi h1 h2=>bu hrow.2 hi (Ne.symm h1)) (zqt (hs.rlt _ _ hrow.2)) ?_ (by simp),by rw[bu hrow.2 hs.rs (by simp)];exact hs.sol⟩;obtain⟨ks,h1,h2,h3⟩:=hs.mapv;refine⟨ks,?_,h2,h3⟩;rw[bu hrow.2 hs.rm (by simp),h1]
 congr 2
 refine zsd λb hb=> ?_;by_cases he:b=a
 ·subst he;rw[if_pos rfl,hl];unfold mwV;rw[hw];rfl
 ·rw[if_neg he]
theorem OLe.map{ks vs vs':List V}(hv:fD vs vs'):OLe (.map ks vs) (.map ks vs'):=by refine⟨λc b ho=> ?_,λh=>by rcases h with h|h<;>cases h⟩;obtain⟨es,clk,h1,h2,h3,h4⟩:=ho;exact⟨es,clk,h1,h2,hv _ _ h3,h4⟩
theorem rF{f g:Int->V}:∀(ks:List Int),(∀b,VLe (f b) (g b))->fD (ks.map f) (ks.map g)
 |[],_=>fD.nil
 |b::ks,h=>fD.cons (h b) (rF ks h)
theorem HS.wtrim(hs:HS n bud L S h){id:Nat}(hw:L.w a=ar id){k cap:Nat}(hk:k<=aa (S.wt a))(hc:k<=cap){ks2:List Int}
 (hn:ks2.Nodup) (h0:∀b,¬b∈ks2->L.w b=aL/\S.wt b=[]) :
 ∃h2,HLe (h.set L.m (.map (ks2.map vi) (ks2.map λb=>if b=a then .ls id 1 0 k cap else mwV L S b))) h2/\HS n bud L (iP S a ((S.wt a).take k)) h2/\aa h2=aa h:=by
 have hrow:=hs.wat a;unfold iG at hrow;rw[hw]at hrow;have hlm:=hs.rlt _ _ hs.rm;have hil:=hs.rlt _ _ hrow.2;have hmi:L.m≠id:=bW L hs.rm hrow.2 (by simp);have hF:aa ((S.wt a).take k)=k:=by rw[zrl];omega
 refine⟨(h.set L.m (.map (ks2.map vi) (ks2.map λb=>if b=a then .ls id 1 0 k k else mwV L S b))).set id (aw (((S.wt a).take k).map (clV L S))),?_,⟨hs.toHR.wput hw (λq hq=>hs.fwt a q (zsh hq)) (λi r hi h1 h2=> ?_) ?_ ⟨ks2,?_,hn,h0⟩ (by simp),?_⟩,by simp⟩
 ·refine HLe.trans (HLe.set (i:=L.m) (zqt hlm) (o':= .map (ks2.map vi) (ks2.map λb=>if b=a then .ls id 1 0 k k else mwV L S b)) (OLe.map (rF ks2 λb=> ?_))) ?_
  ·by_cases he:b=a
   ·rw[if_pos he,if_pos he];exact VLe.cap hc
   ·rw[if_neg he,if_neg he];exact VLe.refl _
  ·rw[List.set_set];refine HLe.set (o:=aw ((S.wt a).map (clV L S))) ?_ ?_
   ·rw[zqn hmi];exact hrow.1
   ·have:=OLe.take ((S.wt a).map (clV L S)) k
    rwa [<-List.map_take]at this
 ·rw[bu hrow.2 hi (Ne.symm h1),bu hs.rm hi (Ne.symm h2)]
 ·rw[zqt (by simpa using hil)]
 ·rw[bu hrow.2 hs.rm (by simp),zqt hlm,hF]
 ·rw[bu hrow.2 hs.rs (by simp),bu hs.rm hs.rs (by simp)];exact hs.sol
theorem HS.wopen(hs:HS n bud L S h)(hw:L.w a=aL){ks2:List Int}(hn:ks2.Nodup)(ha:a∈ks2)(h0:∀b,¬b∈ks2->L.w b=aL/\S.wt b=[]) :
 HS n bud (AP L a (aa h)) S (List.set (h++[aw []]) L.m (.map (ks2.map vi) (ks2.map λb=>if b=a then .ls (aa h) 1 0 0 0 else mwV L S b))):=by
 have hlm:=hs.rlt _ _ hs.rm;have k:=hs.toHR;have hwt:S.wt a=[]:=by have:=hs.wat a;unfold iG at this;rw[hw]at this;simpa using this
 have ne:∀ {i:Nat} {r:Ro},L.ro i=ar r->r≠ .m->∀o:O,(List.set (h++[aw []]) L.m o)[i]? =h[i]? :=λ{i r} hi hr o=>by rw[zqn (bW L hs.rm hi (Ne.symm hr)),zqj (hs.rlt _ _ hi)]
 have RO:∀ {i:Nat} {r:Ro},L.ro i=ar r->(AP L a (aa h)).ro i=ar r:=λ{i r} hi=>by show(if i=aa h then ar (Ro.w a)else L.ro i)=_;rw[if_neg (by have:=hs.rlt _ _ hi;omega)];exact hi
 refine⟨{var:=(ne k.rv (by simp) _).trans k.var,map:=⟨ks2,?_,hn,λb hb=> ?_⟩,trl:=(ne k.rt (by simp) _).trans k.trl,lvl:=(ne k.rl (by simp) _).trans k.lvl,nxl:=(ne k.rx (by simp) _).trans k.nxl,lnl:=(ne k.rg (by simp) _).trans k.lnl,lnk:=λi hi=>⟨(ne (k.lnk i hi).2 (by simp) _).trans (k.lnk i hi).1,RO (k.lnk i hi).2⟩,cla:=λq hq=>⟨(ne (k.cla q hq).2 (by simp) _).trans (k.cla q hq).1,RO (k.cla q hq).2⟩,wat:=λb=> ?_,fre:=k.fre,fwt:=k.fwt,rs:=RO k.rs,rv:=RO k.rv,rm:=RO k.rm,rt:=RO k.rt,rl:=RO k.rl,rx:=RO k.rx,rg:=RO k.rg,rlt:=λi r hr=> ?_,ext:=λi o ho=> ?_},by rw[show(AP L a (aa h)).s=L.s from rfl,ne hs.rs (by simp)];exact hs.sol⟩
 ·rw[show(AP L a (aa h)).m=L.m from rfl,zqt (by simp;omega)]
  congr 2
  refine zsd λb hb=> ?_;show _=Jp (if b=a then ar (aa h)else L.w b) 1 (aa (S.wt b));by_cases he:b=a
  ·subst he;rw[if_pos rfl,if_pos rfl,hwt];rfl
  ·rw[if_neg he,if_neg he];rfl
 ·have he:b≠a:=λe=>hb (e▸ha);refine⟨?_,(h0 b hb).2⟩;show(if b=a then ar (aa h)else L.w b)=aL;rw[if_neg he];exact(h0 b hb).1
 ·have kw:=k.wat b;unfold iG at kw ⊢;by_cases he:b=a
  ·subst he;rw[show(AP L b (aa h)).w b=ar (aa h)from if_pos rfl,hwt];refine⟨?_,if_pos rfl⟩;rw[zqn (by omega)];simp
  ·rw[show(AP L a (aa h)).w b=L.w b from if_neg he];cases hwb:L.w b with
   |none=>rw[hwb]at kw;exact kw
   |some i=>rw[hwb]at kw;exact⟨(ne kw.2 (by simp) _).trans kw.1,RO kw.2⟩
 ·have hr:(if i=aa h then ar (Ro.w a)else L.ro i)=ar r:=hr;rw[zrn,zqa,zrk];split at hr
  ·omega
  ·have:=hs.rlt _ _ hr;omega
 ·have ho:(if i=aa h then ar (Ro.w a)else L.ro i)=ar (.e o):=ho;split at ho
  ·cases ho
  ·exact⟨(ne ho (by simp) _).trans (k.ext i o ho).1,(k.ext i o ho).2.mono λi r hi=>RO hi⟩
theorem HR.wputD(k:HR n L S h){id:Nat}(hw:L.w a=ar id){F:List Nat}(hF:∀q∈F,q<S.nc){h':H}
 (get:∀i o,h[i]? =ar o->o.drop (λx=>x==id)=o->i≠id->i≠L.m->h'[i]? =ar o)
 (hid:h'[id]? =ar (aw (F.map (clV L S))))
 (hm:∃ks:List Int,h'[L.m]? =ar (.map (ks.map vi) (ks.map λb=>if b=a then .ls id 1 0 (aa F) (aa F)else mwV L S b))/\ks.Nodup/\∀b,¬b∈ks->L.w b=aL/\S.wt b=[])
 (hl:aa h<=aa h'):HR n L (iP S a F) h':=by
 have hr0:L.ro id=ar (.w a):=by have kw:=k.wat a;unfold iG at kw;rw[hw]at kw;exact kw.2
 have ne:∀ {i:Nat} {r:Ro},L.ro i=ar r->r≠ .w a->i≠id:=λhi hr=>bW L hi hr0 hr;have G:∀ {i:Nat} {r:Ro} {cs:List V},L.ro i=ar r->r≠ .w a->h[i]? =ar (aw cs)->(∀v∈cs,v.drop (λx=>x==id)=v)->h'[i]? =ar (aw cs) :=
  λhi hr hc hv=>get _ _ hc (by rw[aZ,eP hv]) (ne hi hr) (λe=>by have:=k.map;obtain⟨ks,h1,_⟩:=this;rw[<-e,hc]at h1;cases h1)
 have GI:∀ {i:Nat} {r:Ro} {c:Cl},L.ro i=ar r->r≠ .w a->h[i]? =ar (aw (c.map vi))->h'[i]? =ar (aw (c.map vi)) :=
  λhi hr hc=>G hi hr hc λv hv=>by
   obtain⟨a,_,rfl⟩:=zrh.1 hv;exact fA
 have pc:∀q,q<S.nc->((λx=>x==id) (L.c q))=am:=λq hq=>by simpa using ne (k.cla q hq).2 (by simp)
 have pk:∀q,q<aa S.ln->((λx=>x==id) (L.k q))=am:=λq hq=>by simpa using ne (k.lnk q hq).2 (by simp)
 refine {var:=G k.rv (by simp) k.var ?_,map:= ?_,trl:=GI k.rt (by simp) k.trl,lvl:=G k.rl (by simp) k.lvl ?_,nxl:=G k.rx (by simp) k.nxl ?_,lnl:=G k.rg (by simp) k.lnl ?_,lnk:=λi hi=>⟨GI (k.lnk i hi).2 (by simp) (k.lnk i hi).1,(k.lnk i hi).2⟩,cla:=λq hq=>⟨GI (k.cla q hq).2 (by simp) (k.cla q hq).1,(k.cla q hq).2⟩,wat:= ?_,fre:=k.fre,fwt:= ?_,rs:=k.rs,rv:=k.rv,rm:=k.rm,rt:=k.rt,rl:=k.rl,rx:=k.rx,rg:=k.rg,rlt:=λi r hr=>Nat.lt_of_lt_of_le (k.rlt i r hr) hl,ext:=λi o ho=>⟨get i o (k.ext i o ho).1 ((k.ext i o ho).2 _ λq r hq hpq=>by
  have e:q=id:=by simpa using hpq
  subst e;rw[hq]at hr0;cases hr0;exact .inr (.inr (.inr (.inr ⟨a,rfl⟩)))) (ne ho (by simp)) (bW L ho k.rm (by simp)),(k.ext i o ho).2⟩}
 ·intro v hv;unfold eH at hv;obtain⟨i,hi,hv⟩:=List.mem_flatMap.1 hv;have hi:i<=n:=by have:=List.mem_range.1 hi;omega
  simp only[iE,zrj,zrp,or_false]at hv;rcases hv with rfl|rfl|rfl|rfl|rfl<;>try exact fA
  show V.drop _ (reV L S (S.v i).reason)=reV L S (S.v i).reason;cases hr:(S.v i).reason with
  |none=>simp only[reV,V.drop]
  |some j=>exact bV (pc j (k.fre i hi j hr))
 ·obtain⟨ks,h1,h2,h3⟩:=hm;refine⟨ks,?_,h2,λb hb=> ?_⟩
  ·rw[h1]
   congr 2
   refine zsd λb hb=> ?_;show _=Jp (L.w b) 1 (aa (if b=a then F else S.wt b));by_cases he:b=a
   ·subst he;rw[if_pos rfl,if_pos rfl,hw];rfl
   ·rw[if_neg he,if_neg he];rfl
  ·have he:b≠a:=λe=>by have:=(h3 b hb).1;rw[e,hw]at this;cases this
   show L.w b=aL/\(if b=a then F else S.wt b)=[];rw[if_neg he];exact h3 b hb
 ·intro v hv;obtain⟨a,_,rfl⟩:=zrh.1 hv;exact fA
 ·intro v hv;obtain⟨t,_,hv⟩:=List.mem_flatMap.1 hv;simp only[zrj,zrp,or_false]at hv;rcases hv with rfl|rfl<;>exact fA
 ·intro v hv;obtain⟨i,hi,rfl⟩:=zrh.1 hv;exact bV (pk i (List.mem_range.1 hi))
 ·intro b;have kw:=k.wat b;unfold iG at kw ⊢;by_cases he:b=a
  ·subst he;rw[hw]at kw ⊢;show h'[id]? =ar (aw ((if b=b then F else S.wt b).map (clV L S)))/\_;rw[if_pos rfl];exact⟨hid,kw.2⟩
  ·have e:(iP S a F).wt b=S.wt b:=if_neg he;rw[e];cases hwb:L.w b with
   |none=>rw[hwb]at kw;exact kw
   |some i=>rw[hwb]at kw;refine⟨G kw.2 (by simpa using he) kw.1 λv hv=> ?_,kw.2⟩;obtain⟨q,hq,rfl⟩:=zrh.1 hv;exact bV (pc q (k.fwt b q hq))
 ·intro b q hq;have hq:q∈(if b=a then F else S.wt b):=hq;split at hq
  ·exact hF q hq
  ·exact k.fwt b q hq
theorem HS.wanew(hs:HS n bud L S h){id:Nat}(hw:L.w a=ar id){ks2:List Int}(hn:ks2.Nodup)(h0:∀b,¬b∈ks2->L.w b=aL/\S.wt b=[]) :
 (∀o:O,((List.map (O.drop λx=>x==id) h).set id o)[L.m]? =(h[L.m]?).map (O.drop λx=>x==id)) /\
 (∀o:O,((List.map (O.drop λx=>x==id) h).set id o)[L.s]? =ar (aw (ay n bud L S)))/\(L.m==id)=am/\(L.s==id)=am/\(∀j,j<S.nc->(L.c j==id)=am) /\
 aE (λx=>x==id) ((S.wt a).map (clV L S))=(S.wt a).map (clV L S) /\
 HS n bud L S (((List.map (O.drop λx=>x==id) h).set id (aw ((S.wt a).map (clV L S)))).set L.m (.map (ks2.map vi) (ks2.map λb=>if b=a then .ls id 1 0 (aa (S.wt a)) (aa (S.wt a))else(mwV L S b).drop λx=>x==id))):=by
 have hrow:=hs.wat a;unfold iG at hrow;rw[hw]at hrow;obtain⟨hr1,hr2⟩:=hrow;have hsol:=hs.sol;have hil:=hs.rlt _ _ hr2;have hlm:=hs.rlt _ _ hs.rm;have hms:L.m≠L.s:=bW L hs.rm hs.rs (by simp);have hmi:L.m≠id:=bW L hs.rm hr2 (by simp);have hsi:L.s≠id:=bW L hs.rs hr2 (by simp);have nb:∀ {i r},L.ro i=ar r->r≠ .w a->(i==id)=am:=λhi hr=>by simp[bW L hi hr2 hr]
 have b2:=nb hs.rm (by simp);have hsol2:∀v∈ay n bud L S,v.drop (λx=>x==id)=v:=λv hv=>by
  simp only[ay,zrj,zrp,or_false]at hv;rcases hv with rfl|rfl|rfl|rfl|rfl|rfl|rfl|rfl<;>first|exact fA|exact bV (nb hs.rv (by simp))|exact bV (nb hs.rt (by simp))|exact bV (nb hs.rl (by simp))|exact bV (nb hs.rx (by simp))|exact bV (nb hs.rg (by simp))|skip
  rw[V.drop,b2];rfl
 have q2:∀o:O,((List.map (O.drop λx=>x==id) h).set id o)[L.s]? =ar (aw (ay n bud L S)):=λo=>by rw[zqn hsi.symm];exact Px hsol hsol2
 refine⟨λo=>by rw[zqn hmi.symm,zqo],q2,b2,nb hs.rs (by simp),λj hj=>nb (hs.cla j hj).2 (by simp),eP λv hv=> ?_,?_,?_⟩
 ·obtain⟨q,hq,rfl⟩:=zrh.1 hv;exact bV (nb (hs.cla q (hs.fwt a q hq)).2 (by simp))
 ·have:=hs.toHR.wputD hw (F:=S.wt a) (hs.fwt a) (h':=((List.map (O.drop λx=>x==id) h).set id (aw ((S.wt a).map (clV L S)))).set L.m (.map (ks2.map vi) (ks2.map λb=>if b=a then .ls id 1 0 (aa (S.wt a)) (aa (S.wt a))else(mwV L S b).drop λx=>x==id))) ?_ ?_ ⟨ks2,?_,hn,h0⟩ (by simp)
  ·rwa [lT]at this
  ·intro i cs hi hv hne hqm;have hqm:=hqm.symm;rw[zqn hqm,zqn (Ne.symm hne)];exact Pv hi hv
  ·rw[zqn hmi,zqt (by simpa using hil)]
  ·rw[zqt (by simpa using hlm)]
   congr 2
   refine zsd λb hb=> ?_;by_cases he:b=a
   ·rw[if_pos he,if_pos he]
   ·rw[if_neg he,if_neg he];unfold mwV;have kw:=hs.wat b;unfold iG at kw;cases hwb:L.w b with
    |none=>simp only[Jp,V.drop]
    |some i=>rw[hwb]at kw;exact bV (nb kw.2 (by simpa using he))
 ·rw[zqn hms];exact q2 _
end
end Go.Proofs.YthdidjjecjhenaaGreat
