/- Lemmas for this claim, part F12: each holds under what it names. -/
import Derived.Test.YthdidjjecjhenaaGreatAF11
set_option linter.all false
set_option maxRecDepth 20000
set_option maxHeartbeats 8000000
namespace Go.Proofs.YthdidjjecjhenaaGreat
open Go Go.Proofs Go.Abs
open List renaming length → aa, replicate → aD
open Bool renaming true → ab, false → am
open Option renaming some → ar, none → aL
open Decidable renaming decide → aM
open Go.IntKind renaming wrap → a5
open Go.Result renaming andThen → a8
open Go.Abs.O renaming cells → aw
open Go.Abs.V renaming drops → aE, dat → a6, dats → a7
def aY(g:Gr):Gr :=
 let x:=uH g (dC g (λ_=>ab) (aa g.ands))
 uH x (dC x (λi=>(wu x).getD (x.first+(i:Int)).toNat am) (aa x.ands))
def Qe:Plan:=tkZ [0,1,2,5,6]<| .alt 3 (.alt 4 (onZ [7,8,9]<| .take 10<| .fin) (.one 7 (onZ [4,8,9]<| .take 10<| .fin))) (.one 7 (onZ [3,4,8,9]<| .take 10<| .fin))
def U2:Plan:=tkZ [0,1,2,3,5,6,7,10,11]<| .alt 4 (.alt 8 (.alt 9 (onZ [12,13,14,15,16]<| .take 17<| .take 18<| .one 19<| .fin) (.one 12 (onZ [9,13,14,15,16]<| .take 17<| .take 18<| .one 19<| .fin))) (.one 12 (onZ [8,9,13,14,15,16]<| .take 17<| .take 18<| .one 19<| .fin))) (.alt 8 (.alt 4 (.alt 9 (onZ [12,13,14,15,16]<| .take 17<| .take 18<| .one 19<| .fin) (.one 12 (onZ [9,13,14,15,16]<| .take 17<| .take 18<| .one 19<| .fin))) (.alt 9 (.alt 4 (onZ [12,13,14,15,16]<| .take 17<| .take 18<| .one 19<| .fin) (.one 12 (.alt 4 (onZ [13,14,15,16]<| .take 17<| .take 18<| .one 19<| .fin) (.one 13 (.alt 4 (onZ [14,15,16]<| .take 17<| .take 18<| .one 19<| .fin) (.one 14 (.alt 4 (.one 15<| .one 16<| .take 17<| .take 18<| .one 19<| .fin) (.one 15 (.one 4<| .one 16<| .take 17<| .take 18<| .one 19<| .fin))))))))) (.one 12 (.alt 4 (onZ [9,13,14,15,16]<| .take 17<| .take 18<| .one 19<| .fin) (.one 9 (.alt 4 (onZ [13,14,15,16]<| .take 17<| .take 18<| .one 19<| .fin) (.one 13 (.alt 4 (onZ [14,15,16]<| .take 17<| .take 18<| .one 19<| .fin) (.one 14 (.alt 4 (.one 15<| .one 16<| .take 17<| .take 18<| .one 19<| .fin) (.one 15 (.one 4<| .one 16<| .take 17<| .take 18<| .one 19<| .fin)))))))))))) (.one 12 (.alt 4 (onZ [8,9,13,14,15,16]<| .take 17<| .take 18<| .one 19<| .fin) (.one 8 (.alt 4 (onZ [9,13,14,15,16]<| .take 17<| .take 18<| .one 19<| .fin) (.one 9 (.alt 4 (onZ [13,14,15,16]<| .take 17<| .take 18<| .one 19<| .fin) (.one 13 (.alt 4 (onZ [14,15,16]<| .take 17<| .take 18<| .one 19<| .fin) (.one 14 (.alt 4 (.one 15<| .one 16<| .take 17<| .take 18<| .one 19<| .fin) (.one 15 (.one 4<| .one 16<| .take 17<| .take 18<| .one 19<| .fin)))))))))))))
abbrev hN(g:Gr)(A:List Pq)(C:Cl):H:=[aw [vi g.ins,az g.next,az g.init,prs g.ands,az g.outs],aw [vi 0,.nils,.nils,.nils,.nils],aw [vi g.ins,az g.next,az g.init,prs g.ands,az g.outs],aw (g.init.map vi),aw [vi g.ins,az g.next,.ls 3 1 0 (aa g.init) (aa g.init),.nils,.nils],.map (A.map prV) (Iy g.first (aa A)),bo g.ins g.next 3 (aa g.init) 7 (aa A) .nils 5 8 (aa C),aw (fl A),aw (C.map vi)]
def InN(g:Gr)(s:List Pq×Cl)(h:H):Prop:=∃X,h=hN g s.1 s.2++X
theorem mG{p:Nat->Bool}:∀ {A:List Pq},aE p (fl A)=fl A
 |[]=>rfl
 |a::A=>by show aE p (vi a.1::vi a.2::fl A)=_;simp only[aE,V.drop,mG (A:=A)];rfl
theorem kE{p:Nat->Bool}:∀ {A:List Pq},aE p (A.map prV)=A.map prV
 |[]=>rfl
 |a::A=>by rw[zrd,aE,kE (A:=A)];rfl
variable{n:Nat}
theorem kZ{p:Nat->Bool}{f:Int}:aE p (Iy f n)=Iy f n:=by
 unfold Iy;generalize List.range n=l
 induction l with
 |nil=>rfl
 |cons a l ih=>rw[zrd,aE,ih];rfl
variable{g:Gr}{A:List Pq}{C:Cl}
theorem zM:kJ (hN g A C):=λp hp=>by have h3:=hp 3 (show 3<9 by decide);have h5:=hp 5 (show 5<9 by decide);have h7:=hp 7 (show 7<9 by decide);have h8:=hp 8 (show 8<9 by decide);have d1:aE p (g.init.map vi)=g.init.map vi:=aN _;have d2:aE p (C.map vi)=C.map vi:=aN _;simp only[wq.1,↓reduceIte,hN,bo,O.drop,aE,V.drop,h3,h5,h7,h8,d1,d2,mG,kE,kZ]
theorem X5{x y:Int}:∀(j:Nat)(o:O),(hN g A C++[aw [vi x,vi y]])[j]? =ar o->j≠6->o.drop (·==7)=o:=by
 intro j o ho hne;have d1:aE (·==7) (g.init.map vi)=g.init.map vi:=aN _;have d2:aE (·==7) (C.map vi)=C.map vi:=aN _;rcases j with _|_|_|_|_|_|_|_|_|_|j
 all_goals first
  |exact absurd rfl hne
  |(obtain rfl:=Option.some.inj ho;simp only[wq.1,seval,O.drop,aE,V.drop,d1,d2,mG,kE,kZ])
  |(simp at ho)
abbrev hQ(g x:Gr)(L:List Bool)(A:List Pq)(C:Cl):H:=[aw [vi g.ins,az g.next,az g.init,prs g.ands,az g.outs],aw [vi 0,.nils,.nils,.nils,.nils],.dead,.dead,.dead,.dead,.dead,.dead,.dead,.dead,.dead,.dead,.dead,aw [vi x.ins,az x.next,az x.init,prs x.ands,az x.outs],aw (L.map V.bool),aw [vi x.ins,az x.next,az x.init,prs x.ands,az x.outs],aw (x.init.map vi),aw [vi x.ins,az x.next,.ls 16 1 0 (aa x.init) (aa x.init),.nils,.nils],.map (A.map prV) (Iy x.first (aa A)),bo x.ins x.next 16 (aa x.init) 20 (aa A) .nils 18 21 (aa C),aw (fl A),aw (C.map vi)]
def InM(g x:Gr)(L:List Bool)(s:List Pq×Cl)(h:H):Prop:=∃X,h=hQ g x L s.1 s.2++X
theorem uI{p:Nat->Bool}:∀ {L:List Bool},aE p (L.map V.bool)=L.map V.bool
 |[]=>rfl
 |a::A=>by rw[zrd,aE,uI (L:=A)];rfl
variable{x:Gr}{L:List Bool}
theorem zN:kJ (hQ g x L A C):=λp hp=>by have h3:=hp 16 (show 16<22 by decide);have h5:=hp 18 (show 18<22 by decide);have h7:=hp 20 (show 20<22 by decide);have h8:=hp 21 (show 21<22 by decide);have d1:aE p (x.init.map vi)=x.init.map vi:=aN _;have d2:aE p (C.map vi)=C.map vi:=aN _;simp only[wq.1,↓reduceIte,hQ,bo,O.drop,aE,V.drop,h3,h5,h7,h8,d1,d2,mG,kE,kZ,uI]
theorem X6{u v:Int}:∀(j:Nat)(o:O),(hQ g x L A C++[aw [vi u,vi v]])[j]? =ar o->j≠19->o.drop (·==20)=o:=by
 intro j o ho hne;have d1:aE (·==20) (x.init.map vi)=x.init.map vi:=aN _;have d2:aE (·==20) (C.map vi)=C.map vi:=aN _;rcases j with _|_|_|_|_|_|_|_|_|_|_|_|_|_|_|_|_|_|_|_|_|_|_|j
 all_goals first
  |exact absurd rfl hne
  |(obtain rfl:=Option.some.inj ho;simp only[wq.1,seval,O.drop,aE,V.drop,d1,d2,mG,kE,kZ,uI])
  |(simp at ho)
theorem F7(hg:g.chk=0):Ev TE 26 [g.v] (.tup [(aY g).v,vi 0]):=by
 have hM:=mLx;obtain⟨_,i0,i1,i2,i3,i4,i5⟩:=aU hg;obtain⟨r1,r2,r3,r4⟩:=aJ i4;have wf:g.first=1+g.ins+aa g.next:=rfl
 have hck:=kY g ⟨by omega,by omega⟩;rw[hg]at hck;obtain⟨y,hy⟩:∃y,y=aY g:=⟨_,rfl⟩;rw[<-hy];unfold Gr.v at hck;rw[show g.v= .agg [vi g.ins,az g.next,az g.init,prs g.ands,az g.outs]from rfl];refine aC Tryz.func26 rfl (by simp[nts]) ?_;refine vn ?_;simp only[wq.1,Nat.reduceLT,Tryz.results26];refine vn ?_;simp only[wq.1,seval];refine ag.ev hck (by simp only[a7,a6,zre]) ?_;simp only[wq.1,seval];refine vn ?_;simp only[wq.1,seval];refine zL (h:=[aw [vi g.ins,az g.next,az g.init,prs g.ands,az g.outs],aw [vi 0,.nils,.nils,.nils,.nils]]) (λp hp=>by simp only[wq.1,O.drop,aE,V.drop]) hg ?_;simp only[wq.1,seval];obtain⟨s1,hs1⟩:∃s1,s1=dC g (λ_=>ab) (aa g.ands):=⟨_,rfl⟩;refine ak (dh (Q:=λxe f h=>xe= .normal/\f.t 1= .lp 0 0/\f.t 2= .lp 1 0/\f.t 5= .lp 6 0/\f.d=[]/\InN g s1 h) ?_ ?_)
 ·rintro xe f h ⟨rfl,t1,t2,t5,hd,X,rfl⟩;show awp _ _ _ _ _ _ _;obtain⟨q1,q2,q3⟩:=jJ (g:=g) i0 (λ_=>ab) (aa g.ands);have hxc:=xQ hg (λ_=>ab);rw[<-hs1]at q1 q2 q3 hxc;have hym:y=uH (uH g s1) (dC (uH g s1) (λi=>(wu (uH g s1)).getD ((uH g s1).first+(i:Int)).toNat am) (uH g s1).ands.length):=by rw[hy,hs1];rfl
  clear hs1 hy;obtain⟨A,C⟩:=s1;dsimp only at q1 q2 q3 ⊢;refine fU (by rw[hd];simp) ?_;rw[zM.from_];obtain⟨f',hf'⟩:∃f',f'=f.drop (Abs.aQ (aa (hN g A C))):=⟨_,rfl⟩;have u1:f'.t 1= .lp 0 0:=by rw[hf'];show(f.t 1).drop _=_;rw[t1];rfl
  have u2:f'.t 2= .lp 1 0:=by rw[hf'];show(f.t 2).drop _=_;rw[t2];rfl
  have u5:f'.t 5= .lp 6 0:=by rw[hf'];show(f.t 5).drop _=_;rw[t5];rfl
  have ud:f'.d=[]:=by rw[hf'];exact hd
  rw[<-hf'];clear hf' t1 t2 t5 hd;have hCb:∀x∈C,0<=x/\x<=1000000:=λx hx=>by have:=q3 x hx;omega
  have wa:g.all=2*(g.first+aa g.ands):=rfl;have hcl:=zM (g:=g) (A:=A) (C:=C);refine vn ?_;simp only[wq.1,seval,u1,u5];refine BG (x:=g) (b:=6) (c:=8) (J:=3) (a:=7) (m:=5) (n1:=g.ins) (nx:=g.next) (outs:= .nils) (k:=aa g.init) (la:=aa A) (C:=C) hcl (by omega) (by omega) (λa ha=>by have:=r3 a ha;omega) (λa ha=>by have:=r4 a ha;omega) hCb (by rfl) (by rfl) (λX Y=> ?_);simp only[wq.1,seval];obtain⟨x,hx⟩:∃x,x=uH g (A,C):=⟨_,rfl⟩;rw[<-hx]at hxc hym;obtain⟨p,hp⟩:∃p:Nat->Bool,p=λi=>aM (2<=i)&&aM (i<=12):=⟨_,rfl⟩;refine EJ p [aw [vi g.ins,az g.next,az g.init,prs g.ands,az g.outs],aw [vi 0,.nils,.nils,.nils,.nils],.dead,.dead,.dead,.dead,.dead,.dead,.dead,.dead,.dead,.dead,.dead,aw [vi x.ins,az x.next,az x.init,prs x.ands,az x.outs]] ?_ ?_ (λi hi=>by simp[ED,ud]at hi) ?_
  ·intro i hi;rcases i with _|_|i
   ·exact .inl (by rw[hp];rfl)
   ·exact .inl (by rw[hp];rfl)
   ·by_cases h11:i=11
    ·subst h11;refine .inr ⟨_,_,rfl,rfl,?_⟩;rw[hx];refine⟨.inl rfl,.inr ⟨?_,dG ?_ ?_⟩,.inr ⟨?_,dG ?_ ?_⟩,.inr ⟨?_,mF ?_ ?_⟩,.inr ⟨?_,dG ?_ ?_⟩,trivial⟩
     ·rw[hp];rfl
     ·rw[hp];show ar (aw (aE _ _))=_;rw[aN];rfl
     ·simp[uH]
     ·rw[hp];rfl
     ·rw[hp];show ar (aw (aE _ _))=_;rw[aN];rfl
     ·rfl
     ·rw[hp];rfl
     ·rw[hp];show ar (aw (aE _ _))=_;rw[mG];rfl
     ·rfl
     ·rw[hp];rfl
     ·rw[hp];show ar (aw (aE _ _))=_;rw[aN];rfl
     ·simp[uH]
    ·by_cases hb:i<11
     ·rw[hp]at hi;simp only[Bool.and_eq_false_iff,zqd]at hi;omega
     ·obtain⟨j,rfl⟩:∃j,i=12+j:=⟨i-12,by omega⟩;exact .inl (by rw[zsj (by simp),zsj (by simp)];rfl)
  ·intro i o hi ho;rw[hp]at hi;simp only[zqf,zqb]at hi;rcases i with _|_|_|_|_|_|_|_|_|_|_|_|_|i
   all_goals first
    |omega
    |exact(Option.some.inj ho).symm
  ·refine iL (λf'=>f'.t 1= .lp 0 0/\f'.t 2= .lp 1 0/\f'.t 8= .lp 13 0/\f'.d=[]) [aw [vi g.ins,az g.next,az g.init,prs g.ands,az g.outs],aw [vi 0,.nils,.nils,.nils,.nils],.dead,.dead,.dead,.dead,.dead,.dead,.dead,.dead,.dead,.dead,.dead,aw [vi x.ins,az x.next,az x.init,prs x.ands,az x.outs]] (λhk=>hk _ ⟨?_,?_,?_,?_⟩) ?_
   ·simp only[wq.1,seval,u1,hp]
   ·simp only[wq.1,seval,u2,hp]
   ·simp only[wq.1,seval,hp]
   ·simp only[wq.1,ud]
   ·clear hcl hCb q1 q2 q3 u1 u2 u5 ud hx hp;clear p f' X Y f;rintro f ⟨t1,t2,t8,hd⟩;have hld:=Wl hxc;obtain⟨_,j0,j1,j2,j3,j4,j5⟩:=aU hxc;obtain⟨v1,v2,v3,v4⟩:=aJ j4;have xf:x.first=1+x.ins+aa x.next:=rfl
    obtain⟨L,hL⟩:∃L,L=wu x:=⟨_,rfl⟩;have hLl:aa L=x.vars:=by rw[hL];exact TU
    obtain⟨n,hn⟩:∃n,n=x.vars:=⟨_,rfl⟩;have hnv:(n:Int)=x.first+aa x.ands:=by rw[hn];unfold Gr.vars;omega
    rw[<-hL]at hld hym;rw[<-hn]at hld hLl;unfold Gr.v at hld;have dbl:a7 (L.map V.bool)=ab:=lK _;have dbo:∀p,aE p (L.map V.bool)=L.map V.bool:=λp=>uI;refine vn ?_;simp only[wq.1,seval,t8];refine jM hld (by simp only[a7,a6,zre]) dbl ?_;simp only[wq.1,seval];refine vn ?_;simp only[wq.1,seval,t8];refine zL (h:=[aw [vi g.ins,az g.next,az g.init,prs g.ands,az g.outs],aw [vi 0,.nils,.nils,.nils,.nils],.dead,.dead,.dead,.dead,.dead,.dead,.dead,.dead,.dead,.dead,.dead,aw [vi x.ins,az x.next,az x.init,prs x.ands,az x.outs],aw (L.map V.bool)]) (λp hp=>by simp only[wq.1,O.drop,aE,V.drop,dbo]) hxc ?_;simp only[wq.1,seval];obtain⟨use,hu⟩:∃use,use=λi:Nat=>L.getD (x.first+(i:Int)).toNat am:=⟨_,rfl⟩;rw[<-hu]at hym;obtain⟨s1,hs1⟩:∃s1,s1=dC x use (aa x.ands):=⟨_,rfl⟩;rw[<-hs1]at hym;refine ak (dh (Q:=λxe f h=>xe= .normal/\f.t 2= .lp 1 0/\f.t 8= .lp 13 0/\f.t 10= .lp 19 0/\f.d=[]/\InM g x L s1 h) ?_ ?_)
    ·rintro xe f h ⟨rfl,t2,t8,t10,hd,X,rfl⟩;show awp _ _ _ _ _ _ _;obtain⟨q1,q2,q3⟩:=jJ (g:=x) j0 use (aa x.ands);rw[<-hs1]at q1 q2 q3;clear hs1;obtain⟨A,C⟩:=s1;dsimp only at q1 q2 q3 ⊢;refine fU (by rw[hd];simp) ?_;rw[zN.from_];obtain⟨f',hf'⟩:∃f',f'=f.drop (Abs.aQ (aa (hQ g x L A C))):=⟨_,rfl⟩;have u2:f'.t 2= .lp 1 0:=by rw[hf'];show(f.t 2).drop _=_;rw[t2];rfl
     have u8:f'.t 8= .lp 13 0:=by rw[hf'];show(f.t 8).drop _=_;rw[t8];rfl
     have u10:f'.t 10= .lp 19 0:=by rw[hf'];show(f.t 10).drop _=_;rw[t10];rfl
     have ud:f'.d=[]:=by rw[hf'];exact hd
     rw[<-hf'];clear hf' t2 t8 t10 hd;have hCb:∀x∈C,0<=x/\x<=1000000:=λx hx=>by have:=q3 x hx;omega
     have wa:x.all=2*(x.first+aa x.ands):=rfl;have hcl:=zN (g:=g) (x:=x) (L:=L) (A:=A) (C:=C);refine vn ?_;simp only[wq.1,seval,u8,u10];refine BG (x:=x) (b:=19) (c:=21) (J:=16) (a:=20) (m:=18) (n1:=x.ins) (nx:=x.next) (outs:= .nils) (k:=aa x.init) (la:=aa A) (C:=C) hcl (by omega) (by omega) (λa ha=>by have:=v3 a ha;omega) (λa ha=>by have:=v4 a ha;omega) hCb (by rfl) (by rfl) (λX Y=> ?_);simp only[wq.1,seval,u2];refine vm ?_;simp only[wq.1,seval,u2,ud];rw[hym];show aH TE _ _ (V.tup [.agg [vi x.ins,az (x.next.map (fB C)),az x.init,prs A,az (x.outs.map (fB C))],vi 0]);exact aH.tup (aj.cons (aH.agg (aj.cons (aH.dat rfl) (aj.cons (dG rfl (by simp)) (aj.cons (dG rfl rfl) (aj.cons (mF rfl rfl) (aj.cons (dG rfl (by simp)) aj.nil)))))) (aj.dat rfl))
    ·refine vn ?_;simp only[wq.1,seval,t8];refine aB ?_;refine aA (λm f h=>∃i,m+i=aa x.ands/\f.t 2= .lp 1 0/\f.t 8= .lp 13 0/\f.t 9= .ls 14 1 0 n n/\f.t 10= .lp 19 0/\f.t 57=prs x.ands/\f.t 58=vi (aa x.ands)/\f.t 59=vi i/\f.d=[]/\InM g x L (dC x use i) h) (aa x.ands) ⟨0,by omega,t2,t8,rfl,rfl,rfl,rfl,rfl,hd,[],?_⟩ ?_
     ·rw[zqp];show _=hQ g x L [] (qw x.first.toNat);unfold hQ bo;rw[zK];rfl
     ·rintro m f h ⟨i,hm,t2,t8,t9,t10,t57,t58,t59,hd,X,rfl⟩;obtain⟨q1,q2,q3⟩:=jJ (g:=x) j0 use i;obtain⟨A,C,hAC⟩:∃A C,dC x use i=(A,C):=⟨_,_,rfl⟩;have hst:dC x use (i+1)=lZ x.first (use i) (dC x use i) (x.ands.getD i (0,0)):=rfl
      rw[hAC]at q1 q2 q3 hst ⊢;dsimp only at q1 q2 q3 ⊢;refine fU (by rw[hd];simp) ?_;rw[zN.from_];obtain⟨f',hf'⟩:∃f',f'=f.drop (Abs.aQ (aa (hQ g x L A C))):=⟨_,rfl⟩;have u2:f'.t 2= .lp 1 0:=by rw[hf'];show(f.t 2).drop _=_;rw[t2];rfl
      have u8:f'.t 8= .lp 13 0:=by rw[hf'];show(f.t 8).drop _=_;rw[t8];rfl
      have u9:f'.t 9= .ls 14 1 0 n n:=by rw[hf'];show(f.t 9).drop _=_;rw[t9];rfl
      have u10:f'.t 10= .lp 19 0:=by rw[hf'];show(f.t 10).drop _=_;rw[t10];rfl
      have u57:f'.t 57=prs x.ands:=by rw[hf'];show(f.t 57).drop _=_;rw[t57];rfl
      have u58:f'.t 58=vi (aa x.ands):=by rw[hf'];show(f.t 58).drop _=_;rw[t58];rfl
      have u59:f'.t 59=vi i:=by rw[hf'];show(f.t 59).drop _=_;rw[t59];rfl
      have ud:f'.d=[]:=by rw[hf'];exact hd
      rw[<-hf'];clear hf' t2 t8 t9 t10 t57 t58 t59 hd;refine vn ?_;simp only[wq.1,Nat.reduceLT,u58,u59];refine ak (aX (b:=aM ((i:Int)<aa x.ands)) (by simp only[wq.1,↓reduceIte]) (by simp only[wq.1,↓reduceIte]) (λhlt=> ?_) (λhlt=> ?_))
      ·simp only[zqb,zqi]at hlt;refine vm ?_;simp only[wq.1];have hgp:=Qc hlt V.any;have hfst:=jY x (by omega) (by omega) (by omega);have wn:a5 .i64 (x.first+(i:Int))=x.first+i:=aV (by omega) (by omega)
       have hvn:(x.first+(i:Int)).toNat<aa L:=by rw[hLl];omega
       have hgd:(L.map V.bool).getD ((x.first+(i:Int)).toNat*1) V.any=V.bool (use i):=by rw[hu,Nat.mul_one,zqg,zqo,zqk hvn];show V.bool _=V.bool (L.getD _ am);rw[aP hvn]
       have x1:0<=x.first+(i:Int):=by omega
       have x2:x.first+(i:Int)<n:=by omega
       have x3:(x.first+(i:Int)).toNat*1+1<=aa L:=by omega
       obtain⟨o1,o2,o3,o4⟩:=iq j5 hlt;have hCb:∀x∈C,0<=x/\x<=1000000:=λx hx=>by have:=q3 x hx;omega
       have hAi:aa A<=i:=q1;unfold Gr.v at hfst;refine ak (aB ?_);refine vn ?_;simp only[wq.1,seval,u57,u59,hgp];refine⟨⟨by omega,by omega⟩,?_⟩;refine vn ?_;simp only[wq.1,Nat.reduceLT];refine ak ?_;refine vn ?_;simp only[wq.1,seval,u8,u9];refine ag.ev hfst (by simp only[a7,a6,zre]) ?_;simp only[wq.1,↓reduceIte,Nat.reduceEqDiff,Nat.reduceLT,wn,x1,x2,x3,hgd];obtain⟨w1,hw1⟩:∃w1,w1=fB C x.ands[i].1:=⟨_,rfl⟩;obtain⟨w2,hw2⟩:∃w2,w2=fB C x.ands[i].2:=⟨_,rfl⟩;have b1:=jI (a:=x.ands[i].1) (k:=x.first+aa A) (by omega) q3;have b2:=jI (a:=x.ands[i].2) (k:=x.first+aa A) (by omega) q3;rw[<-hw1]at b1;rw[<-hw2]at b2;obtain⟨r,hr⟩:∃r,r=if use i then jD x.first A w1 w2 else(A,0):=⟨_,rfl⟩
       have hst2:dC x use (i+1)=(r.1,C++[r.2]):=by
        rw[hst,aP hlt,hr];unfold lZ;cases use i with
        |true=>rw[if_pos rfl,if_pos rfl,hw1,hw2]
        |false=>rw[if_neg (by decide),if_neg (by decide)]
       refine dh (Q:=λxe f h=>xe= .normal/\f.t 2= .lp 1 0/\f.t 8= .lp 13 0/\f.t 9= .ls 14 1 0 n n/\f.t 10= .lp 19 0/\f.t 57=prs x.ands/\f.t 58=vi (aa x.ands)/\f.t 59=vi i/\f.t 13=vi r.2/\f.d=[]/\∃X,h=hQ g x L r.1 C++X) ?_ ?_
       ·rintro xe f h ⟨rfl,t2,t8,t9,t10,t57,t58,t59,t13,hd,X,rfl⟩;have hw:=ax (show i<maxLen by omega);have d1:aE (λx=>x==21) (x.init.map vi)=x.init.map vi:=aN _;have d2:aE (λx=>x==21) (C.map vi)=C.map vi:=aN _;show awp _ _ _ _ _ _ _;refine vm ?_;simp only[wq.1,↓reduceIte,Nat.reduceEqDiff,Nat.reduceLT,Nat.reduceAdd,Nat.reduceBEq,reduceCtorEq,Nat.reduceMul,t10,t13,hd,bo,mG,kE,kZ,uI,d1,d2];refine⟨⟨rfl,by decide⟩,⟨by omega,by omega,by omega⟩,?_⟩;refine vm ?_;simp only[wq.1,seval,t59,hw];refine .inl ⟨m-1,by omega,i+1,by omega,by simp only[wq.1,seval,t2],by simp only[wq.1,seval,t8],by simp only[wq.1,seval,t9],by simp only[wq.1,seval,t10],by simp only[wq.1,seval,t57],by simp only[wq.1,seval,t58],rfl,hd,List.map (O.drop λx=>x==21) X,?_⟩;rw[hst2];show _=hQ g x L r.1 (C++[r.2])++_;unfold hQ bo;rw[zqa,zql];rfl
       ·refine aX (b:=use i) (by simp only[wq.1,↓reduceIte]) (by simp only[wq.1,↓reduceIte]) (λhb=> ?_) (λhb=> ?_)
        ·rw[hb,if_pos rfl]at hr;refine bK dV Qe (λf h=>f.t 2= .lp 1 0/\f.t 8= .lp 13 0/\f.t 9= .ls 14 1 0 n n/\f.t 10= .lp 19 0/\f.t 57=prs x.ands/\f.t 58=vi (aa x.ands)/\f.t 59=vi i/\f.t 13=vi r.2/\f.d=[]/\∃X,h=hQ g x L r.1 C++X) (by decide +kernel) (by decide +kernel) ?_ (λf h hr=>⟨rfl,hr⟩);simp only[wq.1,seval,Qe,u10,bo]
         repeat' apply zsa
         all_goals first
          |decide
          |skip
         all_goals
          refine nV (c:=21) o1 (by omega) (by omega) hCb (by rfl) (by rfl) ?_;simp only[wq.1,seval,<-hw1]
          repeat' apply zsa
         all_goals first
          |decide
          |skip
         all_goals
          refine nV (c:=21) o2 (by omega) (by omega) hCb (by rfl) (by rfl) ?_;simp only[wq.1,seval,<-hw2]
          repeat' apply zsa
         all_goals
          refine F5 (b:=19) (a:=20) (J:=16) (m:=18) (c:=21) (lc:=aa C) (ini:=x.init) (nx:=x.next) (n1:=x.ins) (f0:=x.first) (A:=A) xf j0 (by omega) (by omega) (by omega) (by omega) b1.1 (by omega) b2.1 (by omega) (by rfl) (by rfl) (by rfl) (by rfl) X6 (by decide) (by decide) (by decide) (λX=> ?_);rw[<-hr];simp only[wq.1,seval,bC,u2,u8,u9,u10,u57,u58,u59,ud];exact⟨_,rfl⟩
        ·rw[hb,if_neg (by decide)]at hr;subst hr;refine vm ?_;simp only[wq.1,seval,u2,u8,u9,u10,u57,u58,u59,ud];exact⟨_,rfl⟩
      ·simp only[zqd,zqi]at hlt;have hi:i=aa x.ands:=by omega
       subst hi;refine vm ?_;simp only[wq.1,seval,u2,u8,u10,ud];rw[hs1,hAC];exact⟨[],(zqp _).symm⟩
 ·refine vn ?_;simp only[wq.1,seval];refine aB ?_;refine aA (λm f h=>∃i,m+i=aa g.ands/\f.t 1= .lp 0 0/\f.t 2= .lp 1 0/\f.t 5= .lp 6 0/\f.t 23=prs g.ands/\f.t 24=vi (aa g.ands)/\f.t 25=vi i/\f.d=[]/\InN g (dC g (λ_=>ab) i) h) (aa g.ands) ⟨0,by omega,rfl,rfl,rfl,rfl,rfl,rfl,rfl,[],?_⟩ ?_
  ·rw[zqp];show _=hN g [] (qw g.first.toNat);unfold hN bo;rw[zK];rfl
  ·rintro m f h ⟨i,hm,t1,t2,t5,t23,t24,t25,hd,X,rfl⟩;obtain⟨q1,q2,q3⟩:=jJ (g:=g) i0 (λ_=>ab) i;obtain⟨A,C,hAC⟩:∃A C,dC g (λ_=>ab) i=(A,C):=⟨_,_,rfl⟩;have hst:dC g (λ_=>ab) (i+1)=lZ g.first ab (dC g (λ_=>ab) i) (g.ands.getD i (0,0)):=rfl
   rw[hAC]at q1 q2 q3 hst ⊢;dsimp only at q1 q2 q3 ⊢;refine fU (by rw[hd];simp) ?_;rw[zM.from_];obtain⟨f',hf'⟩:∃f',f'=f.drop (Abs.aQ (aa (hN g A C))):=⟨_,rfl⟩;have u1:f'.t 1= .lp 0 0:=by rw[hf'];show(f.t 1).drop _=_;rw[t1];rfl
   have u2:f'.t 2= .lp 1 0:=by rw[hf'];show(f.t 2).drop _=_;rw[t2];rfl
   have u5:f'.t 5= .lp 6 0:=by rw[hf'];show(f.t 5).drop _=_;rw[t5];rfl
   have u23:f'.t 23=prs g.ands:=by rw[hf'];show(f.t 23).drop _=_;rw[t23];rfl
   have u24:f'.t 24=vi (aa g.ands):=by rw[hf'];show(f.t 24).drop _=_;rw[t24];rfl
   have u25:f'.t 25=vi i:=by rw[hf'];show(f.t 25).drop _=_;rw[t25];rfl
   have ud:f'.d=[]:=by rw[hf'];exact hd
   rw[<-hf'];clear hf' t1 t2 t5 t23 t24 t25 hd;refine vn ?_;simp only[wq.1,Nat.reduceLT,u24,u25];refine ak (aX (b:=aM ((i:Int)<aa g.ands)) (by simp only[wq.1,↓reduceIte]) (by simp only[wq.1,↓reduceIte]) (λhlt=> ?_) (λhlt=> ?_))
   ·simp only[zqb,zqi]at hlt;refine vm ?_;simp only[wq.1];have hgp:=Qc hlt V.any;refine ak (aB ?_);refine vn ?_;simp only[wq.1,seval,u23,u25,hgp];refine⟨⟨by omega,by omega⟩,?_⟩;refine dh (Q:=λxe f h=>xe= .normal/\f.t 1= .lp 0 0/\f.t 2= .lp 1 0/\f.t 5= .lp 6 0/\f.t 23=prs g.ands/\f.t 24=vi (aa g.ands)/\f.t 25=vi i/\f.d=[]/\InN g (dC g (λ_=>ab) (i+1)) h) ?_ ?_
    ·rintro xe f h ⟨rfl,t1,t2,t5,t23,t24,t25,hd,hin⟩;have hw:=ax (show i<maxLen by omega);refine vm ?_;simp only[wq.1,seval,t25,hw];exact .inl ⟨m-1,by omega,i+1,by omega,t1,t2,t5,t23,t24,rfl,hd,hin⟩
    ·obtain⟨o1,o2,o3,o4⟩:=iq i5 hlt;have hCb:∀x∈C,0<=x/\x<=1000000:=λx hx=>by have:=q3 x hx;omega
     have hAi:aa A<=i:=q1;obtain⟨v1,hv1⟩:∃v1,v1=fB C g.ands[i].1:=⟨_,rfl⟩;obtain⟨v2,hv2⟩:∃v2,v2=fB C g.ands[i].2:=⟨_,rfl⟩;have b1:=jI (a:=g.ands[i].1) (k:=g.first+aa A) (by omega) q3;have b2:=jI (a:=g.ands[i].2) (k:=g.first+aa A) (by omega) q3;rw[<-hv1]at b1;rw[<-hv2]at b2;obtain⟨r,hr⟩:∃r,r=jD g.first A v1 v2:=⟨_,rfl⟩
     have hst2:dC g (λ_=>ab) (i+1)=(r.1,C++[r.2]):=by rw[hst,aP hlt];unfold lZ;rw[if_pos rfl,<-hv1,<-hv2,<-hr]
     rw[hst2];have d1:aE (λx=>x==8) (g.init.map vi)=g.init.map vi:=aN _;have d2:aE (λx=>x==8) (C.map vi)=C.map vi:=aN _;refine bK dV U2 (λf h=>f.t 1= .lp 0 0/\f.t 2= .lp 1 0/\f.t 5= .lp 6 0/\f.t 23=prs g.ands/\f.t 24=vi (aa g.ands)/\f.t 25=vi i/\f.d=[]/\InN g (r.1,C++[r.2]) h) (by decide +kernel) (by decide +kernel) ?_ (λf h hr=>⟨rfl,hr⟩);simp only[wq.1,seval,U2,u5,bo]
     repeat' apply zsa
     all_goals first
      |decide
      |skip
     all_goals
      refine nV (c:=8) o1 (by omega) (by omega) hCb (by rfl) (by rfl) ?_;simp only[wq.1,seval,<-hv1]
      repeat' apply zsa
     all_goals first
      |decide
      |skip
     all_goals
      refine nV (c:=8) o2 (by omega) (by omega) hCb (by rfl) (by rfl) ?_;simp only[wq.1,seval,aG,Tryz.results26,bC,u1,u2,u5,u23,u24,u25,ud,<-hv2]
      repeat' apply zsa
     all_goals
      refine F5 (b:=6) (a:=7) (J:=3) (m:=5) (c:=8) (lc:=aa C) (ini:=g.init) (nx:=g.next) (n1:=g.ins) (f0:=g.first) (A:=A) wf i0 (by omega) (by omega) (by omega) (by omega) b1.1 (by omega) b2.1 (by omega) (by rfl) (by rfl) (by rfl) (by rfl) X5 (by decide) (by decide) (by decide) (λX=> ?_);rw[<-hr];simp only[wq.1,↓reduceIte,Nat.reduceEqDiff,Nat.reduceLT,Nat.reduceLeDiff,Nat.reduceAdd,Nat.reduceSub,Int.reduceToNat,Nat.reduceDiv,Int.reduceLT,Int.reduceLE,Int.reduceNeg,Int.reduceBEq,Int.reduceBNe,Int.reduceAdd,Int.reduceSub,Nat.reduceBEq,reduceCtorEq,Nat.reduceMul,aG,Tryz.results26,bC,u1,u2,u5,u23,u24,u25,ud,mG,kE,kZ,d1,d2];refine⟨⟨rfl,by decide⟩,⟨by omega,by omega,by omega⟩,aw [vi g.ands[i].1,vi g.ands[i].2]::List.map (O.drop λx=>x==8) X,?_⟩;show _=hN g r.1 (C++[r.2])++_;unfold hN bo;rw[zqa,zql];rfl
   ·simp only[zqd,zqi]at hlt;have hi:i=aa g.ands:=by omega
    subst hi;refine vm ?_;simp only[wq.1,seval,u1,u2,u5,ud];rw[hs1,hAC];exact⟨[],(zqp _).symm⟩
def WW(f:Nat)(use:Nat->Bool)(v:Nat):Prop:=v<f\/use (v-f)=ab
def TV(g:Gr)(use:Nat->Bool):Prop:=∀i (hi:i<aa g.ands),use i=ab->WW g.first.toNat use (g.ands[i].1/2).toNat/\WW g.first.toNat use (g.ands[i].2/2).toNat
variable{v:List Bool}
theorem qP{l:Int}{w:Nat}:(wZ v l).getD w am=((aM ((l/2).toNat=w)&&aM (w<aa v))||v.getD w am):=by
 unfold wZ;rw[zqg,List.getElem?_set];by_cases h:(l/2).toNat=w
 ·rw[if_pos h];by_cases hw:w<aa v
  ·rw[if_pos (by omega)];simp[h,hw]
  ·rw[if_neg (by omega)];simp[h,hw,zqg,zsj (show aa v<=w by omega)]
 ·rw[if_neg h];simp[h,zqg]
theorem DR{l:Int}{w:Nat}(h:v.getD w am=ab):(wZ v l).getD w am=ab:=by rw[qP,h,Bool.or_true]
theorem zO{k:Nat}:AZ g v (k+1)=if(AZ g v k).getD (g.first+((aa g.ands-1-k:Nat):Int)).toNat am then wZ (wZ (AZ g v k) (g.ands.getD (aa g.ands-1-k) (0,0)).1) (g.ands.getD (aa g.ands-1-k) (0,0)).2 else AZ g v k:=rfl
theorem DT{g:Gr}{v:List Bool}{w k:Nat}:∀ {k':Nat},k<=k'->(AZ g v k).getD w am=ab->(AZ g v k').getD w am=ab
 |0,h,hk=>by rw[show k=0 by omega]at hk;exact hk
 |k'+1,h,hk=>by
  by_cases he:k=k'+1
  ·rw[he]at hk;exact hk
  ·have ih:=DT (k':=k') (by omega) hk;rw[zO];split
   ·exact DR (DR ih)
   ·exact ih
theorem F8{g:Gr}(hg:g.chk=0){v:List Bool}{w k:Nat}(hw:g.first+((aa g.ands-1-k:Nat):Int)<=w):∀ {k':Nat},k<=k'->k'<=aa g.ands->(AZ g v k').getD w am=(AZ g v k).getD w am
 |0,h,_=>by rw[show k=0 by omega]
 |k'+1,h,hl=>by
  by_cases he:k=k'+1
  ·rw[he]
  ·obtain⟨_,i0,i1,i2,i3,i4,i5⟩:=aU hg;have ih:=F8 hg (v:=v) hw (k':=k') (by omega) (by omega);have hp:aa g.ands-1-k'<aa g.ands:=by omega
   obtain⟨o1,o2,o3,o4⟩:=iq i5 hp;have hf:=lU i0;rw[zO,aP hp];split
   ·rw[qP,qP,ih];have d1:((g.ands[aa g.ands-1-k'].1/2).toNat=w)=False:=by simp;omega
    have d2:((g.ands[aa g.ands-1-k'].2/2).toNat=w)=False:=by simp;omega
    simp[d1,d2]
   ·exact ih
theorem MP(hg:g.chk=0){i:Nat}(hi:i<aa g.ands)(h:(wu g).getD (g.first+(i:Int)).toNat am=ab) :
 (wu g).getD (g.ands[i].1/2).toNat am=ab/\(wu g).getD (g.ands[i].2/2).toNat am=ab:=by
 obtain⟨_,i0,i1,i2,i3,i4,i5⟩:=aU hg;have hf:=lU i0;obtain⟨o1,o2,o3,o4⟩:=iq i5 hi;unfold wu at h ⊢;obtain⟨v,hv⟩:∃v,v=JR g (aD g.vars am) (aa (g.next++g.outs)):=⟨_,rfl⟩;have hvl:aa v=g.vars:=by rw[hv,JS,zsc]
 rw[<-hv]at h ⊢;have hk:aa g.ands-1-(aa g.ands-1-i)=i:=by omega
 have hkk:=F8 hg (v:=v) (w:=(g.first+(i:Int)).toNat) (k:=aa g.ands-1-i) (by rw[hk];omega) (k':=aa g.ands) (by omega) (zrb _);rw[hkk]at h;have hs:=zO (g:=g) (v:=v) (k:=aa g.ands-1-i);rw[hk,if_pos h,aP hi]at hs;have hvv:(g.vars:Int)=g.first+aa g.ands:=by
  have:g.first=1+g.ins+aa g.next:=rfl
  unfold Gr.vars;omega
 have hl:∀k,aa (AZ g v k)=g.vars:=λk=>by rw[xP,hvl]
 have m1:(wZ (wZ (AZ g v (aa g.ands-1-i)) g.ands[i].1) g.ands[i].2).getD (g.ands[i].1/2).toNat am=ab :=
  DR (by rw[qP,hl];simp;left;omega)
 have m2:(wZ (wZ (AZ g v (aa g.ands-1-i)) g.ands[i].1) g.ands[i].2).getD (g.ands[i].2/2).toNat am=ab:=by rw[qP,oZ,hl];simp;left;omega
 rw[<-hs]at m1 m2;exact⟨DT (by omega) m1,DT (by omega) m2⟩
theorem uJ{w:Nat}:∀ {l:List Int} {v:List Bool},v.getD w am=ab->(l.foldl wZ v).getD w am=ab
 |[],v,h=>h
 |a::l,v,h=>uJ (l:=l) (DR h)
theorem uK{w:Nat}:∀ {l:List Int} {v:List Bool} {a:Int},a∈l->(a/2).toNat=w->w<aa v->(l.foldl wZ v).getD w am=ab
 |b::l,v,a,ha,hw,hl=>by
  rcases zrj.1 ha with rfl|ha
  ·exact uJ (l:=l) (by rw[qP];simp;left;exact⟨hw,hl⟩)
  ·exact uK (l:=l) ha hw (by rw[oZ];exact hl)
theorem TW:JR g v (aa (g.next++g.outs))=(g.next++g.outs).foldl wZ v:=by unfold JR;rw[zrx]
variable{a:Int}
theorem Qg{w:Nat}(ha:a∈g.next++g.outs)(hw:(a/2).toNat=w)(hl:w<g.vars):(wu g).getD w am=ab:=by unfold wu;refine DT (k:=0) (Nat.zero_le _) ?_;show(JR g _ _).getD w am=ab;rw[TW];exact uK ha hw (by rw[zsc];exact hl)
def vlA(base:List Bool)(A:List Pq):List Bool:=A.foldl zD base
variable{base:List Bool}{p:Pq}
theorem xR:vlA base (A++[p])=zD (vlA base A) p:=by unfold vlA;rw[List.foldl_append];rfl
variable{B:List Pq}
theorem Qh:vlA base (A++B)=vlA (vlA base A) B:=by unfold vlA;rw[List.foldl_append]
theorem zQ:∀ {B:List Pq} {base:List Bool},∃w,vlA base B=base++w/\aa w=aa B
 |[],_=>⟨[],by simp[vlA],rfl⟩
 |p::B,base=>by obtain⟨w,h1,h2⟩:=zQ (B:=B) (base:=zD base p);exact⟨(lv base p.1&&lv base p.2)::w,by rw[show vlA base (p::B)=vlA (zD base p) B from rfl,h1];simp[zD],by simp[h2]⟩
theorem sJ:aa (vlA base A)=aa base+aa A:=by obtain⟨w,h1,h2⟩:=zQ (B:=A) (base:=base);rw[h1,zqa,h2]
variable{w:List Bool}
theorem X7(h0:0<=a)(h:a/2<aa v):lv (v++w) a=lv v a:=by unfold lv;rw[zqg,zqj (by omega),<-zqg]
theorem lV(h0:0<=a)(h:a/2<aa base+aa A):lv (vlA base (A++B)) a=lv (vlA base A) a:=by rw[Qh];obtain⟨w,h1,_⟩:=zQ (B:=B) (base:=vlA base A);rw[h1];exact X7 h0 (by rw[sJ];omega)
theorem zS{k:Nat}(h:k<aa base+aa A):(vlA base (A++B)).getD k am=(vlA base A).getD k am:=by rw[Qh];obtain⟨w,h1,_⟩:=zQ (B:=B) (base:=vlA base A);rw[h1,zqg,zqj (by rw[sJ];omega),<-zqg]
theorem qy(h0:0<=a):lv v (qO a)= !lv v a:=by
 unfold lv qO;rcases Int.emod_two_eq a with hm|hm
 ·rw[if_pos hm,show(a+1)/2=a/2 by omega,show(a+1)%2=1 by omega,hm];cases v.getD (a/2).toNat am<;>rfl
 ·rw[if_neg (by omega),show(a-1)/2=a/2 by omega,show(a-1)%2=0 by omega,hm];cases v.getD (a/2).toNat am<;>rfl
theorem zT:lv v (2*(n:Int))=v.getD n am:=by unfold lv;rw[show(2*(n:Int))/2=n by omega,show(2*(n:Int))%2=0 by omega,zsg];cases v.getD n am<;>rfl
def OkA(f:Int)(A:List Pq):Prop:=∀i (h:i<aa A),0<=A[i].1/\0<=A[i].2/\A[i].1<2*(f+i)/\A[i].2<2*(f+i)
theorem OkA.snoc{f:Int}(h:OkA f A)(h1:0<=p.1)(h2:0<=p.2)(h3:p.1<2*(f+aa A))(h4:p.2<2*(f+aa A)):OkA f (A++[p]):=λi hi=>by
 by_cases hl:i<aa A
 ·rw[List.getElem_append_left hl];exact h i hl
 ·have:i=aa A:=by simp at hi;omega
  subst this;simp only[List.getElem_append_right (zrb _),Nat.sub_self,List.getElem_cons_zero];exact⟨h1,h2,h3,h4⟩
theorem Wn(hA:OkA (aa base) A){i:Nat}(hi:i<aa A):(vlA base A).getD (aa base+i) am=(lv (vlA base A) A[i].1&&lv (vlA base A) A[i].2):=by
 obtain⟨o1,o2,o3,o4⟩:=hA i hi;obtain⟨p,hp⟩:∃p,p=A[i]:=⟨_,rfl⟩;rw[<-hp]at o1 o2 o3 o4 ⊢;have hl:aa (A.take i)=i:=by simp;omega
 have e:A=(A.take i++[p])++A.drop (i+1):=by have h1:=List.drop_eq_getElem_cons hi;rw[<-hp]at h1;rw[zqc,List.singleton_append,<-h1,List.take_append_drop]
 generalize A.take i=L,A.drop (i+1)=R at hl e;subst e;have e1:lv (vlA base ((L++[p])++R)) p.1=lv (vlA base L) p.1:=by
  rw[zqc];exact lV o1 (by omega)
 have e2:lv (vlA base ((L++[p])++R)) p.2=lv (vlA base L) p.2:=by rw[zqc];exact lV o2 (by omega)
 rw[e1,e2,zS (by simp;omega),xR];unfold zD;have hv:aa (vlA base L)=aa base+i:=by rw[sJ,hl]
 rw[zqg,zsb (by omega),hv,Nat.sub_self];rfl
theorem xU{p q:Int}(hA:OkA (aa base) A)(hb:∃t,base=am::t)(hp:0<=p/\p<2*((aa base:Int)+aa A))(hq:0<=q/\q<2*((aa base:Int)+aa A)) :
 (∃B,(jD (aa base) A p q).1=A++B)/\OkA (aa base) (jD (aa base) A p q).1/\lv (vlA base (jD (aa base) A p q).1) (jD (aa base) A p q).2=(lv (vlA base A) p&&lv (vlA base A) q):=by
 have h0:lv (vlA base A) 0=am:=by have e:=zT (v:=vlA base A) (n:=0);rw[show(2*((0:Nat):Int))=0 by omega]at e;rw[e];obtain⟨w,h1,_⟩:=zQ (B:=A) (base:=base);rw[h1];obtain⟨t,rfl⟩:=hb;rfl
 have hc:(lv (vlA base A) p&&lv (vlA base A) q)=(lv (vlA base A) (max p q)&&lv (vlA base A) (min p q)):=by
  rcases Int.le_total p q with h|h
  ·rw[show max p q=q by omega,show min p q=p by omega,Bool.and_comm]
  ·rw[show max p q=p by omega,show min p q=q by omega]
 rw[hc];obtain⟨P,hP⟩:∃P,P=max p q:=⟨_,rfl⟩;obtain⟨Q,hQ⟩:∃Q,Q=min p q:=⟨_,rfl⟩;unfold jD;rw[<-hP,<-hQ];have bP:0<=P/\P<2*((aa base:Int)+aa A):=by omega
 have bQ:0<=Q/\Q<2*((aa base:Int)+aa A):=by omega
 split
 ·rename_i h;refine⟨⟨[],(zqp _).symm⟩,hA,?_⟩;show lv _ 0=_;rw[h0];rcases h with h|h
  ·rw[h,h0,Bool.and_false]
  ·rw[<-h,qy bP.1];simp
 ·split
  ·rename_i h;refine⟨⟨[],(zqp _).symm⟩,hA,?_⟩;show lv _ P=_;rcases h with h|h
   ·rw[h,show(1:Int)=qO 0 by rfl,qy (by omega),h0];simp
   ·rw[h];simp
  ·split
   ·rename_i i hi;obtain⟨h1,h2,_⟩:=List.findIdx?_eq_some_iff_getElem.1 hi;refine⟨⟨[],(zqp _).symm⟩,hA,?_⟩;have h2:A[i]=(P,Q):=by simpa using h2
    have:=Wn hA h1;rw[h2]at this;show lv _ (2*((aa base:Int)+(i:Int)))=_;rw[<-this,show 2*((aa base:Int)+(i:Int))=2*((aa base+i:Nat):Int) by omega,zT]
   ·refine⟨⟨[(P,Q)],rfl⟩,hA.snoc bP.1 bQ.1 bP.2 bQ.2,?_⟩;show lv (vlA base (A++[(P,Q)])) (2*((aa base:Int)+(aa A:Int)))=_;rw[show 2*((aa base:Int)+(aa A:Int))=2*((aa base+aa A:Nat):Int) by omega,zT,xR];unfold zD;rw[zqg,zsb (by rw[sJ];omega),sJ,Nat.sub_self];rfl
theorem zU(hC:∀x∈C,0<=x)(h:lv v (C.getD (a/2).toNat 0)=w.getD (a/2).toNat am):lv v (fB C a)=lv w a:=by
 have hx:0<=C.getD (a/2).toNat 0:=by
  by_cases hi:(a/2).toNat<aa C
  ·rw[aP hi];exact hC _ (zqu hi)
  ·rw[zqg,zsj (by omega)];exact Int.le_refl _
 unfold fB;rcases Int.emod_two_eq a with hm|hm
 ·rw[if_neg (by omega),h];unfold lv;rw[hm];cases w.getD (a/2).toNat am<;>rfl
 ·rw[if_pos hm,qy hx,h];unfold lv;rw[hm];cases w.getD (a/2).toNat am<;>rfl
theorem F9{g:Gr}(hg:g.chk=0){base:List Bool}(hl:(aa base:Int)=g.first)(hb:∃t,base=am::t){use:Nat->Bool}(hu:TV g use):∀i,i<=aa g.ands ->
 OkA (aa base) (dC g use i).1/\∀w,w<aa base+i->WW (aa base) use w->lv (vlA base (dC g use i).1) ((dC g use i).2.getD w 0)=(vlA base (g.ands.take i)).getD w am
 |0,_=>by
  refine⟨λi h=>by simp[dC]at h,λw hw _=> ?_⟩;have e:(qw g.first.toNat).getD w 0=2*(w:Int):=by
   unfold qw;rw[zqg,zqo,List.getElem?_range (by omega)];rfl
  show lv (vlA base []) ((qw g.first.toNat).getD w 0)=_;rw[e,zT];simp[vlA]
 |i+1,hi=>by
  obtain⟨_,i0,i1,i2,i3,i4,i5⟩:=aU hg;have hil:i<aa g.ands:=by omega
  obtain⟨ih1,ih2⟩:=F9 hg hl hb hu i (by omega);obtain⟨o1,o2,o3,o4⟩:=iq i5 hil;obtain⟨k1,k2,k3⟩:=jJ (g:=g) i0 use i;have hgd:g.ands.getD i (0,0)=g.ands[i]:=by rw[zqg,zqk hil];rfl
  have htk:g.ands.take (i+1)=g.ands.take i++[g.ands[i]]:=by rw[zrg,zqk hil];rfl
  have hff:g.first.toNat=aa base:=by omega
  show OkA _ (lZ g.first (use i) (dC g use i) (g.ands.getD i (0,0))).1/\∀w,_->_->lv (vlA base (lZ g.first (use i) (dC g use i) (g.ands.getD i (0,0))).1) ((lZ g.first (use i) (dC g use i) (g.ands.getD i (0,0))).2.getD w 0)=_;rw[hgd,htk];have hCn:∀x∈(dC g use i).2,0<=x:=λx hx=>(k3 x hx).1;have hlt:aa (vlA base (g.ands.take i))=aa base+i:=by rw[sJ];simp;omega
  have hC2:(dC g use i).2.length=aa base+i:=by omega
  obtain⟨s,hs⟩:∃s,s=dC g use i:=⟨_,rfl⟩;rw[<-hs]at ih1 ih2 k1 k2 k3 hCn hC2 ⊢;have old:∀w,w<aa base+i->(zD (vlA base (g.ands.take i)) g.ands[i]).getD w am=(vlA base (g.ands.take i)).getD w am:=λw hw=>by unfold zD;rw[zqg,zqj (by omega),<-zqg]
  have new:(zD (vlA base (g.ands.take i)) g.ands[i]).getD (aa base+i) am=(lv (vlA base (g.ands.take i)) g.ands[i].1&&lv (vlA base (g.ands.take i)) g.ands[i].2):=by unfold zD;rw[zqg,zsb (by omega),hlt,Nat.sub_self];rfl
  rw[xR];cases hui:use i with
  |false =>
   have e:lZ g.first am s g.ands[i]=(s.1,s.2++[0]):=by unfold lZ;rfl
   rw[e];refine⟨ih1,λw hw hlv=> ?_⟩;by_cases hwi:w<aa base+i
   ·rw[old w hwi,<-ih2 w hwi hlv]
    congr 1
    show(s.2++[0]).getD w 0=_;rw[zqg,zqj (by omega),<-zqg]
   ·have:w=aa base+i:=by omega
    subst this;rcases hlv with h|h
    ·omega
    ·rw[Nat.add_sub_cancel_left,hui]at h;cases h
  |true =>
   obtain⟨l1,l2⟩:=hu i hil hui;rw[hff]at l1 l2;have b1:=ih2 (g.ands[i].1/2).toNat (by omega) l1;have b2:=ih2 (g.ands[i].2/2).toNat (by omega) l2;have hkf:0<g.first+(aa s.1:Int):=by have:=lU i0;omega
   have c1:=jI (C:=s.2) (a:=g.ands[i].1) hkf k3;have c2:=jI (C:=s.2) (a:=g.ands[i].2) hkf k3;have v1:=zU (a:=g.ands[i].1) hCn b1;have v2:=zU (a:=g.ands[i].2) hCn b2;obtain⟨⟨B,a1⟩,a2,a3⟩:=xU (p:=fB s.2 g.ands[i].1) (q:=fB s.2 g.ands[i].2) ih1 hb (by omega) (by omega);have e:lZ g.first ab s g.ands[i]=((jD g.first s.1 (fB s.2 g.ands[i].1) (fB s.2 g.ands[i].2)).1,s.2++[(jD g.first s.1 (fB s.2 g.ands[i].1) (fB s.2 g.ands[i].2)).2]):=by unfold lZ;rfl
   rw[e,<-hl];refine⟨a2,λw hw hlv=> ?_⟩;show lv (vlA base (jD _ _ _ _).1) ((s.2++[(jD _ _ _ _).2]).getD w 0)=_;by_cases hwi:w<aa base+i
   ·have hw2:w<aa s.2:=by omega
    have e2:(s.2++[(jD (aa base:Int) s.1 (fB s.2 g.ands[i].1) (fB s.2 g.ands[i].2)).2]).getD w 0=s.2.getD w 0:=by rw[zqg,zqj hw2,<-zqg]
    have:=k3 (s.2.getD w 0) (by rw[aP hw2];exact zqu hw2);rw[e2,old w hwi,<-ih2 w hwi hlv,a1,lV this.1 (by omega)]
   ·have:w=aa base+i:=by omega
    subst this;have e2:(s.2++[(jD (aa base:Int) s.1 (fB s.2 g.ands[i].1) (fB s.2 g.ands[i].2)).2]).getD (aa base+i) 0=(jD (aa base:Int) s.1 (fB s.2 g.ands[i].1) (fB s.2 g.ands[i].2)).2:=by
     rw[zqg,zsb (by omega),hC2,Nat.sub_self];rfl
    rw[e2,a3,new,v1,v2]
variable{st:List Bool}
theorem MQ{x:List Bool}(i0:0<=g.ins)(hst:aa st=aa g.next)(hx:aa x=g.ins.toNat):(aa ([am]++x++st):Int)=g.first:=by
 have:g.first=1+g.ins+aa g.next:=rfl
 simp only[zqa,zrk];omega
theorem qQ{x:List Bool}:g.vals st x=vlA ([am]++x++st) g.ands:=by unfold Gr.vals dw vlA;rw[zrx];rfl
theorem JU(hg:g.chk=0){st x:List Bool}(hst:aa st=aa g.next)(hx:aa x=g.ins.toNat){use:Nat->Bool}(hu:TV g use){a:Int}(h0:0<=a)(h1:a<g.all)(hlv:WW g.first.toNat use (a/2).toNat) :
 lv ((uH g (dC g use (aa g.ands))).vals st x) (fB (dC g use (aa g.ands)).2 a)=lv (g.vals st x) a:=by
 obtain⟨_,i0,i1,i2,i3,i4,i5⟩:=aU hg;have hl:=MQ i0 hst hx;obtain⟨p1,p2⟩:=F9 hg hl ⟨x++st,rfl⟩ hu (aa g.ands) (zrb _);obtain⟨k1,k2,k3⟩:=jJ (g:=g) i0 use (aa g.ands);have wa:g.all=2*(g.first+aa g.ands):=rfl;rw[qQ,qQ];refine zU (λy hy=>(k3 y hy).1) ?_;have:=p2 (a/2).toNat (by omega) (by rwa [show aa ([am]++x++st)=g.first.toNat by omega]);rw[zrx]at this;exact this
theorem Qi:TV g (λ_=>ab):=λi hi _=>⟨.inr rfl,.inr rfl⟩
theorem IB(hx:x.chk=0):TV x (λi=>(wu x).getD (x.first+(i:Int)).toNat am):=λi hi hu=>by
 obtain⟨_,i0,i1,i2,i3,i4,i5⟩:=aU hx;obtain⟨o1,o2,o3,o4⟩:=iq i5 hi;have wf:x.first=1+x.ins+aa x.next:=rfl
 obtain⟨h1,h2⟩:=MP hx hi hu;have key:∀a:Int,0<=a->(wu x).getD (a/2).toNat am=ab->WW x.first.toNat (λi=>(wu x).getD (x.first+(i:Int)).toNat am) (a/2).toNat:=λa ha h=>by
  by_cases hw:(a/2).toNat<x.first.toNat
  ·exact .inl hw
  ·refine .inr ?_;show(wu x).getD (x.first+(((a/2).toNat-x.first.toNat:Nat):Int)).toNat am=ab;rw[show(x.first+(((a/2).toNat-x.first.toNat:Nat):Int)).toNat=(a/2).toNat by omega];exact h
 exact⟨key _ o1 h1,key _ o2 h2⟩
theorem Qj(hx:x.chk=0){a:Int}(ha:a∈x.next++x.outs)(h0:0<=a)(h1:a<x.all):WW x.first.toNat (λi=>(wu x).getD (x.first+(i:Int)).toNat am) (a/2).toNat:=by
 obtain⟨_,i0,i1,i2,i3,i4,i5⟩:=aU hx;have wf:x.first=1+x.ins+aa x.next:=rfl
 have wa:x.all=2*(x.first+aa x.ands):=rfl;by_cases hw:(a/2).toNat<x.first.toNat
 ·exact .inl hw
 ·refine .inr ?_;show(wu x).getD (x.first+(((a/2).toNat-x.first.toNat:Nat):Int)).toNat am=ab;rw[show(x.first+(((a/2).toNat-x.first.toNat:Nat):Int)).toNat=(a/2).toNat by omega];exact Qg ha rfl (by unfold Gr.vars;omega)
theorem cZ:(aY g).ins=g.ins/\(aY g).init=g.init/\(aY g).next.length=aa g.next/\(aY g).outs.length=aa g.outs:=by unfold aY;exact⟨rfl,rfl,by simp[uH],by simp[uH]⟩
theorem xW(hg:g.chk=0){st x:List Bool}(hst:aa st=aa g.next)(hx:aa x=g.ins.toNat) :
 (aY g).outs.map (lv ((aY g).vals st x))=g.outs.map (lv (g.vals st x))/\(aY g).next.map (lv ((aY g).vals st x))=g.next.map (lv (g.vals st x)):=by
 obtain⟨_,i0,i1,i2,i3,i4,i5⟩:=aU hg;obtain⟨r1,r2,r3,r4⟩:=aJ i4;obtain⟨y,hy⟩:∃y,y=uH g (dC g (λ_=>ab) (aa g.ands)):=⟨_,rfl⟩;have hyc:y.chk=0:=by rw[hy];exact xQ hg _
 have hn:aY g=uH y (dC y (λi=>(wu y).getD (y.first+(i:Int)).toNat am) (aa y.ands)):=by rw[hy];rfl
 obtain⟨_,j0,j1,j2,j3,j4,j5⟩:=aU hyc;obtain⟨v1,v2,v3,v4⟩:=aJ j4;have y1:y.ins=g.ins:=by rw[hy];rfl
 have y3:aa y.next=aa g.next:=by rw[hy];simp[uH]
 have key:∀a∈y.next++y.outs,0<=a->a<y.all->lv ((aY g).vals st x) (fB (dC y (λi=>(wu y).getD (y.first+(i:Int)).toNat am) (aa y.ands)).2 a)=lv (y.vals st x) a:=λa ha h0 h1=>by rw[hn];exact JU hyc (by omega) (by rw[y1];exact hx) (IB hyc) h0 h1 (Qj hyc ha h0 h1)
 have key1:∀a,0<=a->a<g.all->lv (y.vals st x) (fB (dC g (λ_=>ab) (aa g.ands)).2 a)=lv (g.vals st x) a:=λa h0 h1=>by rw[hy];exact JU hg hst hx Qi h0 h1 (.inr rfl)
 constructor
 ·have e1:(aY g).outs=y.outs.map (fB (dC y (λi=>(wu y).getD (y.first+(i:Int)).toNat am) (aa y.ands)).2):=by rw[hn];rfl
  have e2:y.outs=g.outs.map (fB (dC g (λ_=>ab) (aa g.ands)).2):=by rw[hy];rfl
  rw[e1,List.map_map];rw[show(y.outs.map (lv ((aY g).vals st x)∘fB (dC y (λi=>(wu y).getD (y.first+(i:Int)).toNat am) (aa y.ands)).2))=y.outs.map (lv (y.vals st x))from zsd λa ha=>key a (zrf.2 (.inr ha)) (v4 a ha).1 (v4 a ha).2];rw[e2,List.map_map];exact zsd λa ha=>key1 a (r4 a ha).1 (r4 a ha).2
 ·have e1:(aY g).next=y.next.map (fB (dC y (λi=>(wu y).getD (y.first+(i:Int)).toNat am) (aa y.ands)).2):=by rw[hn];rfl
  have e2:y.next=g.next.map (fB (dC g (λ_=>ab) (aa g.ands)).2):=by rw[hy];rfl
  rw[e1,List.map_map];rw[show(y.next.map (lv ((aY g).vals st x)∘fB (dC y (λi=>(wu y).getD (y.first+(i:Int)).toNat am) (aa y.ands)).2))=y.next.map (lv (y.vals st x))from zsd λa ha=>key a (zrf.2 (.inl ha)) (v3 a ha).1 (v3 a ha).2];rw[e2,List.map_map];exact zsd λa ha=>key1 a (r3 a ha).1 (r3 a ha).2
def atI(l:List S)(s:S):Nat:=(at? l s).getD 0
def qA(a b:List S):Bool:=aM (aa a=aa b)&&a.all λs=>(at? b s).isSome
def pg(a b:Mo):Int:=if a.chk≠0 then a.chk else if b.chk≠0 then b.chk else if qA a.ins b.ins&&qA a.out b.out then 0 else 12
variable{l:List S}
theorem Gf(h:l.Nodup){i:Nat}(hi:i<aa l):at? l l[i]=ar i:=by obtain⟨n,hn⟩:=Dx (zqu hi);obtain⟨h1,h2⟩:=kD hn;rw[hn,(List.getElem_inj h).1 h2]
theorem JV{s:S}(h:(at? l s).isSome=ab):atI l s<aa l:=by obtain⟨n,hn⟩:=Option.isSome_iff_exists.1 h;unfold atI;rw[hn];exact(kD hn).1
structure CanOk(a b:Mo):Prop where
 ca:a.chk=0
 cb:b.chk=0
 ins:aa a.ins=aa b.ins/\∀s∈a.ins,(at? b.ins s).isSome=ab
 out:aa a.out=aa b.out/\∀s∈a.out,(at? b.out s).isSome=ab
theorem zV{a b:List S}(h:qA a b=ab):aa a=aa b/\∀s∈a,(at? b s).isSome=ab:=by unfold qA at h;rw[zqf,zqb,zrs]at h;exact h
theorem o9{a b:Mo}(h:pg a b=0):CanOk a b:=by
 unfold pg at h;split at h
 ·omega
 ·split at h
  ·omega
  ·split at h
   ·rename_i h1 h2 h3;rw[zqf]at h3;exact⟨by omega,by omega,zV h3.1,zV h3.2⟩
   ·cases h
structure MS where
 b:Cl
 p:List Pq
 ok:Bool
def l7(k0 n:Nat)(bl:List S)(s:MS)(i:Nat)(x:S):MS :=
 match at? bl x with
 |none=>s
 |some k=>⟨if s.b.getD i 0=2 then s.b.set i (s.b.getD (n+k) 0)else if s.b.getD (n+k) 0=2 then s.b.set (n+k) (s.b.getD i 0)else s.b,
  s.p++[(1+(k0:Int)+(i:Int),1+(k0:Int)+(n:Int)+(k:Int))],
  s.ok&&(s.b.getD i 0==2||s.b.getD (n+k) 0==2||s.b.getD i 0==s.b.getD (n+k) 0)⟩
def mN(a b:Mo):Nat->MS
 |0=>⟨a.g.init++b.g.init,[],ab⟩
 |i+1=>l7 (aa a.ins) (aa a.lat) b.lat (mN a b i) i (a.lat.getD i [])
def mV(a b:Mo):MS:=mN a b (aa a.lat)
variable{k0:Nat}{bl:List S}
theorem Qk{s:MS}{i:Nat}{x:S}:(l7 k0 n bl s i x).b.length=aa s.b:=by
 unfold l7;split
 ·rfl
 ·dsimp only;split
  ·simp
  ·split<;>simp
theorem Gg{a b:Mo}:∀i,(mN a b i).b.length=aa a.g.init+aa b.g.init
 |0=>zqa
 |i+1=>by show(l7 _ _ _ _ _ _).b.length=_;rw[Qk,Gg i]
theorem xX{l:Cl}(h:∀x∈l,0<=x/\x<=2)(i:Nat):0<=l.getD i 0/\l.getD i 0<=2:=by
 by_cases hi:i<aa l
 ·rw[aP hi];exact h _ (zqu hi)
 ·rw[zqg,zsj (by omega)];exact⟨Int.le_refl _,by decide⟩
theorem Ql{l:Cl}(h:∀x∈l,0<=x/\x<=2){v:Int}(hv:0<=v/\v<=2)(i:Nat):∀x∈l.set i v,0<=x/\x<=2:=λx hx=>by
 rcases List.mem_or_eq_of_mem_set hx with hx|rfl
 ·exact h x hx
 ·exact hv
theorem Qm{s:MS}{i:Nat}{x:S}(h:∀x∈s.b,0<=x/\x<=2):∀y∈(l7 k0 n bl s i x).b,0<=y/\y<=2:=by
 unfold l7;split
 ·exact h
 ·dsimp only;split
  ·exact Ql h (xX h _) _
  ·split
   ·exact Ql h (xX h _) _
   ·exact h
theorem JW{a b:Mo}(ha:∀x∈a.g.init,0<=x/\x<=2)(hb:∀x∈b.g.init,0<=x/\x<=2):∀i,∀x∈(mN a b i).b,0<=x/\x<=2
 |0=>λx hx=>(zrf.1 hx).elim (ha x) (hb x)
 |i+1=>Qm (JW ha hb i)
def mvX(to:Cl)(l:Int):Int:=2*to.getD (l/2).toNat 0+l%2
def to0(l:List S)(m:Mo)(f:Int):Cl:=0::(m.ins.map (λs=>1+(atI l s:Int))++(List.range (aa m.lat)).map λi:Nat=>f+(i:Int))
def Gh(f:Int)(s:List Pq×Cl)(p:Pq):List Pq×Cl:=(s.1++[(mvX s.2 p.1,mvX s.2 p.2)],s.2++[f+(aa s.1:Int)])
def ww(f:Int)(s:List Pq×Cl)(A:List Pq):List Pq×Cl:=A.foldl (Gh f) s
def Rk(f p q:Int)(s:List Pq×Cl):List Pq×Cl :=
 let u:=jD f s.1 p (qO q)
 let v:=jD f u.1 (qO p) q
 let w:=jD f v.1 (qO u.2) (qO v.2)
 (w.1,s.2++[qO w.2])
def jf(a b:Mo):Int:=1+(aa a.ins:Int)+((aa a.lat:Int)+(aa b.lat:Int))
def jA(a b:Mo):List Pq×Cl:=ww (jf a b) ([],to0 a.ins a (1+(aa a.ins:Int))) (aY a.g).ands
def jB(a b:Mo):List Pq×Cl:=ww (jf a b) ((jA a b).1,to0 a.ins b (1+(aa a.ins:Int)+(aa a.lat:Int))) (aY b.g).ands
def jO(a b:Mo):Nat->List Pq×Cl
 |0=>((jB a b).1,[])
 |i+1=>Rk (jf a b) (mvX (jA a b).2 ((aY a.g).outs.getD i 0)) (mvX (jB a b).2 ((aY b.g).outs.getD (atI b.out (a.out.getD i [])) 0)) (jO a b i)
def aF(a b:Mo):Gr:=⟨aa a.ins,(aY a.g).next.map (mvX (jA a b).2)++(aY b.g).next.map (mvX (jB a b).2),(mV a b).b,(jO a b (aa a.out)).1,(jO a b (aa a.out)).2⟩
structure Maps(base:List Bool)(A:List Pq)(to:Cl)(w:List Bool):Prop where
 r:∀x∈to,0<=x/\x<(aa base:Int)+aa A
 v:to.map (λk=>(vlA base A).getD k.toNat am)=w
variable{to:Cl}
theorem Maps.len(h:Maps base A to w):aa to=aa w:=by rw[<-h.v,zra]
theorem Maps.lit(h:Maps base A to w){l:Int}(h0:0<=l)(h1:l/2<aa w) :
 0<=mvX to l/\mvX to l<2*((aa base:Int)+aa A)/\lv (vlA base A) (mvX to l)=lv w l:=by
 have hk:(l/2).toNat<aa to:=by rw[h.len];omega
 have hm:=h.r _ (zqu hk);have hw:w.getD (l/2).toNat am=(vlA base A).getD to[(l/2).toNat].toNat am:=by rw[<-h.v,zqg,zqo,zqk hk];rfl
 unfold mvX;rw[aP hk];refine⟨by omega,by omega,?_⟩;unfold lv;rw[hw,show(2*to[(l/2).toNat]+l%2)/2=to[(l/2).toNat] by omega,show(2*to[(l/2).toNat]+l%2)%2=l%2 by omega]
theorem Maps.more(h:Maps base A to w):Maps base (A++B) to w:=by
 refine⟨λx hx=> ?_,?_⟩
 ·have:=h.r x hx;rw[zqa];omega
 ·rw[<-h.v];refine zsd λx hx=> ?_;have:=h.r x hx;exact zS (by omega)
theorem TY:aa (zD w p)=aa w+1:=by simp[zD]
theorem Qo{s:List Pq×Cl}(hok:OkA (aa base) s.1)(hm:Maps base s.1 s.2 w){p:Pq}(p0:0<=p.1)(p1:0<=p.2)(p2:p.1<2*(aa w:Int))(p3:p.2<2*(aa w:Int)) :
 OkA (aa base) (Gh (aa base) s p).1/\Maps base (Gh (aa base) s p).1 (Gh (aa base) s p).2 (zD w p):=by
 obtain⟨a1,a2,a3⟩:=hm.lit (l:=p.1) p0 (by omega);obtain⟨b1,b2,b3⟩:=hm.lit (l:=p.2) p1 (by omega);have hm2:=hm.more (B:=[(mvX s.2 p.1,mvX s.2 p.2)]);refine⟨hok.snoc a1 b1 a2 b2,λx hx=> ?_,?_⟩
 ·rcases zrf.1 hx with hx|hx
  ·exact hm2.r x hx
  ·rw[zrc.1 hx];simp only[Gh,zqa,zrk];omega
 ·show(s.2++[(aa base:Int)+(aa s.1:Int)]).map _=w++[_];rw[zql]
  congr 1
  ·exact hm2.v
  ·show [_]=[_];rw[List.cons.injEq];refine⟨?_,rfl⟩;show(vlA base (s.1++[(mvX s.2 p.1,mvX s.2 p.2)])).getD _ am=_;rw[xR,show((aa base:Int)+(aa s.1:Int)).toNat=aa (vlA base s.1) by rw[sJ];omega];unfold zD;rw[zqg,zsb (zrb _),Nat.sub_self];show(lv (vlA base s.1) (mvX s.2 p.1)&&lv (vlA base s.1) (mvX s.2 p.2))=_;rw[a3,b3]
theorem zW{base:List Bool}:∀ {A:List Pq} {w:List Bool} {s:List Pq×Cl},OkA (aa base) s.1->Maps base s.1 s.2 w->OkA (aa w) A ->
 (∃B,(ww (aa base) s A).1=s.1++B/\aa B=aa A)/\OkA (aa base) (ww (aa base) s A).1/\Maps base (ww (aa base) s A).1 (ww (aa base) s A).2 (vlA w A)
 |[],w,s,hok,hm,_=>⟨⟨[],(zqp _).symm,rfl⟩,hok,hm⟩
 |p::A,w,s,hok,hm,hA=>by
  obtain⟨p0,p1,p2,p3⟩:=hA 0 (by simp);have p0:0<=p.1:=p0;have p1:0<=p.2:=p1;have p2:p.1<2*(aa w:Int):=by simpa using p2
  have p3:p.2<2*(aa w:Int):=by simpa using p3
  obtain⟨h1,h2⟩:=Qo hok hm p0 p1 p2 p3;have hA':OkA (aa (zD w p)) A:=λi hi=>by have:=hA (i+1) (by simpa using hi);simp only[List.getElem_cons_succ]at this;rw[TY];omega
  obtain⟨⟨B,b1,b2⟩,b3,b4⟩:=zW (A:=A) h1 h2 hA';refine⟨⟨(mvX s.2 p.1,mvX s.2 p.2)::B,?_,by simp[b2]⟩,b3,b4⟩;show(ww (aa base) (Gh (aa base) s p) A).1=_;rw[b1];simp[Gh]
theorem jd(hg:g.chk=0):(aY g).chk=0:=by unfold aY;exact xQ (xQ hg _) _
theorem U3(hg:g.chk=0){n:Nat}(hn:(n:Int)=g.first):OkA n g.ands:=λi hi=>by obtain⟨_,i0,i1,i2,i3,i4,i5⟩:=aU hg;have:=iq i5 hi;omega
theorem nX(hg:g.chk=0):(aY g).ands.length<=aa g.ands:=by
 obtain⟨_,i0,i1,i2,i3,i4,i5⟩:=aU hg;obtain⟨y,hy⟩:∃y,y=uH g (dC g (λ_=>ab) (aa g.ands)):=⟨_,rfl⟩;have h1:aa y.ands<=aa g.ands:=by rw[hy];exact(jJ i0 _ _).1
 have y1:y.ins=g.ins:=by rw[hy];rfl
 have h2:(aY g).ands.length<=aa y.ands:=by rw[show aY g=uH y (dC y (λi=>(wu y).getD (y.first+(i:Int)).toNat am) (aa y.ands)) by rw[hy];rfl];exact(jJ (by omega) _ _).1
 omega
theorem TZ(hb:∃t,base=am::t){s:List Pq×Cl}{p q:Int}(hA:OkA (aa base) s.1)(hp:0<=p/\p<2*((aa base:Int)+aa s.1))(hq:0<=q/\q<2*((aa base:Int)+aa s.1)) :
 (∃B,(Rk (aa base) p q s).1=s.1++B)/\OkA (aa base) (Rk (aa base) p q s).1/\(Rk (aa base) p q s).1.length<=aa s.1+3 /\
  ∃o,(Rk (aa base) p q s).2=s.2++[o]/\0<=o/\o<2*((aa base:Int)+(Rk (aa base) p q s).1.length)/\lv (vlA base (Rk (aa base) p q s).1) o=(lv (vlA base s.1) p != lv (vlA base s.1) q):=by
 have hf:0<(aa base:Int):=by obtain⟨t,rfl⟩:=hb;simp
 have xl:=λ{x k:Int}=>@IA x k;obtain⟨u,hu⟩:∃u,u=jD (aa base) s.1 p (qO q):=⟨_,rfl⟩;obtain⟨v,hv⟩:∃v,v=jD (aa base) u.1 (qO p) q:=⟨_,rfl⟩;obtain⟨w,hw⟩:∃w,w=jD (aa base) v.1 (qO u.2) (qO v.2):=⟨_,rfl⟩;have hx:Rk (aa base) p q s=(w.1,s.2++[qO w.2]):=by rw[hw,hv,hu];rfl
 obtain⟨⟨B1,a1⟩,a2,a3⟩:=xU hA hb hp (xl hq.1 hq.2);obtain⟨l1,l2,l3,l4⟩:=qx hf hp (xl hq.1 hq.2);rw[<-hu]at a1 a2 a3 l1 l2 l3 l4;have hp2:0<=p/\p<2*((aa base:Int)+aa u.1):=by omega
 have hq2:0<=q/\q<2*((aa base:Int)+aa u.1):=by omega
 obtain⟨⟨B2,b1⟩,b2,b3⟩:=xU a2 hb (xl hp2.1 hp2.2) hq2;obtain⟨m1,m2,m3,m4⟩:=qx hf (xl hp2.1 hp2.2) hq2;rw[<-hv]at b1 b2 b3 m1 m2 m3 m4;have hu2:0<=u.2/\u.2<2*((aa base:Int)+aa v.1):=by omega
 obtain⟨⟨B3,c1⟩,c2,c3⟩:=xU b2 hb (xl hu2.1 hu2.2) (xl m3 m4);obtain⟨n1,n2,n3,n4⟩:=qx hf (xl hu2.1 hu2.2) (xl m3 m4);rw[<-hw]at c1 c2 c3 n1 n2 n3 n4;rw[hx];refine⟨⟨B1++(B2++B3),by rw[c1,b1,a1];simp⟩,c2,by show aa w.1<=_;omega,qO w.2,rfl,(xl n3 n4).1,(xl n3 n4).2,?_⟩;show lv (vlA base w.1) (qO w.2)=_;have eu:lv (vlA base v.1) u.2=lv (vlA base u.1) u.2:=by rw[b1];exact lV l3 (by omega)
 have ep:lv (vlA base u.1) p=lv (vlA base s.1) p:=by rw[a1];exact lV hp.1 (by omega)
 have eq:lv (vlA base u.1) q=lv (vlA base s.1) q:=by rw[a1];exact lV hq.1 (by omega)
 rw[qy n3,c3,qy hu2.1,qy m3,eu,a3,b3,qy hq.1,qy hp2.1,ep,eq];cases lv (vlA base s.1) p<;>cases lv (vlA base s.1) q<;>rfl
end Go.Proofs.YthdidjjecjhenaaGreat
