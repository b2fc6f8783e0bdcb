/- Lemmas for this claim, part F12: each holds under what it names. -/
import Derived.Test.YthdidjjecjhenaaGreatF11
set_option linter.unusedVariables false
set_option linter.unusedSimpArgs false
set_option linter.unnecessarySimpa false
set_option maxRecDepth 20000
set_option maxHeartbeats 8000000
namespace Go.Proofs.YthdidjjecjhenaaGreat
open Go Go.Proofs Go.Abs
def aY(g:Gr):Gr :=
 let x:=um g (cu g (fun _=>true) g.ands.length)
 um x (cu x (fun i=>(vJ x).getD (x.first+(i:Int)).toNat false) x.ands.length)
def PE:Plan:=tkZ [0,1,2,5,6]<| .alt 3 (.alt 4 (onZ [7,8,9]<| .take 10<| .fin) (.one 7 (onZ [4,8,9]<| .take 10<| .fin))) (.one 7 (onZ [3,4,8,9]<| .take 10<| .fin))
def Ux:Plan:=tkZ [0,1,2,3,5,6,7,10,11]<| .alt 4 (.alt 8 (.alt 9 (onZ [12,13,14,15,16]<| .take 17<| .take 18<| .one 19<| .fin) (.one 12 (onZ [9,13,14,15,16]<| .take 17<| .take 18<| .one 19<| .fin))) (.one 12 (onZ [8,9,13,14,15,16]<| .take 17<| .take 18<| .one 19<| .fin))) (.alt 8 (.alt 4 (.alt 9 (onZ [12,13,14,15,16]<| .take 17<| .take 18<| .one 19<| .fin) (.one 12 (onZ [9,13,14,15,16]<| .take 17<| .take 18<| .one 19<| .fin))) (.alt 9 (.alt 4 (onZ [12,13,14,15,16]<| .take 17<| .take 18<| .one 19<| .fin) (.one 12 (.alt 4 (onZ [13,14,15,16]<| .take 17<| .take 18<| .one 19<| .fin) (.one 13 (.alt 4 (onZ [14,15,16]<| .take 17<| .take 18<| .one 19<| .fin) (.one 14 (.alt 4 (.one 15<| .one 16<| .take 17<| .take 18<| .one 19<| .fin) (.one 15 (.one 4<| .one 16<| .take 17<| .take 18<| .one 19<| .fin))))))))) (.one 12 (.alt 4 (onZ [9,13,14,15,16]<| .take 17<| .take 18<| .one 19<| .fin) (.one 9 (.alt 4 (onZ [13,14,15,16]<| .take 17<| .take 18<| .one 19<| .fin) (.one 13 (.alt 4 (onZ [14,15,16]<| .take 17<| .take 18<| .one 19<| .fin) (.one 14 (.alt 4 (.one 15<| .one 16<| .take 17<| .take 18<| .one 19<| .fin) (.one 15 (.one 4<| .one 16<| .take 17<| .take 18<| .one 19<| .fin)))))))))))) (.one 12 (.alt 4 (onZ [8,9,13,14,15,16]<| .take 17<| .take 18<| .one 19<| .fin) (.one 8 (.alt 4 (onZ [9,13,14,15,16]<| .take 17<| .take 18<| .one 19<| .fin) (.one 9 (.alt 4 (onZ [13,14,15,16]<| .take 17<| .take 18<| .one 19<| .fin) (.one 13 (.alt 4 (onZ [14,15,16]<| .take 17<| .take 18<| .one 19<| .fin) (.one 14 (.alt 4 (.one 15<| .one 16<| .take 17<| .take 18<| .one 19<| .fin) (.one 15 (.one 4<| .one 16<| .take 17<| .take 18<| .one 19<| .fin)))))))))))))
abbrev hN(g:Gr)(A:List Pq)(C:Cl):H:=[.cells [vi g.ins,ay g.next,ay g.init,prs g.ands,ay g.outs],.cells [vi 0,.nils,.nils,.nils,.nils],.cells [vi g.ins,ay g.next,ay g.init,prs g.ands,ay g.outs],.cells (g.init.map vi),.cells [vi g.ins,ay g.next,.ls 3 1 0 g.init.length g.init.length,.nils,.nils],.map (A.map prV) (H5 g.first A.length),bo g.ins g.next 3 g.init.length 7 A.length .nils 5 8 C.length,.cells (fl A),.cells (C.map vi)]
def InN(g:Gr)(s:List Pq×Cl)(h:H):Prop:=∃X,h=hN g s.1 s.2++X
theorem l9{p:Nat->Bool}:∀ {A:List Pq},V.drops p (fl A)=fl A
 |[]=>rfl
 |a::A=>by show V.drops p (vi a.1::vi a.2::fl A)=_;simp only[V.drops,V.drop,l9 (A:=A)];rfl
theorem jX{p:Nat->Bool}:∀ {A:List Pq},V.drops p (A.map prV)=A.map prV
 |[]=>rfl
 |a::A=>by rw[zrd,V.drops,jX (A:=A)];rfl
variable{n:Nat}
theorem kT{p:Nat->Bool}{f:Int}:V.drops p (H5 f n)=H5 f n:=by
 unfold H5;generalize List.range n=l
 induction l with
 |nil=>rfl
 |cons a l ih=>rw[zrd,V.drops,ih];rfl
variable{g:Gr}{A:List Pq}{C:Cl}
theorem zi:kz (hN g A C):=fun p hp=>by have h3:=hp 3 (show 3<9 by decide);have h5:=hp 5 (show 5<9 by decide);have h7:=hp 7 (show 7<9 by decide);have h8:=hp 8 (show 8<9 by decide);have d1:V.drops p (g.init.map vi)=g.init.map vi:=aI _;have d2:V.drops p (C.map vi)=C.map vi:=aI _;simp only[wq.1,↓reduceIte,hN,bo,O.drop,V.drops,V.drop,h3,h5,h7,h8,d1,d2,l9,jX,kT]
theorem Xw{x y:Int}:∀(j:Nat)(o:O),(hN g A C++[.cells [vi x,vi y]])[j]? =some o->j≠6->o.drop (·==7)=o:=by
 intro j o ho hne;have d1:V.drops (·==7) (g.init.map vi)=g.init.map vi:=aI _;have d2:V.drops (·==7) (C.map vi)=C.map vi:=aI _;rcases j with _|_|_|_|_|_|_|_|_|_|j
 all_goals first
  |exact absurd rfl hne
  |(obtain rfl:=Option.some.inj ho;simp only[wq.1,seval,O.drop,V.drops,V.drop,d1,d2,l9,jX,kT])
  |(simp at ho)
abbrev hQ(g x:Gr)(L:List Bool)(A:List Pq)(C:Cl):H:=[.cells [vi g.ins,ay g.next,ay g.init,prs g.ands,ay g.outs],.cells [vi 0,.nils,.nils,.nils,.nils],.dead,.dead,.dead,.dead,.dead,.dead,.dead,.dead,.dead,.dead,.dead,.cells [vi x.ins,ay x.next,ay x.init,prs x.ands,ay x.outs],.cells (L.map V.bool),.cells [vi x.ins,ay x.next,ay x.init,prs x.ands,ay x.outs],.cells (x.init.map vi),.cells [vi x.ins,ay x.next,.ls 16 1 0 x.init.length x.init.length,.nils,.nils],.map (A.map prV) (H5 x.first A.length),bo x.ins x.next 16 x.init.length 20 A.length .nils 18 21 C.length,.cells (fl A),.cells (C.map vi)]
def InM(g x:Gr)(L:List Bool)(s:List Pq×Cl)(h:H):Prop:=∃X,h=hQ g x L s.1 s.2++X
theorem uo{p:Nat->Bool}:∀ {L:List Bool},V.drops p (L.map V.bool)=L.map V.bool
 |[]=>rfl
 |a::A=>by rw[zrd,V.drops,uo (L:=A)];rfl
variable{x:Gr}{L:List Bool}
theorem zn:kz (hQ g x L A C):=fun p hp=>by have h3:=hp 16 (show 16<22 by decide);have h5:=hp 18 (show 18<22 by decide);have h7:=hp 20 (show 20<22 by decide);have h8:=hp 21 (show 21<22 by decide);have d1:V.drops p (x.init.map vi)=x.init.map vi:=aI _;have d2:V.drops p (C.map vi)=C.map vi:=aI _;simp only[wq.1,↓reduceIte,hQ,bo,O.drop,V.drops,V.drop,h3,h5,h7,h8,d1,d2,l9,jX,kT,uo]
theorem Xx{u v:Int}:∀(j:Nat)(o:O),(hQ g x L A C++[.cells [vi u,vi v]])[j]? =some o->j≠19->o.drop (·==20)=o:=by
 intro j o ho hne;have d1:V.drops (·==20) (x.init.map vi)=x.init.map vi:=aI _;have d2:V.drops (·==20) (C.map vi)=C.map vi:=aI _;rcases j with _|_|_|_|_|_|_|_|_|_|_|_|_|_|_|_|_|_|_|_|_|_|_|j
 all_goals first
  |exact absurd rfl hne
  |(obtain rfl:=Option.some.inj ho;simp only[wq.1,seval,O.drop,V.drops,V.drop,d1,d2,l9,jX,kT,uo])
  |(simp at ho)
theorem FB(hg:g.chk=0):Ev TE 26 [g.v] (.tup [(aY g).v,vi 0]):=by
 have hM:=mLx;obtain⟨_,i0,i1,i2,i3,i4,i5⟩:=aW hg;obtain⟨r1,r2,r3,r4⟩:=aN i4;have wf:g.first=1+g.ins+g.next.length:=rfl
 have hck:=kR g ⟨by omega,by omega⟩;rw[hg]at hck;obtain⟨y,hy⟩:∃y,y=aY g:=⟨_,rfl⟩;rw[<-hy];unfold Gr.v at hck;rw[show g.v= .agg [vi g.ins,ay g.next,ay g.init,prs g.ands,ay g.outs]from rfl];refine aF Tryz.func26 rfl (by simp[nts]) ?_;refine vn ?_;simp only[wq.1,Nat.reduceLT,Tryz.results26];refine vn ?_;simp only[wq.1,seval];refine ag.ev hck (by simp only[V.dats,V.dat,zre]) ?_;simp only[wq.1,seval];refine vn ?_;simp only[wq.1,seval];refine zh (h:=[.cells [vi g.ins,ay g.next,ay g.init,prs g.ands,ay g.outs],.cells [vi 0,.nils,.nils,.nils,.nils]]) (fun p hp=>by simp only[wq.1,O.drop,V.drops,V.drop]) hg ?_;simp only[wq.1,seval];obtain⟨s1,hs1⟩:∃s1,s1=cu g (fun _=>true) g.ands.length:=⟨_,rfl⟩;refine ak (dh (Q:=fun xe f h=>xe= .normal/\f.t 1= .lp 0 0/\f.t 2= .lp 1 0/\f.t 5= .lp 6 0/\f.d=[]/\InN g s1 h) ?_ ?_)
 ·rintro xe f h ⟨rfl,t1,t2,t5,hd,X,rfl⟩;show awp _ _ _ _ _ _ _;obtain⟨q1,q2,q3⟩:=jC (g:=g) i0 (fun _=>true) g.ands.length;have hxc:=xh hg (fun _=>true);rw[<-hs1]at q1 q2 q3 hxc;have hym:y=um (um g s1) (cu (um g s1) (fun i=>(vJ (um g s1)).getD ((um g s1).first+(i:Int)).toNat false) (um g s1).ands.length):=by rw[hy,hs1];rfl
  clear hs1 hy;obtain⟨A,C⟩:=s1;dsimp only at q1 q2 q3 ⊢;refine gp (by rw[hd];simp) ?_;rw[zi.from_];obtain⟨f',hf'⟩:∃f',f'=f.drop (Abs.aJ (hN g A C).length):=⟨_,rfl⟩;have u1:f'.t 1= .lp 0 0:=by rw[hf'];show(f.t 1).drop _=_;rw[t1];rfl
  have u2:f'.t 2= .lp 1 0:=by rw[hf'];show(f.t 2).drop _=_;rw[t2];rfl
  have u5:f'.t 5= .lp 6 0:=by rw[hf'];show(f.t 5).drop _=_;rw[t5];rfl
  have ud:f'.d=[]:=by rw[hf'];exact hd
  rw[<-hf'];clear hf' t1 t2 t5 hd;have hCb:∀x∈C,0<=x/\x<=1000000:=fun x hx=>by have:=q3 x hx;omega
  have wa:g.all=2*(g.first+g.ands.length):=rfl;have hcl:=zi (g:=g) (A:=A) (C:=C);refine vn ?_;simp only[wq.1,seval,u1,u5];refine AU (x:=g) (b:=6) (c:=8) (J:=3) (a:=7) (m:=5) (n1:=g.ins) (nx:=g.next) (outs:= .nils) (k:=g.init.length) (la:=A.length) (C:=C) hcl (by omega) (by omega) (fun a ha=>by have:=r3 a ha;omega) (fun a ha=>by have:=r4 a ha;omega) hCb (by rfl) (by rfl) (fun X Y=> ?_);simp only[wq.1,seval];obtain⟨x,hx⟩:∃x,x=um g (A,C):=⟨_,rfl⟩;rw[<-hx]at hxc hym;obtain⟨p,hp⟩:∃p:Nat->Bool,p=fun i=>decide (2<=i)&&decide (i<=12):=⟨_,rfl⟩;refine Eh p [.cells [vi g.ins,ay g.next,ay g.init,prs g.ands,ay g.outs],.cells [vi 0,.nils,.nils,.nils,.nils],.dead,.dead,.dead,.dead,.dead,.dead,.dead,.dead,.dead,.dead,.dead,.cells [vi x.ins,ay x.next,ay x.init,prs x.ands,ay x.outs]] ?_ ?_ (fun i hi=>by simp[Eb,ud]at hi) ?_
  ·intro i hi;rcases i with _|_|i
   ·exact .inl (by rw[hp];rfl)
   ·exact .inl (by rw[hp];rfl)
   ·by_cases h11:i=11
    ·subst h11;refine .inr ⟨_,_,rfl,rfl,?_⟩;rw[hx];refine⟨.inl rfl,.inr ⟨?_,dw ?_ ?_⟩,.inr ⟨?_,dw ?_ ?_⟩,.inr ⟨?_,l7 ?_ ?_⟩,.inr ⟨?_,dw ?_ ?_⟩,trivial⟩
     ·rw[hp];rfl
     ·rw[hp];show some (O.cells (V.drops _ _))=_;rw[aI];rfl
     ·simp[um]
     ·rw[hp];rfl
     ·rw[hp];show some (O.cells (V.drops _ _))=_;rw[aI];rfl
     ·rfl
     ·rw[hp];rfl
     ·rw[hp];show some (O.cells (V.drops _ _))=_;rw[l9];rfl
     ·rfl
     ·rw[hp];rfl
     ·rw[hp];show some (O.cells (V.drops _ _))=_;rw[aI];rfl
     ·simp[um]
    ·by_cases hb:i<11
     ·rw[hp]at hi;simp only[Bool.and_eq_false_iff,zqd]at hi;omega
     ·obtain⟨j,rfl⟩:∃j,i=12+j:=⟨i-12,by omega⟩;exact .inl (by rw[zsj (by simp),zsj (by simp)];rfl)
  ·intro i o hi ho;rw[hp]at hi;simp only[zqf,zqb]at hi;rcases i with _|_|_|_|_|_|_|_|_|_|_|_|_|i
   all_goals first
    |omega
    |exact(Option.some.inj ho).symm
  ·refine iU (fun f'=>f'.t 1= .lp 0 0/\f'.t 2= .lp 1 0/\f'.t 8= .lp 13 0/\f'.d=[]) [.cells [vi g.ins,ay g.next,ay g.init,prs g.ands,ay g.outs],.cells [vi 0,.nils,.nils,.nils,.nils],.dead,.dead,.dead,.dead,.dead,.dead,.dead,.dead,.dead,.dead,.dead,.cells [vi x.ins,ay x.next,ay x.init,prs x.ands,ay x.outs]] (fun hk=>hk _ ⟨?_,?_,?_,?_⟩) ?_
   ·simp only[wq.1,seval,u1,hp]
   ·simp only[wq.1,seval,u2,hp]
   ·simp only[wq.1,seval,hp]
   ·simp only[wq.1,ud]
   ·clear hcl hCb q1 q2 q3 u1 u2 u5 ud hx hp;clear p f' X Y f;rintro f ⟨t1,t2,t8,hd⟩;have hld:=VH hxc;obtain⟨_,j0,j1,j2,j3,j4,j5⟩:=aW hxc;obtain⟨v1,v2,v3,v4⟩:=aN j4;have xf:x.first=1+x.ins+x.next.length:=rfl
    obtain⟨L,hL⟩:∃L,L=vJ x:=⟨_,rfl⟩;have hLl:L.length=x.vars:=by rw[hL];exact Td
    obtain⟨n,hn⟩:∃n,n=x.vars:=⟨_,rfl⟩;have hnv:(n:Int)=x.first+x.ands.length:=by rw[hn];unfold Gr.vars;omega
    rw[<-hL]at hld hym;rw[<-hn]at hld hLl;unfold Gr.v at hld;have dbl:V.dats (L.map V.bool)=true:=lu _;have dbo:∀p,V.drops p (L.map V.bool)=L.map V.bool:=fun p=>uo;refine vn ?_;simp only[wq.1,seval,t8];refine jG hld (by simp only[V.dats,V.dat,zre]) dbl ?_;simp only[wq.1,seval];refine vn ?_;simp only[wq.1,seval,t8];refine zh (h:=[.cells [vi g.ins,ay g.next,ay g.init,prs g.ands,ay g.outs],.cells [vi 0,.nils,.nils,.nils,.nils],.dead,.dead,.dead,.dead,.dead,.dead,.dead,.dead,.dead,.dead,.dead,.cells [vi x.ins,ay x.next,ay x.init,prs x.ands,ay x.outs],.cells (L.map V.bool)]) (fun p hp=>by simp only[wq.1,O.drop,V.drops,V.drop,dbo]) hxc ?_;simp only[wq.1,seval];obtain⟨use,hu⟩:∃use,use=fun i:Nat=>L.getD (x.first+(i:Int)).toNat false:=⟨_,rfl⟩;rw[<-hu]at hym;obtain⟨s1,hs1⟩:∃s1,s1=cu x use x.ands.length:=⟨_,rfl⟩;rw[<-hs1]at hym;refine ak (dh (Q:=fun xe f h=>xe= .normal/\f.t 2= .lp 1 0/\f.t 8= .lp 13 0/\f.t 10= .lp 19 0/\f.d=[]/\InM g x L s1 h) ?_ ?_)
    ·rintro xe f h ⟨rfl,t2,t8,t10,hd,X,rfl⟩;show awp _ _ _ _ _ _ _;obtain⟨q1,q2,q3⟩:=jC (g:=x) j0 use x.ands.length;rw[<-hs1]at q1 q2 q3;clear hs1;obtain⟨A,C⟩:=s1;dsimp only at q1 q2 q3 ⊢;refine gp (by rw[hd];simp) ?_;rw[zn.from_];obtain⟨f',hf'⟩:∃f',f'=f.drop (Abs.aJ (hQ g x L A C).length):=⟨_,rfl⟩;have u2:f'.t 2= .lp 1 0:=by rw[hf'];show(f.t 2).drop _=_;rw[t2];rfl
     have u8:f'.t 8= .lp 13 0:=by rw[hf'];show(f.t 8).drop _=_;rw[t8];rfl
     have u10:f'.t 10= .lp 19 0:=by rw[hf'];show(f.t 10).drop _=_;rw[t10];rfl
     have ud:f'.d=[]:=by rw[hf'];exact hd
     rw[<-hf'];clear hf' t2 t8 t10 hd;have hCb:∀x∈C,0<=x/\x<=1000000:=fun x hx=>by have:=q3 x hx;omega
     have wa:x.all=2*(x.first+x.ands.length):=rfl;have hcl:=zn (g:=g) (x:=x) (L:=L) (A:=A) (C:=C);refine vn ?_;simp only[wq.1,seval,u8,u10];refine AU (x:=x) (b:=19) (c:=21) (J:=16) (a:=20) (m:=18) (n1:=x.ins) (nx:=x.next) (outs:= .nils) (k:=x.init.length) (la:=A.length) (C:=C) hcl (by omega) (by omega) (fun a ha=>by have:=v3 a ha;omega) (fun a ha=>by have:=v4 a ha;omega) hCb (by rfl) (by rfl) (fun X Y=> ?_);simp only[wq.1,seval,u2];refine vm ?_;simp only[wq.1,seval,u2,ud];rw[hym];show aH TE _ _ (V.tup [.agg [vi x.ins,ay (x.next.map (dZ C)),ay x.init,prs A,ay (x.outs.map (dZ C))],vi 0]);exact aH.tup (aj.cons (aH.agg (aj.cons (aH.dat rfl) (aj.cons (dw rfl (by simp)) (aj.cons (dw rfl rfl) (aj.cons (l7 rfl rfl) (aj.cons (dw rfl (by simp)) aj.nil)))))) (aj.dat rfl))
    ·refine vn ?_;simp only[wq.1,seval,t8];refine aB ?_;refine aC (fun m f h=>∃i,m+i=x.ands.length/\f.t 2= .lp 1 0/\f.t 8= .lp 13 0/\f.t 9= .ls 14 1 0 n n/\f.t 10= .lp 19 0/\f.t 57=prs x.ands/\f.t 58=vi x.ands.length/\f.t 59=vi i/\f.d=[]/\InM g x L (cu x use i) h) x.ands.length ⟨0,by omega,t2,t8,rfl,rfl,rfl,rfl,rfl,hd,[],?_⟩ ?_
     ·rw[zqp];show _=hQ g x L [] (qc x.first.toNat);unfold hQ bo;rw[zf];rfl
     ·rintro m f h ⟨i,hm,t2,t8,t9,t10,t57,t58,t59,hd,X,rfl⟩;obtain⟨q1,q2,q3⟩:=jC (g:=x) j0 use i;obtain⟨A,C,hAC⟩:∃A C,cu x use i=(A,C):=⟨_,_,rfl⟩;have hst:cu x use (i+1)=lQ x.first (use i) (cu x use i) (x.ands.getD i (0,0)):=rfl
      rw[hAC]at q1 q2 q3 hst ⊢;dsimp only at q1 q2 q3 ⊢;refine gp (by rw[hd];simp) ?_;rw[zn.from_];obtain⟨f',hf'⟩:∃f',f'=f.drop (Abs.aJ (hQ g x L A C).length):=⟨_,rfl⟩;have u2:f'.t 2= .lp 1 0:=by rw[hf'];show(f.t 2).drop _=_;rw[t2];rfl
      have u8:f'.t 8= .lp 13 0:=by rw[hf'];show(f.t 8).drop _=_;rw[t8];rfl
      have u9:f'.t 9= .ls 14 1 0 n n:=by rw[hf'];show(f.t 9).drop _=_;rw[t9];rfl
      have u10:f'.t 10= .lp 19 0:=by rw[hf'];show(f.t 10).drop _=_;rw[t10];rfl
      have u57:f'.t 57=prs x.ands:=by rw[hf'];show(f.t 57).drop _=_;rw[t57];rfl
      have u58:f'.t 58=vi x.ands.length:=by rw[hf'];show(f.t 58).drop _=_;rw[t58];rfl
      have u59:f'.t 59=vi i:=by rw[hf'];show(f.t 59).drop _=_;rw[t59];rfl
      have ud:f'.d=[]:=by rw[hf'];exact hd
      rw[<-hf'];clear hf' t2 t8 t9 t10 t57 t58 t59 hd;refine vn ?_;simp only[wq.1,Nat.reduceLT,u58,u59];refine ak (aV (b:=decide ((i:Int)<x.ands.length)) (by simp only[wq.1,↓reduceIte]) (by simp only[wq.1,↓reduceIte]) (fun hlt=> ?_) (fun hlt=> ?_))
      ·simp only[zqb,zqi]at hlt;refine vm ?_;simp only[wq.1];have hgp:=Pz hlt V.any;have hfst:=jT x (by omega) (by omega) (by omega);have wn:IntKind.i64.wrap (x.first+(i:Int))=x.first+i:=aU (by omega) (by omega)
       have hvn:(x.first+(i:Int)).toNat<L.length:=by rw[hLl];omega
       have hgd:(L.map V.bool).getD ((x.first+(i:Int)).toNat*1) V.any=V.bool (use i):=by rw[hu,Nat.mul_one,zqg,zqo,zqk hvn];show V.bool _=V.bool (L.getD _ false);rw[aS hvn]
       have x1:0<=x.first+(i:Int):=by omega
       have x2:x.first+(i:Int)<n:=by omega
       have x3:(x.first+(i:Int)).toNat*1+1<=L.length:=by omega
       obtain⟨o1,o2,o3,o4⟩:=iD j5 hlt;have hCb:∀x∈C,0<=x/\x<=1000000:=fun x hx=>by have:=q3 x hx;omega
       have hAi:A.length<=i:=q1;unfold Gr.v at hfst;refine ak (aB ?_);refine vn ?_;simp only[wq.1,seval,u57,u59,hgp];refine⟨⟨by omega,by omega⟩,?_⟩;refine vn ?_;simp only[wq.1,Nat.reduceLT];refine ak ?_;refine vn ?_;simp only[wq.1,seval,u8,u9];refine ag.ev hfst (by simp only[V.dats,V.dat,zre]) ?_;simp only[wq.1,↓reduceIte,Nat.reduceEqDiff,Nat.reduceLT,wn,x1,x2,x3,hgd];obtain⟨w1,hw1⟩:∃w1,w1=dZ C x.ands[i].1:=⟨_,rfl⟩;obtain⟨w2,hw2⟩:∃w2,w2=dZ C x.ands[i].2:=⟨_,rfl⟩;have b1:=jy (a:=x.ands[i].1) (k:=x.first+A.length) (by omega) q3;have b2:=jy (a:=x.ands[i].2) (k:=x.first+A.length) (by omega) q3;rw[<-hw1]at b1;rw[<-hw2]at b2;obtain⟨r,hr⟩:∃r,r=if use i then jg x.first A w1 w2 else(A,0):=⟨_,rfl⟩
       have hst2:cu x use (i+1)=(r.1,C++[r.2]):=by
        rw[hst,aS hlt,hr];unfold lQ;cases use i with
        |true=>rw[if_pos rfl,if_pos rfl,hw1,hw2]
        |false=>rw[if_neg (by decide),if_neg (by decide)]
       refine dh (Q:=fun xe f h=>xe= .normal/\f.t 2= .lp 1 0/\f.t 8= .lp 13 0/\f.t 9= .ls 14 1 0 n n/\f.t 10= .lp 19 0/\f.t 57=prs x.ands/\f.t 58=vi x.ands.length/\f.t 59=vi i/\f.t 13=vi r.2/\f.d=[]/\∃X,h=hQ g x L r.1 C++X) ?_ ?_
       ·rintro xe f h ⟨rfl,t2,t8,t9,t10,t57,t58,t59,t13,hd,X,rfl⟩;have hw:=aA (show i<maxLen by omega);have d1:V.drops (fun x=>x==21) (x.init.map vi)=x.init.map vi:=aI _;have d2:V.drops (fun x=>x==21) (C.map vi)=C.map vi:=aI _;show awp _ _ _ _ _ _ _;refine vm ?_;simp only[wq.1,↓reduceIte,Nat.reduceEqDiff,Nat.reduceLT,Nat.reduceAdd,Nat.reduceBEq,reduceCtorEq,Nat.reduceMul,t10,t13,hd,bo,l9,jX,kT,uo,d1,d2];refine⟨⟨rfl,by decide⟩,⟨by omega,by omega,by omega⟩,?_⟩;refine vm ?_;simp only[wq.1,seval,t59,hw];refine .inl ⟨m-1,by omega,i+1,by omega,by simp only[wq.1,seval,t2],by simp only[wq.1,seval,t8],by simp only[wq.1,seval,t9],by simp only[wq.1,seval,t10],by simp only[wq.1,seval,t57],by simp only[wq.1,seval,t58],rfl,hd,List.map (O.drop fun x=>x==21) X,?_⟩;rw[hst2];show _=hQ g x L r.1 (C++[r.2])++_;unfold hQ bo;rw[zqa,zql];rfl
       ·refine aV (b:=use i) (by simp only[wq.1,↓reduceIte]) (by simp only[wq.1,↓reduceIte]) (fun hb=> ?_) (fun hb=> ?_)
        ·rw[hb,if_pos rfl]at hr;refine bM dV PE (fun f h=>f.t 2= .lp 1 0/\f.t 8= .lp 13 0/\f.t 9= .ls 14 1 0 n n/\f.t 10= .lp 19 0/\f.t 57=prs x.ands/\f.t 58=vi x.ands.length/\f.t 59=vi i/\f.t 13=vi r.2/\f.d=[]/\∃X,h=hQ g x L r.1 C++X) (by decide +kernel) (by decide +kernel) ?_ (fun f h hr=>⟨rfl,hr⟩);simp only[wq.1,seval,PE,u10,bo]
         repeat' apply zsa
         all_goals first
          |decide
          |skip
         all_goals
          refine nP (c:=21) o1 (by omega) (by omega) hCb (by rfl) (by rfl) ?_;simp only[wq.1,seval,<-hw1]
          repeat' apply zsa
         all_goals first
          |decide
          |skip
         all_goals
          refine nP (c:=21) o2 (by omega) (by omega) hCb (by rfl) (by rfl) ?_;simp only[wq.1,seval,<-hw2]
          repeat' apply zsa
         all_goals
          refine Fv (b:=19) (a:=20) (J:=16) (m:=18) (c:=21) (lc:=C.length) (ini:=x.init) (nx:=x.next) (n1:=x.ins) (f0:=x.first) (A:=A) xf j0 (by omega) (by omega) (by omega) (by omega) b1.1 (by omega) b2.1 (by omega) (by rfl) (by rfl) (by rfl) (by rfl) Xx (by decide) (by decide) (by decide) (fun X=> ?_);rw[<-hr];simp only[wq.1,seval,bJ,u2,u8,u9,u10,u57,u58,u59,ud];exact⟨_,rfl⟩
        ·rw[hb,if_neg (by decide)]at hr;subst hr;refine vm ?_;simp only[wq.1,seval,u2,u8,u9,u10,u57,u58,u59,ud];exact⟨_,rfl⟩
      ·simp only[zqd,zqi]at hlt;have hi:i=x.ands.length:=by omega
       subst hi;refine vm ?_;simp only[wq.1,seval,u2,u8,u10,ud];rw[hs1,hAC];exact⟨[],(zqp _).symm⟩
 ·refine vn ?_;simp only[wq.1,seval];refine aB ?_;refine aC (fun m f h=>∃i,m+i=g.ands.length/\f.t 1= .lp 0 0/\f.t 2= .lp 1 0/\f.t 5= .lp 6 0/\f.t 23=prs g.ands/\f.t 24=vi g.ands.length/\f.t 25=vi i/\f.d=[]/\InN g (cu g (fun _=>true) i) h) g.ands.length ⟨0,by omega,rfl,rfl,rfl,rfl,rfl,rfl,rfl,[],?_⟩ ?_
  ·rw[zqp];show _=hN g [] (qc g.first.toNat);unfold hN bo;rw[zf];rfl
  ·rintro m f h ⟨i,hm,t1,t2,t5,t23,t24,t25,hd,X,rfl⟩;obtain⟨q1,q2,q3⟩:=jC (g:=g) i0 (fun _=>true) i;obtain⟨A,C,hAC⟩:∃A C,cu g (fun _=>true) i=(A,C):=⟨_,_,rfl⟩;have hst:cu g (fun _=>true) (i+1)=lQ g.first true (cu g (fun _=>true) i) (g.ands.getD i (0,0)):=rfl
   rw[hAC]at q1 q2 q3 hst ⊢;dsimp only at q1 q2 q3 ⊢;refine gp (by rw[hd];simp) ?_;rw[zi.from_];obtain⟨f',hf'⟩:∃f',f'=f.drop (Abs.aJ (hN g A C).length):=⟨_,rfl⟩;have u1:f'.t 1= .lp 0 0:=by rw[hf'];show(f.t 1).drop _=_;rw[t1];rfl
   have u2:f'.t 2= .lp 1 0:=by rw[hf'];show(f.t 2).drop _=_;rw[t2];rfl
   have u5:f'.t 5= .lp 6 0:=by rw[hf'];show(f.t 5).drop _=_;rw[t5];rfl
   have u23:f'.t 23=prs g.ands:=by rw[hf'];show(f.t 23).drop _=_;rw[t23];rfl
   have u24:f'.t 24=vi g.ands.length:=by rw[hf'];show(f.t 24).drop _=_;rw[t24];rfl
   have u25:f'.t 25=vi i:=by rw[hf'];show(f.t 25).drop _=_;rw[t25];rfl
   have ud:f'.d=[]:=by rw[hf'];exact hd
   rw[<-hf'];clear hf' t1 t2 t5 t23 t24 t25 hd;refine vn ?_;simp only[wq.1,Nat.reduceLT,u24,u25];refine ak (aV (b:=decide ((i:Int)<g.ands.length)) (by simp only[wq.1,↓reduceIte]) (by simp only[wq.1,↓reduceIte]) (fun hlt=> ?_) (fun hlt=> ?_))
   ·simp only[zqb,zqi]at hlt;refine vm ?_;simp only[wq.1];have hgp:=Pz hlt V.any;refine ak (aB ?_);refine vn ?_;simp only[wq.1,seval,u23,u25,hgp];refine⟨⟨by omega,by omega⟩,?_⟩;refine dh (Q:=fun xe f h=>xe= .normal/\f.t 1= .lp 0 0/\f.t 2= .lp 1 0/\f.t 5= .lp 6 0/\f.t 23=prs g.ands/\f.t 24=vi g.ands.length/\f.t 25=vi i/\f.d=[]/\InN g (cu g (fun _=>true) (i+1)) h) ?_ ?_
    ·rintro xe f h ⟨rfl,t1,t2,t5,t23,t24,t25,hd,hin⟩;have hw:=aA (show i<maxLen by omega);refine vm ?_;simp only[wq.1,seval,t25,hw];exact .inl ⟨m-1,by omega,i+1,by omega,t1,t2,t5,t23,t24,rfl,hd,hin⟩
    ·obtain⟨o1,o2,o3,o4⟩:=iD i5 hlt;have hCb:∀x∈C,0<=x/\x<=1000000:=fun x hx=>by have:=q3 x hx;omega
     have hAi:A.length<=i:=q1;obtain⟨v1,hv1⟩:∃v1,v1=dZ C g.ands[i].1:=⟨_,rfl⟩;obtain⟨v2,hv2⟩:∃v2,v2=dZ C g.ands[i].2:=⟨_,rfl⟩;have b1:=jy (a:=g.ands[i].1) (k:=g.first+A.length) (by omega) q3;have b2:=jy (a:=g.ands[i].2) (k:=g.first+A.length) (by omega) q3;rw[<-hv1]at b1;rw[<-hv2]at b2;obtain⟨r,hr⟩:∃r,r=jg g.first A v1 v2:=⟨_,rfl⟩
     have hst2:cu g (fun _=>true) (i+1)=(r.1,C++[r.2]):=by rw[hst,aS hlt];unfold lQ;rw[if_pos rfl,<-hv1,<-hv2,<-hr]
     rw[hst2];have d1:V.drops (fun x=>x==8) (g.init.map vi)=g.init.map vi:=aI _;have d2:V.drops (fun x=>x==8) (C.map vi)=C.map vi:=aI _;refine bM dV Ux (fun f h=>f.t 1= .lp 0 0/\f.t 2= .lp 1 0/\f.t 5= .lp 6 0/\f.t 23=prs g.ands/\f.t 24=vi g.ands.length/\f.t 25=vi i/\f.d=[]/\InN g (r.1,C++[r.2]) h) (by decide +kernel) (by decide +kernel) ?_ (fun f h hr=>⟨rfl,hr⟩);simp only[wq.1,seval,Ux,u5,bo]
     repeat' apply zsa
     all_goals first
      |decide
      |skip
     all_goals
      refine nP (c:=8) o1 (by omega) (by omega) hCb (by rfl) (by rfl) ?_;simp only[wq.1,seval,<-hv1]
      repeat' apply zsa
     all_goals first
      |decide
      |skip
     all_goals
      refine nP (c:=8) o2 (by omega) (by omega) hCb (by rfl) (by rfl) ?_;simp only[wq.1,seval,aG,Tryz.results26,bJ,u1,u2,u5,u23,u24,u25,ud,<-hv2]
      repeat' apply zsa
     all_goals
      refine Fv (b:=6) (a:=7) (J:=3) (m:=5) (c:=8) (lc:=C.length) (ini:=g.init) (nx:=g.next) (n1:=g.ins) (f0:=g.first) (A:=A) wf i0 (by omega) (by omega) (by omega) (by omega) b1.1 (by omega) b2.1 (by omega) (by rfl) (by rfl) (by rfl) (by rfl) Xw (by decide) (by decide) (by decide) (fun X=> ?_);rw[<-hr];simp only[wq.1,↓reduceIte,Nat.reduceEqDiff,Nat.reduceLT,Nat.reduceLeDiff,Nat.reduceAdd,Nat.reduceSub,Int.reduceToNat,Nat.reduceDiv,Int.reduceLT,Int.reduceLE,Int.reduceNeg,Int.reduceBEq,Int.reduceBNe,Int.reduceAdd,Int.reduceSub,Nat.reduceBEq,reduceCtorEq,Nat.reduceMul,aG,Tryz.results26,bJ,u1,u2,u5,u23,u24,u25,ud,l9,jX,kT,d1,d2];refine⟨⟨rfl,by decide⟩,⟨by omega,by omega,by omega⟩,.cells [vi g.ands[i].1,vi g.ands[i].2]::List.map (O.drop fun x=>x==8) X,?_⟩;show _=hN g r.1 (C++[r.2])++_;unfold hN bo;rw[zqa,zql];rfl
   ·simp only[zqd,zqi]at hlt;have hi:i=g.ands.length:=by omega
    subst hi;refine vm ?_;simp only[wq.1,seval,u1,u2,u5,ud];rw[hs1,hAC];exact⟨[],(zqp _).symm⟩
def Wl(f:Nat)(use:Nat->Bool)(v:Nat):Prop:=v<f\/use (v-f)=true
def Tf(g:Gr)(use:Nat->Bool):Prop:=∀i (hi:i<g.ands.length),use i=true->Wl g.first.toNat use (g.ands[i].1/2).toNat/\Wl g.first.toNat use (g.ands[i].2/2).toNat
variable{v:List Bool}
theorem qG{l:Int}{w:Nat}:(wG v l).getD w false=((decide ((l/2).toNat=w)&&decide (w<v.length))||v.getD w false):=by
 unfold wG;rw[zqg,List.getElem?_set];by_cases h:(l/2).toNat=w
 ·rw[if_pos h];by_cases hw:w<v.length
  ·rw[if_pos (by omega)];simp[h,hw]
  ·rw[if_neg (by omega)];simp[h,hw,zqg,zsj (show v.length<=w by omega)]
 ·rw[if_neg h];simp[h,zqg]
theorem Df{l:Int}{w:Nat}(h:v.getD w false=true):(wG v l).getD w false=true:=by rw[qG,h,Bool.or_true]
theorem zo{k:Nat}:Ad g v (k+1)=if(Ad g v k).getD (g.first+((g.ands.length-1-k:Nat):Int)).toNat false then wG (wG (Ad g v k) (g.ands.getD (g.ands.length-1-k) (0,0)).1) (g.ands.getD (g.ands.length-1-k) (0,0)).2 else Ad g v k:=rfl
theorem Dh{g:Gr}{v:List Bool}{w k:Nat}:∀ {k':Nat},k<=k'->(Ad g v k).getD w false=true->(Ad g v k').getD w false=true
 |0,h,hk=>by rw[show k=0 by omega]at hk;exact hk
 |k'+1,h,hk=>by
  by_cases he:k=k'+1
  ·rw[he]at hk;exact hk
  ·have ih:=Dh (k':=k') (by omega) hk;rw[zo];split
   ·exact Df (Df ih)
   ·exact ih
theorem FC{g:Gr}(hg:g.chk=0){v:List Bool}{w k:Nat}(hw:g.first+((g.ands.length-1-k:Nat):Int)<=w):∀ {k':Nat},k<=k'->k'<=g.ands.length->(Ad g v k').getD w false=(Ad g v k).getD w false
 |0,h,_=>by rw[show k=0 by omega]
 |k'+1,h,hl=>by
  by_cases he:k=k'+1
  ·rw[he]
  ·obtain⟨_,i0,i1,i2,i3,i4,i5⟩:=aW hg;have ih:=FC hg (v:=v) hw (k':=k') (by omega) (by omega);have hp:g.ands.length-1-k'<g.ands.length:=by omega
   obtain⟨o1,o2,o3,o4⟩:=iD i5 hp;have hf:=lI i0;rw[zo,aS hp];split
   ·rw[qG,qG,ih];have d1:((g.ands[g.ands.length-1-k'].1/2).toNat=w)=False:=by simp;omega
    have d2:((g.ands[g.ands.length-1-k'].2/2).toNat=w)=False:=by simp;omega
    simp[d1,d2]
   ·exact ih
theorem LQ(hg:g.chk=0){i:Nat}(hi:i<g.ands.length)(h:(vJ g).getD (g.first+(i:Int)).toNat false=true) :
 (vJ g).getD (g.ands[i].1/2).toNat false=true/\(vJ g).getD (g.ands[i].2/2).toNat false=true:=by
 obtain⟨_,i0,i1,i2,i3,i4,i5⟩:=aW hg;have hf:=lI i0;obtain⟨o1,o2,o3,o4⟩:=iD i5 hi;unfold vJ at h ⊢;obtain⟨v,hv⟩:∃v,v=Jt g (List.replicate g.vars false) (g.next++g.outs).length:=⟨_,rfl⟩;have hvl:v.length=g.vars:=by rw[hv,Ju,zsc]
 rw[<-hv]at h ⊢;have hk:g.ands.length-1-(g.ands.length-1-i)=i:=by omega
 have hkk:=FC hg (v:=v) (w:=(g.first+(i:Int)).toNat) (k:=g.ands.length-1-i) (by rw[hk];omega) (k':=g.ands.length) (by omega) (zrb _);rw[hkk]at h;have hs:=zo (g:=g) (v:=v) (k:=g.ands.length-1-i);rw[hk,if_pos h,aS hi]at hs;have hvv:(g.vars:Int)=g.first+g.ands.length:=by
  have:g.first=1+g.ins+g.next.length:=rfl
  unfold Gr.vars;omega
 have hl:∀k,(Ad g v k).length=g.vars:=fun k=>by rw[xg,hvl]
 have m1:(wG (wG (Ad g v (g.ands.length-1-i)) g.ands[i].1) g.ands[i].2).getD (g.ands[i].1/2).toNat false=true :=
  Df (by rw[qG,hl];simp;left;omega)
 have m2:(wG (wG (Ad g v (g.ands.length-1-i)) g.ands[i].1) g.ands[i].2).getD (g.ands[i].2/2).toNat false=true:=by rw[qG,oO,hl];simp;left;omega
 rw[<-hs]at m1 m2;exact⟨Dh (by omega) m1,Dh (by omega) m2⟩
theorem uq{w:Nat}:∀ {l:List Int} {v:List Bool},v.getD w false=true->(l.foldl wG v).getD w false=true
 |[],v,h=>h
 |a::l,v,h=>uq (l:=l) (Df h)
theorem ut{w:Nat}:∀ {l:List Int} {v:List Bool} {a:Int},a∈l->(a/2).toNat=w->w<v.length->(l.foldl wG v).getD w false=true
 |b::l,v,a,ha,hw,hl=>by
  rcases zrj.1 ha with rfl|ha
  ·exact uq (l:=l) (by rw[qG];simp;left;exact⟨hw,hl⟩)
  ·exact ut (l:=l) ha hw (by rw[oO];exact hl)
theorem Ti:Jt g v (g.next++g.outs).length=(g.next++g.outs).foldl wG v:=by unfold Jt;rw[zrx]
variable{a:Int}
theorem PG{w:Nat}(ha:a∈g.next++g.outs)(hw:(a/2).toNat=w)(hl:w<g.vars):(vJ g).getD w false=true:=by unfold vJ;refine Dh (k:=0) (Nat.zero_le _) ?_;show(Jt g _ _).getD w false=true;rw[Ti];exact ut ha hw (by rw[zsc];exact hl)
def vlA(base:List Bool)(A:List Pq):List Bool:=A.foldl yV base
variable{base:List Bool}{p:Pq}
theorem xk:vlA base (A++[p])=yV (vlA base A) p:=by unfold vlA;rw[List.foldl_append];rfl
variable{B:List Pq}
theorem PH:vlA base (A++B)=vlA (vlA base A) B:=by unfold vlA;rw[List.foldl_append]
theorem zq:∀ {B:List Pq} {base:List Bool},∃w,vlA base B=base++w/\w.length=B.length
 |[],_=>⟨[],by simp[vlA],rfl⟩
 |p::B,base=>by obtain⟨w,h1,h2⟩:=zq (B:=B) (base:=yV base p);exact⟨(lv base p.1&&lv base p.2)::w,by rw[show vlA base (p::B)=vlA (yV base p) B from rfl,h1];simp[yV],by simp[h2]⟩
theorem rU:(vlA base A).length=base.length+A.length:=by obtain⟨w,h1,h2⟩:=zq (B:=A) (base:=base);rw[h1,zqa,h2]
variable{w:List Bool}
theorem Xy(h0:0<=a)(h:a/2<v.length):lv (v++w) a=lv v a:=by unfold lv;rw[zqg,zqj (by omega),<-zqg]
theorem lJ(h0:0<=a)(h:a/2<base.length+A.length):lv (vlA base (A++B)) a=lv (vlA base A) a:=by rw[PH];obtain⟨w,h1,_⟩:=zq (B:=B) (base:=vlA base A);rw[h1];exact Xy h0 (by rw[rU];omega)
theorem zu{k:Nat}(h:k<base.length+A.length):(vlA base (A++B)).getD k false=(vlA base A).getD k false:=by rw[PH];obtain⟨w,h1,_⟩:=zq (B:=B) (base:=vlA base A);rw[h1,zqg,zqj (by rw[rU];omega),<-zqg]
theorem qg(h0:0<=a):lv v (qF a)= !lv v a:=by
 unfold lv qF;rcases Int.emod_two_eq a with hm|hm
 ·rw[if_pos hm,show(a+1)/2=a/2 by omega,show(a+1)%2=1 by omega,hm];cases v.getD (a/2).toNat false<;>rfl
 ·rw[if_neg (by omega),show(a-1)/2=a/2 by omega,show(a-1)%2=0 by omega,hm];cases v.getD (a/2).toNat false<;>rfl
theorem zy:lv v (2*(n:Int))=v.getD n false:=by unfold lv;rw[show(2*(n:Int))/2=n by omega,show(2*(n:Int))%2=0 by omega,zsg];cases v.getD n false<;>rfl
def OkA(f:Int)(A:List Pq):Prop:=∀i (h:i<A.length),0<=A[i].1/\0<=A[i].2/\A[i].1<2*(f+i)/\A[i].2<2*(f+i)
theorem OkA.snoc{f:Int}(h:OkA f A)(h1:0<=p.1)(h2:0<=p.2)(h3:p.1<2*(f+A.length))(h4:p.2<2*(f+A.length)):OkA f (A++[p]):=fun i hi=>by
 by_cases hl:i<A.length
 ·rw[List.getElem_append_left hl];exact h i hl
 ·have:i=A.length:=by simp at hi;omega
  subst this;simp only[List.getElem_append_right (zrb _),Nat.sub_self,List.getElem_cons_zero];exact⟨h1,h2,h3,h4⟩
theorem VI(hA:OkA base.length A){i:Nat}(hi:i<A.length):(vlA base A).getD (base.length+i) false=(lv (vlA base A) A[i].1&&lv (vlA base A) A[i].2):=by
 obtain⟨o1,o2,o3,o4⟩:=hA i hi;obtain⟨p,hp⟩:∃p,p=A[i]:=⟨_,rfl⟩;rw[<-hp]at o1 o2 o3 o4 ⊢;have hl:(A.take i).length=i:=by simp;omega
 have e:A=(A.take i++[p])++A.drop (i+1):=by have h1:=List.drop_eq_getElem_cons hi;rw[<-hp]at h1;rw[zqc,List.singleton_append,<-h1,List.take_append_drop]
 generalize A.take i=L,A.drop (i+1)=R at hl e;subst e;have e1:lv (vlA base ((L++[p])++R)) p.1=lv (vlA base L) p.1:=by
  rw[zqc];exact lJ o1 (by omega)
 have e2:lv (vlA base ((L++[p])++R)) p.2=lv (vlA base L) p.2:=by rw[zqc];exact lJ o2 (by omega)
 rw[e1,e2,zu (by simp;omega),xk];unfold yV;have hv:(vlA base L).length=base.length+i:=by rw[rU,hl]
 rw[zqg,zsb (by omega),hv,Nat.sub_self];rfl
theorem xn{p q:Int}(hA:OkA base.length A)(hb:∃t,base=false::t)(hp:0<=p/\p<2*((base.length:Int)+A.length))(hq:0<=q/\q<2*((base.length:Int)+A.length)) :
 (∃B,(jg base.length A p q).1=A++B)/\OkA base.length (jg base.length A p q).1/\lv (vlA base (jg base.length A p q).1) (jg base.length A p q).2=(lv (vlA base A) p&&lv (vlA base A) q):=by
 have h0:lv (vlA base A) 0=false:=by have e:=zy (v:=vlA base A) (n:=0);rw[show(2*((0:Nat):Int))=0 by omega]at e;rw[e];obtain⟨w,h1,_⟩:=zq (B:=A) (base:=base);rw[h1];obtain⟨t,rfl⟩:=hb;rfl
 have hc:(lv (vlA base A) p&&lv (vlA base A) q)=(lv (vlA base A) (max p q)&&lv (vlA base A) (min p q)):=by
  rcases Int.le_total p q with h|h
  ·rw[show max p q=q by omega,show min p q=p by omega,Bool.and_comm]
  ·rw[show max p q=p by omega,show min p q=q by omega]
 rw[hc];obtain⟨P,hP⟩:∃P,P=max p q:=⟨_,rfl⟩;obtain⟨Q,hQ⟩:∃Q,Q=min p q:=⟨_,rfl⟩;unfold jg;rw[<-hP,<-hQ];have bP:0<=P/\P<2*((base.length:Int)+A.length):=by omega
 have bQ:0<=Q/\Q<2*((base.length:Int)+A.length):=by omega
 split
 ·rename_i h;refine⟨⟨[],(zqp _).symm⟩,hA,?_⟩;show lv _ 0=_;rw[h0];rcases h with h|h
  ·rw[h,h0,Bool.and_false]
  ·rw[<-h,qg bP.1];simp
 ·split
  ·rename_i h;refine⟨⟨[],(zqp _).symm⟩,hA,?_⟩;show lv _ P=_;rcases h with h|h
   ·rw[h,show(1:Int)=qF 0 by rfl,qg (by omega),h0];simp
   ·rw[h];simp
  ·split
   ·rename_i i hi;obtain⟨h1,h2,_⟩:=List.findIdx?_eq_some_iff_getElem.1 hi;refine⟨⟨[],(zqp _).symm⟩,hA,?_⟩;have h2:A[i]=(P,Q):=by simpa using h2
    have:=VI hA h1;rw[h2]at this;show lv _ (2*((base.length:Int)+(i:Int)))=_;rw[<-this,show 2*((base.length:Int)+(i:Int))=2*((base.length+i:Nat):Int) by omega,zy]
   ·refine⟨⟨[(P,Q)],rfl⟩,hA.snoc bP.1 bQ.1 bP.2 bQ.2,?_⟩;show lv (vlA base (A++[(P,Q)])) (2*((base.length:Int)+(A.length:Int)))=_;rw[show 2*((base.length:Int)+(A.length:Int))=2*((base.length+A.length:Nat):Int) by omega,zy,xk];unfold yV;rw[zqg,zsb (by rw[rU];omega),rU,Nat.sub_self];rfl
theorem zA(hC:∀x∈C,0<=x)(h:lv v (C.getD (a/2).toNat 0)=w.getD (a/2).toNat false):lv v (dZ C a)=lv w a:=by
 have hx:0<=C.getD (a/2).toNat 0:=by
  by_cases hi:(a/2).toNat<C.length
  ·rw[aS hi];exact hC _ (zqu hi)
  ·rw[zqg,zsj (by omega)];exact Int.le_refl _
 unfold dZ;rcases Int.emod_two_eq a with hm|hm
 ·rw[if_neg (by omega),h];unfold lv;rw[hm];cases w.getD (a/2).toNat false<;>rfl
 ·rw[if_pos hm,qg hx,h];unfold lv;rw[hm];cases w.getD (a/2).toNat false<;>rfl
theorem FD{g:Gr}(hg:g.chk=0){base:List Bool}(hl:(base.length:Int)=g.first)(hb:∃t,base=false::t){use:Nat->Bool}(hu:Tf g use):∀i,i<=g.ands.length ->
 OkA base.length (cu g use i).1/\∀w,w<base.length+i->Wl base.length use w->lv (vlA base (cu g use i).1) ((cu g use i).2.getD w 0)=(vlA base (g.ands.take i)).getD w false
 |0,_=>by
  refine⟨fun i h=>by simp[cu]at h,fun w hw _=> ?_⟩;have e:(qc g.first.toNat).getD w 0=2*(w:Int):=by
   unfold qc;rw[zqg,zqo,List.getElem?_range (by omega)];rfl
  show lv (vlA base []) ((qc g.first.toNat).getD w 0)=_;rw[e,zy];simp[vlA]
 |i+1,hi=>by
  obtain⟨_,i0,i1,i2,i3,i4,i5⟩:=aW hg;have hil:i<g.ands.length:=by omega
  obtain⟨ih1,ih2⟩:=FD hg hl hb hu i (by omega);obtain⟨o1,o2,o3,o4⟩:=iD i5 hil;obtain⟨k1,k2,k3⟩:=jC (g:=g) i0 use i;have hgd:g.ands.getD i (0,0)=g.ands[i]:=by rw[zqg,zqk hil];rfl
  have htk:g.ands.take (i+1)=g.ands.take i++[g.ands[i]]:=by rw[zrg,zqk hil];rfl
  have hff:g.first.toNat=base.length:=by omega
  show OkA _ (lQ g.first (use i) (cu g use i) (g.ands.getD i (0,0))).1/\∀w,_->_->lv (vlA base (lQ g.first (use i) (cu g use i) (g.ands.getD i (0,0))).1) ((lQ g.first (use i) (cu g use i) (g.ands.getD i (0,0))).2.getD w 0)=_;rw[hgd,htk];have hCn:∀x∈(cu g use i).2,0<=x:=fun x hx=>(k3 x hx).1;have hlt:(vlA base (g.ands.take i)).length=base.length+i:=by rw[rU];simp;omega
  have hC2:(cu g use i).2.length=base.length+i:=by omega
  obtain⟨s,hs⟩:∃s,s=cu g use i:=⟨_,rfl⟩;rw[<-hs]at ih1 ih2 k1 k2 k3 hCn hC2 ⊢;have old:∀w,w<base.length+i->(yV (vlA base (g.ands.take i)) g.ands[i]).getD w false=(vlA base (g.ands.take i)).getD w false:=fun w hw=>by unfold yV;rw[zqg,zqj (by omega),<-zqg]
  have new:(yV (vlA base (g.ands.take i)) g.ands[i]).getD (base.length+i) false=(lv (vlA base (g.ands.take i)) g.ands[i].1&&lv (vlA base (g.ands.take i)) g.ands[i].2):=by unfold yV;rw[zqg,zsb (by omega),hlt,Nat.sub_self];rfl
  rw[xk];cases hui:use i with
  |false =>
   have e:lQ g.first false s g.ands[i]=(s.1,s.2++[0]):=by unfold lQ;rfl
   rw[e];refine⟨ih1,fun w hw hlv=> ?_⟩;by_cases hwi:w<base.length+i
   ·rw[old w hwi,<-ih2 w hwi hlv]
    congr 1
    show(s.2++[0]).getD w 0=_;rw[zqg,zqj (by omega),<-zqg]
   ·have:w=base.length+i:=by omega
    subst this;rcases hlv with h|h
    ·omega
    ·rw[Nat.add_sub_cancel_left,hui]at h;cases h
  |true =>
   obtain⟨l1,l2⟩:=hu i hil hui;rw[hff]at l1 l2;have b1:=ih2 (g.ands[i].1/2).toNat (by omega) l1;have b2:=ih2 (g.ands[i].2/2).toNat (by omega) l2;have hkf:0<g.first+(s.1.length:Int):=by have:=lI i0;omega
   have c1:=jy (C:=s.2) (a:=g.ands[i].1) hkf k3;have c2:=jy (C:=s.2) (a:=g.ands[i].2) hkf k3;have v1:=zA (a:=g.ands[i].1) hCn b1;have v2:=zA (a:=g.ands[i].2) hCn b2;obtain⟨⟨B,a1⟩,a2,a3⟩:=xn (p:=dZ s.2 g.ands[i].1) (q:=dZ s.2 g.ands[i].2) ih1 hb (by omega) (by omega);have e:lQ g.first true s g.ands[i]=((jg g.first s.1 (dZ s.2 g.ands[i].1) (dZ s.2 g.ands[i].2)).1,s.2++[(jg g.first s.1 (dZ s.2 g.ands[i].1) (dZ s.2 g.ands[i].2)).2]):=by unfold lQ;rfl
   rw[e,<-hl];refine⟨a2,fun w hw hlv=> ?_⟩;show lv (vlA base (jg _ _ _ _).1) ((s.2++[(jg _ _ _ _).2]).getD w 0)=_;by_cases hwi:w<base.length+i
   ·have hw2:w<s.2.length:=by omega
    have e2:(s.2++[(jg (base.length:Int) s.1 (dZ s.2 g.ands[i].1) (dZ s.2 g.ands[i].2)).2]).getD w 0=s.2.getD w 0:=by rw[zqg,zqj hw2,<-zqg]
    have:=k3 (s.2.getD w 0) (by rw[aS hw2];exact zqu hw2);rw[e2,old w hwi,<-ih2 w hwi hlv,a1,lJ this.1 (by omega)]
   ·have:w=base.length+i:=by omega
    subst this;have e2:(s.2++[(jg (base.length:Int) s.1 (dZ s.2 g.ands[i].1) (dZ s.2 g.ands[i].2)).2]).getD (base.length+i) 0=(jg (base.length:Int) s.1 (dZ s.2 g.ands[i].1) (dZ s.2 g.ands[i].2)).2:=by
     rw[zqg,zsb (by omega),hC2,Nat.sub_self];rfl
    rw[e2,a3,new,v1,v2]
variable{st:List Bool}
theorem LU{x:List Bool}(i0:0<=g.ins)(hst:st.length=g.next.length)(hx:x.length=g.ins.toNat):(([false]++x++st).length:Int)=g.first:=by
 have:g.first=1+g.ins+g.next.length:=rfl
 simp only[zqa,zrk];omega
theorem qH{x:List Bool}:g.vals st x=vlA ([false]++x++st) g.ands:=by unfold Gr.vals iC vlA;rw[zrx];rfl
theorem Jv(hg:g.chk=0){st x:List Bool}(hst:st.length=g.next.length)(hx:x.length=g.ins.toNat){use:Nat->Bool}(hu:Tf g use){a:Int}(h0:0<=a)(h1:a<g.all)(hlv:Wl g.first.toNat use (a/2).toNat) :
 lv ((um g (cu g use g.ands.length)).vals st x) (dZ (cu g use g.ands.length).2 a)=lv (g.vals st x) a:=by
 obtain⟨_,i0,i1,i2,i3,i4,i5⟩:=aW hg;have hl:=LU i0 hst hx;obtain⟨p1,p2⟩:=FD hg hl ⟨x++st,rfl⟩ hu g.ands.length (zrb _);obtain⟨k1,k2,k3⟩:=jC (g:=g) i0 use g.ands.length;have wa:g.all=2*(g.first+g.ands.length):=rfl;rw[qH,qH];refine zA (fun y hy=>(k3 y hy).1) ?_;have:=p2 (a/2).toNat (by omega) (by rwa [show([false]++x++st).length=g.first.toNat by omega]);rw[zrx]at this;exact this
theorem PK:Tf g (fun _=>true):=fun i hi _=>⟨.inr rfl,.inr rfl⟩
theorem H8(hx:x.chk=0):Tf x (fun i=>(vJ x).getD (x.first+(i:Int)).toNat false):=fun i hi hu=>by
 obtain⟨_,i0,i1,i2,i3,i4,i5⟩:=aW hx;obtain⟨o1,o2,o3,o4⟩:=iD i5 hi;have wf:x.first=1+x.ins+x.next.length:=rfl
 obtain⟨h1,h2⟩:=LQ hx hi hu;have key:∀a:Int,0<=a->(vJ x).getD (a/2).toNat false=true->Wl x.first.toNat (fun i=>(vJ x).getD (x.first+(i:Int)).toNat false) (a/2).toNat:=fun a ha h=>by
  by_cases hw:(a/2).toNat<x.first.toNat
  ·exact .inl hw
  ·refine .inr ?_;show(vJ x).getD (x.first+(((a/2).toNat-x.first.toNat:Nat):Int)).toNat false=true;rw[show(x.first+(((a/2).toNat-x.first.toNat:Nat):Int)).toNat=(a/2).toNat by omega];exact h
 exact⟨key _ o1 h1,key _ o2 h2⟩
theorem PL(hx:x.chk=0){a:Int}(ha:a∈x.next++x.outs)(h0:0<=a)(h1:a<x.all):Wl x.first.toNat (fun i=>(vJ x).getD (x.first+(i:Int)).toNat false) (a/2).toNat:=by
 obtain⟨_,i0,i1,i2,i3,i4,i5⟩:=aW hx;have wf:x.first=1+x.ins+x.next.length:=rfl
 have wa:x.all=2*(x.first+x.ands.length):=rfl;by_cases hw:(a/2).toNat<x.first.toNat
 ·exact .inl hw
 ·refine .inr ?_;show(vJ x).getD (x.first+(((a/2).toNat-x.first.toNat:Nat):Int)).toNat false=true;rw[show(x.first+(((a/2).toNat-x.first.toNat:Nat):Int)).toNat=(a/2).toNat by omega];exact PG ha rfl (by unfold Gr.vars;omega)
theorem bZ:(aY g).ins=g.ins/\(aY g).init=g.init/\(aY g).next.length=g.next.length/\(aY g).outs.length=g.outs.length:=by unfold aY;exact⟨rfl,rfl,by simp[um],by simp[um]⟩
theorem xx(hg:g.chk=0){st x:List Bool}(hst:st.length=g.next.length)(hx:x.length=g.ins.toNat) :
 (aY g).outs.map (lv ((aY g).vals st x))=g.outs.map (lv (g.vals st x))/\(aY g).next.map (lv ((aY g).vals st x))=g.next.map (lv (g.vals st x)):=by
 obtain⟨_,i0,i1,i2,i3,i4,i5⟩:=aW hg;obtain⟨r1,r2,r3,r4⟩:=aN i4;obtain⟨y,hy⟩:∃y,y=um g (cu g (fun _=>true) g.ands.length):=⟨_,rfl⟩;have hyc:y.chk=0:=by rw[hy];exact xh hg _
 have hn:aY g=um y (cu y (fun i=>(vJ y).getD (y.first+(i:Int)).toNat false) y.ands.length):=by rw[hy];rfl
 obtain⟨_,j0,j1,j2,j3,j4,j5⟩:=aW hyc;obtain⟨v1,v2,v3,v4⟩:=aN j4;have y1:y.ins=g.ins:=by rw[hy];rfl
 have y3:y.next.length=g.next.length:=by rw[hy];simp[um]
 have key:∀a∈y.next++y.outs,0<=a->a<y.all->lv ((aY g).vals st x) (dZ (cu y (fun i=>(vJ y).getD (y.first+(i:Int)).toNat false) y.ands.length).2 a)=lv (y.vals st x) a:=fun a ha h0 h1=>by rw[hn];exact Jv hyc (by omega) (by rw[y1];exact hx) (H8 hyc) h0 h1 (PL hyc ha h0 h1)
 have key1:∀a,0<=a->a<g.all->lv (y.vals st x) (dZ (cu g (fun _=>true) g.ands.length).2 a)=lv (g.vals st x) a:=fun a h0 h1=>by rw[hy];exact Jv hg hst hx PK h0 h1 (.inr rfl)
 constructor
 ·have e1:(aY g).outs=y.outs.map (dZ (cu y (fun i=>(vJ y).getD (y.first+(i:Int)).toNat false) y.ands.length).2):=by rw[hn];rfl
  have e2:y.outs=g.outs.map (dZ (cu g (fun _=>true) g.ands.length).2):=by rw[hy];rfl
  rw[e1,List.map_map];rw[show(y.outs.map (lv ((aY g).vals st x)∘dZ (cu y (fun i=>(vJ y).getD (y.first+(i:Int)).toNat false) y.ands.length).2))=y.outs.map (lv (y.vals st x))from zsd fun a ha=>key a (zrf.2 (.inr ha)) (v4 a ha).1 (v4 a ha).2];rw[e2,List.map_map];exact zsd fun a ha=>key1 a (r4 a ha).1 (r4 a ha).2
 ·have e1:(aY g).next=y.next.map (dZ (cu y (fun i=>(vJ y).getD (y.first+(i:Int)).toNat false) y.ands.length).2):=by rw[hn];rfl
  have e2:y.next=g.next.map (dZ (cu g (fun _=>true) g.ands.length).2):=by rw[hy];rfl
  rw[e1,List.map_map];rw[show(y.next.map (lv ((aY g).vals st x)∘dZ (cu y (fun i=>(vJ y).getD (y.first+(i:Int)).toNat false) y.ands.length).2))=y.next.map (lv (y.vals st x))from zsd fun a ha=>key a (zrf.2 (.inl ha)) (v3 a ha).1 (v3 a ha).2];rw[e2,List.map_map];exact zsd fun a ha=>key1 a (r3 a ha).1 (r3 a ha).2
def atI(l:List S)(s:S):Nat:=(at? l s).getD 0
def qh(a b:List S):Bool:=decide (a.length=b.length)&&a.all fun s=>(at? b s).isSome
def qj(a b:Mo):Int:=if a.chk≠0 then a.chk else if b.chk≠0 then b.chk else if qh a.ins b.ins&&qh a.out b.out then 0 else 12
variable{l:List S}
theorem FH(h:l.Nodup){i:Nat}(hi:i<l.length):at? l l[i]=some i:=by obtain⟨n,hn⟩:=CQ (zqu hi);obtain⟨h1,h2⟩:=lH hn;rw[hn,(List.getElem_inj h).1 h2]
theorem Jw{s:S}(h:(at? l s).isSome=true):atI l s<l.length:=by obtain⟨n,hn⟩:=Option.isSome_iff_exists.1 h;unfold atI;rw[hn];exact(lH hn).1
structure CanOk(a b:Mo):Prop where
 ca:a.chk=0
 cb:b.chk=0
 ins:a.ins.length=b.ins.length/\∀s∈a.ins,(at? b.ins s).isSome=true
 out:a.out.length=b.out.length/\∀s∈a.out,(at? b.out s).isSome=true
theorem zB{a b:List S}(h:qh a b=true):a.length=b.length/\∀s∈a,(at? b s).isSome=true:=by unfold qh at h;rw[zqf,zqb,zrs]at h;exact h
theorem uu{a b:Mo}(h:qj a b=0):CanOk a b:=by
 unfold qj at h;split at h
 ·omega
 ·split at h
  ·omega
  ·split at h
   ·rename_i h1 h2 h3;rw[zqf]at h3;exact⟨by omega,by omega,zB h3.1,zB h3.2⟩
   ·cases h
structure MS where
 b:Cl
 p:List Pq
 ok:Bool
def lS(k0 n:Nat)(bl:List S)(s:MS)(i:Nat)(x:S):MS :=
 match at? bl x with
 |none=>s
 |some k=>⟨if s.b.getD i 0=2 then s.b.set i (s.b.getD (n+k) 0)else if s.b.getD (n+k) 0=2 then s.b.set (n+k) (s.b.getD i 0)else s.b,
  s.p++[(1+(k0:Int)+(i:Int),1+(k0:Int)+(n:Int)+(k:Int))],
  s.ok&&(s.b.getD i 0==2||s.b.getD (n+k) 0==2||s.b.getD i 0==s.b.getD (n+k) 0)⟩
def mN(a b:Mo):Nat->MS
 |0=>⟨a.g.init++b.g.init,[],true⟩
 |i+1=>lS a.ins.length a.lat.length b.lat (mN a b i) i (a.lat.getD i [])
def mV(a b:Mo):MS:=mN a b a.lat.length
variable{k0:Nat}{bl:List S}
theorem PM{s:MS}{i:Nat}{x:S}:(lS k0 n bl s i x).b.length=s.b.length:=by
 unfold lS;split
 ·rfl
 ·dsimp only;split
  ·simp
  ·split<;>simp
theorem FI{a b:Mo}:∀i,(mN a b i).b.length=a.g.init.length+b.g.init.length
 |0=>zqa
 |i+1=>by show(lS _ _ _ _ _ _).b.length=_;rw[PM,FI i]
theorem Di{l:Cl}(h:∀x∈l,0<=x/\x<=2)(i:Nat):0<=l.getD i 0/\l.getD i 0<=2:=by
 by_cases hi:i<l.length
 ·rw[aS hi];exact h _ (zqu hi)
 ·rw[zqg,zsj (by omega)];exact⟨Int.le_refl _,by decide⟩
theorem PN{l:Cl}(h:∀x∈l,0<=x/\x<=2){v:Int}(hv:0<=v/\v<=2)(i:Nat):∀x∈l.set i v,0<=x/\x<=2:=fun x hx=>by
 rcases List.mem_or_eq_of_mem_set hx with hx|rfl
 ·exact h x hx
 ·exact hv
theorem PO{s:MS}{i:Nat}{x:S}(h:∀x∈s.b,0<=x/\x<=2):∀y∈(lS k0 n bl s i x).b,0<=y/\y<=2:=by
 unfold lS;split
 ·exact h
 ·dsimp only;split
  ·exact PN h (Di h _) _
  ·split
   ·exact PN h (Di h _) _
   ·exact h
theorem Jy{a b:Mo}(ha:∀x∈a.g.init,0<=x/\x<=2)(hb:∀x∈b.g.init,0<=x/\x<=2):∀i,∀x∈(mN a b i).b,0<=x/\x<=2
 |0=>fun x hx=>(zrf.1 hx).elim (ha x) (hb x)
 |i+1=>PO (Jy ha hb i)
def mvX(to:Cl)(l:Int):Int:=2*to.getD (l/2).toNat 0+l%2
def to0(l:List S)(m:Mo)(f:Int):Cl:=0::(m.ins.map (fun s=>1+(atI l s:Int))++(List.range m.lat.length).map fun i:Nat=>f+(i:Int))
def FK(f:Int)(s:List Pq×Cl)(p:Pq):List Pq×Cl:=(s.1++[(mvX s.2 p.1,mvX s.2 p.2)],s.2++[f+(s.1.length:Int)])
def vK(f:Int)(s:List Pq×Cl)(A:List Pq):List Pq×Cl:=A.foldl (FK f) s
def QH(f p q:Int)(s:List Pq×Cl):List Pq×Cl :=
 let u:=jg f s.1 p (qF q)
 let v:=jg f u.1 (qF p) q
 let w:=jg f v.1 (qF u.2) (qF v.2)
 (w.1,s.2++[qF w.2])
def jf(a b:Mo):Int:=1+(a.ins.length:Int)+((a.lat.length:Int)+(b.lat.length:Int))
def jA(a b:Mo):List Pq×Cl:=vK (jf a b) ([],to0 a.ins a (1+(a.ins.length:Int))) (aY a.g).ands
def jB(a b:Mo):List Pq×Cl:=vK (jf a b) ((jA a b).1,to0 a.ins b (1+(a.ins.length:Int)+(a.lat.length:Int))) (aY b.g).ands
def jO(a b:Mo):Nat->List Pq×Cl
 |0=>((jB a b).1,[])
 |i+1=>QH (jf a b) (mvX (jA a b).2 ((aY a.g).outs.getD i 0)) (mvX (jB a b).2 ((aY b.g).outs.getD (atI b.out (a.out.getD i [])) 0)) (jO a b i)
def az(a b:Mo):Gr:=⟨a.ins.length,(aY a.g).next.map (mvX (jA a b).2)++(aY b.g).next.map (mvX (jB a b).2),(mV a b).b,(jO a b a.out.length).1,(jO a b a.out.length).2⟩
structure Maps(base:List Bool)(A:List Pq)(to:Cl)(w:List Bool):Prop where
 r:∀x∈to,0<=x/\x<(base.length:Int)+A.length
 v:to.map (fun k=>(vlA base A).getD k.toNat false)=w
variable{to:Cl}
theorem Maps.len(h:Maps base A to w):to.length=w.length:=by rw[<-h.v,zra]
theorem Maps.lit(h:Maps base A to w){l:Int}(h0:0<=l)(h1:l/2<w.length) :
 0<=mvX to l/\mvX to l<2*((base.length:Int)+A.length)/\lv (vlA base A) (mvX to l)=lv w l:=by
 have hk:(l/2).toNat<to.length:=by rw[h.len];omega
 have hm:=h.r _ (zqu hk);have hw:w.getD (l/2).toNat false=(vlA base A).getD to[(l/2).toNat].toNat false:=by rw[<-h.v,zqg,zqo,zqk hk];rfl
 unfold mvX;rw[aS hk];refine⟨by omega,by omega,?_⟩;unfold lv;rw[hw,show(2*to[(l/2).toNat]+l%2)/2=to[(l/2).toNat] by omega,show(2*to[(l/2).toNat]+l%2)%2=l%2 by omega]
theorem Maps.more(h:Maps base A to w):Maps base (A++B) to w:=by
 refine⟨fun x hx=> ?_,?_⟩
 ·have:=h.r x hx;rw[zqa];omega
 ·rw[<-h.v];refine zsd fun x hx=> ?_;have:=h.r x hx;exact zu (by omega)
theorem Tj:(yV w p).length=w.length+1:=by simp[yV]
theorem PP{s:List Pq×Cl}(hok:OkA base.length s.1)(hm:Maps base s.1 s.2 w){p:Pq}(p0:0<=p.1)(p1:0<=p.2)(p2:p.1<2*(w.length:Int))(p3:p.2<2*(w.length:Int)) :
 OkA base.length (FK base.length s p).1/\Maps base (FK base.length s p).1 (FK base.length s p).2 (yV w p):=by
 obtain⟨a1,a2,a3⟩:=hm.lit (l:=p.1) p0 (by omega);obtain⟨b1,b2,b3⟩:=hm.lit (l:=p.2) p1 (by omega);have hm2:=hm.more (B:=[(mvX s.2 p.1,mvX s.2 p.2)]);refine⟨hok.snoc a1 b1 a2 b2,fun x hx=> ?_,?_⟩
 ·rcases zrf.1 hx with hx|hx
  ·exact hm2.r x hx
  ·rw[zrc.1 hx];simp only[FK,zqa,zrk];omega
 ·show(s.2++[(base.length:Int)+(s.1.length:Int)]).map _=w++[_];rw[zql]
  congr 1
  ·exact hm2.v
  ·show [_]=[_];rw[List.cons.injEq];refine⟨?_,rfl⟩;show(vlA base (s.1++[(mvX s.2 p.1,mvX s.2 p.2)])).getD _ false=_;rw[xk,show((base.length:Int)+(s.1.length:Int)).toNat=(vlA base s.1).length by rw[rU];omega];unfold yV;rw[zqg,zsb (zrb _),Nat.sub_self];show(lv (vlA base s.1) (mvX s.2 p.1)&&lv (vlA base s.1) (mvX s.2 p.2))=_;rw[a3,b3]
theorem zC{base:List Bool}:∀ {A:List Pq} {w:List Bool} {s:List Pq×Cl},OkA base.length s.1->Maps base s.1 s.2 w->OkA w.length A ->
 (∃B,(vK base.length s A).1=s.1++B/\B.length=A.length)/\OkA base.length (vK base.length s A).1/\Maps base (vK base.length s A).1 (vK base.length s A).2 (vlA w A)
 |[],w,s,hok,hm,_=>⟨⟨[],(zqp _).symm,rfl⟩,hok,hm⟩
 |p::A,w,s,hok,hm,hA=>by
  obtain⟨p0,p1,p2,p3⟩:=hA 0 (by simp);have p0:0<=p.1:=p0;have p1:0<=p.2:=p1;have p2:p.1<2*(w.length:Int):=by simpa using p2
  have p3:p.2<2*(w.length:Int):=by simpa using p3
  obtain⟨h1,h2⟩:=PP hok hm p0 p1 p2 p3;have hA':OkA (yV w p).length A:=fun i hi=>by have:=hA (i+1) (by simpa using hi);simp only[List.getElem_cons_succ]at this;rw[Tj];omega
  obtain⟨⟨B,b1,b2⟩,b3,b4⟩:=zC (A:=A) h1 h2 hA';refine⟨⟨(mvX s.2 p.1,mvX s.2 p.2)::B,?_,by simp[b2]⟩,b3,b4⟩;show(vK base.length (FK base.length s p) A).1=_;rw[b1];simp[FK]
theorem iP(hg:g.chk=0):(aY g).chk=0:=by unfold aY;exact xh (xh hg _) _
theorem Uy(hg:g.chk=0){n:Nat}(hn:(n:Int)=g.first):OkA n g.ands:=fun i hi=>by obtain⟨_,i0,i1,i2,i3,i4,i5⟩:=aW hg;have:=iD i5 hi;omega
theorem nR(hg:g.chk=0):(aY g).ands.length<=g.ands.length:=by
 obtain⟨_,i0,i1,i2,i3,i4,i5⟩:=aW hg;obtain⟨y,hy⟩:∃y,y=um g (cu g (fun _=>true) g.ands.length):=⟨_,rfl⟩;have h1:y.ands.length<=g.ands.length:=by rw[hy];exact(jC i0 _ _).1
 have y1:y.ins=g.ins:=by rw[hy];rfl
 have h2:(aY g).ands.length<=y.ands.length:=by rw[show aY g=um y (cu y (fun i=>(vJ y).getD (y.first+(i:Int)).toNat false) y.ands.length) by rw[hy];rfl];exact(jC (by omega) _ _).1
 omega
theorem Tm(hb:∃t,base=false::t){s:List Pq×Cl}{p q:Int}(hA:OkA base.length s.1)(hp:0<=p/\p<2*((base.length:Int)+s.1.length))(hq:0<=q/\q<2*((base.length:Int)+s.1.length)) :
 (∃B,(QH base.length p q s).1=s.1++B)/\OkA base.length (QH base.length p q s).1/\(QH base.length p q s).1.length<=s.1.length+3 /\
  ∃o,(QH base.length p q s).2=s.2++[o]/\0<=o/\o<2*((base.length:Int)+(QH base.length p q s).1.length)/\lv (vlA base (QH base.length p q s).1) o=(lv (vlA base s.1) p != lv (vlA base s.1) q):=by
 have hf:0<(base.length:Int):=by obtain⟨t,rfl⟩:=hb;simp
 have xl:=fun {x k:Int}=>@H7 x k;obtain⟨u,hu⟩:∃u,u=jg base.length s.1 p (qF q):=⟨_,rfl⟩;obtain⟨v,hv⟩:∃v,v=jg base.length u.1 (qF p) q:=⟨_,rfl⟩;obtain⟨w,hw⟩:∃w,w=jg base.length v.1 (qF u.2) (qF v.2):=⟨_,rfl⟩;have hx:QH base.length p q s=(w.1,s.2++[qF w.2]):=by rw[hw,hv,hu];rfl
 obtain⟨⟨B1,a1⟩,a2,a3⟩:=xn hA hb hp (xl hq.1 hq.2);obtain⟨l1,l2,l3,l4⟩:=qf hf hp (xl hq.1 hq.2);rw[<-hu]at a1 a2 a3 l1 l2 l3 l4;have hp2:0<=p/\p<2*((base.length:Int)+u.1.length):=by omega
 have hq2:0<=q/\q<2*((base.length:Int)+u.1.length):=by omega
 obtain⟨⟨B2,b1⟩,b2,b3⟩:=xn a2 hb (xl hp2.1 hp2.2) hq2;obtain⟨m1,m2,m3,m4⟩:=qf hf (xl hp2.1 hp2.2) hq2;rw[<-hv]at b1 b2 b3 m1 m2 m3 m4;have hu2:0<=u.2/\u.2<2*((base.length:Int)+v.1.length):=by omega
 obtain⟨⟨B3,c1⟩,c2,c3⟩:=xn b2 hb (xl hu2.1 hu2.2) (xl m3 m4);obtain⟨n1,n2,n3,n4⟩:=qf hf (xl hu2.1 hu2.2) (xl m3 m4);rw[<-hw]at c1 c2 c3 n1 n2 n3 n4;rw[hx];refine⟨⟨B1++(B2++B3),by rw[c1,b1,a1];simp⟩,c2,by show w.1.length<=_;omega,qF w.2,rfl,(xl n3 n4).1,(xl n3 n4).2,?_⟩;show lv (vlA base w.1) (qF w.2)=_;have eu:lv (vlA base v.1) u.2=lv (vlA base u.1) u.2:=by rw[b1];exact lJ l3 (by omega)
 have ep:lv (vlA base u.1) p=lv (vlA base s.1) p:=by rw[a1];exact lJ hp.1 (by omega)
 have eq:lv (vlA base u.1) q=lv (vlA base s.1) q:=by rw[a1];exact lJ hq.1 (by omega)
 rw[qg n3,c3,qg hu2.1,qg m3,eu,a3,b3,qg hq.1,qg hp2.1,ep,eq];cases lv (vlA base s.1) p<;>cases lv (vlA base s.1) q<;>rfl
end Go.Proofs.YthdidjjecjhenaaGreat
