/- Lemmas for this claim, part F06: each holds under what it names. -/
import Derived.Test.YtokppohljajhjaaGreatDoorRF05
import Derived.Test.YtokppohljajhjaaGreatDoorRA9
set_option linter.all false
set_option maxRecDepth 20000
namespace Go.Proofs.YtokppohljajhjaaGreatDoor
open Go Go.Proofs Go.Abs
def w2A(n:Nat)(gs:V):List (Nat×Nat×V):=[(0,13,.lp 0 3),(1,14,gs),(2,15,vi n),(4,17,.lp 0 3),(5,18,gs),(6,19,vi n)]
def w2C(L:Array Bool):Nat:=(if L.getD 3 false=true then 1 else 0)+(if L.getD 7 false=true then 1 else 0)+(if L.getD 9 false=true then 1 else 0)
abbrev mw(n nr br:Nat):List V:=[.ls nr 1 0 n n,.ls br 1 0 n n]
structure W2(c:Ci)(B:H)(L:Array Bool)(f f0:Fr)(h:H)(nr br wr:Nat):Prop where
 len:h.length=B.length+w2C L
 base:∀i,i<B.length->h[i]? =B[i]?
 fa:FA L f (w2A c.gates.length (iZ c.gates))
 t1:f.t 1= .lp 0 0
 t2:f.t 2=f0.t 2
 t3:f.t 3=f0.t 3
 d:f.d=[]
 a3:L.getD 3 false=true->f.t 16= .ls nr 1 0 c.gates.length c.gates.length/\B.length<=nr/\h[nr]? =some (.cells (List.replicate c.gates.length .nilm))
 a7:L.getD 7 false=true->f.t 20= .ls br 1 0 c.gates.length c.gates.length/\B.length<=br/\h[br]? =some (.cells (List.replicate c.gates.length .nils))
 a8:L.getD 8 false=true->f.t 21= .agg (mw c.gates.length nr br)
 a9:L.getD 9 false=true->f.t 4= .lp wr 0/\B.length<=wr/\h[wr]? =some (.cells (if L.getD 10 false=true then mw c.gates.length nr br else [.nils,.nils]))
 n37:L.getD 3 false=true->L.getD 7 false=true->nr≠br
 n39:L.getD 3 false=true->L.getD 9 false=true->nr≠wr
 n79:L.getD 7 false=true->L.getD 9 false=true->br≠wr
theorem VP[MO](c:Ci){r:Option Nat}{Q:XE->Fr->H->Prop}{f0:Fr}{B:H}(hl:c.gates.length<=1000000)
 (g0:B[0]? =some (ciO c)) (t1:f0.t 1= .lp 0 0) (d0:f0.d=[])
 (hk:∀f h nr br wr,h.length=B.length+3->(∀i,i<B.length->h[i]? =B[i]?)->f.t 1= .lp 0 0->f.t 2=f0.t 2->f.t 3=f0.t 3->f.t 4= .lp wr 0->f.d=[]->B.length<=nr->B.length<=br->B.length<=wr->nr≠br->nr≠wr->br≠wr ->
  h[nr]? =some (.cells (List.replicate c.gates.length .nilm))->h[br]? =some (.cells (List.replicate c.gates.length .nils))->h[wr]? =some (.cells (mw c.gates.length nr br))->Q .normal f h) :
 awp TE 80 r (.region 2 (xY Tryz.f101 2) true) Q f0 B:=by
 simp only[xY,Tryz.f101,uG,List.nil_append,zqp,List.headD_cons,Nat.reduceBEq,zrm,if_false,if_true,List.cons_append];have hM:=mLx;have l0:0<B.length:=(zqe g0).1;refine qM mixed (fun L f h=>∃nr br wr,W2 c B L f f0 h nr br wr) (by decide +kernel) ?_ ?_ ?_
 ·refine⟨0,0,0,⟨by simp[w2C],fun _ _=>rfl,FA.none,t1,rfl,rfl,d0,?_,?_,?_,?_,?_,?_,?_⟩⟩
  all_goals (intro h;exfalso;revert h;decide +kernel)
 ·rintro L f h i hcl ⟨nr,br,wr,k⟩ hi;have hlt:i<11:=qL hi;have no:=nM hi;have sz:=lg hi;have t1:=k.t1;have h0:h[0]? =some (ciO c):=by rw[k.base 0 l0];exact g0
  have pu:∀(d:Nat)(v:V),(∀x∈w2A c.gates.length (iZ c.gates),x.1=i->x.2.1=d/\x.2.2=v)->(∀x∈w2A c.gates.length (iZ c.gates),x.2.1=d->x.1=i)->(decide (d∉([1,2,3,4,16,20,21]:List Nat))&&decide (i∉([3,7,8,9,10]:List Nat)))=true ->
   ∃nr br wr,W2 c B (L.setIfInBounds i true) (f.put (some d) v) f0 h nr br wr:=by
   intro d v h1 h2 h3;rw[zqf,zqb,zqb]at h3;simp only[zrj,zrp,or_false,not_or]at h3;obtain⟨⟨d1,d2,d3,d4,d16,d20,d21⟩,i3,i7,i8,i9,i10⟩:=h3;have g:∀j,j≠i->(L.setIfInBounds i true).getD j false=L.getD j false:=fun j hj=>getD_set_ne false (Ne.symm hj);have p:∀j,j≠d->(f.put (some d) v).t j=f.t j:=fun j hj=>by simp[Fr.put,hj]
   refine⟨nr,br,wr,⟨?_,k.base,k.fa.put h1 h2,?_,?_,?_,k.d,?_,?_,?_,?_,?_,?_,?_⟩⟩
   ·rw[k.len];unfold w2C;rw[g 3 (Ne.symm i3),g 7 (Ne.symm i7),g 9 (Ne.symm i9)]
   ·rw[p 1 (Ne.symm d1)];exact k.t1
   ·rw[p 2 (Ne.symm d2)];exact k.t2
   ·rw[p 3 (Ne.symm d3)];exact k.t3
   ·rw[g 3 (Ne.symm i3),p 16 (Ne.symm d16)];exact k.a3
   ·rw[g 7 (Ne.symm i7),p 20 (Ne.symm d20)];exact k.a7
   ·rw[g 8 (Ne.symm i8),p 21 (Ne.symm d21)];exact k.a8
   ·rw[g 9 (Ne.symm i9),g 10 (Ne.symm i10),p 4 (Ne.symm d4)];exact k.a9
   ·rw[g 3 (Ne.symm i3),g 7 (Ne.symm i7)];exact k.n37
   ·rw[g 3 (Ne.symm i3),g 9 (Ne.symm i9)];exact k.n39
   ·rw[g 7 (Ne.symm i7),g 9 (Ne.symm i9)];exact k.n79
  have hfa:=k.fa
  match i,hlt with
  |0,_=>have pu:=pu 13 (.lp 0 3) (by simp[w2A]) (by simp[w2A]) (by decide);simp only[wq.1,Nat.reduceLT,t1];exact pu
  |1,_=>have dp:=aN hi (l:=[0]) (by decide +kernel);have e13:=FAz hfa 0 13 (.lp 0 3) (by simp[w2A]) (dp 0 (by simp));have pu:=pu 14 (iZ c.gates) (by simp[w2A]) (by simp[w2A]) (by decide);simp only[wq.1,seval,h0,e13];exact pu
  |2,_=>have dp:=aN hi (l:=[1]) (by decide +kernel);have e14:=FAz hfa 1 14 (iZ c.gates) (by simp[w2A]) (dp 1 (by simp));have pu:=pu 15 (vi c.gates.length) (by simp[w2A]) (by simp[w2A]) (by decide);simp only[wq.1,Nat.reduceLT,e14];exact pu
  |3,_ =>
   have dp:=aN hi (l:=[2]) (by decide +kernel);have e15:=FAz hfa 2 15 (vi c.gates.length) (by simp[w2A]) (dp 2 (by simp));simp only[wq.1,seval,e15];have sf:(L.setIfInBounds 3 true).getD 3 false=true:=by simp[Array.getD,sz]
   have g:∀j,j≠3->(L.setIfInBounds 3 true).getD j false=L.getD j false:=fun j hj=>getD_set_ne false (Ne.symm hj);have p:∀(v:V) j,j≠16->(f.put (some 16) v).t j=f.t j:=fun v j hj=>by simp[Fr.put,hj]
   have ps:∀v:V,(f.put (some 16) v).t 16=v:=fun v=>by simp[Fr.put]
   have old:∀(o:O) i x,h[i]? =some x->(h++[o])[i]? =some x:=fun o i x hx=>by rw[zqj (zqe hx).1];exact hx
   have lt:∀ {i:Nat} {x:O},h[i]? =some x->i<h.length:=fun hx=>(zqe hx).1;have hB:B.length<=h.length:=by rw[k.len];omega
   have bs:∀(o:O) i,i<B.length->(h++[o])[i]? =B[i]? :=fun o i hi=>by rw[zqj (by omega)];exact k.base i hi
   have nw:∀o:O,(h++[o])[h.length]? =some o:=fun o=>by simp
   have n8:L.getD 8 false=false:=aZ hcl no (by decide +kernel);have n10:L.getD 10 false=false:=aZ hcl n8 (by decide +kernel);refine⟨⟨by omega,by omega⟩,h.length,br,wr,⟨?_,bs _,hfa.put (by simp[w2A]) (by simp[w2A]),?_,?_,?_,k.d,?_,?_,?_,?_,?_,?_,?_⟩⟩
   ·rw[zqa,k.len];unfold w2C;rw[sf,g 7 (by decide),g 9 (by decide),no];simp only[zrt,List.length_nil,if_true,zrm,if_false];omega
   ·rw[p _ 1 (by decide)];exact k.t1
   ·rw[p _ 2 (by decide)];exact k.t2
   ·rw[p _ 3 (by decide)];exact k.t3
   ·intro _;exact⟨ps _,hB,nw _⟩
   ·rw[g 7 (by decide),p _ 20 (by decide)];exact fun hh=>⟨(k.a7 hh).1,(k.a7 hh).2.1,old _ _ _ (k.a7 hh).2.2⟩
   ·rw[g 8 (by decide),n8];intro hh;cases hh
   ·rw[g 9 (by decide),g 10 (by decide),p _ 4 (by decide),n10,if_neg (by decide)];intro hh;have:=k.a9 hh;rw[n10,if_neg (by decide)]at this;exact⟨this.1,this.2.1,old _ _ _ this.2.2⟩
   ·rw[g 7 (by decide)];intro _ hh;have:=lt (k.a7 hh).2.2;omega
   ·rw[g 9 (by decide)];intro _ hh;have:=lt (k.a9 hh).2.2;omega
   ·rw[g 7 (by decide),g 9 (by decide)];exact k.n79
  |4,_=>have pu:=pu 17 (.lp 0 3) (by simp[w2A]) (by simp[w2A]) (by decide);simp only[wq.1,Nat.reduceLT,t1];exact pu
  |5,_=>have dp:=aN hi (l:=[4]) (by decide +kernel);have e13:f.t 17= .lp 0 3:=hfa (4,17,.lp 0 3) (by simp[w2A]) (dp 4 (by simp));have pu:=pu 18 (iZ c.gates) (by simp[w2A]) (by simp[w2A]) (by decide);simp only[wq.1,seval,h0,e13];exact pu
  |6,_=>have dp:=aN hi (l:=[5]) (by decide +kernel);have e14:f.t 18=iZ c.gates:=hfa (5,18,iZ c.gates) (by simp[w2A]) (dp 5 (by simp));have pu:=pu 19 (vi c.gates.length) (by simp[w2A]) (by simp[w2A]) (by decide);simp only[wq.1,Nat.reduceLT,e14];exact pu
  |7,_ =>
   have dp:=aN hi (l:=[6]) (by decide +kernel);have e19:=FAz hfa 6 19 (vi c.gates.length) (by simp[w2A]) (dp 6 (by simp));simp only[wq.1,seval,e19];have sf:(L.setIfInBounds 7 true).getD 7 false=true:=by simp[Array.getD,sz]
   have g:∀j,j≠7->(L.setIfInBounds 7 true).getD j false=L.getD j false:=fun j hj=>getD_set_ne false (Ne.symm hj);have p:∀(v:V) j,j≠20->(f.put (some 20) v).t j=f.t j:=fun v j hj=>by simp[Fr.put,hj]
   have ps:∀v:V,(f.put (some 20) v).t 20=v:=fun v=>by simp[Fr.put]
   have old:∀(o:O) i x,h[i]? =some x->(h++[o])[i]? =some x:=fun o i x hx=>by rw[zqj (zqe hx).1];exact hx
   have lt:∀ {i:Nat} {x:O},h[i]? =some x->i<h.length:=fun hx=>(zqe hx).1;have hB:B.length<=h.length:=by rw[k.len];omega
   have bs:∀(o:O) i,i<B.length->(h++[o])[i]? =B[i]? :=fun o i hi=>by rw[zqj (by omega)];exact k.base i hi
   have nw:∀o:O,(h++[o])[h.length]? =some o:=fun o=>by simp
   have n8:L.getD 8 false=false:=aZ hcl no (by decide +kernel);have n10:L.getD 10 false=false:=aZ hcl n8 (by decide +kernel);refine⟨⟨by omega,by omega⟩,nr,h.length,wr,⟨?_,bs _,hfa.put (by simp[w2A]) (by simp[w2A]),?_,?_,?_,k.d,?_,?_,?_,?_,?_,?_,?_⟩⟩
   ·rw[zqa,k.len];unfold w2C;rw[sf,g 3 (by decide),g 9 (by decide),no];simp only[zrt,List.length_nil,if_true,zrm,if_false];omega
   ·rw[p _ 1 (by decide)];exact k.t1
   ·rw[p _ 2 (by decide)];exact k.t2
   ·rw[p _ 3 (by decide)];exact k.t3
   ·rw[g 3 (by decide),p _ 16 (by decide)];exact fun hh=>⟨(k.a3 hh).1,(k.a3 hh).2.1,old _ _ _ (k.a3 hh).2.2⟩
   ·intro _;exact⟨ps _,hB,nw _⟩
   ·rw[g 8 (by decide),n8];intro hh;cases hh
   ·rw[g 9 (by decide),g 10 (by decide),p _ 4 (by decide),n10,if_neg (by decide)];intro hh;have:=k.a9 hh;rw[n10,if_neg (by decide)]at this;exact⟨this.1,this.2.1,old _ _ _ this.2.2⟩
   ·rw[g 3 (by decide)];intro hh _;have:=lt (k.a3 hh).2.2;omega
   ·rw[g 3 (by decide),g 9 (by decide)];exact k.n39
   ·rw[g 9 (by decide)];intro _ hh;have:=lt (k.a9 hh).2.2;omega
  |8,_ =>
   have dp:=aN hi (l:=[3,7]) (by decide +kernel);obtain⟨e16,_⟩:=k.a3 (dp 3 (by simp));obtain⟨e20,_⟩:=k.a7 (dp 7 (by simp));simp only[wq.1,seval,e16,e20];have sf:(L.setIfInBounds 8 true).getD 8 false=true:=by simp[Array.getD,sz]
   have g:∀j,j≠8->(L.setIfInBounds 8 true).getD j false=L.getD j false:=fun j hj=>getD_set_ne false (Ne.symm hj);have p:∀(v:V) j,j≠21->(f.put (some 21) v).t j=f.t j:=fun v j hj=>by simp[Fr.put,hj]
   have ps:∀v:V,(f.put (some 21) v).t 21=v:=fun v=>by simp[Fr.put]
   refine⟨nr,br,wr,⟨?_,k.base,hfa.put (by simp[w2A]) (by simp[w2A]),?_,?_,?_,k.d,?_,?_,?_,?_,?_,?_,?_⟩⟩
   ·rw[k.len];unfold w2C;rw[g 3 (by decide),g 7 (by decide),g 9 (by decide)]
   ·rw[p _ 1 (by decide)];exact k.t1
   ·rw[p _ 2 (by decide)];exact k.t2
   ·rw[p _ 3 (by decide)];exact k.t3
   ·rw[g 3 (by decide),p _ 16 (by decide)];exact k.a3
   ·rw[g 7 (by decide),p _ 20 (by decide)];exact k.a7
   ·intro _;exact ps _
   ·rw[g 9 (by decide),g 10 (by decide),p _ 4 (by decide)];exact k.a9
   ·rw[g 3 (by decide),g 7 (by decide)];exact k.n37
   ·rw[g 3 (by decide),g 9 (by decide)];exact k.n39
   ·rw[g 7 (by decide),g 9 (by decide)];exact k.n79
  |9,_ =>
   simp only[wq.1,Nat.reduceLT];have sf:(L.setIfInBounds 9 true).getD 9 false=true:=by simp[Array.getD,sz]
   have g:∀j,j≠9->(L.setIfInBounds 9 true).getD j false=L.getD j false:=fun j hj=>getD_set_ne false (Ne.symm hj);have p:∀(v:V) j,j≠4->(f.put (some 4) v).t j=f.t j:=fun v j hj=>by simp[Fr.put,hj]
   have ps:∀v:V,(f.put (some 4) v).t 4=v:=fun v=>by simp[Fr.put]
   have old:∀(o:O) i x,h[i]? =some x->(h++[o])[i]? =some x:=fun o i x hx=>by rw[zqj (zqe hx).1];exact hx
   have lt:∀ {i:Nat} {x:O},h[i]? =some x->i<h.length:=fun hx=>(zqe hx).1;have hB:B.length<=h.length:=by rw[k.len];omega
   have bs:∀(o:O) i,i<B.length->(h++[o])[i]? =B[i]? :=fun o i hi=>by rw[zqj (by omega)];exact k.base i hi
   have nw:∀o:O,(h++[o])[h.length]? =some o:=fun o=>by simp
   have n10:L.getD 10 false=false:=aZ hcl no (by decide +kernel);refine⟨nr,br,h.length,⟨?_,bs _,hfa.put (by simp[w2A]) (by simp[w2A]),?_,?_,?_,k.d,?_,?_,?_,?_,?_,?_,?_⟩⟩
   ·rw[zqa,k.len];unfold w2C;rw[sf,g 3 (by decide),g 7 (by decide),no];simp only[zrt,List.length_nil,if_true,zrm,if_false];omega
   ·rw[p _ 1 (by decide)];exact k.t1
   ·rw[p _ 2 (by decide)];exact k.t2
   ·rw[p _ 3 (by decide)];exact k.t3
   ·rw[g 3 (by decide),p _ 16 (by decide)];exact fun hh=>⟨(k.a3 hh).1,(k.a3 hh).2.1,old _ _ _ (k.a3 hh).2.2⟩
   ·rw[g 7 (by decide),p _ 20 (by decide)];exact fun hh=>⟨(k.a7 hh).1,(k.a7 hh).2.1,old _ _ _ (k.a7 hh).2.2⟩
   ·rw[g 8 (by decide),p _ 21 (by decide)];exact k.a8
   ·intro _;rw[g 10 (by decide),n10,if_neg (by decide)];exact⟨ps _,hB,nw _⟩
   ·rw[g 3 (by decide),g 7 (by decide)];exact k.n37
   ·rw[g 3 (by decide)];intro hh _;have:=lt (k.a3 hh).2.2;omega
   ·rw[g 7 (by decide)];intro hh _;have:=lt (k.a7 hh).2.2;omega
  |10,_ =>
   have dp:=aN hi (l:=[8,9]) (by decide +kernel);obtain⟨e4,_,hw⟩:=k.a9 (dp 9 (by simp));have e21:=k.a8 (dp 8 (by simp));rw[no,if_neg (by decide)]at hw;simp only[wq.1,Nat.reduceAdd,e4,e21,hw];have sf:(L.setIfInBounds 10 true).getD 10 false=true:=by simp[Array.getD,sz]
   have g:∀j,j≠10->(L.setIfInBounds 10 true).getD j false=L.getD j false:=fun j hj=>getD_set_ne false (Ne.symm hj);have d37:L.getD 3 false=true/\L.getD 7 false=true:=⟨nO hcl (dp 8 (by simp)) (l:=[3,7]) (by decide +kernel) 3 (by simp),nO hcl (dp 8 (by simp)) (l:=[3,7]) (by decide +kernel) 7 (by simp)⟩;have wl:=(zqe hw).1;have w4:=(k.a9 (dp 9 (by simp))).2.1;refine⟨nr,br,wr,⟨?_,fun i hi=> ?_,hfa.skip (by simp[w2A]),k.t1,k.t2,k.t3,k.d,?_,?_,?_,?_,?_,?_,?_⟩⟩
   ·rw[zrn,k.len];unfold w2C;rw[g 3 (by decide),g 7 (by decide),g 9 (by decide)]
   ·rw[zqn (by omega)];exact k.base i hi
   ·rw[g 3 (by decide),zqn (Ne.symm (k.n39 d37.1 (dp 9 (by simp))))];exact k.a3
   ·rw[g 7 (by decide),zqn (Ne.symm (k.n79 d37.2 (dp 9 (by simp))))];exact k.a7
   ·rw[g 8 (by decide)];exact k.a8
   ·intro _;rw[sf,if_pos rfl];exact⟨e4,w4,zqt wl⟩
   ·rw[g 3 (by decide),g 7 (by decide)];exact k.n37
   ·rw[g 3 (by decide),g 9 (by decide)];exact k.n39
   ·rw[g 7 (by decide),g 9 (by decide)];exact k.n79
 ·rintro L f h hall ⟨nr,br,wr,k⟩;have hs:∀i,i<11->L.getD i false=true:=fun i hi=>hall i hi;obtain⟨_,b1,b2⟩:=k.a3 (hs 3 (by omega));obtain⟨_,b3,b4⟩:=k.a7 (hs 7 (by omega));obtain⟨b5,b6,b7⟩:=k.a9 (hs 9 (by omega));rw[if_pos (hs 10 (by omega))]at b7;refine hk f h nr br wr ?_ k.base k.t1 k.t2 k.t3 b5 k.d b1 b3 b6 (k.n37 (hs 3 (by omega)) (hs 7 (by omega))) (k.n39 (hs 3 (by omega)) (hs 9 (by omega))) (k.n79 (hs 7 (by omega)) (hs 9 (by omega))) b2 b4 b7;rw[k.len];unfold w2C;rw[if_pos (hs 3 (by omega)),if_pos (hs 7 (by omega)),if_pos (hs 9 (by omega))]
def Dw:List Nat->Nat->Option Nat
 |[],_=>none
 |x::l,s=>if x=s then some 0 else(Dw l s).map (·+1)
theorem lJ(s:Nat):∀(ks:List Nat),iP (.int .i64) (nv s) (cO ks)=some (Dw ks s)
 |[]=>rfl
 |k::ks=>by
  simp only[zrd,iP,keq,Dw];by_cases h:k=s
  ·subst h;simp
  ·have:((s:Int)==(k:Int))=false:=by rw[beq_eq_false_iff_ne];omega
   rw[this,lJ s ks,if_neg h];cases Dw ks s<;>rfl
theorem Dx:∀ {l:List Nat} {s n:Nat},Dw l s=some n->∃h:n<l.length,l[n]=s
 |[],s,n,h=>by cases h
 |x::l,s,n,h=>by
  simp only[Dw]at h;by_cases e:x=s
  ·rw[if_pos e]at h;cases h;exact⟨by simp,e⟩
  ·rw[if_neg e]at h;cases h1:Dw l s with
   |none=>rw[h1]at h;cases h
   |some m=>rw[h1]at h;cases h;obtain⟨a,b⟩:=Dx h1;exact⟨by simpa using a,by simpa using b⟩
theorem vg:∀ {l:List Nat} {s:Nat},Dw l s=none↔l.contains s=false
 |[],s=>by simp[Dw]
 |x::l,s=>by
  rw[Dw,List.contains_cons];by_cases e:x=s
  ·simp[e]
  ·have:(s==x)=false:=by simpa using fun h=>e h.symm
   rw[if_neg e,this,Bool.false_or,<-vg (l:=l)];cases Dw l s<;>simp
abbrev qW(n:Nat):List V:=List.replicate n (.bool true)
abbrev N8(l:List Nat):O:= .map (cO l) (qW l.length)
theorem MV{l:List Nat}{k:Nat}(h:l.contains k=false):Oo (.int .i64) (nv k) (.bool true) (cO l) (qW l.length)=some (cO (l++[k]),qW (l++[k]).length):=by
 unfold Oo;rw[lJ,vg.2 h];show some (cO l++[nv k],qW l.length++[V.bool true])=_;have e1:qW (l++[k]).length=qW l.length++[V.bool true]:=by rw[zqa];exact List.replicate_succ'
 have e2:cO (l++[k])=cO l++[nv k]:=zql;rw[e1,e2]
def jm(n i:Nat):List V:=(List.range n).map fun j=>if j<i then .lm (7+n+2*j+1)else .nilm
def byC(B:List (List Nat)):List V:=(List.range B.length).map fun k=> .ls (7+k) 1 0 (B.getD k []).length (B.getD k []).length
structure WS(c:Ci)(h:H)(nr br wr n i:Nat)(N B:List (List Nat)):Prop where
 len:h.length=7+n+2*i
 x0:h[0]? =some (ciO c)
 x1:h[1]? =some (.cells [.nils,.nils])
 x3:h[3]? =some (plO (aO c))
 xw:h[wr]? =some (.cells (mw n nr br))
 xn:h[nr]? =some (.cells (jm n i))
 xm:∀j,j<i->h[7+n+2*j+1]? =some (N8 (N.getD j []))
 xb:h[br]? =some (.cells (byC B))
 xr:∀k,k<n->h[7+k]? =some (.cells (cO (B.getD k [])))
 lN:N.length=n
 lB:B.length=n
 r:4<=nr/\nr<7/\4<=br/\br<7/\4<=wr/\wr<7/\nr≠br/\nr≠wr/\br≠wr
theorem jR{n i:Nat}:(jm n i).length=n:=by simp[jm]
theorem MW{n i j:Nat}(h:j<n)(d:V):(jm n i).getD j d=if j<i then .lm (7+n+2*j+1)else .nilm:=by unfold jm;rw[zqg,zqo,List.getElem?_range h];rfl
theorem MX{n i:Nat}(h:i<n):(jm n i).take (i*1)++[V.lm (7+n+2*i+1)]++(jm n i).drop (i*1+1)=jm n (i+1):=by
 have e:jm n (i+1)=(jm n i).set i (V.lm (7+n+2*i+1)):=by
  apply List.ext_getElem?;intro j;by_cases hj:j<n
  ·by_cases hji:i=j
   ·subst hji;rw[zqt (by rw[jR];exact h)];simp[jm,hj]
   ·rw[zqn hji];simp only[jm,zqo,List.getElem?_range hj,zrw];by_cases h1:j<i
    ·rw[if_pos h1,if_pos (by omega)]
    ·rw[if_neg h1,if_neg (by omega)]
  ·rw[zsj (by rw[jR];omega),zsj (by rw[zrn,jR];omega)]
 rw[Nat.mul_one,e,List.set_eq_take_append_cons_drop,if_pos (by rw[jR];exact h),zqc];rfl
theorem kQ{B:List (List Nat)}:(byC B).length=B.length:=by simp[byC]
theorem TD{B:List (List Nat)}{k:Nat}(h:k<B.length)(d:V):(byC B).getD k d= .ls (7+k) 1 0 (B.getD k []).length (B.getD k []).length:=by unfold byC;rw[zqg,zqo,List.getElem?_range h];rfl
theorem TF{B:List (List Nat)}{k:Nat}{l:List Nat}(h:k<B.length):(byC B).take (k*1)++[V.ls (7+k) 1 0 l.length l.length]++(byC B).drop (k*1+1)=byC (B.set k l):=by
 have e:byC (B.set k l)=(byC B).set k (V.ls (7+k) 1 0 l.length l.length):=by
  apply List.ext_getElem?;intro j;by_cases hj:j<B.length
  ·by_cases hji:k=j
   ·subst hji;rw[zqt (by rw[kQ];exact h)];simp[byC,hj]
   ·rw[zqn hji];simp only[byC,zrn,zqo,List.getElem?_range hj,zrw];rw[zqg,zqn hji,<-zqg]
  ·rw[zsj (by rw[kQ,zrn];omega),zsj (by rw[zrn,kQ];omega)]
 rw[Nat.mul_one,e,List.set_eq_take_append_cons_drop,if_pos (by rw[kQ];exact h),zqc];rfl
theorem WS.step{c:Ci}{h:H}{nr br wr n i:Nat}{N B:List (List Nat)}(k:WS c h nr br wr n i N B)(hi:i<n)(hN:N.getD i []=[])(cp:O) :
 WS c ((h++[cp,.map [] []]).set nr (.cells (jm n (i+1)))) nr br wr n (i+1) N B:=by
 obtain⟨r1,r2,r3,r4,r5,r6,r7,r8,r9⟩:=k.r;have hl:=k.len;have old:∀j,j<h.length->nr≠j->((h++[cp,.map [] []]).set nr (.cells (jm n (i+1))))[j]? =h[j]? :=fun j h1 h2=>by rw[zqn h2,zqj h1]
 refine⟨?_,?_,?_,?_,?_,?_,?_,?_,?_,k.lN,k.lB,k.r⟩
 ·simp only[zrn,zqa,zrt,List.length_nil];omega
 ·rw[old 0 (by omega) (by omega)];exact k.x0
 ·rw[old 1 (by omega) (by omega)];exact k.x1
 ·rw[old 3 (by omega) (by omega)];exact k.x3
 ·rw[old wr (by omega) (by omega)];exact k.xw
 ·exact zqt (by simp;omega)
 ·intro j hj;by_cases hji:j=i
  ·subst hji;rw[zqn (by omega),zsb (by omega),show 7+n+2*j+1-h.length=1 by omega,hN];rfl
  ·rw[old _ (by omega) (by omega)];exact k.xm j (by omega)
 ·rw[old br (by omega) (by omega)];exact k.xb
 ·intro j hj;rw[old _ (by omega) (by omega)];exact k.xr j hj
theorem WS.add{c:Ci}{h:H}{nr br wr n i:Nat}{N B:List (List Nat)}(w:WS c h nr br wr n i N B){g k:Nat}(hg:g<i)(hi:i<=n)(hk:k<n) :
 WS c (((h.set (7+n+2*g+1) (N8 (N.getD g []++[k]))).set (7+k) (.cells (cO (B.getD k []++[g])))).set br (.cells (byC (B.set k (B.getD k []++[g]))))) nr br wr n i (N.set g (N.getD g []++[k])) (B.set k (B.getD k []++[g])):=by
 obtain⟨r1,r2,r3,r4,r5,r6,r7,r8,r9⟩:=w.r;have hl:=w.len;have lN:=w.lN;have lB:=w.lB;have old:∀(x y z:O) j,br≠j->7+k≠j->7+n+2*g+1≠j->(((h.set (7+n+2*g+1) x).set (7+k) y).set br z)[j]? =h[j]? :=fun x y z j h1 h2 h3=>by rw[zqn h1,zqn h2,zqn h3]
 refine⟨?_,?_,?_,?_,?_,?_,?_,?_,?_,by rw[zrn];exact lN,by rw[zrn];exact lB,w.r⟩
 ·simp only[zrn];exact hl
 ·rw[old _ _ _ 0 (by omega) (by omega) (by omega)];exact w.x0
 ·rw[old _ _ _ 1 (by omega) (by omega) (by omega)];exact w.x1
 ·rw[old _ _ _ 3 (by omega) (by omega) (by omega)];exact w.x3
 ·rw[old _ _ _ wr (by omega) (by omega) (by omega)];exact w.xw
 ·rw[old _ _ _ nr (by omega) (by omega) (by omega)];exact w.xn
 ·intro j hj;by_cases hji:g=j
  ·subst hji;rw[zqn (by omega),zqn (by omega),zqt (by omega),zqg (l:=N.set _ _),zqt (by omega)];rfl
  ·rw[old _ _ _ _ (by omega) (by omega) (by omega),w.xm j hj,zqg,zqg,zqn hji]
 ·exact zqt (by simp;omega)
 ·intro j hj;by_cases hji:k=j
  ·subst hji;rw[zqn (by omega),zqt (by simp;omega),zqg (l:=B.set _ _),zqt (by omega)];rfl
  ·rw[old _ _ _ _ (by omega) (by omega) (by omega),w.xr j hj,zqg,zqg,zqn hji]
theorem Dy{e:E}{n:Nat}{r:Option Nat}{c:Code}{Q:XE->Fr->H->Prop}{f:Fr}:∀(m:Nat) {h:H},awp e n r c Q f (h++List.replicate m (.cells []))->awp e n r c Q f h
 |0,h,hw=>by simpa using hw
 |m+1,h,hw=>iC (Dy m (by rw[zqc];exact hw))
theorem Qk{n:Nat}:gX (List.replicate n .nils) (byC (List.replicate n [])):=by
 have:∀(m:Nat)(g:Nat->Nat),gX (List.replicate m .nils) ((List.range m).map fun k=> .ls (g k) 1 0 0 0):=by
  intro m
  induction m with
  |zero=>exact fun _=>gX.nil
  |succ m ih=>intro g;rw[List.replicate_succ,List.range_succ_eq_map,zrd,List.map_map];exact gX.cons eU (ih fun k=>g (k+1))
 have e:byC (List.replicate n [])=(List.range n).map fun k=> .ls (7+k) 1 0 0 0:=by unfold byC;rw[zsc];refine zsd fun k hk=> ?_;rw[zqg,List.getElem?_replicate];split<;>rfl
 rw[e];exact this n _
theorem WS.first{c:Ci}{h:H}{nr br wr:Nat}(h0:h[0]? =some (ciO c))(h1:h[1]? =some (.cells [.nils,.nils]))(h3:h[3]? =some (plO (aO c)))(hl:h.length=7)
 (a1:4<=nr) (a2:4<=br) (a3:4<=wr) (n1:nr≠br) (n2:nr≠wr) (n3:br≠wr)
 (b1:h[nr]? =some (.cells (List.replicate c.gates.length .nilm))) (b2:h[br]? =some (.cells (List.replicate c.gates.length .nils))) (b3:h[wr]? =some (.cells (mw c.gates.length nr br))) :
 WS c ((h++List.replicate c.gates.length (O.cells [])).set br (.cells (byC (List.replicate c.gates.length [])))) nr br wr c.gates.length 0 (List.replicate c.gates.length []) (List.replicate c.gates.length []):=by
 have lt:∀ {i:Nat} {x:O},h[i]? =some x->i<h.length:=fun hx=>(zqe hx).1;have l1:=lt b1;have l2:=lt b2;have l3:=lt b3;have old:∀(x:O) j,j<7->br≠j->((h++List.replicate c.gates.length (O.cells [])).set br x)[j]? =h[j]? :=fun x j h1 h2=>by rw[zqn h2,zqj (by omega)]
 refine⟨?_,?_,?_,?_,?_,?_,?_,?_,?_,by simp,by simp,by omega,by omega,by omega,by omega,by omega,by omega,n1,n2,n3⟩
 ·simp;omega
 ·rw[old _ 0 (by omega) (by omega)];exact h0
 ·rw[old _ 1 (by omega) (by omega)];exact h1
 ·rw[old _ 3 (by omega) (by omega)];exact h3
 ·rw[old _ wr (by omega) (by omega)];exact b3
 ·rw[old _ nr (by omega) (by omega),b1];have:jm c.gates.length 0=List.replicate c.gates.length .nilm:=by
   rw[List.eq_replicate_iff];refine⟨jR,fun v hv=> ?_⟩;obtain⟨j,_,rfl⟩:=zrh.1 hv;exact if_neg (by omega)
  rw[this]
 ·intro j hj;omega
 ·exact zqt (by simp;omega)
 ·intro j hj;rw[zqn (by omega),zsb (by omega),List.getElem?_replicate,if_pos (by omega),zqg,List.getElem?_replicate,if_pos hj];rfl
theorem Dz{names:List S}{ins:List (List S)}{i:Nat}{x:List (List Nat)×List (List Nat)}(h:i<ins.length):kN names i (ins.drop i) x=kN names (i+1) (ins.drop (i+1)) (jO names i ins[i] x):=by rw[List.drop_eq_getElem_cons h,kN]
theorem kE(names:List S)(i:Nat):∀(l:List S)(x:List (List Nat)×List (List Nat))(j:Nat),j≠i->(jO names i l x).1.getD j []=x.1.getD j []
 |[],x,j,h=>rfl
 |s::l,(N,B),j,h=>by
  rw[jO];cases wO names s with
  |none=>exact kE names i l (N,B) j h
  |some k =>
   dsimp only;split
   ·exact kE names i l (N,B) j h
   ·rw[kE names i l _ j h];show(N.set i _).getD j []=_;rw[zqg,zqn (Ne.symm h),<-zqg]
theorem xk{names:List S}{s:S}{k:Nat}(h:wO names s=some k):k<names.length:=by rw[<-Ag]at h;exact(qV h).1
mutual
theorem V.sh_dat(b:Nat):∀v:V,v.dat=true->v.sh b=v
 | .lp _ _,h | .ls _ _ _ _ _,h | .lm _,h | .yd _,h | .row _ _,h=>by simp[V.dat]at h
 | .fn f x y,h=>by simp only[V.dat,zqf]at h;simp only[V.sh,V.shs_dats b x h.1,V.shs_dats b y h.2]
 | .iface t e,h=>by simp only[V.dat]at h;simp only[V.sh,V.sh_dat b e h]
 | .agg vs,h=>by simp only[V.dat]at h;simp only[V.sh,V.shs_dats b vs h]
 | .tup vs,h=>by simp only[V.dat]at h;simp only[V.sh,V.shs_dats b vs h]
 | .grd g e,h=>by simp only[V.dat]at h;simp only[V.sh,V.sh_dat b e h]
 | .any,_ | .bool _,_ | .int _ _,_ | .str _,_ | .nilp,_ | .ip _,_ | .nils,_ | .is _ _ _,_ | .nilm,_ | .im _ _,_ | .nilf,_ | .nili,_=>by simp only[V.sh]
theorem V.shs_dats(b:Nat):∀vs:List V,V.dats vs=true->V.shs b vs=vs
 |[],_=>rfl
 |v::vs,h=>by simp only[V.dats,zqf]at h;rw[V.shs,V.sh_dat b v h.1,V.shs_dats b vs h.2]
end
theorem jS:∀l:List Nat,V.dats (cO l)=true
 |[]=>rfl
 |a::l=>by show(V.dat (nv a)&&V.dats (cO l))=true;rw[jS l];rfl
theorem sW{p:Nat->Bool}:∀vs:List V,(V.drops p vs).length=vs.length
 |[]=>rfl
 |v::vs=>by rw[V.drops,zrt,sW vs,zrt]
theorem sZ{p:Nat->Bool}:∀vs:List V,V.drops p vs=vs.map (V.drop p)
 |[]=>rfl
 |v::vs=>by rw[V.drops,sZ vs,zrd]
theorem lK{p:Nat->Bool}{vs:List V}(h:∀v∈vs,v.drop p=v):V.drops p vs=vs:=by
 rw[sZ]
 conv=>rhs;rw[<-List.map_id vs]
 exact zsd h
theorem xq{p:Nat->Bool}{n i:Nat}(hp:∀j,7+n<=j->p j=false):V.drops p (jm n i)=jm n i:=lK fun v hv=>by
 obtain⟨j,_,rfl⟩:=zrh.1 hv;by_cases h:j<i
 ·rw[if_pos h,V.drop,hp _ (by omega)];rfl
 ·rw[if_neg h];rfl
theorem WS.dropped{c:Ci}{h h':H}{nr br wr n i:Nat}{N B:List (List Nat)}(w:WS c h nr br wr n i N B){p:Nat->Bool}(hl:h'.length=h.length)(hb:h'[br]? =h[br]?)
 (hd:∀j,j≠br->h'[j]? =(h[j]?).map (O.drop p)\/h'[j]? =h[j]?) (hp:∀j,j<7\/7+n<=j->p j=false):WS c h' nr br wr n i N B:=by
 obtain⟨r1,r2,r3,r4,r5,r6,r7,r8,r9⟩:=w.r;have key:∀(j:Nat)(o:O),j≠br->h[j]? =some o->o.drop p=o->h'[j]? =some o:=fun j o h1 h2 h3=>by
  rcases hd j h1 with h4|h4
  ·rw[h4,h2,zrw,h3]
  ·rw[h4,h2]
 refine⟨by rw[hl];exact w.len,key _ _ (by omega) w.x0 rfl,key _ _ (by omega) w.x1 rfl,key _ _ (by omega) w.x3 ?_,key _ _ (by omega) w.xw ?_,key _ _ (by omega) w.xn ?_,fun j hj=>key _ _ (by omega) (w.xm j hj) ?_,by rw[hb];exact w.xb,fun k hk=>key _ _ (by omega) (w.xr k hk) ?_,w.lN,w.lB,w.r⟩
 ·show O.map (V.drops p _) (V.drops p _)=_;rw[aC,bz];rfl
 ·show O.cells (V.drops p (mw n nr br))=_;rw[lK];intro v hv;simp only[zrj,zrp,or_false]at hv;rcases hv with rfl|rfl
  ·rw[V.drop,hp _ (.inl r2)];rfl
  ·rw[V.drop,hp _ (.inl r4)];rfl
 ·show O.cells (V.drops p _)=_;rw[xq (fun j hj=>hp j (.inr hj))]
 ·show O.map (V.drops p _) (V.drops p _)=_;rw[lH,bz]
 ·show O.cells (V.drops p _)=_;rw[bz]
theorem MZ{B:List (List Nat)}{k:Nat}(hk:k<B.length)(v:V):(V.drops (fun x=>x==7+k) (byC B)).take (k*1)++[v]++(V.drops (fun x=>x==7+k) (byC B)).drop (k*1+1)=(byC B).take (k*1)++[v]++(byC B).drop (k*1+1):=by
 have same:∀j,j<B.length->j≠k->(V.drops (fun x=>x==7+k) (byC B))[j]? =(byC B)[j]? :=fun j hj hjk=>by rw[sZ,zqo];unfold byC;rw[zqo,List.getElem?_range hj];simp only[zrw,V.drop];rw[if_neg (by simp;omega)]
 rw[Nat.mul_one]
 congr 1
 ·congr 1
  apply List.ext_getElem?;intro j;by_cases hj:j<k
  ·rw[List.getElem?_take_of_lt hj,List.getElem?_take_of_lt hj,same j (by omega) (by omega)]
  ·rw[zsj (by simp;omega),zsj (by simp;omega)]
 ·apply List.ext_getElem?;intro j;rw[List.getElem?_drop,List.getElem?_drop];by_cases hj:k+1+j<B.length
  ·rw[same _ hj (by omega)]
  ·rw[zsj (by rw[sW,kQ];omega),zsj (by rw[kQ];omega)]
def VE(i:Nat)(N B:List (List Nat)):Prop:=∀k,(B.getD k []).length<=i+1/\((N.getD i []).contains k=false->(B.getD k []).length<=i)
theorem mD{α:Type}{l:List (List α)}{i j:Nat}{x:List α}(hi:i<l.length):(l.set i x).getD j []=if i=j then x else l.getD j []:=by
 rw[zqg,zqg];by_cases h:i=j
 ·subst h;rw[zqt hi,if_pos rfl];rfl
 ·rw[zqn h,if_neg h]
theorem VE.add{i k:Nat}{N B:List (List Nat)}(h:VE i N B)(hi:i<N.length)(hk:k<B.length)(hc:(N.getD i []).contains k=false):VE i (N.set i (N.getD i []++[k])) (B.set k (B.getD k []++[i])):=by
 intro j;rw[mD hi,mD hk,if_pos rfl];by_cases hjk:k=j
 ·subst hjk;rw[if_pos rfl,zqa,zrk];have:=(h k).2 hc;exact⟨by omega,fun h1=>by simp at h1⟩
 ·rw[if_neg hjk];refine⟨(h j).1,fun h1=>(h j).2 ?_⟩;rw[List.contains_eq_mem,zqd]at h1 ⊢;exact fun h2=>h1 (List.mem_append_left _ h2)
def byV(B:List (List Nat)):V:= .is false 1 (B.map fun l=> .is false 1 (cO l))
theorem xu:∀l:List Nat,dH 1 (cO l)=true
 |[]=>rfl
 |a::l=>by show(_&&dH 1 (cO l))=true;rw[xu l];rfl
theorem DC:∀l:List Nat,(cO l).flatMap V.vc=cO l
 |[]=>rfl
 |a::l=>by show V.vc (nv a)++(cO l).flatMap V.vc=_;rw[DC l];rfl
theorem um{e:E}{h:H}{id:Nat}{l:List Nat}(hc:h[id]? =some (.cells (cO l))):aA e h (.ls id 1 0 l.length l.length) (.is false 1 (cO l)) :=
 aA.ls hc (au.dat (jS l)) (xu l) (DC l) (by simp)
theorem uo{e:E}{h:H}{α:Type}{g g':α->V}:∀ {l:List α},(∀a∈l,aA e h (g a) (g' a))->au e h (l.map g) (l.map g')
 |[],_=>au.nil
 |a::l,hh=>au.cons (hh a (by simp)) (uo fun b hb=>hh b (by simp[hb]))
theorem GZ{α β:Type}(l:List α)(d:α)(f:α->β):(List.range l.length).map (fun k=>f (l.getD k d))=l.map f:=by
 apply List.ext_getElem?;intro j;by_cases hj:j<l.length
 ·rw[zqo,List.getElem?_range hj,zqo,zqk hj];show some (f (l.getD j d))=some (f l[j]);rw[zqg,zqk hj];rfl
 ·rw[zsj (by simp;omega),zsj (by simp;omega)]
theorem aA.rows{e:E}{h:H}{br:Nat}{B:List (List Nat)}(hb:h[br]? =some (.cells (byC B)))(hr:∀k,k<B.length->h[7+k]? =some (.cells (cO (B.getD k [])))):aA e h (.ls br 1 0 B.length B.length) (byV B):=by
 have fit:∀l:List (List Nat),dH 1 (l.map fun r=>V.is false 1 (cO r))=true:=fun l=>by
  induction l with
  |nil=>rfl
  |cons a l ih=>show(_&&dH 1 (l.map _))=true;rw[ih];rfl
 have flat:∀l:List (List Nat),(l.map fun r=>V.is false 1 (cO r)).flatMap V.vc=l.map fun r=>V.is false 1 (cO r):=fun l=>by
  induction l with
  |nil=>rfl
  |cons a l ih=>show V.vc _++(l.map _).flatMap V.vc=_;rw[ih];rfl
 refine aA.ls hb (cs':=B.map fun r=>V.is false 1 (cO r)) ?_ (fit B) (flat B) (by simp);rw[<-GZ B [] (fun r=>V.is false 1 (cO r))];exact uo fun k hk=>um (hr k (by simpa using hk))
def Na:Plan:=tkZ [0,2,3,5,8]<| .alt 1 (.alt 4 (.take 6<| .alt 7 (.one 9<| .one 10<| .take 11<| .one 12<| .fin) (.one 9 (.one 7<| .one 10<| .take 11<| .one 12<| .fin))) (.one 9 (.one 4<| .take 6<| .one 7<| .one 10<| .take 11<| .one 12<| .fin))) (.alt 4 (.take 6<| .alt 1 (.alt 7 (.one 9<| .one 10<| .take 11<| .one 12<| .fin) (.one 9 (.one 7<| .one 10<| .take 11<| .one 12<| .fin))) (.alt 7 (.alt 1 (.one 9<| .one 10<| .take 11<| .one 12<| .fin) (.one 9 (.alt 1 (.one 10<| .take 11<| .one 12<| .fin) (.one 10 (.one 1<| .take 11<| .one 12<| .fin))))) (.one 9 (.alt 1 (.one 7<| .one 10<| .take 11<| .one 12<| .fin) (.one 7 (.alt 1 (.one 10<| .take 11<| .one 12<| .fin) (.one 10 (.one 1<| .take 11<| .one 12<| .fin)))))))) (.one 9 (.alt 1 (.one 4<| .take 6<| .one 7<| .one 10<| .take 11<| .one 12<| .fin) (.one 4 (.take 6<| .alt 1 (.one 7<| .one 10<| .take 11<| .one 12<| .fin) (.one 7 (.alt 1 (.one 10<| .take 11<| .one 12<| .fin) (.one 10 (.one 1<| .take 11<| .one 12<| .fin)))))))))
def VQ(c:Ci):AEnd->H->(Nat->Bool)->Prop:=fun ae h _=>∃nr N B,uH (aO c) (gins c)=(N,B)/\N.length=c.gates.length/\B.length=c.gates.length/\nr<7/\4<=nr /\
 ae= .ret (.agg [.ls nr 1 0 c.gates.length c.gates.length,byV B])/\h[nr]? =some (.cells (jm c.gates.length c.gates.length))/\∀j,j<c.gates.length->h[7+c.gates.length+2*j+1]? =some (N8 (N.getD j []))
theorem Jc[MO](c:Ci)(hn:(aO c).Nodup)(hl:c.gates.length<=1000000)(hin:∀g∈c.gates,g.ins.length<=1000000):ag TE 101 [c.v] [] (VQ c):=by
 have hM:=mLx;obtain⟨n,hnn⟩:∃n,n=c.gates.length:=⟨_,rfl⟩;refine ax Tryz.func101 rfl (by simp[nts]) ?_;refine vn ?_;simp only[wq.1,Nat.reduceLT,Tryz.results101];refine vn ?_;simp only[wq.1,seval];refine lq (ul c hn hl) (by simp[V.dats,pJ]) ?_;rintro ae h' p ⟨rfl,rfl⟩;simp only[wq.1,seval,AEnd.sh,V.sh];obtain⟨W,hW⟩:∃W,W=uH (aO c) (gins c):=⟨_,rfl⟩;have hsh:O.sh 2 (ciO c)=ciO c:=by show O.cells (V.shs 2 _)=_;rw[V.shs_dats 2 _ (by have:=pJ c;unfold Ci.v at this;simpa only[V.dat]using this)]
 have hsp:O.sh 2 (plO (aO c))=plO (aO c):=by show O.map (V.shs 2 _) (V.shs 2 _)=_;rw[V.shs_dats 2 _ aG,V.shs_dats 2 _ (jS _)];rfl
 rw[hsh,hsp];refine vn ?_;refine VP c (B:=[ciO c,.cells [.nils,.nils],ciO c,plO (aO c)]) hl rfl (by simp only[wq.1,seval]) (by simp only[wq.1]) (fun f h nr br wr hhl hb t1 s2 s3 t4 hd a1 a2 a3 n1 n2 n3 b1 b2 b3=> ?_);simp only[zrt,List.length_nil]at hhl hb a1 a2 a3;have ws:=WS.first (hb 0 (by omega)) (hb 1 (by omega)) (hb 3 (by omega)) hhl a1 a2 a3 n1 n2 n3 b1 b2 b3
 have t2:f.t 2= .lp 1 0:=by rw[s2];simp only[wq.1,seval]
 have t3:f.t 3= .lm 3:=by rw[s3];simp only[wq.1,↓reduceIte]
 refine Dy c.gates.length ?_;refine jG (HLe.set (i:=br) (o':= .cells (byC (List.replicate c.gates.length []))) (by rw[zqj (zqe b2).1];exact b2) (OLe.cells (by rw[kQ,zsc,zsc];exact zrb _) (by rw[kQ,zsc,zqh (by rw[zsc];exact zrb _)];exact Qk))) ?_
 revert ws
 obtain ⟨h1,hh1⟩ : ∃ h1,h1 = (h ++ List.replicate c.gates.length (O.cells [])).set br (.cells (byC (List.replicate c.gates.length []))) := ⟨_,rfl⟩;rw [<- hh1,<- hnn];intro ws;clear hh1 b1 b2 b3 hb hhl h;have x0 := ws.x0;refine vn ?_;simp only [wq.1,seval,t1,x0];refine aF (fun m f h => ∃ (i : Nat) (N B : List (List Nat)),m + i = n /\ i <= n /\ WS c h nr br wr n i N B /\ (∀ j,i <= j -> N.getD j [] = []) /\ (∀ k,(B.getD k []).length <= i) /\ W = kN (aO c) i ((gins c).drop i) (N,B) /\ f.t 2 = .lp 1 0 /\ f.t 3 = .lm 3 /\ f.t 4 = .lp wr 0 /\ f.t 23 = iZ c.gates /\ f.t 24 = vi n /\ f.t 25 = vi i /\ f.d = []) n
  ⟨0,_,_,by omega,by omega,ws,fun j _=>by rw[zqg,List.getElem?_replicate];split<;>rfl,fun k=>by(rw[zqg,List.getElem?_replicate];split<;>exact zrb _),by rw[hW,hnn];unfold uH;rw[zra];rfl,by simp only[wq.1,seval,t2],by simp only[wq.1,seval,t3],by simp only[wq.1,seval,t4],by simp only[wq.1,seval],by simp only[wq.1,seval];rw[hnn],by simp only[wq.1,↓reduceIte];rfl,by simp only[wq.1,hd]⟩ ?_
 clear t1 t2 t3 t4 s2 s3 hd x0 ws h1 f;rintro m f h ⟨i,N,B,hm,hil,ws,hN0,hB0,hWi,t2,t3,t4,t23,t24,t25,hd⟩;have hw:=az (show i<maxLen by omega);refine vn ?_;simp only[wq.1,Nat.reduceLT,t24,t25];refine vn ?_;simp only[wq.1,↓reduceIte];have lnn:c.gates.length=n:=hnn.symm;refine vcB.mk (fun hlt=> ?_) (fun hlt=> ?_)
 ·have hlt:i<n:=by have:=zqs hlt;omega
  have hig:i<c.gates.length:=by omega
  obtain⟨g,hg⟩:∃g,g=c.gates[i]:=⟨_,rfl⟩;have hgg:=uM hig .any;rw[<-hg]at hgg;have gil:g.ins.length<=1000000:=hin g (hg▸zqu _);have hgi:(gins c)[i]'(by simpa using hig)=g.ins:=by rw[hg];simp
  rw[Dz (by simpa using hig),hgi]at hWi;have ws':=ws.step hlt (hN0 i (zrb _)) (.cells [.str g.name,vi g.op,aV g.ins,aV g.rows,.bool g.off]);have xw:=ws.xw;have xn:=ws.xn;have rr:=ws.r;have hhl:=ws.len;have e1:(h++[O.cells [V.str g.name,vi g.op,aV g.ins,aV g.rows,V.bool g.off]])[wr]? =some (.cells (mw n nr br)):=by rw[zqj (by omega)];exact xw
  obtain⟨cp,hcp⟩:∃cp:O,cp= .cells [.str g.name,vi g.op,aV g.ins,aV g.rows,.bool g.off]:=⟨_,rfl⟩;rw[<-hcp]at ws' e1;have e2:(h++[cp]++[.map [] []])[nr]? =some (.cells (jm n i)):=by rw[zqc,zqj (by omega)];exact xn
  have hgE:∀x:O,(h++[x])[h.length]? =some x:=fun x=>by simp
  have hgS:∀y:O,(h++[y]).set h.length (.cells [.str g.name,vi g.op,aV g.ins,aV g.rows,.bool g.off])=h++[cp]:=fun y=>by simp[hcp]
  have hin1:∀y:O,((h++[cp]++[y]).set nr (.cells (jm n (i+1))))[h.length]? =some (.cells [.str g.name,vi g.op,aV g.ins,aV g.rows,.bool g.off]):=fun y=>by rw[<-hcp,zqn (by omega),zqc,zsb (by omega),Nat.sub_self];rfl
  have hap:h++[cp]++[.map [] []]=h++[cp,.map [] []]:=by simp
  have hml:h.length+1=7+n+2*i+1:=by omega
  have hcg:(V.agg [V.str g.name,vi g.op,aV g.ins,aV g.rows,V.bool g.off])=g.v:=rfl;have hnc:=jR (n:=n) (i:=i);have hns:=MX hlt;rw[<-hap]at ws';simp only[wq.1];refine vn ?_;simp only[wq.1,seval,t4,t23,t25,hgg,hgE,hgS,e1,e2,hml,hns,hin1];obtain⟨h1,hh1⟩:∃h1,h1=(h++[cp]++[O.map [] []]).set nr (.cells (jm n (i+1))):=⟨_,rfl⟩;rw[<-hh1]at ws' ⊢;have hin2:=hin1 (.map [] []);rw[<-hh1]at hin2;rw[hnc];refine⟨⟨by omega,by omega⟩,⟨by omega,by omega⟩,by omega,?_⟩;obtain⟨M,hM1⟩:∃M,M=jO (aO c) i g.ins (N,B):=⟨_,rfl⟩;rw[<-hM1]at hWi;have hm1:M=jO (aO c) i (g.ins.drop 0) (N,B):=hM1;have hMo:∀j,i+1<=j->M.1.getD j []=[]:=fun j hj=>by rw[hM1,kE _ _ _ _ _ (by omega)];exact hN0 j (by omega)
  refine aF (fun m f h => ∃ (j : Nat) (N B : List (List Nat)),m + j = g.ins.length /\ j <= g.ins.length /\ WS c h nr br wr n (i + 1) N B /\ VE i N B /\ M = jO (aO c) i (g.ins.drop j) (N,B) /\ f.t 2 = .lp 1 0 /\ f.t 3 = .lm 3 /\ f.t 4 = .lp wr 0 /\ f.t 23 = iZ c.gates /\ f.t 24 = vi n /\ f.t 25 = vi i /\ f.t 5 = vi i /\ f.t 36 = aV g.ins /\ f.t 37 = vi g.ins.length /\ f.t 38 = vi j /\ f.d = []) g.ins.length
   ⟨0,N,B,by omega,by omega,ws',fun k=>⟨by have:=hB0 k;omega,fun _=>hB0 k⟩,hm1,by simp only[wq.1,seval,t2],by simp only[wq.1,seval,t3],by simp only[wq.1,seval,t4],by simp only[wq.1,seval,t23],by simp only[wq.1,seval,t24],by simp only[wq.1,seval,t25],by simp only[wq.1,seval],by simp only[wq.1,seval],by simp only[wq.1,seval],by simp only[wq.1,↓reduceIte];rfl,by simp only[wq.1,hd]⟩ ?_
  clear hm1 hin1 hin2 hgE hgS e1 e2 hap hml hnc hns ws' hh1 h1 xw xn hhl ws hN0 hB0 hM1 t2 t3 t4 t23 t24 t25 hd;clear h f N B;rintro m1 f h ⟨j,N,B,hm1,hjl,ws,hRB,hMi,t2,t3,t4,t23,t24,t25,t5,t36,t37,t38,hd⟩;have hwj:=az (show j<maxLen by omega);refine vn ?_;simp only[wq.1,Nat.reduceLT,t37,t38];refine vn ?_;simp only[wq.1,↓reduceIte];refine vcB.mk (fun hjt=> ?_) (fun hjt=> ?_)
  ·have hjt:j<g.ins.length:=by have:=zqs hjt;omega
   obtain⟨s,hs⟩:∃s,s=g.ins[j]:=⟨_,rfl⟩;have hgs:(g.ins.map V.str).getD j .any= .str s:=by rw[dL hjt,hs]
   rw[List.drop_eq_getElem_cons hjt,<-hs,jO]at hMi;have x3:=ws.x3;have xw:=ws.xw;have xn:=ws.xn;have xm:=ws.xm i (by omega);have hng:(jm n (i+1)).getD (i*1) .any= .lm (7+n+2*i+1):=by rw[Nat.mul_one,MW hlt,if_pos (by omega)]
   have htr:∀x q,Dw (N.getD i []) q=some x->(qW (N.getD i []).length).getD x .any= .bool true:=fun x q hx=>by rw[zqg,List.getElem?_replicate,if_pos (Dx hx).1];rfl
   have hnl:=jR (n:=n) (i:=i+1);obtain⟨Li,hLi⟩:∃Li,Li=N.getD i []:=⟨_,rfl⟩;rw[<-hLi]at xm htr;unfold plO at x3;cases hp:wO (aO c) s with
   |none =>
    rw[hp]at hMi;dsimp only at hMi;have hat:at? (aO c) s=none:=by rw[Ag];exact hp
    have hz:iP (.int .i64) (.int .i64 0) (cO Li)=some (Dw Li 0):=lJ 0 Li;cases hz1:Dw Li 0 with
    |none=>rw[hz1]at hz;simp only[wq.1];refine vm ?_;simp only[wq.1,seval,t3,t4,t5,t36,t38,hgs,x3,xw,xn,xm,hng,oQ,bW,hat,hz,hwj];refine⟨⟨by omega,by omega⟩,?_⟩;refine .inl ⟨m1-1,by omega,j+1,N,B,by omega,by omega,ws,hRB,hMi,by simp only[wq.1,seval,t2],by simp only[wq.1,seval,t3],by simp only[wq.1,seval,t4],by simp only[wq.1,seval,t23],by simp only[wq.1,seval,t24],by simp only[wq.1,seval,t25],by simp only[wq.1,seval,t5],by simp only[wq.1,seval,t36],by simp only[wq.1,seval,t37],by simp only[wq.1,↓reduceIte],by simp only[wq.1,hd]⟩
    |some x=>rw[hz1]at hz;have htx:=htr x 0 hz1;simp only[wq.1];refine vm ?_;simp only[wq.1,seval,t3,t4,t5,t36,t38,hgs,x3,xw,xn,xm,hng,oQ,bW,hat,hz,htx,hwj];refine⟨⟨by omega,by omega⟩,?_⟩;refine .inl ⟨m1-1,by omega,j+1,N,B,by omega,by omega,ws,hRB,hMi,by simp only[wq.1,seval,t2],by simp only[wq.1,seval,t3],by simp only[wq.1,seval,t4],by simp only[wq.1,seval,t23],by simp only[wq.1,seval,t24],by simp only[wq.1,seval,t25],by simp only[wq.1,seval,t5],by simp only[wq.1,seval,t36],by simp only[wq.1,seval,t37],by simp only[wq.1,↓reduceIte],by simp only[wq.1,hd]⟩
   |some k =>
    rw[hp]at hMi;dsimp only at hMi;have hkl:k<n:=by have:=xk hp;rw[zra]at this;omega
    have hat:at? (aO c) s=some k:=by rw[Ag];exact hp
    have hgr:(cO (List.range c.gates.length)).getD k .any=nv k:=by have:=xk hp;rw[zra]at this;rw[Va (by simpa using this),zqg,List.getElem?_range this];rfl
    have hz:iP (.int .i64) (.int .i64 (k:Int)) (cO Li)=some (Dw Li k):=lJ k Li;cases hz1:Dw Li k with
    |some x=>rw[hz1]at hz;have htx:=htr x k hz1;simp only[wq.1];refine vm ?_;simp only[wq.1,seval,t3,t4,t5,t36,t38,hgs,x3,xw,xn,xm,hng,oQ,bW,hat,hgr,hz,htx,hwj];have hcon:Li.contains k=true:=List.contains_iff_mem.2 ((Dx hz1).2▸zqu (Dx hz1).1);rw[<-hLi,if_pos hcon]at hMi;refine⟨⟨by omega,by omega⟩,⟨by omega,by omega⟩,by omega,?_⟩;refine .inl ⟨m1-1,by omega,j+1,N,B,by omega,by omega,ws,hRB,hMi,by simp only[wq.1,seval,t2],by simp only[wq.1,seval,t3],by simp only[wq.1,seval,t4],by simp only[wq.1,seval,t23],by simp only[wq.1,seval,t24],by simp only[wq.1,seval,t25],by simp only[wq.1,seval,t5],by simp only[wq.1,seval,t36],by simp only[wq.1,seval,t37],by simp only[wq.1,↓reduceIte],by simp only[wq.1,hd]⟩
    |none =>
     rw[hz1]at hz;have hcon:Li.contains k=false:=vg.1 hz1;have hmp:=MV hcon;obtain⟨X1,hX1⟩:∃X1,X1=cO (Li++[k]):=⟨_,rfl⟩;obtain⟨X2,hX2⟩:∃X2,X2=qW (Li++[k]).length:=⟨_,rfl⟩;rw[<-hX1,<-hX2]at hmp;rw[<-hLi,if_neg (by rw[hcon];decide)]at hMi;simp only[wq.1];refine vn ?_;simp only[wq.1,seval,t3,t4,t5,t36,t38,hgs,x3,xw,xn,xm,hng,oQ,bW,hat,hgr,hz,hmp];refine⟨⟨by omega,by omega⟩,⟨by omega,by omega⟩,by omega,⟨by omega,by omega⟩,by omega,?_⟩;have rr:=ws.r;have hBl:=ws.lB;have hhl:=ws.len;have ws2:=ws.add (g:=i) (k:=k) (by omega) (by omega) hkl;rw[<-hLi]at ws2;have hRB2:=hRB.add (by have:=ws.lN;omega) (by omega) (hLi▸hcon);have hRk:=(hRB k).2 (hLi▸hcon);obtain⟨Lk,hLk⟩:∃Lk,Lk=B.getD k []:=⟨_,rfl⟩;rw[<-hLk]at hMi hRB2 hRk;rw[<-hLi]at hRB2;rw[<-hLk,show N8 (Li++[k])= .map X1 X2 by rw[hX1,hX2]]at ws2;obtain⟨X3,hX3⟩:∃X3,X3=cO (Lk++[i]):=⟨_,rfl⟩;rw[<-hX3]at ws2;obtain⟨h1,hh1⟩:∃h1,h1=h.set (7+n+2*i+1) (.map X1 X2):=⟨_,rfl⟩;have y0:h1[wr]? =some (.cells (mw n nr br)):=by rw[hh1,zqn (by omega)];exact xw
     have y1:h1[br]? =some (.cells (byC B)):=by rw[hh1,zqn (by omega)];exact ws.xb
     have y2:h1[7+k]? =some (.cells (cO Lk)):=by rw[hh1,zqn (by omega),ws.xr k hkl,hLk]
     have hbg:(byC B).getD (k*1) .any= .ls (7+k) 1 0 Lk.length Lk.length:=by rw[Nat.mul_one,TD (by omega),hLk]
     have hbs:=TF (B:=B) (k:=k) (l:=Lk++[i]) (by omega);have hbl:=kQ (B:=B);have y3:∀x:O,((h1.map (O.drop fun x=>x==7+k)).set (7+k) x)[br]? =some (.cells (V.drops (fun x=>x==7+k) (byC B))):=fun x=>by rw[zqn (by omega),zqo,y1];rfl
     have y4:∀x:O,((h1.map (O.drop fun x=>x==7+k)).set (7+k) x)[wr]? =some (.cells (mw n nr br)):=fun x=>by
      rw[zqn (by omega),zqo,y0];show some (O.cells (V.drops _ _))=_;rw[lK];intro v hv;simp only[zrj,zrp,or_false]at hv;rcases hv with rfl|rfl
      ·rw[V.drop,if_neg (by simp;omega)]
      ·rw[V.drop,if_neg (by simp;omega)]
     have q1:(1==7+k)=false:=by rw[beq_eq_false_iff_ne];omega
     have q3:(3==7+k)=false:=by rw[beq_eq_false_iff_ne];omega
     have qw:(wr==7+k)=false:=by rw[beq_eq_false_iff_ne];omega
     have qn:(nr==7+k)=false:=by rw[beq_eq_false_iff_ne];omega
     have qb:(br==7+k)=false:=by rw[beq_eq_false_iff_ne];omega
     have hdl:=sW (p:=fun x=>x==7+k) (byC B);have hd3:V.drops (fun x=>x==7+k) X3=X3:=by rw[hX3,bz]
     have hlx:(Lk++[i]).length=Lk.length+1:=by simp
     rw[<-hh1]at ws2;rw[hlx,<-MZ (by omega)]at hbs;obtain⟨BY,hBY⟩:∃BY,BY=byC (B.set k (Lk++[i])):=⟨_,rfl⟩;rw[<-hBY]at hbs ws2;have ws3:WS c (((h1.map (O.drop fun x=>x==7+k)).set (7+k) (.cells X3)).set br (.cells BY)) nr br wr n (i+1) (N.set i (Li++[k])) (B.set k (Lk++[i])):=by
      refine ws2.dropped (p:=fun x=>x==7+k) (by simp) ?_ (fun j hj=> ?_) (fun j hj=>by rw[beq_eq_false_iff_ne];omega)
      ·have hbrl:br<h1.length:=(zqe y1).1;rw[zqt (by simpa using hbrl),zqt (by simpa using hbrl)]
      ·rw[zqn (Ne.symm hj),zqn (Ne.symm hj)];by_cases hjk:7+k=j
       ·subst hjk;have hkl2:=(zqe y2).1;refine .inr ?_;rw[zqt (by simpa using hkl2),zqt hkl2]
       ·refine .inl ?_;rw[zqn hjk,zqn hjk,zqo]
     have hnx:cO Lk++[V.int .i64 (i:Int)]=X3:=by rw[hX3,cO,cO,zql];rfl
     refine gQ mixed Na (fun f' h'=>f'.t 2= .lp 1 0/\f'.t 3= .lm 3/\f'.t 4= .lp wr 0/\f'.t 23=iZ c.gates/\f'.t 24=vi n/\f'.t 25=vi i/\f'.t 5=vi i/\f'.t 36=aV g.ins/\f'.t 37=vi g.ins.length/\f'.t 38=vi j/\f'.d=[]/\h'=((h1.map (O.drop fun x=>x==7+k)).set (7+k) (.cells X3)).set br (.cells BY)) (by rw[TEP];decide +kernel) (by decide +kernel) ?_ ?_
     ·rw[<-hh1];simp only[wq.1,seval,Na,t2,t3,t4,t23,t24,t25,t5,t36,t37,t38,hd,y0,y1,y2,y3,y4,hbg,hbs,hnx,q1,q3,qw,qb,hdl,hd3];have hby:=kQ (B:=B);have hbl2:k*1+1<=(byC B).length:=by omega
      have hrg:[0]=List.range 1:=rfl
      and_intros<;>first|omega|exact hrg|rfl
     ·rintro f' h' ⟨t2,t3,t4,t23,t24,t25,t5,t36,t37,t38,hd,rfl⟩;simp only[wq.1];refine vm ?_;simp only[wq.1,seval,t38,hwj];refine .inl ⟨m1-1,by omega,j+1,_,_,by omega,by omega,ws3,hRB2,hMi,by simp only[wq.1,seval,t2],by simp only[wq.1,seval,t3],by simp only[wq.1,seval,t4],by simp only[wq.1,seval,t23],by simp only[wq.1,seval,t24],by simp only[wq.1,seval,t25],by simp only[wq.1,seval,t5],by simp only[wq.1,seval,t36],by simp only[wq.1,seval,t37],by simp only[wq.1,↓reduceIte],by simp only[wq.1,hd]⟩
  ·have hj:j=g.ins.length:=by have:=of_decide_eq_false hjt;omega
   subst hj;rw[List.drop_length,jO]at hMi;refine vm ?_;simp only[wq.1,seval,t25,hw];rw[hMi]at hWi hMo;refine .inl ⟨m-1,by omega,i+1,N,B,by omega,by omega,ws,hMo,fun k=>(hRB k).1,hWi,by simp only[wq.1,seval,t2],by simp only[wq.1,seval,t3],by simp only[wq.1,seval,t4],by simp only[wq.1,seval,t23],by simp only[wq.1,seval,t24],by simp only[wq.1,↓reduceIte],by simp only[wq.1,hd]⟩
 ·have hi:i=n:=by have:=of_decide_eq_false hlt;omega
  subst hi;simp only[wq.1];rw[show(gins c).drop i=[]from List.drop_eq_nil_of_le (by simp;omega),kN]at hWi;obtain⟨BV,hBV⟩:∃BV,BV=byV B:=⟨_,rfl⟩;obtain⟨r1,r2,r3,r4,r5,r6,r7,r8,r9⟩:=ws.r;have lB:=ws.lB;obtain⟨p,hp⟩:∃p:Nat->Bool,p=fun j=>j==br||(decide (7<=j)&&decide (j<7+i)):=⟨_,rfl⟩;have p1:∀j,j<7->j≠br->p j=false:=fun j h1 h2=>by rw[hp];simp;omega
  have p2:∀j,7+i<=j->p j=false:=fun j h1=>by rw[hp];simp;omega
  have p3:p br=true:=by rw[hp];simp
  have p4:∀j,j<i->p (7+j)=true:=fun j h1=>by rw[hp];simp;omega
  obtain⟨h',hh'⟩:∃h',h'=(rW p 0 h).set wr (.cells [.ls nr 1 0 i i,BV]):=⟨_,rfl⟩;have hwl:wr<(rW p 0 h).length:=by
   have:(rW p 0 h)[wr]? ≠none:=by rw[je,ws.xw];simp
   exact Nat.lt_of_not_le fun hle=>this (zsj hle)
  have hw':h'[wr]? =some (.cells [.ls nr 1 0 i i,BV]):=by rw[hh',zqt hwl]
  have ho':∀j,j≠wr->p j=false->h'[j]? =(h[j]?).map (O.drop p):=fun j h1 h2=>by rw[hh',zqn (Ne.symm h1),je];simp only[Nat.zero_add,h2,zrm,if_false]
  show awp _ _ _ _ _ _ _;refine wz p h' (fun j hj=> ?_) (fun j o hj ho=> ?_) (fun j hj=>by rw[show(f.put (some 26) (V.bool (decide ((i:Int)<i)))).d=f.d from rfl,hd]at hj;cases hj) ?_
  ·by_cases hjw:j=wr
   ·subst hjw;refine .inr ⟨_,_,ws.xw,hw',.inl ?_,.inr ⟨?_,?_⟩,trivial⟩
    ·rw[V.drop,p1 nr r2 r7];rfl
    ·rw[V.drop];simp[p3]
    ·rw[hBV,<-lB];refine aA.rows ?_ (fun k hk=> ?_)
     ·rw[iK,ws.xb,zrw];simp only[Nat.zero_add,p3,if_true];show some (O.cells (V.drops _ _))=_;rw[lK];intro v hv;obtain⟨k,hk,rfl⟩:=zrh.1 hv;rw[V.drop,p4 k (by have:=List.mem_range.1 hk;omega)];rfl
     ·rw[iK,ws.xr k (by omega),zrw];simp only[Nat.zero_add,p4 k (by omega),if_true];show some (O.cells (V.drops _ _))=_;rw[bz]
   ·exact .inl (ho' j hjw hj)
  ·have hjw:j≠wr:=fun e=>by subst e;rw[p1 j r6 (Ne.symm r9)]at hj;cases hj
   rw[hh',zqn (Ne.symm hjw),je]at ho;simp only[Nat.zero_add,hj,if_true]at ho;cases hx:h[j]? with
   |none=>rw[hx]at ho;cases ho
   |some o1=>rw[hx]at ho;cases ho;rfl
  ·have x1:h'[1]? =some (.cells [.nils,.nils]):=by rw[ho' 1 (by omega) (p1 1 (by omega) (by omega)),ws.x1];rfl
   have xn:h'[nr]? =some (.cells (jm i i)):=by rw[ho' nr r8 (p1 nr r2 r7),ws.xn];show some (O.cells (V.drops p _))=_;rw[xq p2]
   have xm:∀j,j<i->h'[7+i+2*j+1]? =some (N8 (N.getD j [])):=fun j hj=>by rw[ho' _ (by omega) (p2 _ (by omega)),ws.xm j hj];show some (O.map (V.drops p _) (V.drops p _))=_;rw[lH,bz]
   obtain⟨f',hf'⟩:∃f':Fr,f'={f.put (some 26) (V.bool (decide ((i:Int)<i)))with t:=fun j=>((f.put (some 26) (V.bool (decide ((i:Int)<i)))).t j).drop p,k:=fun j=>(f.put (some 26) (V.bool (decide ((i:Int)<i)))).k j||p j}:=⟨_,rfl⟩;have u2:f'.t 2= .lp 1 0:=by rw[hf'];show(f.t 2).drop p=_;rw[t2,V.drop,p1 1 (by omega) (by omega)];rfl
   have u4:f'.t 4= .lp wr 0:=by rw[hf'];show(f.t 4).drop p=_;rw[t4,V.drop,p1 wr r6 (Ne.symm r9)];rfl
   have ud:f'.d=[]:=by rw[hf'];exact hd
   have hl1:1<h'.length:=(zqe x1).1;rw[<-hf'];have hl1':∀x:O,(h'.set 1 x)[1]? =some x:=fun x=>zqt hl1;have xn':∀x:O,(h'.set 1 x)[nr]? =some (.cells (jm i i)):=fun x=>by rw[zqn (by omega)];exact xn
   have xm':∀(x:O) j,j<i->(h'.set 1 x)[7+i+2*j+1]? =some (N8 (N.getD j [])):=fun x j hj=>by rw[zqn (by omega)];exact xm j hj
   have hlN:=ws.lN;refine vm ?_;simp only[wq.1,seval,u2,u4,ud,hw',x1,hl1'];refine⟨by rw[hBV];rfl,?_⟩;refine⟨nr,N,B,hW.symm.trans hWi,by omega,by omega,r2,r1,?_,?_,?_⟩
   ·rw[hBV,lnn]
   ·rw[lnn];exact xn' _
   ·rw[lnn];exact xm' _
structure Wt(n:Nat)(N B:List (List Nat)):Prop where
 lN:N.length=n
 lB:B.length=n
 iff:∀j k,k∈N.getD j []↔j∈B.getD k []
 nN:∀j,(N.getD j []).Nodup
 nB:∀k,(B.getD k []).Nodup
 lt:∀j k,k∈N.getD j []->j<n/\k<n
theorem yP{l:List Nat}{x:Nat}(h:l.Nodup)(hx:x∉l):(l++[x]).Nodup :=
 List.nodup_append.2 ⟨h,by simp,fun a ha b hb hab=>by rw[zrc.1 hb]at hab;exact hx (hab▸ha)⟩
theorem Wt.add{n:Nat}{N B:List (List Nat)}(w:Wt n N B){i k:Nat}(hi:i<n)(hk:k<n)(hc:k∉N.getD i []):Wt n (N.set i (N.getD i []++[k])) (B.set k (B.getD k []++[i])):=by
 have lN:=w.lN;have lB:=w.lB;have hb:i∉B.getD k []:=fun h=>hc ((w.iff i k).2 h);have gN:∀j,(N.set i (N.getD i []++[k])).getD j []=if i=j then N.getD i []++[k]else N.getD j []:=fun j=>mD (by omega)
 have gB:∀j,(B.set k (B.getD k []++[i])).getD j []=if k=j then B.getD k []++[i]else B.getD j []:=fun j=>mD (by omega)
 refine⟨by rw[zrn];exact lN,by rw[zrn];exact lB,fun j q=> ?_,fun j=> ?_,fun q=> ?_,fun j q hq=> ?_⟩
 ·rw[gN,gB];have h0:=w.iff j q;by_cases h1:i=j<;>by_cases h2:k=q
  ·subst h1;subst h2;simp
  ·subst h1;rw[if_pos rfl,if_neg h2,zrf,zrc,<-h0];exact⟨fun h=>h.elim id (fun e=>absurd e.symm h2),.inl⟩
  ·subst h2;rw[if_neg h1,if_pos rfl,zrf,zrc,h0];exact⟨.inl,fun h=>h.elim id (fun e=>absurd e.symm h1)⟩
  ·rw[if_neg h1,if_neg h2];exact h0
 ·rw[gN];split
  ·exact yP (w.nN i) hc
  ·exact w.nN j
 ·rw[gB];split
  ·exact yP (w.nB k) hb
  ·exact w.nB q
 ·rw[gN]at hq;split at hq
  ·rename_i h1;subst h1;rcases zrf.1 hq with h|h
   ·exact w.lt i q h
   ·rw[zrc.1 h];exact⟨hi,hk⟩
  ·exact w.lt j q hq
theorem qX{names:List S}{i n:Nat}(hi:i<n)(hn:names.length=n):∀(l:List S)(N B:List (List Nat)),Wt n N B->Wt n (jO names i l (N,B)).1 (jO names i l (N,B)).2
 |[],N,B,w=>w
 |s::l,N,B,w=>by
  rw[jO];cases h:wO names s with
  |none=>exact qX hi hn l N B w
  |some k =>
   dsimp only;split
   ·exact qX hi hn l N B w
   ·rename_i hc;exact qX hi hn l _ _ (w.add hi (by have:=xk h;omega) (by simpa using hc))
theorem yQ{names:List S}{n:Nat}(hn:names.length=n):∀(r:List (List S))(i:Nat)(N B:List (List Nat)),i+r.length<=n->Wt n N B->Wt n (kN names i r (N,B)).1 (kN names i r (N,B)).2
 |[],i,N,B,_,w=>w
 |l::r,i,N,B,hi,w=>by rw[kN];have:=qX (i:=i) (by simp at hi;omega) hn l N B w;exact yQ hn r (i+1) _ _ (by simp at hi;omega) this
theorem G6{names:List S}{ins:List (List S)}(h:names.length=ins.length):Wt ins.length (uH names ins).1 (uH names ins).2:=by
 have hr:∀j,(List.replicate ins.length ([]:List Nat)).getD j []=[]:=fun j=>by rw[zqg,List.getElem?_replicate];split<;>rfl
 refine yQ h ins 0 _ _ (by omega) ⟨by simp,by simp,fun j k=> ?_,fun j=> ?_,fun j=> ?_,fun j k hk=> ?_⟩
 ·rw[hr,hr];simp
 ·rw[hr];exact List.nodup_nil
 ·rw[hr];exact List.nodup_nil
 ·rw[hr]at hk;cases hk
theorem qY(N:List (List Nat)):∀(l Q:List Nat),(uI N l Q).Perm (Q++l.filter fun i=>(N.getD i []).isEmpty)
 |[],Q=>by rw[uI];simp
 |i::l,Q=>by
  rw[uI];by_cases h:(N.getD i []).isEmpty=true
  ·rw[if_pos h,List.filter_cons_of_pos (by exact h)];refine(qY N l _).trans ?_;refine((nU Q i).append_right _).trans ?_;rw[zqc];rfl
  ·rw[if_neg h,List.filter_cons_of_neg (by exact h)];exact qY N l Q
structure Cv(n:Nat)(N0:List (List Nat))(D:List Nat)(N:List (List Nat))(Q:List Nat):Prop where
 lN:N.length=n
 nn:∀j,N.getD j []=(N0.getD j []).filter fun k=> !D.contains k
 nd:(Q++D).Nodup
 mem:∀j,j∈Q\/j∈D↔j<n/\N.getD j []=[]
theorem Cv.born{n:Nat}{N B:List (List Nat)}(w:Wt n N B):Cv n N [] N (uI N (List.range n) []):=by
 have hp:=qY N (List.range n) [];rw[List.nil_append]at hp;refine⟨w.lN,fun j=> ?_,?_,fun j=> ?_⟩
 ·rw[List.filter_eq_self.2];intro a _;simp
 ·rw[zqp];exact hp.nodup_iff.2 (List.nodup_range.sublist List.filter_sublist)
 ·rw[hp.mem_iff,List.mem_filter,List.mem_range,List.isEmpty_iff];simp
structure Fv(n:Nat)(N0:List (List Nat))(D:List Nat)(a:Nat)(r:List Nat)(N:List (List Nat))(Q:List Nat):Prop where
 lN:N.length=n
 nn:∀j,N.getD j []=(N0.getD j []).filter fun k=> !D.contains k&&(k != a||r.contains j)
 nd:(Q++(D++[a])).Nodup
 mem:∀j,j∈Q\/j∈D++[a]↔j<n/\N.getD j []=[]
theorem yR{Q:List Nat}(h:Q≠[]):Q.Perm ((mZ Q).dropLast++[(mZ Q).getLastD 0]):=by
 have hl:=LU h;have hne:mZ Q≠[]:=fun e=>by rw[e]at hl;exact h (List.eq_nil_of_length_eq_zero (by simpa using hl.symm))
 have e:(mZ Q).getLastD 0=(mZ Q).getLast hne:=by rw[List.getLastD_eq_getLast?,List.getLast?_eq_getLast hne];rfl
 rw[e,List.dropLast_concat_getLast hne];exact(Gs h).symm
theorem Cv.pop{n:Nat}{N0 B:List (List Nat)}(w:Wt n N0 B){D Q:List Nat}{N:List (List Nat)}(c:Cv n N0 D N Q)(h:Q≠[]) :
 Fv n N0 D ((mZ Q).getLastD 0) (B.getD ((mZ Q).getLastD 0) []) N (mZ Q).dropLast:=by
 have hp:=yR h;refine⟨c.lN,fun j=> ?_,?_,fun j=> ?_⟩
 ·rw[c.nn];refine List.filter_congr fun k hk=> ?_;by_cases hka:k=(mZ Q).getLastD 0
  ·have:=(w.iff j k).1 hk;rw[hka]at this;have h1:(B.getD ((mZ Q).getLastD 0) []).contains j=true:=List.contains_iff_mem.2 this;rw[h1,Bool.or_true,Bool.and_true]
  ·have:(k != (mZ Q).getLastD 0)=true:=by simpa using hka
   rw[this,Bool.true_or,Bool.and_true]
 ·have:=(hp.append_right D).nodup_iff.1 c.nd;refine List.Perm.nodup_iff ?_ |>.1 this;rw[zqc];exact List.Perm.append_left _ List.perm_append_comm
 ·rw[<-c.mem j,hp.mem_iff];simp only[zrf,zrc];constructor
  ·rintro(h|h|h)
   ·exact .inl (.inl h)
   ·exact .inr h
   ·exact .inl (.inr h)
  ·rintro((h|h)|h)
   ·exact .inl h
   ·exact .inr (.inr h)
   ·exact .inr (.inl h)
theorem Fv.step{n:Nat}{N0 B:List (List Nat)}(w:Wt n N0 B){D Q r:List Nat}{a i:Nat}{N:List (List Nat)}(c:Fv n N0 D a (i::r) N Q)(hi:i∈B.getD a [])(hr:i∉r) :
 Fv n N0 D a r (N.set i ((N.getD i []).filter (· != a))) (if((N.getD i []).filter (· != a)).isEmpty=true then Cm Q i else Q):=by
 have ha:a∈N0.getD i []:=(w.iff i a).2 hi;have hin:=(w.lt i a ha).1;have lN:=c.lN;have had:a∉D:=fun h=>by have:=(List.nodup_append.1 c.nd).2.1;exact(List.nodup_append.1 this).2.2 a h a (by simp) rfl
 have hai:a∈N.getD i []:=by rw[c.nn,List.mem_filter];refine⟨ha,?_⟩;simp[had]
 have hni:¬(i∈Q\/i∈D++[a]):=fun h=>by rw[((c.mem i).1 h).2]at hai;cases hai
 have g:∀j,(N.set i ((N.getD i []).filter (· != a))).getD j []=if i=j then(N.getD i []).filter (· != a)else N.getD j []:=fun j=>mD (by omega)
 refine⟨by rw[zrn];exact lN,fun j=> ?_,?_,fun j=> ?_⟩
 ·rw[g];split
  ·rename_i hij;subst hij;rw[c.nn,List.filter_filter];refine List.filter_congr fun k _=> ?_;have h1:(i::r).contains i=true:=by simp
   have h2:r.contains i=false:=by simpa using hr
   rw[h1,h2];cases(k != a)<;>simp
  ·rename_i hij;rw[c.nn];refine List.filter_congr fun k _=> ?_;have:(i::r).contains j=r.contains j:=by
    rw[List.contains_cons,beq_eq_false_iff_ne.2 (fun e=>hij e.symm),Bool.false_or]
   rw[this]
 ·split
  ·refine((nU Q i).append_right _).nodup_iff.2 ?_;rw[zqc];refine List.nodup_append.2 ⟨(List.nodup_append.1 c.nd).1,List.nodup_cons.2 ⟨fun h=>hni (.inr h),(List.nodup_append.1 c.nd).2.1⟩,fun x hx y hy hxy=> ?_⟩;subst hxy;rcases zrj.1 hy with h|h
   ·exact hni (.inl (h▸hx))
   ·exact(List.nodup_append.1 c.nd).2.2 x hx x h rfl
  ·exact c.nd
 ·rw[g];by_cases he:((N.getD i []).filter (· != a)).isEmpty=true
  ·rw[if_pos he,(nU Q i).mem_iff,zrf,zrc];by_cases hij:i=j
   ·subst hij;rw[if_pos rfl];exact⟨fun _=>⟨hin,List.isEmpty_iff.1 he⟩,fun _=> .inl (.inr rfl)⟩
   ·rw[if_neg hij,<-c.mem j];exact⟨fun h=>h.elim (fun h=>h.elim .inl fun e=>absurd e.symm hij) .inr,fun h=>h.elim (fun h=> .inl (.inl h)) .inr⟩
  ·rw[if_neg he];by_cases hij:i=j
   ·subst hij;rw[if_pos rfl];exact⟨fun h=>absurd h hni,fun h=>absurd (List.isEmpty_iff.2 h.2) he⟩
   ·rw[if_neg hij,<-c.mem j]
theorem Fv.done{n:Nat}{N0:List (List Nat)}{D Q:List Nat}{a:Nat}{N:List (List Nat)}(c:Fv n N0 D a [] N Q):Cv n N0 (D++[a]) N Q:=by
 refine⟨c.lN,fun j=> ?_,c.nd,c.mem⟩;rw[c.nn];refine List.filter_congr fun k _=> ?_;by_cases h:k=a
 ·subst h;simp
 ·have:(k != a)=true:=by simpa using h
  rw[this];simp[h]
theorem qZ:∀ {n:Nat} {l:List Nat},l.Nodup->(∀x∈l,x<n)->l.length<=n
 |0,l,_,hl=>by
  cases l with
  |nil=>exact zrb _
  |cons x l=>exact absurd (hl x (by simp)) (Nat.not_lt_zero _)
 |n+1,l,h,hl=>by
  by_cases hn:n∈l
  ·have:=qZ (n:=n) (h.erase n) (fun x hx=>by
    have h1:=hl x (List.mem_of_mem_erase hx);have h2:x≠n:=fun e=>by subst e;exact(List.Nodup.mem_erase_iff h).1 hx |>.1 rfl
    omega)
   rw[List.length_erase_of_mem hn]at this;omega
  ·have:=qZ (n:=n) h (fun x hx=>by
    have h1:=hl x hx;have h2:x≠n:=fun e=>hn (e▸hx);omega)
   omega
theorem Cv.len{n:Nat}{N0:List (List Nat)}{D Q:List Nat}{N:List (List Nat)}(c:Cv n N0 D N Q):Q.length+D.length<=n:=by have:=qZ c.nd (fun x hx=>((c.mem x).1 (zrf.1 hx)).1);simpa using this
theorem Fv.len{n:Nat}{N0:List (List Nat)}{D Q r:List Nat}{a:Nat}{N:List (List Nat)}(c:Fv n N0 D a r N Q):Q.length+D.length+1<=n:=by have:=qZ c.nd (fun x hx=>((c.mem x).1 (zrf.1 hx)).1);simp at this;omega
end Go.Proofs.YtokppohljajhjaaGreatDoor
