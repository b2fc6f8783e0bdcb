/- Lemmas for this claim, part F05: each holds under what it names. -/
import Derived.Test.YthaijohbpdabfaaGreatDoorNF04
import Derived.Test.YthaijohbpdabfaaGreatDoorNA9
set_option linter.all false
set_option maxRecDepth 20000
namespace Go.Proofs.YthaijohbpdabfaaGreatDoor
open Go Go.Proofs Go.Abs
def w2A(n:Nat)(gs:V):List (Nat×Nat×V):=[(0,13,.lp 0 3),(1,14,gs),(2,15,vi n),(4,17,.lp 0 3),(5,18,gs),(6,19,vi n)]
def w2C(L:Array Bool):Nat:=(if L.getD 3 false=true then 1 else 0)+(if L.getD 7 false=true then 1 else 0)+(if L.getD 9 false=true then 1 else 0)
abbrev mw(n nr br:Nat):List V:=[.ls nr 1 0 n n,.ls br 1 0 n n]
structure W2(c:Ci)(B:H)(L:Array Bool)(f f0:Fr)(h:H)(nr br wr:Nat):Prop where
 len:h.length=B.length+w2C L
 base:∀i,i<B.length->h[i]? =B[i]?
 fa:FA L f (w2A c.gates.length (iG c.gates))
 t1:f.t 1= .lp 0 0
 t2:f.t 2=f0.t 2
 t3:f.t 3=f0.t 3
 d:f.d=[]
 a3:L.getD 3 false=true->f.t 16= .ls nr 1 0 c.gates.length c.gates.length/\B.length<=nr/\h[nr]? =some (.cells (List.replicate c.gates.length .nilm))
 a7:L.getD 7 false=true->f.t 20= .ls br 1 0 c.gates.length c.gates.length/\B.length<=br/\h[br]? =some (.cells (List.replicate c.gates.length .nils))
 a8:L.getD 8 false=true->f.t 21= .agg (mw c.gates.length nr br)
 a9:L.getD 9 false=true->f.t 4= .lp wr 0/\B.length<=wr/\h[wr]? =some (.cells (if L.getD 10 false=true then mw c.gates.length nr br else [.nils,.nils]))
 n37:L.getD 3 false=true->L.getD 7 false=true->nr≠br
 n39:L.getD 3 false=true->L.getD 9 false=true->nr≠wr
 n79:L.getD 7 false=true->L.getD 9 false=true->br≠wr
theorem Ye[MO](c:Ci){r:Option Nat}{Q:XE->Fr->H->Prop}{f0:Fr}{B:H}(hl:c.gates.length<=1000000)
 (g0:B[0]? =some (ciO c)) (t1:f0.t 1= .lp 0 0) (d0:f0.d=[])
 (hk:∀f h nr br wr,h.length=B.length+3->(∀i,i<B.length->h[i]? =B[i]?)->f.t 1= .lp 0 0->f.t 2=f0.t 2->f.t 3=f0.t 3->f.t 4= .lp wr 0->f.d=[]->B.length<=nr->B.length<=br->B.length<=wr->nr≠br->nr≠wr->br≠wr ->
  h[nr]? =some (.cells (List.replicate c.gates.length .nilm))->h[br]? =some (.cells (List.replicate c.gates.length .nils))->h[wr]? =some (.cells (mw c.gates.length nr br))->Q .normal f h) :
 awp TE 80 r (.region 2 (WN Tryz.f172 2) true) Q f0 B:=by
 simp only[WN,Tryz.f172,Eg,List.nil_append,zqp,List.headD_cons,Nat.reduceBEq,zrm,if_false,if_true,List.cons_append];have hM:=mLx;have l0:0<B.length:=(zqe g0).1;refine QN mixed (fun L f h=>∃nr br wr,W2 c B L f f0 h nr br wr) (by decide +kernel) ?_ ?_ ?_
 ·refine⟨0,0,0,⟨by simp[w2C],fun _ _=>rfl,FA.none,t1,rfl,rfl,d0,?_,?_,?_,?_,?_,?_,?_⟩⟩
  all_goals (intro h;exfalso;revert h;decide +kernel)
 ·rintro L f h i hcl ⟨nr,br,wr,k⟩ hi;have hlt:i<11:=QM hi;have no:=Nq hi;have sz:=J7 hi;have t1:=k.t1;have h0:h[0]? =some (ciO c):=by rw[k.base 0 l0];exact g0
  have pu:∀(d:Nat)(v:V),(∀x∈w2A c.gates.length (iG c.gates),x.1=i->x.2.1=d/\x.2.2=v)->(∀x∈w2A c.gates.length (iG c.gates),x.2.1=d->x.1=i)->(decide (d∉([1,2,3,4,16,20,21]:List Nat))&&decide (i∉([3,7,8,9,10]:List Nat)))=true ->
   ∃nr br wr,W2 c B (L.setIfInBounds i true) (f.put (some d) v) f0 h nr br wr:=by
   intro d v h1 h2 h3;rw[zqf,zqb,zqb]at h3;simp only[zrj,zrp,or_false,not_or]at h3;obtain⟨⟨d1,d2,d3,d4,d16,d20,d21⟩,i3,i7,i8,i9,i10⟩:=h3;have g:∀j,j≠i->(L.setIfInBounds i true).getD j false=L.getD j false:=fun j hj=>getD_set_ne false (Ne.symm hj);have p:∀j,j≠d->(f.put (some d) v).t j=f.t j:=fun j hj=>by simp[Fr.put,hj]
   refine⟨nr,br,wr,⟨?_,k.base,k.fa.put h1 h2,?_,?_,?_,k.d,?_,?_,?_,?_,?_,?_,?_⟩⟩
   ·rw[k.len];unfold w2C;rw[g 3 (Ne.symm i3),g 7 (Ne.symm i7),g 9 (Ne.symm i9)]
   ·rw[p 1 (Ne.symm d1)];exact k.t1
   ·rw[p 2 (Ne.symm d2)];exact k.t2
   ·rw[p 3 (Ne.symm d3)];exact k.t3
   ·rw[g 3 (Ne.symm i3),p 16 (Ne.symm d16)];exact k.a3
   ·rw[g 7 (Ne.symm i7),p 20 (Ne.symm d20)];exact k.a7
   ·rw[g 8 (Ne.symm i8),p 21 (Ne.symm d21)];exact k.a8
   ·rw[g 9 (Ne.symm i9),g 10 (Ne.symm i10),p 4 (Ne.symm d4)];exact k.a9
   ·rw[g 3 (Ne.symm i3),g 7 (Ne.symm i7)];exact k.n37
   ·rw[g 3 (Ne.symm i3),g 9 (Ne.symm i9)];exact k.n39
   ·rw[g 7 (Ne.symm i7),g 9 (Ne.symm i9)];exact k.n79
  have hfa:=k.fa
  match i,hlt with
  |0,_=>have pu:=pu 13 (.lp 0 3) (by simp[w2A]) (by simp[w2A]) (by decide);simp only[wq.1,Nat.reduceLT,t1];exact pu
  |1,_=>have dp:=jl hi (l:=[0]) (by decide +kernel);have e13:=FAz hfa 0 13 (.lp 0 3) (by simp[w2A]) (dp 0 (by simp));have pu:=pu 14 (iG c.gates) (by simp[w2A]) (by simp[w2A]) (by decide);simp only[wq.1,seval,h0,e13];exact pu
  |2,_=>have dp:=jl hi (l:=[1]) (by decide +kernel);have e14:=FAz hfa 1 14 (iG c.gates) (by simp[w2A]) (dp 1 (by simp));have pu:=pu 15 (vi c.gates.length) (by simp[w2A]) (by simp[w2A]) (by decide);simp only[wq.1,Nat.reduceLT,e14];exact pu
  |3,_ =>
   have dp:=jl hi (l:=[2]) (by decide +kernel);have e15:=FAz hfa 2 15 (vi c.gates.length) (by simp[w2A]) (dp 2 (by simp));simp only[wq.1,seval,e15];have sf:(L.setIfInBounds 3 true).getD 3 false=true:=by simp[Array.getD,sz]
   have g:∀j,j≠3->(L.setIfInBounds 3 true).getD j false=L.getD j false:=fun j hj=>getD_set_ne false (Ne.symm hj);have p:∀(v:V) j,j≠16->(f.put (some 16) v).t j=f.t j:=fun v j hj=>by simp[Fr.put,hj]
   have ps:∀v:V,(f.put (some 16) v).t 16=v:=fun v=>by simp[Fr.put]
   have old:∀(o:O) i x,h[i]? =some x->(h++[o])[i]? =some x:=fun o i x hx=>by rw[zqj (zqe hx).1];exact hx
   have lt:∀ {i:Nat} {x:O},h[i]? =some x->i<h.length:=fun hx=>(zqe hx).1;have hB:B.length<=h.length:=by rw[k.len];omega
   have bs:∀(o:O) i,i<B.length->(h++[o])[i]? =B[i]? :=fun o i hi=>by rw[zqj (by omega)];exact k.base i hi
   have nw:∀o:O,(h++[o])[h.length]? =some o:=fun o=>by simp
   have n8:L.getD 8 false=false:=oN hcl no (by decide +kernel);have n10:L.getD 10 false=false:=oN hcl n8 (by decide +kernel);refine⟨⟨by omega,by omega⟩,h.length,br,wr,⟨?_,bs _,hfa.put (by simp[w2A]) (by simp[w2A]),?_,?_,?_,k.d,?_,?_,?_,?_,?_,?_,?_⟩⟩
   ·rw[zqa,k.len];unfold w2C;rw[sf,g 7 (by decide),g 9 (by decide),no];simp only[zrt,List.length_nil,if_true,zrm,if_false];omega
   ·rw[p _ 1 (by decide)];exact k.t1
   ·rw[p _ 2 (by decide)];exact k.t2
   ·rw[p _ 3 (by decide)];exact k.t3
   ·intro _;exact⟨ps _,hB,nw _⟩
   ·rw[g 7 (by decide),p _ 20 (by decide)];exact fun hh=>⟨(k.a7 hh).1,(k.a7 hh).2.1,old _ _ _ (k.a7 hh).2.2⟩
   ·rw[g 8 (by decide),n8];intro hh;cases hh
   ·rw[g 9 (by decide),g 10 (by decide),p _ 4 (by decide),n10,if_neg (by decide)];intro hh;have:=k.a9 hh;rw[n10,if_neg (by decide)]at this;exact⟨this.1,this.2.1,old _ _ _ this.2.2⟩
   ·rw[g 7 (by decide)];intro _ hh;have:=lt (k.a7 hh).2.2;omega
   ·rw[g 9 (by decide)];intro _ hh;have:=lt (k.a9 hh).2.2;omega
   ·rw[g 7 (by decide),g 9 (by decide)];exact k.n79
  |4,_=>have pu:=pu 17 (.lp 0 3) (by simp[w2A]) (by simp[w2A]) (by decide);simp only[wq.1,Nat.reduceLT,t1];exact pu
  |5,_=>have dp:=jl hi (l:=[4]) (by decide +kernel);have e13:f.t 17= .lp 0 3:=hfa (4,17,.lp 0 3) (by simp[w2A]) (dp 4 (by simp));have pu:=pu 18 (iG c.gates) (by simp[w2A]) (by simp[w2A]) (by decide);simp only[wq.1,seval,h0,e13];exact pu
  |6,_=>have dp:=jl hi (l:=[5]) (by decide +kernel);have e14:f.t 18=iG c.gates:=hfa (5,18,iG c.gates) (by simp[w2A]) (dp 5 (by simp));have pu:=pu 19 (vi c.gates.length) (by simp[w2A]) (by simp[w2A]) (by decide);simp only[wq.1,Nat.reduceLT,e14];exact pu
  |7,_ =>
   have dp:=jl hi (l:=[6]) (by decide +kernel);have e19:=FAz hfa 6 19 (vi c.gates.length) (by simp[w2A]) (dp 6 (by simp));simp only[wq.1,seval,e19];have sf:(L.setIfInBounds 7 true).getD 7 false=true:=by simp[Array.getD,sz]
   have g:∀j,j≠7->(L.setIfInBounds 7 true).getD j false=L.getD j false:=fun j hj=>getD_set_ne false (Ne.symm hj);have p:∀(v:V) j,j≠20->(f.put (some 20) v).t j=f.t j:=fun v j hj=>by simp[Fr.put,hj]
   have ps:∀v:V,(f.put (some 20) v).t 20=v:=fun v=>by simp[Fr.put]
   have old:∀(o:O) i x,h[i]? =some x->(h++[o])[i]? =some x:=fun o i x hx=>by rw[zqj (zqe hx).1];exact hx
   have lt:∀ {i:Nat} {x:O},h[i]? =some x->i<h.length:=fun hx=>(zqe hx).1;have hB:B.length<=h.length:=by rw[k.len];omega
   have bs:∀(o:O) i,i<B.length->(h++[o])[i]? =B[i]? :=fun o i hi=>by rw[zqj (by omega)];exact k.base i hi
   have nw:∀o:O,(h++[o])[h.length]? =some o:=fun o=>by simp
   have n8:L.getD 8 false=false:=oN hcl no (by decide +kernel);have n10:L.getD 10 false=false:=oN hcl n8 (by decide +kernel);refine⟨⟨by omega,by omega⟩,nr,h.length,wr,⟨?_,bs _,hfa.put (by simp[w2A]) (by simp[w2A]),?_,?_,?_,k.d,?_,?_,?_,?_,?_,?_,?_⟩⟩
   ·rw[zqa,k.len];unfold w2C;rw[sf,g 3 (by decide),g 9 (by decide),no];simp only[zrt,List.length_nil,if_true,zrm,if_false];omega
   ·rw[p _ 1 (by decide)];exact k.t1
   ·rw[p _ 2 (by decide)];exact k.t2
   ·rw[p _ 3 (by decide)];exact k.t3
   ·rw[g 3 (by decide),p _ 16 (by decide)];exact fun hh=>⟨(k.a3 hh).1,(k.a3 hh).2.1,old _ _ _ (k.a3 hh).2.2⟩
   ·intro _;exact⟨ps _,hB,nw _⟩
   ·rw[g 8 (by decide),n8];intro hh;cases hh
   ·rw[g 9 (by decide),g 10 (by decide),p _ 4 (by decide),n10,if_neg (by decide)];intro hh;have:=k.a9 hh;rw[n10,if_neg (by decide)]at this;exact⟨this.1,this.2.1,old _ _ _ this.2.2⟩
   ·rw[g 3 (by decide)];intro hh _;have:=lt (k.a3 hh).2.2;omega
   ·rw[g 3 (by decide),g 9 (by decide)];exact k.n39
   ·rw[g 9 (by decide)];intro _ hh;have:=lt (k.a9 hh).2.2;omega
  |8,_ =>
   have dp:=jl hi (l:=[3,7]) (by decide +kernel);obtain⟨e16,_⟩:=k.a3 (dp 3 (by simp));obtain⟨e20,_⟩:=k.a7 (dp 7 (by simp));simp only[wq.1,seval,e16,e20];have sf:(L.setIfInBounds 8 true).getD 8 false=true:=by simp[Array.getD,sz]
   have g:∀j,j≠8->(L.setIfInBounds 8 true).getD j false=L.getD j false:=fun j hj=>getD_set_ne false (Ne.symm hj);have p:∀(v:V) j,j≠21->(f.put (some 21) v).t j=f.t j:=fun v j hj=>by simp[Fr.put,hj]
   have ps:∀v:V,(f.put (some 21) v).t 21=v:=fun v=>by simp[Fr.put]
   refine⟨nr,br,wr,⟨?_,k.base,hfa.put (by simp[w2A]) (by simp[w2A]),?_,?_,?_,k.d,?_,?_,?_,?_,?_,?_,?_⟩⟩
   ·rw[k.len];unfold w2C;rw[g 3 (by decide),g 7 (by decide),g 9 (by decide)]
   ·rw[p _ 1 (by decide)];exact k.t1
   ·rw[p _ 2 (by decide)];exact k.t2
   ·rw[p _ 3 (by decide)];exact k.t3
   ·rw[g 3 (by decide),p _ 16 (by decide)];exact k.a3
   ·rw[g 7 (by decide),p _ 20 (by decide)];exact k.a7
   ·intro _;exact ps _
   ·rw[g 9 (by decide),g 10 (by decide),p _ 4 (by decide)];exact k.a9
   ·rw[g 3 (by decide),g 7 (by decide)];exact k.n37
   ·rw[g 3 (by decide),g 9 (by decide)];exact k.n39
   ·rw[g 7 (by decide),g 9 (by decide)];exact k.n79
  |9,_ =>
   simp only[wq.1,Nat.reduceLT];have sf:(L.setIfInBounds 9 true).getD 9 false=true:=by simp[Array.getD,sz]
   have g:∀j,j≠9->(L.setIfInBounds 9 true).getD j false=L.getD j false:=fun j hj=>getD_set_ne false (Ne.symm hj);have p:∀(v:V) j,j≠4->(f.put (some 4) v).t j=f.t j:=fun v j hj=>by simp[Fr.put,hj]
   have ps:∀v:V,(f.put (some 4) v).t 4=v:=fun v=>by simp[Fr.put]
   have old:∀(o:O) i x,h[i]? =some x->(h++[o])[i]? =some x:=fun o i x hx=>by rw[zqj (zqe hx).1];exact hx
   have lt:∀ {i:Nat} {x:O},h[i]? =some x->i<h.length:=fun hx=>(zqe hx).1;have hB:B.length<=h.length:=by rw[k.len];omega
   have bs:∀(o:O) i,i<B.length->(h++[o])[i]? =B[i]? :=fun o i hi=>by rw[zqj (by omega)];exact k.base i hi
   have nw:∀o:O,(h++[o])[h.length]? =some o:=fun o=>by simp
   have n10:L.getD 10 false=false:=oN hcl no (by decide +kernel);refine⟨nr,br,h.length,⟨?_,bs _,hfa.put (by simp[w2A]) (by simp[w2A]),?_,?_,?_,k.d,?_,?_,?_,?_,?_,?_,?_⟩⟩
   ·rw[zqa,k.len];unfold w2C;rw[sf,g 3 (by decide),g 7 (by decide),no];simp only[zrt,List.length_nil,if_true,zrm,if_false];omega
   ·rw[p _ 1 (by decide)];exact k.t1
   ·rw[p _ 2 (by decide)];exact k.t2
   ·rw[p _ 3 (by decide)];exact k.t3
   ·rw[g 3 (by decide),p _ 16 (by decide)];exact fun hh=>⟨(k.a3 hh).1,(k.a3 hh).2.1,old _ _ _ (k.a3 hh).2.2⟩
   ·rw[g 7 (by decide),p _ 20 (by decide)];exact fun hh=>⟨(k.a7 hh).1,(k.a7 hh).2.1,old _ _ _ (k.a7 hh).2.2⟩
   ·rw[g 8 (by decide),p _ 21 (by decide)];exact k.a8
   ·intro _;rw[g 10 (by decide),n10,if_neg (by decide)];exact⟨ps _,hB,nw _⟩
   ·rw[g 3 (by decide),g 7 (by decide)];exact k.n37
   ·rw[g 3 (by decide)];intro hh _;have:=lt (k.a3 hh).2.2;omega
   ·rw[g 7 (by decide)];intro hh _;have:=lt (k.a7 hh).2.2;omega
  |10,_ =>
   have dp:=jl hi (l:=[8,9]) (by decide +kernel);obtain⟨e4,_,hw⟩:=k.a9 (dp 9 (by simp));have e21:=k.a8 (dp 8 (by simp));rw[no,if_neg (by decide)]at hw;simp only[wq.1,Nat.reduceAdd,e4,e21,hw];have sf:(L.setIfInBounds 10 true).getD 10 false=true:=by simp[Array.getD,sz]
   have g:∀j,j≠10->(L.setIfInBounds 10 true).getD j false=L.getD j false:=fun j hj=>getD_set_ne false (Ne.symm hj);have d37:L.getD 3 false=true/\L.getD 7 false=true:=⟨xQ hcl (dp 8 (by simp)) (l:=[3,7]) (by decide +kernel) 3 (by simp),xQ hcl (dp 8 (by simp)) (l:=[3,7]) (by decide +kernel) 7 (by simp)⟩;have wl:=(zqe hw).1;have w4:=(k.a9 (dp 9 (by simp))).2.1;refine⟨nr,br,wr,⟨?_,fun i hi=> ?_,hfa.skip (by simp[w2A]),k.t1,k.t2,k.t3,k.d,?_,?_,?_,?_,?_,?_,?_⟩⟩
   ·rw[zrn,k.len];unfold w2C;rw[g 3 (by decide),g 7 (by decide),g 9 (by decide)]
   ·rw[zqn (by omega)];exact k.base i hi
   ·rw[g 3 (by decide),zqn (Ne.symm (k.n39 d37.1 (dp 9 (by simp))))];exact k.a3
   ·rw[g 7 (by decide),zqn (Ne.symm (k.n79 d37.2 (dp 9 (by simp))))];exact k.a7
   ·rw[g 8 (by decide)];exact k.a8
   ·intro _;rw[sf,if_pos rfl];exact⟨e4,w4,zqt wl⟩
   ·rw[g 3 (by decide),g 7 (by decide)];exact k.n37
   ·rw[g 3 (by decide),g 9 (by decide)];exact k.n39
   ·rw[g 7 (by decide),g 9 (by decide)];exact k.n79
 ·rintro L f h hall ⟨nr,br,wr,k⟩;have hs:∀i,i<11->L.getD i false=true:=fun i hi=>hall i hi;obtain⟨_,b1,b2⟩:=k.a3 (hs 3 (by omega));obtain⟨_,b3,b4⟩:=k.a7 (hs 7 (by omega));obtain⟨b5,b6,b7⟩:=k.a9 (hs 9 (by omega));rw[if_pos (hs 10 (by omega))]at b7;refine hk f h nr br wr ?_ k.base k.t1 k.t2 k.t3 b5 k.d b1 b3 b6 (k.n37 (hs 3 (by omega)) (hs 7 (by omega))) (k.n39 (hs 3 (by omega)) (hs 9 (by omega))) (k.n79 (hs 7 (by omega)) (hs 9 (by omega))) b2 b4 b7;rw[k.len];unfold w2C;rw[if_pos (hs 3 (by omega)),if_pos (hs 7 (by omega)),if_pos (hs 9 (by omega))]
def EO:List Nat->Nat->Option Nat
 |[],_=>none
 |x::l,s=>if x=s then some 0 else(EO l s).map (·+1)
theorem lZ(s:Nat):∀(ks:List Nat),iY (.int .i64) (nv s) (dh ks)=some (EO ks s)
 |[]=>rfl
 |k::ks=>by
  simp only[zrd,iY,keq,EO];by_cases h:k=s
  ·subst h;simp
  ·have:((s:Int)==(k:Int))=false:=by rw[beq_eq_false_iff_ne];omega
   rw[this,lZ s ks,if_neg h];cases EO ks s<;>rfl
theorem EP:∀ {l:List Nat} {s n:Nat},EO l s=some n->∃h:n<l.length,l[n]=s
 |[],s,n,h=>by cases h
 |x::l,s,n,h=>by
  simp only[EO]at h;by_cases e:x=s
  ·rw[if_pos e]at h;cases h;exact⟨by simp,e⟩
  ·rw[if_neg e]at h;cases h1:EO l s with
   |none=>rw[h1]at h;cases h
   |some m=>rw[h1]at h;cases h;obtain⟨a,b⟩:=EP h1;exact⟨by simpa using a,by simpa using b⟩
theorem wQ:∀ {l:List Nat} {s:Nat},EO l s=none↔l.contains s=false
 |[],s=>by simp[EO]
 |x::l,s=>by
  rw[EO,List.contains_cons];by_cases e:x=s
  ·simp[e]
  ·have:(s==x)=false:=by simpa using fun h=>e h.symm
   rw[if_neg e,this,Bool.false_or,<-wQ (l:=l)];cases EO l s<;>simp
abbrev tu(n:Nat):List V:=List.replicate n (.bool true)
abbrev Qb(l:List Nat):O:= .map (dh l) (tu l.length)
theorem Oe{l:List Nat}{k:Nat}(h:l.contains k=false):Qp (.int .i64) (nv k) (.bool true) (dh l) (tu l.length)=some (dh (l++[k]),tu (l++[k]).length):=by
 unfold Qp;rw[lZ,wQ.2 h];show some (dh l++[nv k],tu l.length++[V.bool true])=_;have e1:tu (l++[k]).length=tu l.length++[V.bool true]:=by rw[zqa];exact List.replicate_succ'
 have e2:dh (l++[k])=dh l++[nv k]:=zql;rw[e1,e2]
def jy(n i:Nat):List V:=(List.range n).map fun j=>if j<i then .lm (7+n+2*j+1)else .nilm
def byC(B:List (List Nat)):List V:=(List.range B.length).map fun k=> .ls (7+k) 1 0 (B.getD k []).length (B.getD k []).length
structure WS(c:Ci)(h:H)(nr br wr n i:Nat)(N B:List (List Nat)):Prop where
 len:h.length=7+n+2*i
 x0:h[0]? =some (ciO c)
 x1:h[1]? =some (.cells [.nils,.nils])
 x3:h[3]? =some (plO (aQ c))
 xw:h[wr]? =some (.cells (mw n nr br))
 xn:h[nr]? =some (.cells (jy n i))
 xm:∀j,j<i->h[7+n+2*j+1]? =some (Qb (N.getD j []))
 xb:h[br]? =some (.cells (byC B))
 xr:∀k,k<n->h[7+k]? =some (.cells (dh (B.getD k [])))
 lN:N.length=n
 lB:B.length=n
 r:4<=nr/\nr<7/\4<=br/\br<7/\4<=wr/\wr<7/\nr≠br/\nr≠wr/\br≠wr
theorem kD{n i:Nat}:(jy n i).length=n:=by simp[jy]
theorem Og{n i j:Nat}(h:j<n)(d:V):(jy n i).getD j d=if j<i then .lm (7+n+2*j+1)else .nilm:=by unfold jy;rw[zqg,zqo,List.getElem?_range h];rfl
theorem Oh{n i:Nat}(h:i<n):(jy n i).take (i*1)++[V.lm (7+n+2*i+1)]++(jy n i).drop (i*1+1)=jy n (i+1):=by
 have e:jy n (i+1)=(jy n i).set i (V.lm (7+n+2*i+1)):=by
  apply List.ext_getElem?;intro j;by_cases hj:j<n
  ·by_cases hji:i=j
   ·subst hji;rw[zqt (by rw[kD];exact h)];simp[jy,hj]
   ·rw[zqn hji];simp only[jy,zqo,List.getElem?_range hj,zrw];by_cases h1:j<i
    ·rw[if_pos h1,if_pos (by omega)]
    ·rw[if_neg h1,if_neg (by omega)]
  ·rw[zsj (by rw[kD];omega),zsj (by rw[zrn,kD];omega)]
 rw[Nat.mul_one,e,List.set_eq_take_append_cons_drop,if_pos (by rw[kD];exact h),zqc];rfl
theorem lF{B:List (List Nat)}:(byC B).length=B.length:=by simp[byC]
theorem Vg{B:List (List Nat)}{k:Nat}(h:k<B.length)(d:V):(byC B).getD k d= .ls (7+k) 1 0 (B.getD k []).length (B.getD k []).length:=by unfold byC;rw[zqg,zqo,List.getElem?_range h];rfl
theorem Vh{B:List (List Nat)}{k:Nat}{l:List Nat}(h:k<B.length):(byC B).take (k*1)++[V.ls (7+k) 1 0 l.length l.length]++(byC B).drop (k*1+1)=byC (B.set k l):=by
 have e:byC (B.set k l)=(byC B).set k (V.ls (7+k) 1 0 l.length l.length):=by
  apply List.ext_getElem?;intro j;by_cases hj:j<B.length
  ·by_cases hji:k=j
   ·subst hji;rw[zqt (by rw[lF];exact h)];simp[byC,hj]
   ·rw[zqn hji];simp only[byC,zrn,zqo,List.getElem?_range hj,zrw];rw[zqg,zqn hji,<-zqg]
  ·rw[zsj (by rw[lF,zrn];omega),zsj (by rw[zrn,lF];omega)]
 rw[Nat.mul_one,e,List.set_eq_take_append_cons_drop,if_pos (by rw[lF];exact h),zqc];rfl
theorem WS.step{c:Ci}{h:H}{nr br wr n i:Nat}{N B:List (List Nat)}(k:WS c h nr br wr n i N B)(hi:i<n)(hN:N.getD i []=[])(cp:O) :
 WS c ((h++[cp,.map [] []]).set nr (.cells (jy n (i+1)))) nr br wr n (i+1) N B:=by
 obtain⟨r1,r2,r3,r4,r5,r6,r7,r8,r9⟩:=k.r;have hl:=k.len;have old:∀j,j<h.length->nr≠j->((h++[cp,.map [] []]).set nr (.cells (jy n (i+1))))[j]? =h[j]? :=fun j h1 h2=>by rw[zqn h2,zqj h1]
 refine⟨?_,?_,?_,?_,?_,?_,?_,?_,?_,k.lN,k.lB,k.r⟩
 ·simp only[zrn,zqa,zrt,List.length_nil];omega
 ·rw[old 0 (by omega) (by omega)];exact k.x0
 ·rw[old 1 (by omega) (by omega)];exact k.x1
 ·rw[old 3 (by omega) (by omega)];exact k.x3
 ·rw[old wr (by omega) (by omega)];exact k.xw
 ·exact zqt (by simp;omega)
 ·intro j hj;by_cases hji:j=i
  ·subst hji;rw[zqn (by omega),zsb (by omega),show 7+n+2*j+1-h.length=1 by omega,hN];rfl
  ·rw[old _ (by omega) (by omega)];exact k.xm j (by omega)
 ·rw[old br (by omega) (by omega)];exact k.xb
 ·intro j hj;rw[old _ (by omega) (by omega)];exact k.xr j hj
theorem WS.add{c:Ci}{h:H}{nr br wr n i:Nat}{N B:List (List Nat)}(w:WS c h nr br wr n i N B){g k:Nat}(hg:g<i)(hi:i<=n)(hk:k<n) :
 WS c (((h.set (7+n+2*g+1) (Qb (N.getD g []++[k]))).set (7+k) (.cells (dh (B.getD k []++[g])))).set br (.cells (byC (B.set k (B.getD k []++[g]))))) nr br wr n i (N.set g (N.getD g []++[k])) (B.set k (B.getD k []++[g])):=by
 obtain⟨r1,r2,r3,r4,r5,r6,r7,r8,r9⟩:=w.r;have hl:=w.len;have lN:=w.lN;have lB:=w.lB;have old:∀(x y z:O) j,br≠j->7+k≠j->7+n+2*g+1≠j->(((h.set (7+n+2*g+1) x).set (7+k) y).set br z)[j]? =h[j]? :=fun x y z j h1 h2 h3=>by rw[zqn h1,zqn h2,zqn h3]
 refine⟨?_,?_,?_,?_,?_,?_,?_,?_,?_,by rw[zrn];exact lN,by rw[zrn];exact lB,w.r⟩
 ·simp only[zrn];exact hl
 ·rw[old _ _ _ 0 (by omega) (by omega) (by omega)];exact w.x0
 ·rw[old _ _ _ 1 (by omega) (by omega) (by omega)];exact w.x1
 ·rw[old _ _ _ 3 (by omega) (by omega) (by omega)];exact w.x3
 ·rw[old _ _ _ wr (by omega) (by omega) (by omega)];exact w.xw
 ·rw[old _ _ _ nr (by omega) (by omega) (by omega)];exact w.xn
 ·intro j hj;by_cases hji:g=j
  ·subst hji;rw[zqn (by omega),zqn (by omega),zqt (by omega),zqg (l:=N.set _ _),zqt (by omega)];rfl
  ·rw[old _ _ _ _ (by omega) (by omega) (by omega),w.xm j hj,zqg,zqg,zqn hji]
 ·exact zqt (by simp;omega)
 ·intro j hj;by_cases hji:k=j
  ·subst hji;rw[zqn (by omega),zqt (by simp;omega),zqg (l:=B.set _ _),zqt (by omega)];rfl
  ·rw[old _ _ _ _ (by omega) (by omega) (by omega),w.xr j hj,zqg,zqg,zqn hji]
theorem EQ{e:E}{n:Nat}{r:Option Nat}{c:Code}{Q:XE->Fr->H->Prop}{f:Fr}:∀(m:Nat) {h:H},awp e n r c Q f (h++List.replicate m (.cells []))->awp e n r c Q f h
 |0,h,hw=>by simpa using hw
 |m+1,h,hw=>fQ (EQ m (by rw[zqc];exact hw))
theorem RD{n:Nat}:bW (List.replicate n .nils) (byC (List.replicate n [])):=by
 have:∀(m:Nat)(g:Nat->Nat),bW (List.replicate m .nils) ((List.range m).map fun k=> .ls (g k) 1 0 0 0):=by
  intro m
  induction m with
  |zero=>exact fun _=>bW.nil
  |succ m ih=>intro g;rw[List.replicate_succ,List.range_succ_eq_map,zrd,List.map_map];exact bW.cons dE (ih fun k=>g (k+1))
 have e:byC (List.replicate n [])=(List.range n).map fun k=> .ls (7+k) 1 0 0 0:=by unfold byC;rw[zsc];refine zsd fun k hk=> ?_;rw[zqg,List.getElem?_replicate];split<;>rfl
 rw[e];exact this n _
theorem WS.first{c:Ci}{h:H}{nr br wr:Nat}(h0:h[0]? =some (ciO c))(h1:h[1]? =some (.cells [.nils,.nils]))(h3:h[3]? =some (plO (aQ c)))(hl:h.length=7)
 (a1:4<=nr) (a2:4<=br) (a3:4<=wr) (n1:nr≠br) (n2:nr≠wr) (n3:br≠wr)
 (b1:h[nr]? =some (.cells (List.replicate c.gates.length .nilm))) (b2:h[br]? =some (.cells (List.replicate c.gates.length .nils))) (b3:h[wr]? =some (.cells (mw c.gates.length nr br))) :
 WS c ((h++List.replicate c.gates.length (O.cells [])).set br (.cells (byC (List.replicate c.gates.length [])))) nr br wr c.gates.length 0 (List.replicate c.gates.length []) (List.replicate c.gates.length []):=by
 have lt:∀ {i:Nat} {x:O},h[i]? =some x->i<h.length:=fun hx=>(zqe hx).1;have l1:=lt b1;have l2:=lt b2;have l3:=lt b3;have old:∀(x:O) j,j<7->br≠j->((h++List.replicate c.gates.length (O.cells [])).set br x)[j]? =h[j]? :=fun x j h1 h2=>by rw[zqn h2,zqj (by omega)]
 refine⟨?_,?_,?_,?_,?_,?_,?_,?_,?_,by simp,by simp,by omega,by omega,by omega,by omega,by omega,by omega,n1,n2,n3⟩
 ·simp;omega
 ·rw[old _ 0 (by omega) (by omega)];exact h0
 ·rw[old _ 1 (by omega) (by omega)];exact h1
 ·rw[old _ 3 (by omega) (by omega)];exact h3
 ·rw[old _ wr (by omega) (by omega)];exact b3
 ·rw[old _ nr (by omega) (by omega),b1];have:jy c.gates.length 0=List.replicate c.gates.length .nilm:=by
   rw[List.eq_replicate_iff];refine⟨kD,fun v hv=> ?_⟩;obtain⟨j,_,rfl⟩:=zrh.1 hv;exact if_neg (by omega)
  rw[this]
 ·intro j hj;omega
 ·exact zqt (by simp;omega)
 ·intro j hj;rw[zqn (by omega),zsb (by omega),List.getElem?_replicate,if_pos (by omega),zqg,List.getElem?_replicate,if_pos hj];rfl
end Go.Proofs.YthaijohbpdabfaaGreatDoor
