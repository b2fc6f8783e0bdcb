/- Lemmas for this claim, part F05: each holds under what it names. -/
import Derived.Test.YthaijohbpdabfaaGreatDoorRF04
import Derived.Test.YthaijohbpdabfaaGreatDoorRA9
set_option linter.all false
set_option maxRecDepth 20000
namespace Go.Proofs.YthaijohbpdabfaaGreatDoor
open Go Go.Proofs Go.Abs
open List renaming length → aa, replicate → ao
open Bool renaming true → ab, false → ac
open Option renaming some → al, none → aq
open Decidable renaming decide → ar
open Go.IntKind renaming wrap → aD
open Go.Result renaming andThen → aM
open Go.Abs.O renaming cells → am
open Go.Abs.V renaming drops → ap, dat → aE, dats → aL
def w2A(n:Nat)(gs:V):List (Nat×Nat×V):=[(0,13,.lp 0 3),(1,14,gs),(2,15,vi n),(4,17,.lp 0 3),(5,18,gs),(6,19,vi n)]
def w2C(L:Array Bool):Nat:=(if L.getD 3 ac=ab then 1 else 0)+(if L.getD 7 ac=ab then 1 else 0)+(if L.getD 9 ac=ab then 1 else 0)
abbrev mw(n nr br:Nat):List V:=[.ls nr 1 0 n n,.ls br 1 0 n n]
structure W2(c:Ci)(B:H)(L:Array Bool)(f f0:Fr)(h:H)(nr br wr:Nat):Prop where
 len:aa h=aa B+w2C L
 base:∀i,i<aa B->h[i]? =B[i]?
 fa:FA L f (w2A (aa c.gates) (iU c.gates))
 t1:f.t 1= .lp 0 0
 t2:f.t 2=f0.t 2
 t3:f.t 3=f0.t 3
 d:f.d=[]
 a3:L.getD 3 ac=ab->f.t 16= .ls nr 1 0 (aa c.gates) (aa c.gates)/\aa B<=nr/\h[nr]? =al (am (ao (aa c.gates) .nilm))
 a7:L.getD 7 ac=ab->f.t 20= .ls br 1 0 (aa c.gates) (aa c.gates)/\aa B<=br/\h[br]? =al (am (ao (aa c.gates) .nils))
 a8:L.getD 8 ac=ab->f.t 21= .agg (mw (aa c.gates) nr br)
 a9:L.getD 9 ac=ab->f.t 4= .lp wr 0/\aa B<=wr/\h[wr]? =al (am (if L.getD 10 ac=ab then mw (aa c.gates) nr br else [.nils,.nils]))
 n37:L.getD 3 ac=ab->L.getD 7 ac=ab->nr≠br
 n39:L.getD 3 ac=ab->L.getD 9 ac=ab->nr≠wr
 n79:L.getD 7 ac=ab->L.getD 9 ac=ab->br≠wr
theorem zao[MO](c:Ci){r:Option Nat}{Q:XE->Fr->H->Prop}{f0:Fr}{B:H}(hl:aa c.gates<=1000000)
 (g0:B[0]? =al (ciO c)) (t1:f0.t 1= .lp 0 0) (d0:f0.d=[])
 (hk:∀f h nr br wr,aa h=aa B+3->(∀i,i<aa B->h[i]? =B[i]?)->f.t 1= .lp 0 0->f.t 2=f0.t 2->f.t 3=f0.t 3->f.t 4= .lp wr 0->f.d=[]->aa B<=nr->aa B<=br->aa B<=wr->nr≠br->nr≠wr->br≠wr ->
  h[nr]? =al (am (ao (aa c.gates) .nilm))->h[br]? =al (am (ao (aa c.gates) .nils))->h[wr]? =al (am (mw (aa c.gates) nr br))->Q .normal f h) :
 awp TE 80 r (.region 2 (Y4 Tryz.f172 2) ab) Q f0 B:=by
 simp only[Y4,Tryz.f172,Fq,List.nil_append,zqp,List.headD_cons,Nat.reduceBEq,zrm,if_false,if_true,List.cons_append];have hM:=mLx;have l0:0<aa B:=(zqe g0).1;refine Ug mixed (λL f h=>∃nr br wr,W2 c B L f f0 h nr br wr) (by decide +kernel) ?_ ?_ ?_
 ·refine⟨0,0,0,⟨by simp[w2C],λ_ _=>rfl,FA.none,t1,rfl,rfl,d0,?_,?_,?_,?_,?_,?_,?_⟩⟩
  all_goals (intro h;exfalso;revert h;decide +kernel)
 ·rintro L f h i hcl ⟨nr,br,wr,k⟩ hi;have hlt:i<11:=Uf hi;have no:=Pm hi;have sz:=MV hi;have t1:=k.t1;have h0:h[0]? =al (ciO c):=by rw[k.base 0 l0];exact g0
  have pu:∀(d:Nat)(v:V),(∀x∈w2A (aa c.gates) (iU c.gates),x.1=i->x.2.1=d/\x.2.2=v)->(∀x∈w2A (aa c.gates) (iU c.gates),x.2.1=d->x.1=i)->(ar (d∉([1,2,3,4,16,20,21]:List Nat))&&ar (i∉([3,7,8,9,10]:List Nat)))=ab ->
   ∃nr br wr,W2 c B (L.setIfInBounds i ab) (f.put (al d) v) f0 h nr br wr:=by
   intro d v h1 h2 h3;rw[zqf,zqb,zqb]at h3;simp only[zrj,zrp,or_false,not_or]at h3;obtain⟨⟨d1,d2,d3,d4,d16,d20,d21⟩,i3,i7,i8,i9,i10⟩:=h3;have g:∀j,j≠i->(L.setIfInBounds i ab).getD j ac=L.getD j ac:=λj hj=>getD_set_ne ac (Ne.symm hj);have p:∀j,j≠d->(f.put (al d) v).t j=f.t j:=λj hj=>by simp[Fr.put,hj]
   refine⟨nr,br,wr,⟨?_,k.base,k.fa.put h1 h2,?_,?_,?_,k.d,?_,?_,?_,?_,?_,?_,?_⟩⟩
   ·rw[k.len];unfold w2C;rw[g 3 (Ne.symm i3),g 7 (Ne.symm i7),g 9 (Ne.symm i9)]
   ·rw[p 1 (Ne.symm d1)];exact k.t1
   ·rw[p 2 (Ne.symm d2)];exact k.t2
   ·rw[p 3 (Ne.symm d3)];exact k.t3
   ·rw[g 3 (Ne.symm i3),p 16 (Ne.symm d16)];exact k.a3
   ·rw[g 7 (Ne.symm i7),p 20 (Ne.symm d20)];exact k.a7
   ·rw[g 8 (Ne.symm i8),p 21 (Ne.symm d21)];exact k.a8
   ·rw[g 9 (Ne.symm i9),g 10 (Ne.symm i10),p 4 (Ne.symm d4)];exact k.a9
   ·rw[g 3 (Ne.symm i3),g 7 (Ne.symm i7)];exact k.n37
   ·rw[g 3 (Ne.symm i3),g 9 (Ne.symm i9)];exact k.n39
   ·rw[g 7 (Ne.symm i7),g 9 (Ne.symm i9)];exact k.n79
  have hfa:=k.fa
  match i,hlt with
  |0,_=>have pu:=pu 13 (.lp 0 3) (by simp[w2A]) (by simp[w2A]) (by decide);simp only[wq.1,Nat.reduceLT,t1];exact pu
  |1,_=>have dp:=jH hi (l:=[0]) (by decide +kernel);have e13:=FAz hfa 0 13 (.lp 0 3) (by simp[w2A]) (dp 0 (by simp));have pu:=pu 14 (iU c.gates) (by simp[w2A]) (by simp[w2A]) (by decide);simp only[wq.1,seval,h0,e13];exact pu
  |2,_=>have dp:=jH hi (l:=[1]) (by decide +kernel);have e14:=FAz hfa 1 14 (iU c.gates) (by simp[w2A]) (dp 1 (by simp));have pu:=pu 15 (vi (aa c.gates)) (by simp[w2A]) (by simp[w2A]) (by decide);simp only[wq.1,Nat.reduceLT,e14];exact pu
  |3,_ =>
   have dp:=jH hi (l:=[2]) (by decide +kernel);have e15:=FAz hfa 2 15 (vi (aa c.gates)) (by simp[w2A]) (dp 2 (by simp));simp only[wq.1,seval,e15];have sf:(L.setIfInBounds 3 ab).getD 3 ac=ab:=by simp[Array.getD,sz]
   have g:∀j,j≠3->(L.setIfInBounds 3 ab).getD j ac=L.getD j ac:=λj hj=>getD_set_ne ac (Ne.symm hj);have p:∀(v:V) j,j≠16->(f.put (al 16) v).t j=f.t j:=λv j hj=>by simp[Fr.put,hj]
   have ps:∀v:V,(f.put (al 16) v).t 16=v:=λv=>by simp[Fr.put]
   have old:∀(o:O) i x,h[i]? =al x->(h++[o])[i]? =al x:=λo i x hx=>by rw[zqj (zqe hx).1];exact hx
   have lt:∀ {i:Nat} {x:O},h[i]? =al x->i<aa h:=λhx=>(zqe hx).1;have hB:aa B<=aa h:=by rw[k.len];omega
   have bs:∀(o:O) i,i<aa B->(h++[o])[i]? =B[i]? :=λo i hi=>by rw[zqj (by omega)];exact k.base i hi
   have nw:∀o:O,(h++[o])[aa h]? =al o:=λo=>by simp
   have n8:L.getD 8 ac=ac:=pX hcl no (by decide +kernel);have n10:L.getD 10 ac=ac:=pX hcl n8 (by decide +kernel);refine⟨⟨by omega,by omega⟩,aa h,br,wr,⟨?_,bs _,hfa.put (by simp[w2A]) (by simp[w2A]),?_,?_,?_,k.d,?_,?_,?_,?_,?_,?_,?_⟩⟩
   ·rw[zqa,k.len];unfold w2C;rw[sf,g 7 (by decide),g 9 (by decide),no];simp only[zrt,List.length_nil,if_true,zrm,if_false];omega
   ·rw[p _ 1 (by decide)];exact k.t1
   ·rw[p _ 2 (by decide)];exact k.t2
   ·rw[p _ 3 (by decide)];exact k.t3
   ·intro _;exact⟨ps _,hB,nw _⟩
   ·rw[g 7 (by decide),p _ 20 (by decide)];exact λhh=>⟨(k.a7 hh).1,(k.a7 hh).2.1,old _ _ _ (k.a7 hh).2.2⟩
   ·rw[g 8 (by decide),n8];intro hh;cases hh
   ·rw[g 9 (by decide),g 10 (by decide),p _ 4 (by decide),n10,if_neg (by decide)];intro hh;have:=k.a9 hh;rw[n10,if_neg (by decide)]at this;exact⟨this.1,this.2.1,old _ _ _ this.2.2⟩
   ·rw[g 7 (by decide)];intro _ hh;have:=lt (k.a7 hh).2.2;omega
   ·rw[g 9 (by decide)];intro _ hh;have:=lt (k.a9 hh).2.2;omega
   ·rw[g 7 (by decide),g 9 (by decide)];exact k.n79
  |4,_=>have pu:=pu 17 (.lp 0 3) (by simp[w2A]) (by simp[w2A]) (by decide);simp only[wq.1,Nat.reduceLT,t1];exact pu
  |5,_=>have dp:=jH hi (l:=[4]) (by decide +kernel);have e13:f.t 17= .lp 0 3:=hfa (4,17,.lp 0 3) (by simp[w2A]) (dp 4 (by simp));have pu:=pu 18 (iU c.gates) (by simp[w2A]) (by simp[w2A]) (by decide);simp only[wq.1,seval,h0,e13];exact pu
  |6,_=>have dp:=jH hi (l:=[5]) (by decide +kernel);have e14:f.t 18=iU c.gates:=hfa (5,18,iU c.gates) (by simp[w2A]) (dp 5 (by simp));have pu:=pu 19 (vi (aa c.gates)) (by simp[w2A]) (by simp[w2A]) (by decide);simp only[wq.1,Nat.reduceLT,e14];exact pu
  |7,_ =>
   have dp:=jH hi (l:=[6]) (by decide +kernel);have e19:=FAz hfa 6 19 (vi (aa c.gates)) (by simp[w2A]) (dp 6 (by simp));simp only[wq.1,seval,e19];have sf:(L.setIfInBounds 7 ab).getD 7 ac=ab:=by simp[Array.getD,sz]
   have g:∀j,j≠7->(L.setIfInBounds 7 ab).getD j ac=L.getD j ac:=λj hj=>getD_set_ne ac (Ne.symm hj);have p:∀(v:V) j,j≠20->(f.put (al 20) v).t j=f.t j:=λv j hj=>by simp[Fr.put,hj]
   have ps:∀v:V,(f.put (al 20) v).t 20=v:=λv=>by simp[Fr.put]
   have old:∀(o:O) i x,h[i]? =al x->(h++[o])[i]? =al x:=λo i x hx=>by rw[zqj (zqe hx).1];exact hx
   have lt:∀ {i:Nat} {x:O},h[i]? =al x->i<aa h:=λhx=>(zqe hx).1;have hB:aa B<=aa h:=by rw[k.len];omega
   have bs:∀(o:O) i,i<aa B->(h++[o])[i]? =B[i]? :=λo i hi=>by rw[zqj (by omega)];exact k.base i hi
   have nw:∀o:O,(h++[o])[aa h]? =al o:=λo=>by simp
   have n8:L.getD 8 ac=ac:=pX hcl no (by decide +kernel);have n10:L.getD 10 ac=ac:=pX hcl n8 (by decide +kernel);refine⟨⟨by omega,by omega⟩,nr,aa h,wr,⟨?_,bs _,hfa.put (by simp[w2A]) (by simp[w2A]),?_,?_,?_,k.d,?_,?_,?_,?_,?_,?_,?_⟩⟩
   ·rw[zqa,k.len];unfold w2C;rw[sf,g 3 (by decide),g 9 (by decide),no];simp only[zrt,List.length_nil,if_true,zrm,if_false];omega
   ·rw[p _ 1 (by decide)];exact k.t1
   ·rw[p _ 2 (by decide)];exact k.t2
   ·rw[p _ 3 (by decide)];exact k.t3
   ·rw[g 3 (by decide),p _ 16 (by decide)];exact λhh=>⟨(k.a3 hh).1,(k.a3 hh).2.1,old _ _ _ (k.a3 hh).2.2⟩
   ·intro _;exact⟨ps _,hB,nw _⟩
   ·rw[g 8 (by decide),n8];intro hh;cases hh
   ·rw[g 9 (by decide),g 10 (by decide),p _ 4 (by decide),n10,if_neg (by decide)];intro hh;have:=k.a9 hh;rw[n10,if_neg (by decide)]at this;exact⟨this.1,this.2.1,old _ _ _ this.2.2⟩
   ·rw[g 3 (by decide)];intro hh _;have:=lt (k.a3 hh).2.2;omega
   ·rw[g 3 (by decide),g 9 (by decide)];exact k.n39
   ·rw[g 9 (by decide)];intro _ hh;have:=lt (k.a9 hh).2.2;omega
  |8,_ =>
   have dp:=jH hi (l:=[3,7]) (by decide +kernel);obtain⟨e16,_⟩:=k.a3 (dp 3 (by simp));obtain⟨e20,_⟩:=k.a7 (dp 7 (by simp));simp only[wq.1,seval,e16,e20];have sf:(L.setIfInBounds 8 ab).getD 8 ac=ab:=by simp[Array.getD,sz]
   have g:∀j,j≠8->(L.setIfInBounds 8 ab).getD j ac=L.getD j ac:=λj hj=>getD_set_ne ac (Ne.symm hj);have p:∀(v:V) j,j≠21->(f.put (al 21) v).t j=f.t j:=λv j hj=>by simp[Fr.put,hj]
   have ps:∀v:V,(f.put (al 21) v).t 21=v:=λv=>by simp[Fr.put]
   refine⟨nr,br,wr,⟨?_,k.base,hfa.put (by simp[w2A]) (by simp[w2A]),?_,?_,?_,k.d,?_,?_,?_,?_,?_,?_,?_⟩⟩
   ·rw[k.len];unfold w2C;rw[g 3 (by decide),g 7 (by decide),g 9 (by decide)]
   ·rw[p _ 1 (by decide)];exact k.t1
   ·rw[p _ 2 (by decide)];exact k.t2
   ·rw[p _ 3 (by decide)];exact k.t3
   ·rw[g 3 (by decide),p _ 16 (by decide)];exact k.a3
   ·rw[g 7 (by decide),p _ 20 (by decide)];exact k.a7
   ·intro _;exact ps _
   ·rw[g 9 (by decide),g 10 (by decide),p _ 4 (by decide)];exact k.a9
   ·rw[g 3 (by decide),g 7 (by decide)];exact k.n37
   ·rw[g 3 (by decide),g 9 (by decide)];exact k.n39
   ·rw[g 7 (by decide),g 9 (by decide)];exact k.n79
  |9,_ =>
   simp only[wq.1,Nat.reduceLT];have sf:(L.setIfInBounds 9 ab).getD 9 ac=ab:=by simp[Array.getD,sz]
   have g:∀j,j≠9->(L.setIfInBounds 9 ab).getD j ac=L.getD j ac:=λj hj=>getD_set_ne ac (Ne.symm hj);have p:∀(v:V) j,j≠4->(f.put (al 4) v).t j=f.t j:=λv j hj=>by simp[Fr.put,hj]
   have ps:∀v:V,(f.put (al 4) v).t 4=v:=λv=>by simp[Fr.put]
   have old:∀(o:O) i x,h[i]? =al x->(h++[o])[i]? =al x:=λo i x hx=>by rw[zqj (zqe hx).1];exact hx
   have lt:∀ {i:Nat} {x:O},h[i]? =al x->i<aa h:=λhx=>(zqe hx).1;have hB:aa B<=aa h:=by rw[k.len];omega
   have bs:∀(o:O) i,i<aa B->(h++[o])[i]? =B[i]? :=λo i hi=>by rw[zqj (by omega)];exact k.base i hi
   have nw:∀o:O,(h++[o])[aa h]? =al o:=λo=>by simp
   have n10:L.getD 10 ac=ac:=pX hcl no (by decide +kernel);refine⟨nr,br,aa h,⟨?_,bs _,hfa.put (by simp[w2A]) (by simp[w2A]),?_,?_,?_,k.d,?_,?_,?_,?_,?_,?_,?_⟩⟩
   ·rw[zqa,k.len];unfold w2C;rw[sf,g 3 (by decide),g 7 (by decide),no];simp only[zrt,List.length_nil,if_true,zrm,if_false];omega
   ·rw[p _ 1 (by decide)];exact k.t1
   ·rw[p _ 2 (by decide)];exact k.t2
   ·rw[p _ 3 (by decide)];exact k.t3
   ·rw[g 3 (by decide),p _ 16 (by decide)];exact λhh=>⟨(k.a3 hh).1,(k.a3 hh).2.1,old _ _ _ (k.a3 hh).2.2⟩
   ·rw[g 7 (by decide),p _ 20 (by decide)];exact λhh=>⟨(k.a7 hh).1,(k.a7 hh).2.1,old _ _ _ (k.a7 hh).2.2⟩
   ·rw[g 8 (by decide),p _ 21 (by decide)];exact k.a8
   ·intro _;rw[g 10 (by decide),n10,if_neg (by decide)];exact⟨ps _,hB,nw _⟩
   ·rw[g 3 (by decide),g 7 (by decide)];exact k.n37
   ·rw[g 3 (by decide)];intro hh _;have:=lt (k.a3 hh).2.2;omega
   ·rw[g 7 (by decide)];intro hh _;have:=lt (k.a7 hh).2.2;omega
  |10,_ =>
   have dp:=jH hi (l:=[8,9]) (by decide +kernel);obtain⟨e4,_,hw⟩:=k.a9 (dp 9 (by simp));have e21:=k.a8 (dp 8 (by simp));rw[no,if_neg (by decide)]at hw;simp only[wq.1,Nat.reduceAdd,e4,e21,hw];have sf:(L.setIfInBounds 10 ab).getD 10 ac=ab:=by simp[Array.getD,sz]
   have g:∀j,j≠10->(L.setIfInBounds 10 ab).getD j ac=L.getD j ac:=λj hj=>getD_set_ne ac (Ne.symm hj);have d37:L.getD 3 ac=ab/\L.getD 7 ac=ab:=⟨y8 hcl (dp 8 (by simp)) (l:=[3,7]) (by decide +kernel) 3 (by simp),y8 hcl (dp 8 (by simp)) (l:=[3,7]) (by decide +kernel) 7 (by simp)⟩;have wl:=(zqe hw).1;have w4:=(k.a9 (dp 9 (by simp))).2.1;refine⟨nr,br,wr,⟨?_,λi hi=> ?_,hfa.skip (by simp[w2A]),k.t1,k.t2,k.t3,k.d,?_,?_,?_,?_,?_,?_,?_⟩⟩
   ·rw[zrn,k.len];unfold w2C;rw[g 3 (by decide),g 7 (by decide),g 9 (by decide)]
   ·rw[zqn (by omega)];exact k.base i hi
   ·rw[g 3 (by decide),zqn (Ne.symm (k.n39 d37.1 (dp 9 (by simp))))];exact k.a3
   ·rw[g 7 (by decide),zqn (Ne.symm (k.n79 d37.2 (dp 9 (by simp))))];exact k.a7
   ·rw[g 8 (by decide)];exact k.a8
   ·intro _;rw[sf,if_pos rfl];exact⟨e4,w4,zqt wl⟩
   ·rw[g 3 (by decide),g 7 (by decide)];exact k.n37
   ·rw[g 3 (by decide),g 9 (by decide)];exact k.n39
   ·rw[g 7 (by decide),g 9 (by decide)];exact k.n79
 ·rintro L f h hall ⟨nr,br,wr,k⟩;have hs:∀i,i<11->L.getD i ac=ab:=λi hi=>hall i hi;obtain⟨_,b1,b2⟩:=k.a3 (hs 3 (by omega));obtain⟨_,b3,b4⟩:=k.a7 (hs 7 (by omega));obtain⟨b5,b6,b7⟩:=k.a9 (hs 9 (by omega));rw[if_pos (hs 10 (by omega))]at b7;refine hk f h nr br wr ?_ k.base k.t1 k.t2 k.t3 b5 k.d b1 b3 b6 (k.n37 (hs 3 (by omega)) (hs 7 (by omega))) (k.n39 (hs 3 (by omega)) (hs 9 (by omega))) (k.n79 (hs 7 (by omega)) (hs 9 (by omega))) b2 b4 b7;rw[k.len];unfold w2C;rw[if_pos (hs 3 (by omega)),if_pos (hs 7 (by omega)),if_pos (hs 9 (by omega))]
def Gj:List Nat->Nat->Option Nat
 |[],_=>aq
 |x::l,s=>if x=s then al 0 else(Gj l s).map (·+1)
theorem nH(s:Nat):∀(ks:List Nat),jm (.int .i64) (nv s) (dh ks)=al (Gj ks s)
 |[]=>rfl
 |k::ks=>by
  simp only[zrd,jm,keq,Gj];by_cases h:k=s
  ·subst h;simp
  ·have:((s:Int)==(k:Int))=ac:=by rw[beq_eq_false_iff_ne];omega
   rw[this,nH s ks,if_neg h];cases Gj ks s<;>rfl
theorem Gl:∀ {l:List Nat} {s n:Nat},Gj l s=al n->∃h:n<aa l,l[n]=s
 |[],s,n,h=>by cases h
 |x::l,s,n,h=>by
  simp only[Gj]at h;by_cases e:x=s
  ·rw[if_pos e]at h;cases h;exact⟨by simp,e⟩
  ·rw[if_neg e]at h;cases h1:Gj l s with
   |none=>rw[h1]at h;cases h
   |some m=>rw[h1]at h;cases h;obtain⟨a,b⟩:=Gl h1;exact⟨by simpa using a,by simpa using b⟩
theorem yg:∀ {l:List Nat} {s:Nat},Gj l s=aq↔l.contains s=ac
 |[],s=>by simp[Gj]
 |x::l,s=>by
  rw[Gj,List.contains_cons];by_cases e:x=s
  ·simp[e]
  ·have:(s==x)=ac:=by simpa using λh=>e h.symm
   rw[if_neg e,this,Bool.false_or,<-yg (l:=l)];cases Gj l s<;>simp
abbrev uK(n:Nat):List V:=ao n (.bool ab)
abbrev Tf(l:List Nat):O:= .map (dh l) (uK (aa l))
theorem Qi{l:List Nat}{k:Nat}(h:l.contains k=ac):Ov (.int .i64) (nv k) (.bool ab) (dh l) (uK (aa l))=al (dh (l++[k]),uK (aa (l++[k]))):=by
 unfold Ov;rw[nH,yg.2 h];show al (dh l++[nv k],uK (aa l)++[V.bool ab])=_;have e1:uK (aa (l++[k]))=uK (aa l)++[V.bool ab]:=by rw[zqa];exact List.replicate_succ'
 have e2:dh (l++[k])=dh l++[nv k]:=zql;rw[e1,e2]
def jO(n i:Nat):List V:=(List.range n).map λj=>if j<i then .lm (7+n+2*j+1)else .nilm
def byC(B:List (List Nat)):List V:=(List.range (aa B)).map λk=> .ls (7+k) 1 0 (aa (B.getD k [])) (aa (B.getD k []))
structure WS(c:Ci)(h:H)(nr br wr n i:Nat)(N B:List (List Nat)):Prop where
 len:aa h=7+n+2*i
 x0:h[0]? =al (ciO c)
 x1:h[1]? =al (am [.nils,.nils])
 x3:h[3]? =al (plO (aQ c))
 xw:h[wr]? =al (am (mw n nr br))
 xn:h[nr]? =al (am (jO n i))
 xm:∀j,j<i->h[7+n+2*j+1]? =al (Tf (N.getD j []))
 xb:h[br]? =al (am (byC B))
 xr:∀k,k<n->h[7+k]? =al (am (dh (B.getD k [])))
 lN:aa N=n
 lB:aa B=n
 r:4<=nr/\nr<7/\4<=br/\br<7/\4<=wr/\wr<7/\nr≠br/\nr≠wr/\br≠wr
theorem lw{n i:Nat}:aa (jO n i)=n:=by simp[jO]
theorem Qj{n i j:Nat}(h:j<n)(d:V):(jO n i).getD j d=if j<i then .lm (7+n+2*j+1)else .nilm:=by unfold jO;rw[zqg,zqo,List.getElem?_range h];rfl
theorem Qk{n i:Nat}(h:i<n):(jO n i).take (i*1)++[V.lm (7+n+2*i+1)]++(jO n i).drop (i*1+1)=jO n (i+1):=by
 have e:jO n (i+1)=(jO n i).set i (V.lm (7+n+2*i+1)):=by
  apply List.ext_getElem?;intro j;by_cases hj:j<n
  ·by_cases hji:i=j
   ·subst hji;rw[zqt (by rw[lw];exact h)];simp[jO,hj]
   ·rw[zqn hji];simp only[jO,zqo,List.getElem?_range hj,zrw];by_cases h1:j<i
    ·rw[if_pos h1,if_pos (by omega)]
    ·rw[if_neg h1,if_neg (by omega)]
  ·rw[zsj (by rw[lw];omega),zsj (by rw[zrn,lw];omega)]
 rw[Nat.mul_one,e,List.set_eq_take_append_cons_drop,if_pos (by rw[lw];exact h),zqc];rfl
theorem mV{B:List (List Nat)}:aa (byC B)=aa B:=by simp[byC]
theorem XG{B:List (List Nat)}{k:Nat}(h:k<aa B)(d:V):(byC B).getD k d= .ls (7+k) 1 0 (aa (B.getD k [])) (aa (B.getD k [])):=by unfold byC;rw[zqg,zqo,List.getElem?_range h];rfl
theorem XJ{B:List (List Nat)}{k:Nat}{l:List Nat}(h:k<aa B):(byC B).take (k*1)++[V.ls (7+k) 1 0 (aa l) (aa l)]++(byC B).drop (k*1+1)=byC (B.set k l):=by
 have e:byC (B.set k l)=(byC B).set k (V.ls (7+k) 1 0 (aa l) (aa l)):=by
  apply List.ext_getElem?;intro j;by_cases hj:j<aa B
  ·by_cases hji:k=j
   ·subst hji;rw[zqt (by rw[mV];exact h)];simp[byC,hj]
   ·rw[zqn hji];simp only[byC,zrn,zqo,List.getElem?_range hj,zrw];rw[zqg,zqn hji,<-zqg]
  ·rw[zsj (by rw[mV,zrn];omega),zsj (by rw[zrn,mV];omega)]
 rw[Nat.mul_one,e,List.set_eq_take_append_cons_drop,if_pos (by rw[mV];exact h),zqc];rfl
theorem WS.step{c:Ci}{h:H}{nr br wr n i:Nat}{N B:List (List Nat)}(k:WS c h nr br wr n i N B)(hi:i<n)(hN:N.getD i []=[])(cp:O) :
 WS c ((h++[cp,.map [] []]).set nr (am (jO n (i+1)))) nr br wr n (i+1) N B:=by
 obtain⟨r1,r2,r3,r4,r5,r6,r7,r8,r9⟩:=k.r;have hl:=k.len;have old:∀j,j<aa h->nr≠j->((h++[cp,.map [] []]).set nr (am (jO n (i+1))))[j]? =h[j]? :=λj h1 h2=>by rw[zqn h2,zqj h1]
 refine⟨?_,?_,?_,?_,?_,?_,?_,?_,?_,k.lN,k.lB,k.r⟩
 ·simp only[zrn,zqa,zrt,List.length_nil];omega
 ·rw[old 0 (by omega) (by omega)];exact k.x0
 ·rw[old 1 (by omega) (by omega)];exact k.x1
 ·rw[old 3 (by omega) (by omega)];exact k.x3
 ·rw[old wr (by omega) (by omega)];exact k.xw
 ·exact zqt (by simp;omega)
 ·intro j hj;by_cases hji:j=i
  ·subst hji;rw[zqn (by omega),zsb (by omega),show 7+n+2*j+1-aa h=1 by omega,hN];rfl
  ·rw[old _ (by omega) (by omega)];exact k.xm j (by omega)
 ·rw[old br (by omega) (by omega)];exact k.xb
 ·intro j hj;rw[old _ (by omega) (by omega)];exact k.xr j hj
theorem WS.add{c:Ci}{h:H}{nr br wr n i:Nat}{N B:List (List Nat)}(w:WS c h nr br wr n i N B){g k:Nat}(hg:g<i)(hi:i<=n)(hk:k<n) :
 WS c (((h.set (7+n+2*g+1) (Tf (N.getD g []++[k]))).set (7+k) (am (dh (B.getD k []++[g])))).set br (am (byC (B.set k (B.getD k []++[g]))))) nr br wr n i (N.set g (N.getD g []++[k])) (B.set k (B.getD k []++[g])):=by
 obtain⟨r1,r2,r3,r4,r5,r6,r7,r8,r9⟩:=w.r;have hl:=w.len;have lN:=w.lN;have lB:=w.lB;have old:∀(x y z:O) j,br≠j->7+k≠j->7+n+2*g+1≠j->(((h.set (7+n+2*g+1) x).set (7+k) y).set br z)[j]? =h[j]? :=λx y z j h1 h2 h3=>by rw[zqn h1,zqn h2,zqn h3]
 refine⟨?_,?_,?_,?_,?_,?_,?_,?_,?_,by rw[zrn];exact lN,by rw[zrn];exact lB,w.r⟩
 ·simp only[zrn];exact hl
 ·rw[old _ _ _ 0 (by omega) (by omega) (by omega)];exact w.x0
 ·rw[old _ _ _ 1 (by omega) (by omega) (by omega)];exact w.x1
 ·rw[old _ _ _ 3 (by omega) (by omega) (by omega)];exact w.x3
 ·rw[old _ _ _ wr (by omega) (by omega) (by omega)];exact w.xw
 ·rw[old _ _ _ nr (by omega) (by omega) (by omega)];exact w.xn
 ·intro j hj;by_cases hji:g=j
  ·subst hji;rw[zqn (by omega),zqn (by omega),zqt (by omega),zqg (l:=N.set _ _),zqt (by omega)];rfl
  ·rw[old _ _ _ _ (by omega) (by omega) (by omega),w.xm j hj,zqg,zqg,zqn hji]
 ·exact zqt (by simp;omega)
 ·intro j hj;by_cases hji:k=j
  ·subst hji;rw[zqn (by omega),zqt (by simp;omega),zqg (l:=B.set _ _),zqt (by omega)];rfl
  ·rw[old _ _ _ _ (by omega) (by omega) (by omega),w.xr j hj,zqg,zqg,zqn hji]
theorem Gm{e:E}{n:Nat}{r:Option Nat}{c:Code}{Q:XE->Fr->H->Prop}{f:Fr}:∀(m:Nat) {h:H},awp e n r c Q f (h++ao m (am []))->awp e n r c Q f h
 |0,h,hw=>by simpa using hw
 |m+1,h,hw=>gI (Gm m (by rw[zqc];exact hw))
theorem UQ{n:Nat}:dm (ao n .nils) (byC (ao n [])):=by
 have:∀(m:Nat)(g:Nat->Nat),dm (ao m .nils) ((List.range m).map λk=> .ls (g k) 1 0 0 0):=by
  intro m
  induction m with
  |zero=>exact λ_=>dm.nil
  |succ m ih=>intro g;rw[List.replicate_succ,List.range_succ_eq_map,zrd,List.map_map];exact dm.cons dV (ih λk=>g (k+1))
 have e:byC (ao n [])=(List.range n).map λk=> .ls (7+k) 1 0 0 0:=by unfold byC;rw[zsc];refine zsd λk hk=> ?_;rw[zqg,List.getElem?_replicate];split<;>rfl
 rw[e];exact this n _
theorem WS.first{c:Ci}{h:H}{nr br wr:Nat}(h0:h[0]? =al (ciO c))(h1:h[1]? =al (am [.nils,.nils]))(h3:h[3]? =al (plO (aQ c)))(hl:aa h=7)
 (a1:4<=nr) (a2:4<=br) (a3:4<=wr) (n1:nr≠br) (n2:nr≠wr) (n3:br≠wr)
 (b1:h[nr]? =al (am (ao (aa c.gates) .nilm))) (b2:h[br]? =al (am (ao (aa c.gates) .nils))) (b3:h[wr]? =al (am (mw (aa c.gates) nr br))) :
 WS c ((h++ao (aa c.gates) (am [])).set br (am (byC (ao (aa c.gates) [])))) nr br wr (aa c.gates) 0 (ao (aa c.gates) []) (ao (aa c.gates) []):=by
 have lt:∀ {i:Nat} {x:O},h[i]? =al x->i<aa h:=λhx=>(zqe hx).1;have l1:=lt b1;have l2:=lt b2;have l3:=lt b3;have old:∀(x:O) j,j<7->br≠j->((h++ao (aa c.gates) (am [])).set br x)[j]? =h[j]? :=λx j h1 h2=>by rw[zqn h2,zqj (by omega)]
 refine⟨?_,?_,?_,?_,?_,?_,?_,?_,?_,by simp,by simp,by omega,by omega,by omega,by omega,by omega,by omega,n1,n2,n3⟩
 ·simp;omega
 ·rw[old _ 0 (by omega) (by omega)];exact h0
 ·rw[old _ 1 (by omega) (by omega)];exact h1
 ·rw[old _ 3 (by omega) (by omega)];exact h3
 ·rw[old _ wr (by omega) (by omega)];exact b3
 ·rw[old _ nr (by omega) (by omega),b1];have:jO (aa c.gates) 0=ao (aa c.gates) .nilm:=by
   rw[List.eq_replicate_iff];refine⟨lw,λv hv=> ?_⟩;obtain⟨j,_,rfl⟩:=zrh.1 hv;exact if_neg (by omega)
  rw[this]
 ·intro j hj;omega
 ·exact zqt (by simp;omega)
 ·intro j hj;rw[zqn (by omega),zsb (by omega),List.getElem?_replicate,if_pos (by omega),zqg,List.getElem?_replicate,if_pos hj];rfl
end Go.Proofs.YthaijohbpdabfaaGreatDoor
