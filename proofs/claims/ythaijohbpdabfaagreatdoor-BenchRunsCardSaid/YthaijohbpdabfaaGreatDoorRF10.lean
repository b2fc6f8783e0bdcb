/- Lemmas for this claim, part F10: each holds under what it names. -/
import Derived.Test.YthaijohbpdabfaaGreatDoorRF08
import Derived.Test.YthaijohbpdabfaaGreatDoorRF02
import Derived.Test.YthaijohbpdabfaaGreatDoorRA9
import Derived.Test.YthaijohbpdabfaaGreatDoorRA8
import Derived.Test.YthaijohbpdabfaaGreatDoorRA7
import Derived.Test.YthaijohbpdabfaaGreatDoorRA10
set_option linter.all false
set_option maxRecDepth 20000
set_option maxHeartbeats 4000000
namespace Go.Proofs.YthaijohbpdabfaaGreatDoor
open Go Go.Proofs Go.Abs
open List renaming length → aa, replicate → ao
open Bool renaming true → ab, false → ac
open Option renaming some → al, none → aq
open Decidable renaming decide → ar
open Go.IntKind renaming wrap → aD
open Go.Result renaming andThen → aM
open Go.Abs.O renaming cells → am
open Go.Abs.V renaming drops → ap, dat → aE, dats → aL
theorem KW{n k:Nat}(h:WF n (k+1) []):False:=by unfold WF at h;exact h.elim
theorem jE{n:Nat}{ins:List S}:∀(f k j:Nat)(x:Xs)(l:List Fo),WF n (k+j) l->aa l<f ->
 (aO ins f k x l).2.1.length=k/\WF n j (aO ins f k x l).2.2/\(aO ins f k x l).2.2.length+k<=aa l
 |0,_,_,_,_,_,h=>by omega
 |f+1,0,j,x,l,hw,_=>by rw[aO];rw[Nat.zero_add]at hw;exact⟨rfl,hw,zrb _⟩
 |f+1,k+1,j,x,[],hw,_=>by rw[Nat.add_right_comm]at hw;exact(KW hw).elim
 |f+1,k+1,j,x,fo::l,hw,hf=>by
  rw[Nat.add_right_comm]at hw;unfold WF at hw;rw[zrt]at hf;rw[aO];rcases hw with⟨w1,w2,w3⟩|⟨w1,w2,w3⟩
  ·rw[if_pos w1];obtain⟨a1,a2,a3⟩:=jE f k j (vK x ins fo.lit).1 l w3 (by omega);exact⟨by rw[zrt,a1],a2,by rw[zrt];dsimp only;omega⟩
  ·rw[if_neg (by rcases w1 with h|h<;>rw[h]<;>decide)];obtain⟨a1,a2,a3⟩:=jE f fo.kids (k+j) x l w3 (by omega);obtain⟨q,hq⟩:∃q,q=aO ins f fo.kids x l:=⟨_,rfl⟩;rw[<-hq]at a1 a2 a3 ⊢;obtain⟨b1,b2,b3⟩:=jE f k j (gU (aa q.2.1) q.1 [] (opF fo) (opF fo) q.2.1).1 q.2.2 a2 (by omega);exact⟨by dsimp only;rw[zrt,b1],b2,by rw[zrt];dsimp only;omega⟩
theorem kD{n:Nat}{ins:List S}:∀(f k j:Nat)(x:Xs)(l:List Fo),WF n (k+j) l->aa l<f->aO ins (f+1) k x l=aO ins f k x l
 |0,_,_,_,_,_,h=>by omega
 |f+1,0,j,x,l,hw,_=>by rw[aO,aO]
 |f+1,k+1,j,x,[],hw,_=>by rw[Nat.add_right_comm]at hw;exact(KW hw).elim
 |f+1,k+1,j,x,fo::l,hw,hf=>by
  rw[Nat.add_right_comm]at hw;unfold WF at hw;rw[zrt]at hf;rw[aO,aO];rcases hw with⟨w1,w2,w3⟩|⟨w1,w2,w3⟩
  ·rw[if_pos w1,if_pos w1,kD f k j (vK x ins fo.lit).1 l w3 (by omega)]
  ·have hn:¬fo.kind=2:=by rcases w1 with h|h<;>rw[h]<;>decide
   rw[if_neg hn,if_neg hn,kD f fo.kids (k+j) x l w3 (by omega)];obtain⟨a1,a2,a3⟩:=jE (ins:=ins) f fo.kids (k+j) x l w3 (by omega);obtain⟨q,hq⟩:∃q,q=aO ins f fo.kids x l:=⟨_,rfl⟩;rw[<-hq]at a1 a2 a3 ⊢;dsimp only;rw[kD f k j _ q.2.2 a2 (by omega)]
theorem zS{n:Nat}{ins:List S}{k j:Nat}{x:Xs}{l:List Fo}(hw:WF n (k+j) l):∀(d:Nat),aO ins (aa l+1+d) k x l=aO ins (aa l+1) k x l
 |0=>rfl
 |d+1=>by rw[<-Nat.add_assoc,kD (n:=n) (aa l+1+d) k j x l hw (by omega),zS hw d]
def xsz(x:Xs):Nat:=aa x.gates+aa x.used+aa x.nots.1
theorem xA(x:Xs)(g:Ga):xsz (iI x g).1<=xsz x+2/\(iI x g).1.nots=x.nots:=by
 unfold iI;split
 ·refine⟨?_,rfl⟩;show aa (x.gates++_)+aa (x.used++_)+_<=aa x.gates+aa x.used+aa x.nots.1+2;simp only[zqa,zrk];omega
 ·refine⟨?_,rfl⟩;show aa (x.gates++_)+aa x.used+_<=aa x.gates+aa x.used+aa x.nots.1+2;simp only[zqa,zrk];omega
theorem Q3(x:Xs)(s:S):xsz (dN x s).1<=xsz x+3:=by
 unfold dN;obtain⟨h,hn⟩:=xA x ⟨[],3,[s],[],ac⟩;split
 ·exact Nat.le_add_right _ _
 ·unfold xsz at h ⊢;dsimp only;rw[hn]at h;simp only[zqa,zrk];omega
theorem ZH(x:Xs)(ins:List S)(n:Nat):xsz (vK x ins n).1<=xsz x+3:=by
 unfold vK;split
 ·exact Q3 _ _
 ·exact Nat.le_add_right _ _
theorem Jk:∀(f:Nat)(x:Xs)(name:S)(op last:Int)(l:List S),aa l<=f->1<=f->xsz (gU f x name op last l).1<=xsz x+2*f
 |0,_,_,_,_,_,_,h=>by omega
 |f+1,x,name,op,last,l,hl,_=>by
  rw[gU];split
  ·rename_i h8;have h1:=(xA x ⟨[],op,l.take 8,[],ac⟩).1;have h2:=Jk f (iI x ⟨[],op,l.take 8,[],ac⟩).1 name op last ((iI x ⟨[],op,l.take 8,[],ac⟩).2::l.drop 8) (by rw[zrt,List.length_drop];omega) (by omega);omega
  ·have h1:=(xA x ⟨name,last,l,[],ac⟩).1;omega
theorem oI{n:Nat}{ins:List S}:∀(f k j:Nat)(x:Xs)(l:List Fo),WF n (k+j) l->aa l<f ->
 xsz (aO ins f k x l).1+2*k+5*(aO ins f k x l).2.2.length<=xsz x+5*aa l
 |0,_,_,_,_,_,h=>by omega
 |f+1,0,j,x,l,hw,_=>by rw[aO];dsimp only;omega
 |f+1,k+1,j,x,[],hw,_=>by rw[Nat.add_right_comm]at hw;exact(KW hw).elim
 |f+1,k+1,j,x,fo::l,hw,hf=>by
  rw[Nat.add_right_comm]at hw;unfold WF at hw;rw[zrt]at hf;rw[aO];rcases hw with⟨w1,w2,w3⟩|⟨w1,w2,w3⟩
  ·rw[if_pos w1];have a:=oI (ins:=ins) f k j (vK x ins fo.lit).1 l w3 (by omega);have b:=ZH x ins fo.lit;rw[zrt];dsimp only;omega
  ·rw[if_neg (by rcases w1 with h|h<;>rw[h]<;>decide)];obtain⟨a1,a2,a3⟩:=jE (ins:=ins) f fo.kids (k+j) x l w3 (by omega);have a4:=oI (ins:=ins) f fo.kids (k+j) x l w3 (by omega);obtain⟨q,hq⟩:∃q,q=aO ins f fo.kids x l:=⟨_,rfl⟩;rw[<-hq]at a1 a2 a3 a4 ⊢;have m:=Jk (aa q.2.1) q.1 [] (opF fo) (opF fo) q.2.1 (zrb _) (by omega);have b:=oI (ins:=ins) f k j (gU (aa q.2.1) q.1 [] (opF fo) (opF fo) q.2.1).1 q.2.2 a2 (by omega);rw[zrt];dsimp only;omega
theorem BP(p:S->Bool):∀rows:List S,bK (rows.filter p)+bK (rows.filter λr=> !p r)=bK rows
 |[]=>rfl
 |r::rows=>by
  have ih:=BP p rows;rw[List.filter_cons,List.filter_cons,eH];cases hp:p r with
  |true=>rw[if_pos rfl,if_neg (by decide:¬(!true)=ab),eH];omega
  |false=>rw[if_neg (by decide:¬ac=ab),if_pos (by rfl:(!false)=ab),eH];omega
theorem KX(l:List Fo):aa (rH l)<=aa l:=by
 match l with
 |[]=>exact zrb _
 |[f]=>show aa (if f.kind=1 then []else [f])<=1;split<;>simp
 |_::_::_=>exact zrb _
theorem Eg(l:List Li)(rest:List Fo):aa (zI l rest)<=1+aa l+aa rest:=by
 have:=KX rest;unfold zI;rw[zqa,zqa,zra];split
 ·simp only[zrk];omega
 ·simp only[List.length_nil];omega
theorem Eh(row:S):aa (aY row)<=aa row:=by show aa (bg 0 row)<=_;rw[qR];exact List.countP_le_length
theorem Ei:∀rows:List S,aa (rows.flatMap λr=>zI (aY r) [])<=bK rows
 |[]=>zrb _
 |r::rows=>by have ih:=Ei rows;have h:=Eg (aY r) [];have e:aa (aY r)=Az r:=qR 0 r;rw[List.flatMap_cons,zqa,eH];simp only[List.length_nil]at h;omega
theorem tJ:∀(f:Nat)(rows:List S),(∀r∈rows,aa r<=8)->bK rows<f->aa (wF f rows)<=10*bK rows+1
 |0,_,_,h=>by omega
 |f+1,rows,hn,hs=>by
  unfold wF;by_cases h0:rows=[]
  ·rw[if_pos h0];simp
  rw[if_neg h0];by_cases h1:rows.any jX=ab
  ·rw[if_pos h1];simp
  rw[if_neg h1];obtain⟨r0,rs,rfl⟩:∃r0 rs,rows=r0::rs:=by
   cases rows with
   |nil=>exact absurd rfl h0
   |cons a b=>exact⟨a,b,rfl⟩
  have hdl:∀ {rows:List S} {l:List Li},(∀r∈rows,aa r<=8)->∀r∈aS rows l,aa r<=8:=λh r hr=>by obtain⟨q,hq,rfl⟩:=zrh.1 hr;rw[yl];exact h q hq
  by_cases h2:bD (r0::rs)≠[]
  ·rw[if_pos h2];obtain⟨x,cs,hc⟩:∃x cs,bD (r0::rs)=x::cs:=by
    cases hcc:bD (r0::rs)with
    |nil=>exact absurd hcc h2
    |cons a b=>exact⟨a,b,rfl⟩
   have hx:x∈aY r0:=(List.mem_filter.1 (show x∈bD (r0::rs) by rw[hc];simp)).1;have hsz:bK (aS (r0::rs) (bD (r0::rs)))<bK (r0::rs):=by rw[hc];exact iw hx
   have ih:=tJ f (aS (r0::rs) (bD (r0::rs))) (hdl hn) (by omega);have ha:=Eg (bD (r0::rs)) (wF f (aS (r0::rs) (bD (r0::rs))));have hcl:aa (bD (r0::rs))<=8:=Nat.le_trans (List.length_filter_le _ _) (Nat.le_trans (Eh r0) (hn r0 (by simp)));omega
  ·rw[if_neg h2];by_cases h3:(jW (r0::rs)).2<2
   ·rw[if_pos h3,zrt];have:=Ei (r0::rs);omega
   ·rw[if_neg h3];obtain⟨x,hx⟩:∃x,x=(jW (r0::rs)).1:=⟨_,rfl⟩;rw[<-hx];have hcnt:2<=iZ (r0::rs) x:=by
     rcases DX (r0::rs)with⟨h,_⟩|⟨_,h⟩
     ·omega
     ·rw[hx];omega
    obtain⟨q0,qs,hq⟩:∃q0 qs,(r0::rs).filter (jd x)=q0::qs:=by
     cases hf:(r0::rs).filter (jd x)with
     |nil=>exfalso;unfold iZ at hcnt;rw[List.countP_eq_length_filter,hf]at hcnt;simp at hcnt
     |cons a b=>exact⟨a,b,rfl⟩
    have hq0:x∈aY q0:=by
     have:q0∈(r0::rs).filter (jd x):=by rw[hq];simp
     exact lF (List.mem_filter.1 this).2
    have s1:bK (aS ((r0::rs).filter (jd x)) [x])<bK ((r0::rs).filter (jd x)):=by rw[hq];exact iw hq0
    have s2:=BP (jd x) (r0::rs);have i1:=tJ f (aS ((r0::rs).filter (jd x)) [x]) (hdl λr hr=>hn r (List.mem_filter.1 hr).1) (by omega);have i2:=tJ f ((r0::rs).filter λr=> !jd x r) (λr hr=>hn r (List.mem_filter.1 hr).1) (by omega);have ha:=Eg [x] (wF f (aS ((r0::rs).filter (jd x)) [x]));rw[zrt,zqa];simp only[zrk]at ha;omega
theorem Ej:∀(rows acc:List S),aa (rows.foldl (λl r=>if l.contains r=ab then l else l++[r]) acc)<=aa acc+aa rows
 |[],acc=>by simp
 |r::rows,acc=>by
  rw[List.foldl_cons];have:=Ej rows (if acc.contains r=ab then acc else acc++[r]);refine Nat.le_trans this ?_;split
  ·simp only[zrt];omega
  ·simp only[zrt,zqa,zrk,List.length_nil];omega
theorem zT{m:Nat}:∀rows:List S,(∀r∈rows,aa r<=m)->bK rows<=(m+1)*aa rows
 |[],_=>Nat.zero_le _
 |r::rows,h=>by have ih:=zT rows λq hq=>h q (by simp[hq]);have h1:=h r (by simp);have h2:Az r<=aa r:=List.countP_le_length;rw[eH,zrt,Nat.mul_add];omega
theorem KY{rows:List S}(h1:aa rows<=128)(h2:∀r∈rows,aa r<=8):aa (Qz (bM rows))<=11521:=by
 have hu:=Ej rows [];have hm:∀r∈bM rows,aa r<=8:=λr hr=>by
  rcases lZ rows [] r hr with h|h
  ·cases h
  ·exact h2 r h
 have hs:=zT (bM rows) hm;have hl:aa (bM rows)<=128:=Nat.le_trans hu (by simpa using h1);have hf:=tJ (bK (bM rows)+1) (bM rows) hm (by omega);show aa (wF _ _)<=_;omega
theorem Vg{x:Xs}{g:Ga}(h1:aa g.rows<=128)(h2:∀r∈g.rows,aa r=aa g.ins)(h3:aa g.ins<=8):xsz (jT x g)<=xsz x+60000:=by
 have hl:=KY (rows:=g.rows) h1 λr hr=>by rw[h2 r hr];exact h3
 have hw:=zK (n:=aa g.ins) (bK (bM g.rows)+1) (bM g.rows) (λr hr=>by
  rcases lZ g.rows [] r hr with h|h
  ·cases h
  ·exact h2 r h) (by omega)
 unfold jT;have hp:∀g',xsz (iI x g').1<=xsz x+60000:=λg'=>by have:=(xA x g').1;omega
 cases hf:Qz (bM g.rows)with
 |nil=>dsimp only;omega
 |cons fo l =>
  rw[hf,zrt]at hl;dsimp only;split
  ·exact hp _
  ·split
   ·exact hp _
   ·split
    ·exact hp _
    ·rename_i k0 k1 k2;have hwf:WF (aa g.ins) 1 (fo::l):=by
      have e:wF (bK (bM g.rows)+1) (bM g.rows)=fo::l:=hf;rw[e]at hw;rcases hw with⟨_,h⟩|⟨_,fo',h,h'⟩|⟨_,_,h⟩
      ·injection h with h _;rw[h]at k0;exact absurd rfl k0
      ·injection h' with h' _;rw[h']at k1;exact absurd h k1
      ·exact h
     unfold WF at hwf;rcases hwf with⟨w1,_⟩|⟨w1,w2,w3⟩
     ·exact absurd w1 k2
     ·obtain⟨a1,a2,a3⟩:=jE (ins:=g.ins) (aa l+1) fo.kids 0 x l w3 (by omega);have a4:=oI (ins:=g.ins) (aa l+1) fo.kids 0 x l w3 (by omega);have m:=Jk (aO g.ins (aa l+1) fo.kids x l).2.1.length (aO g.ins (aa l+1) fo.kids x l).1 g.name (opF fo) (fM g.off (opF fo)) (aO g.ins (aa l+1) fo.kids x l).2.1 (zrb _) (by omega);omega
def nlX(x:Xs):Prop:=aa x.nots.1=aa x.nots.2
theorem zU{x:Xs}(g:Ga)(h:nlX x):nlX (iI x g).1:=by unfold nlX;rw[(xA x g).2];exact h
theorem Q4{x:Xs}(s:S)(h:nlX x):nlX (dN x s).1:=by
 unfold dN;split
 ·exact h
 ·show aa (x.nots.1++[s])=aa (x.nots.2++_);simp only[zqa,zrk];have:aa x.nots.1=aa x.nots.2:=h;omega
theorem Wn{x:Xs}(ins:List S)(n:Nat)(h:nlX x):nlX (vK x ins n).1:=by
 unfold vK;split
 ·exact Q4 _ h
 ·exact h
theorem Em:∀(f:Nat) {x:Xs} (name:S) (op last:Int) (l:List S),nlX x->nlX (gU f x name op last l).1
 |0,x,name,op,last,l,h=>zU _ h
 |f+1,x,name,op,last,l,h=>by
  rw[gU];split
  ·exact Em f name op last _ (zU _ h)
  ·exact zU _ h
theorem qY{ins:List S}:∀(f k:Nat) {x:Xs} (l:List Fo),nlX x->nlX (aO ins f k x l).1
 |0,_,_,_,h=>by rw[aO];exact h
 |f+1,0,_,_,h=>by rw[aO];exact h
 |f+1,k+1,_,[],h=>by rw[aO];exact h
 |f+1,k+1,x,fo::l,h=>by
  rw[aO];split
  ·exact qY f k l (Wn ins fo.lit h)
  ·exact qY f k _ (Em _ _ _ _ _ (qY f fo.kids l h))
def nK(ins:List S)(x:Xs)(fo:Fo)(l:List Fo):Xs×S×List Fo :=
 if fo.kind=2 then((vK x ins fo.lit).1,(vK x ins fo.lit).2,l)
 else((gU (aO ins (aa l+1) fo.kids x l).2.1.length (aO ins (aa l+1) fo.kids x l).1 [] (opF fo) (opF fo) (aO ins (aa l+1) fo.kids x l).2.1).1,(gU (aO ins (aa l+1) fo.kids x l).2.1.length (aO ins (aa l+1) fo.kids x l).1 [] (opF fo) (opF fo) (aO ins (aa l+1) fo.kids x l).2.1).2,(aO ins (aa l+1) fo.kids x l).2.2)
theorem BQ{n:Nat}{ins:List S}{k j F:Nat}{x:Xs}{fo:Fo}{l:List Fo}(hw:WF n (k+1+j) (fo::l))(hF:aa l+1<F) :
 aO ins F (k + 1) x (fo :: l) = ((aO ins F k (nK ins x fo l).1 (nK ins x fo l).2.2).1,(nK ins x fo l).2.1 :: (aO ins F k (nK ins x fo l).1 (nK ins x fo l).2.2).2.1,(aO ins F k (nK ins x fo l).1 (nK ins x fo l).2.2).2.2)
  /\ WF n (k+j) (nK ins x fo l).2.2/\(nK ins x fo l).2.2.length<=aa l:=by
 obtain⟨f,rfl⟩:∃f,F=f+1:=⟨F-1,by omega⟩;rw[Nat.add_right_comm]at hw;unfold WF at hw;unfold nK;rcases hw with⟨w1,w2,w3⟩|⟨w1,w2,w3⟩
 ·rw[if_pos w1];dsimp only;refine⟨?_,w3,zrb _⟩;rw[kD (n:=n) f k j _ l w3 (by omega),aO,if_pos w1]
 ·have hn:¬fo.kind=2:=by rcases w1 with h|h<;>rw[h]<;>decide
  rw[if_neg hn];obtain⟨d,hd⟩:∃d,f=aa l+1+d:=⟨f-(aa l+1),by omega⟩;have hfu:aO ins f fo.kids x l=aO ins (aa l+1) fo.kids x l:=by rw[hd];exact zS (n:=n) (j:=k+j) w3 d
  obtain⟨a1,a2,a3⟩:=jE (n:=n) (ins:=ins) (aa l+1) fo.kids (k+j) x l w3 (by omega);dsimp only;refine⟨?_,a2,by omega⟩;rw[kD (n:=n) f k j _ _ a2 (by omega),aO,if_neg hn,hfu]
theorem X9{n:Nat}{ins:List S}{j:Nat}{x:Xs}{fo:Fo}{l:List Fo}(hw:WF n (1+j) (fo::l)):xsz (nK ins x fo l).1+5*(nK ins x fo l).2.2.length<=xsz x+5*(aa l+1):=by have h:=oI (ins:=ins) (aa l+2) 1 j x (fo::l) hw (by simp);have hs:=(BQ (ins:=ins) (F:=aa l+2) (x:=x) (k:=0) (j:=j) (n:=n) (by rw[Nat.zero_add];exact hw) (by omega)).1;rw[hs,zrt]at h;rw[aO]at h;dsimp only at h;omega
theorem Ya{ins:List S}{x:Xs}(fo:Fo)(l:List Fo)(h:nlX x):nlX (nK ins x fo l).1:=by
 unfold nK;split
 ·exact Wn _ _ h
 ·exact Em _ _ _ _ _ (qY _ _ _ h)
theorem Vh[MO](c:UInt8):Ev TE 323 [vb c] (.bool (Gz c)):=by have e1:ar ((32:Int)<(c.toNat:Int))=ar (32<c.toNat):=decide_eq_decide.2 (by omega);have e2:ar ((c.toNat:Int)<=126)=ar (c.toNat<=126):=decide_eq_decide.2 (by omega);refine ai Tryz.func323 rfl (by simp[nts]) (vm ?_);simp only[wq.1,seval,Tryz.results323,e1,e2];exact aC.eq rfl rfl
def Wp:S:=[61,40,41,44]
def Yb:S:=[61,40,41,44,35]
theorem Vj(c:UInt8):Wp.contains c=tq c:=by unfold Wp tq;simp only[List.contains_cons,List.contains_nil,Bool.or_false,Bool.or_assoc]
theorem Yc(c:UInt8):Yb.contains c=(tq c||c==35):=by unfold Yb tq;simp only[List.contains_cons,List.contains_nil,Bool.or_false,Bool.or_assoc]
theorem Q5[MO](c:UInt8):Ev TE 322 [vb c] (.bool (iH c)):=by
 have h:=FW Yb c.toNat (by have:=c.toNat_lt;omega);rw[UInt8.ofNat_toNat]at h;refine ai Tryz.func322 rfl (by simp[nts]) (vm ?_);simp only[wq.1,seval,Tryz.results322];refine ag.ev (Vh c) rfl ?_;unfold iH;cases hg:Gz c with
 |false=>simp only[wq.1,seval];refine⟨vi 0,?_⟩;simp only[wq.1,Int.reduceLT];exact aC.dat rfl
 |true=>simp only[wq.1,seval];refine ag.ev h rfl ?_;simp only[wq.1,seval];refine aC.eq rfl ?_;rw[DI,Yc]
def zV(p:Nat):S->Option (Option Tk×Nat)
 |[]=>al (aq,0)
 |c::r =>
  if c=35 then al (aq,EF (· != 10) (c::r))
  else if qo c=ab then al (aq,1)
  else if tq c=ab then al (al ⟨1,[c],p⟩,1)
  else if iH c=ab then al (al ⟨0,(c::r).takeWhile iH,p⟩,EF iH (c::r))
  else aq
theorem KZ{n p:Nat}{c:UInt8}{r:S}:tkN (n+1) p (c::r)=match zV p (c::r)with
 |none=>([],al p)
 |some (o,m)=>(o.toList++(tkN n (p+m) ((c::r).drop m)).1,(tkN n (p+m) ((c::r).drop m)).2):=by
 rw[tkN,zV];by_cases h1:c=35
 ·rw[if_pos h1,if_pos h1,DJ];rfl
 rw[if_neg h1,if_neg h1];by_cases h2:qo c=ab
 ·rw[if_pos h2,if_pos h2];rfl
 rw[if_neg h2,if_neg h2];by_cases h3:tq c=ab
 ·rw[if_pos h3,if_pos h3];rfl
 rw[if_neg h3,if_neg h3];by_cases h4:iH c=ab
 ·rw[if_pos h4,if_pos h4,DJ];rfl
 rw[if_neg h4,if_neg h4]
theorem Q7{p:Nat}{c:UInt8}{r:S}{o:Option Tk}{m:Nat}(h:zV p (c::r)=al (o,m)):1<=m/\m<=aa (c::r):=by
 have hw:∀q:UInt8->Bool,q c=ab->1<=EF q (c::r)/\EF q (c::r)<=aa (c::r):=λq hq=>by unfold EF;refine⟨by rw[List.takeWhile_cons,if_pos hq];simp,(List.takeWhile_sublist _).length_le⟩
 have h1l:1<=aa (c::r):=by simp
 rw[zV]at h;split at h
 ·rename_i h1;have:=hw (· != 10) (by rw[h1];decide);injection h with h;injection h with _ h;rw[<-h];exact this
 ·split at h
  ·injection h with h;injection h with _ h;rw[<-h];exact⟨zrb _,h1l⟩
  ·split at h
   ·injection h with h;injection h with _ h;rw[<-h];exact⟨zrb _,h1l⟩
   ·split at h
    ·rename_i h4;injection h with h;injection h with _ h;rw[<-h];exact hw _ h4
    ·cases h
abbrev Yd(a:Nat):V:= .iface 193 (.agg [vi a])
theorem Ye[MO](k:Int)(s:S)(a:Nat){h:H}{R:AEnd->H->(Nat->Bool)->Prop}(hr:∀X,R (.pan (Yd a)) (h++X) (λ_=>ac)):ag TE 320 [vi k,.str s,vi a,vi 0] h R:=by refine aj Tryz.func320 rfl (by simp[nts]) (vm ?_);simp only[wq.1,seval,Tryz.results320];refine⟨by simp,?_⟩;simp only[XE.seq];exact cZ (R:=R) rfl (hr _)
theorem Vk{s:S}{a:Nat}{c:UInt8}{r:S}(hr:s.drop a=c::r):∃ha:a<aa s,s[a]=c:=by
 have ha:a<aa s:=by have:=congrArg List.length hr;rw[List.length_drop,zrt]at this;omega
 refine⟨ha,?_⟩;have:=List.drop_eq_getElem_cons ha;rw[hr]at this;injection this with h1 _;exact h1.symm
theorem Q8(c:UInt8):ar (0<=Lib.indexByte [32,9,13,10] c)=qo c:=by rw[J4];unfold qo;simp only[List.contains_cons,List.contains_nil,Bool.or_false,Bool.or_assoc]
theorem Vl(c:UInt8):ar (0<=Lib.indexByte [61,40,41,44] c)=tq c:=by rw[J4];exact Vj c
theorem zW[MO](s:S)(a:Nat)(c:UInt8)(r:S)(hr:s.drop a=c::r)(hs:aa s<=1000000000):ag TE 317 [.agg [],.str s,vi a] [] (λae _ _=>match zV a (c::r)with
 |some (o,m)=>ae= .ret (.tup [tkO o,vi m])
 |none=>ae= .pan (Yd a)):=by
 have hM:=mLx;obtain⟨ha,hc⟩:=Vk hr;have hln:=Xn s a (by omega) hs;have hib:=FW [32,9,13,10] c.toNat (by have:=c.toNat_lt;omega);have him:=FW [61,40,41,44] c.toNat (by have:=c.toNat_lt;omega);rw[UInt8.ofNat_toNat]at hib him;have hrn:=VZ s a 322 iH (by omega) hs (by simp[ens]) Q5;rw[hr]at hln hrn;have e35:((c.toNat:Int)==35)=(c==35):=Xm c 35;have hlen:aa (c::r)=aa s-a:=by rw[<-hr,List.length_drop]
 have hpos:EF iH (c::r)<=aa (c::r):=(List.takeWhile_sublist _).length_le;obtain⟨R,hR⟩:∃R,R=zV a (c::r):=⟨_,rfl⟩;rw[<-hR];rw[zV]at hR;refine aj Tryz.func317 rfl (by simp[nts]) (vm ?_);simp only[wq.1,seval,Tryz.results317,PD ha,hc,e35];refine⟨⟨by omega,by omega⟩,vcB.mk (λh1=> ?_) (λh1=> ?_)⟩
 ·rw[if_pos (by simpa using h1)]at hR;subst hR;simp only[wq.1,seval];refine ag.ev hln rfl ?_;simp only[wq.1,seval];refine ag.ev (PR _) rfl ?_;simp only[wq.1,seval]
 rw[if_neg (by simpa using h1)]at hR;simp only[wq.1,seval];refine ag.ev hib rfl ?_;simp only[wq.1,seval,Q8];refine vcB.mk (λh2=> ?_) (λh2=> ?_)
 ·rw[if_pos h2]at hR;subst hR;simp only[wq.1,Nat.reduceLT];refine ag.ev (PR _) rfl ?_;simp only[wq.1,↓reduceIte,Nat.reduceEqDiff,Nat.reduceLT,Nat.reduceAdd,Int.reduceNeg,reduceCtorEq];rfl
 rw[if_neg (by rw[h2];decide)]at hR;simp only[wq.1,seval];refine ag.ev him rfl ?_;simp only[wq.1,seval,Vl];refine vcB.mk (λh3=> ?_) (λh3=> ?_)
 ·rw[if_pos h3]at hR;subst hR;have h:=V3 1 s a 1 (by decide) (by omega) hs;rw[hr]at h;simp only[wq.1,seval];refine ag.ev h rfl ?_;simp only[wq.1,seval];rfl
 rw[if_neg (by rw[h3];decide)]at hR;by_cases h4:iH c=ab
 ·rw[if_pos h4]at hR;subst hR;have h:=V3 0 s a (EF iH (c::r)) (by unfold EF;rw[List.takeWhile_cons,if_pos h4];simp) (by omega) hs;rw[hr]at h;have ht:(c::r).take (EF iH (c::r))=(c::r).takeWhile iH:=by
   unfold EF
   conv=>lhs;rw[<-List.takeWhile_append_dropWhile (p:=iH) (l:=c::r)]
   rw[List.take_append_of_le_length (by simp)];simp
  rw[ht]at h;simp only[wq.1,seval];refine ag.ev hrn rfl ?_;simp only[wq.1,seval];refine ag.ev h rfl ?_;simp only[wq.1,seval];rfl
 ·rw[if_neg h4]at hR;subst hR;have h0:EF iH (c::r)=0:=by
   unfold EF;rw[List.takeWhile_cons,if_neg h4];rfl
  rw[h0]at hrn;simp only[wq.1,seval];refine ag.ev hrn rfl ?_;simp only[wq.1,seval];refine Ye _ _ _ λX=> ?_;simp only[wq.1,fO];simp only[XE.seq];exact cZ (R:=λae _ _=>ae=AEnd.pan (Yd a)) rfl rfl
abbrev liV(x:Li):V:= .agg [vi x.1,vi x.2.toNat]
abbrev foV(f:Fo):V:= .agg [vi f.kind,vi f.lit,vi f.kids]
abbrev xU(l:List Li):V:= .is ac 2 (l.map liV)
abbrev oJ(l:List Fo):V:= .is ac 3 (l.map foV)
theorem nM:∀l:List Li,aL (l.map liV)=ab
 |[]=>rfl
 |t::l=>by show(aE (liV t)&&aL (l.map liV))=ab;rw[nM l];rfl
theorem lG:∀l:List Fo,aL (l.map foV)=ab
 |[]=>rfl
 |t::l=>by show(aE (foV t)&&aL (l.map foV))=ab;rw[lG l];rfl
theorem ZI{l:List Li}{i:Nat}(h:i<aa l)(d:V):(l.map liV).getD i d=liV l[i]:=fG h _
theorem Q9[MO](x:Li)(hx:x.1<=1000000000):Ev TE 262 [liV x] (foV (jQ x)):=by
 have hM:=mLx;have w1:aD .i64 (2*(x.1:Int))=((2*x.1:Nat):Int):=by rw[iW (by omega) (by omega)];omega
 have w2:aD .i64 (((2*x.1:Nat):Int)+1)=((2*x.1+1:Nat):Int):=by rw[iW (by omega) (by omega)];omega
 have e48:((x.2.toNat:Int)==48)=(x.2==48):=Xm x.2 48;unfold jQ;refine ai Tryz.func262 rfl (by simp[nts]) (vm ?_);simp only[wq.1,↓reduceIte,Nat.reduceEqDiff,Nat.reduceLT,Nat.reduceLeDiff,Nat.reduceAdd,Int.reduceToNat,Int.reduceLE,Nat.reduceMul,Tryz.results262,w1,e48];cases h:x.2==48 with
 |true =>
  have h':x.2=48:=by simpa using h
  rw[if_pos h'];simp only[wq.1,↓reduceIte,Nat.reduceEqDiff,Nat.reduceLT,Nat.reduceLeDiff,Nat.reduceAdd,Nat.reduceSub,Int.reduceToNat,Nat.reduceDiv,Int.reduceLT,Int.reduceLE,Int.reduceNeg,Int.reduceBEq,Int.reduceBNe,Int.reduceAdd,Int.reduceSub,Nat.reduceBEq,reduceCtorEq,Nat.reduceMul,ay,Tryz.results262,w2];exact⟨by decide,by decide,aC.dat rfl⟩
 |false =>
  have h':¬x.2=48:=by simpa using h
  rw[if_neg h'];simp only[wq.1,↓reduceIte,Nat.reduceEqDiff,Nat.reduceLT,Nat.reduceAdd,reduceCtorEq];exact⟨by decide,by decide,aC.dat rfl⟩
theorem vw[MO](row:S):Ev TE 211 [.str row] (.fn (.func 261) [] [.ip (.str row)]):=by refine ai Tryz.func211 rfl (by simp[nts]) (vm ?_);simp only[wq.1,seval,Tryz.results211];exact aC.fn au.nil (au.cons (aC.lp rfl (au.dat rfl) rfl rfl (by simp[V.vc]) rfl) au.nil)
theorem Yf[MO](h:H)(c:UInt8):jq P h 5 3 (.int .u8 c.toNat)=(True,vi c.toNat):=by have hc:=c.toNat_lt;have hw:aD .i64 (c.toNat:Int)=(c.toNat:Int):=iW (by omega) (by omega);unfold jq;simp only[wq.1,hw]
theorem En:∀(a b:S)(k:Nat),bg k (a++b)=bg k a++bg (k+aa a) b
 |[],b,k=>rfl
 |c::a,b,k=>by
  rw[List.cons_append,bg,bg,En a b (k+1),zrt,show k+1+aa a=k+(aa a+1) by omega];split
  ·rfl
  ·rfl
theorem Yg{row:S}{i:Nat}(h:i<aa row):aY row=aY (row.take i)++bg i (row[i]::row.drop (i+1)):=by
 have e:row=row.take i++(row[i]::row.drop (i+1)):=by rw[<-List.drop_eq_getElem_cons h,List.take_append_drop]
 unfold aY
 conv=>lhs;rw[e]
 rw[En,zrl,Nat.min_eq_left (by omega),Nat.zero_add]
theorem Rf{row:S}{i:Nat}(h:i<aa row):aY (row.take (i+1))=aY (row.take i)++(if row[i]=45 then []else [(i,row[i])]):=by unfold aY;rw[List.take_succ_eq_append_getElem h,En,zrl,Nat.min_eq_left (by omega),Nat.zero_add];rw[bg,bg]
theorem zX[MO](row:S)(hr:aa row<=1000000000):zaQ TE 261 [] [.ip (.str row)] ((aY row).map λx=>[liV x]):=by
 have hM:=mLx;intro id h I Stop h0 step;refine aj Tryz.func261 rfl (by simp[nts]) (vm ?_);simp only[wq.1,seval,Tryz.results261];refine aF (λm f h=>∃i,m+i=aa row/\f.t 0= .yd id/\f.t 1= .ip (.str row)/\f.t 5=vi (aa row)/\f.t 6=vi i/\f.d=[]/\f.k id=ac/\I (aa (aY (row.take i))) h f.k) (aa row) ⟨0,by omega,rfl,rfl,rfl,rfl,rfl,rfl,h0⟩ ?_;rintro m f h ⟨i,hm,t0,t1,t5,t6,hd,hk,hI⟩;have hw:=aA (show i<maxLen by omega);refine vm ?_;simp only[wq.1,seval,t5,t6];refine vcB.mk (λhc=> ?_) (λhc=> ?_)
 ·have hlt:i<aa row:=by have:=zqs hc;omega
  obtain⟨c,ec⟩:∃c,c=row[i]:=⟨_,rfl⟩;have hgc:=PD hlt;rw[<-ec]at hgc;have e45:((c.toNat:Int) != 45)=(c != 45):=Xl c 45;have hat:=Yg hlt;have hsu:=Rf hlt;rw[<-ec]at hat hsu;by_cases h45:c=45
  ·have hb:(c != 45)=ac:=by rw[h45];rfl
   rw[if_pos h45,zqp]at hsu;simp only[wq.1,seval,t0,t1,t6,hgc,e45,hb];refine⟨⟨by omega,by omega⟩,.bool ab,?_⟩;simp only[wq.1,seval,t6,hw];refine .inl ⟨m-1,by omega,i+1,by omega,by simp only[wq.1,seval,t0],by simp only[wq.1,seval,t1],by simp only[wq.1,seval,t5],by simp only[wq.1,↓reduceIte],by simp only[wq.1,hd],by simp only[wq.1,hk],?_⟩;rw[hsu];exact hI
  ·have hb:(c != 45)=ab:=by simpa using h45
   rw[if_neg h45]at hsu;rw[bg,if_neg h45]at hat;have hj:aa (aY (row.take i))<aa (aY row):=by rw[hat];simp
   have hget:((aY row).map λx=>[liV x])[aa (aY (row.take i))]'(by rw[zra];exact hj)=[liV (i,c)]:=by
    rw[List.getElem_map]
    congr 2
    have:(aY row)[aa (aY (row.take i))]? =al (i,c):=by rw[hat];simp
    rw[zqk hj]at this;injection this
   have hst:=step _ h f.k (by rw[zra];exact hj) hk hI;rw[hget]at hst;obtain⟨t,n',ps,asg,body,pend,hL,hsz,hps,hw2⟩:=hst;simp only[wq.1,seval,t0,t1,t6,hgc,e45,hb,hL,Yf];refine⟨⟨by omega,by omega⟩,⟨by omega,by omega⟩,⟨by simpa using hsz,hps⟩,pJ hw2 ?_⟩;rintro j h' p hp hS;refine⟨by simp[ui,hd],?_⟩;cases j with
   |none=>simp only[wq.1,seval,t6,Option.isNone_none];refine .inl ⟨m-1,by omega,i+1,by omega,by simp only[wq.1,seval,t0,hp],by simp only[wq.1,seval,t1],by simp only[wq.1,seval,t5],by simp only[wq.1,↓reduceIte,hw],by simp only[wq.1,hd],by simp only[wq.1,hk,hp],?_⟩;rw[hsu,zqa];exact hS
   |some c'=>simp only[wq.1,seval,hd,hp,hk,Option.isNone_some];exact .inr ⟨c',hS⟩
 ·have hi:i=aa row:=by have:=of_decide_eq_false hc;omega
  rw[hi,zrx]at hI;simp only[wq.1,hd,hk];refine .inl ?_;exact hI
theorem Lc[MO](x:Li):Ev TE 217 [liV x] (.fn (.func 264) [] [.ip (liV x)]):=by refine ai Tryz.func217 rfl (by simp[nts]) (vm ?_);simp only[wq.1,seval,Tryz.results217];exact aC.fn au.nil (au.cons (aC.lp rfl (au.dat rfl) rfl rfl (by simp[V.vc]) rfl) au.nil)
theorem zau:JF P 279 [.i64,.i64]:=by
 refine⟨by kernel_rfl,λw xs ys hx hy=> ?_⟩
 match xs,hx with
 |[a,b],_ =>
 match ys,hy with
 |[a',b'],_ =>
 have hs:(sizeOf 3).run P w= .ok 1 w:=by
  have hi:∃i,P.info? 3=al i:=info_of_underlying Tryz.underlying3;obtain⟨i,hi⟩:=hi;rw[run_sizeOf w hi];have:P.cellsOf 3=1:=by kernel_rfl
  rw[this]
 show(Op.equalIn 10000 279 (.agg #[.int .i64 a,.int .i64 b]) (.agg #[.int .i64 a',.int .i64 b'])).run P w= .ok ([a,b]==[a',b']) w;rw[Be Tryz.underlying279 Tryz.underlying3 9998 a b a' b' hs]
 congr 1
 rw[Bool.eq_iff_iff];simp
theorem ZJ(x y:Li):([(x.1:Int),((x.2.toNat:Nat):Int)]==[(y.1:Int),((y.2.toNat:Nat):Int)])=(x==y):=by rcases x with⟨a,c⟩;rcases y with⟨b,d⟩;rw[Bool.eq_iff_iff,beq_iff_eq,beq_iff_eq];simp only[List.cons.injEq,Int.ofNat_inj,and_true,Prod.mk.injEq,UInt8.toNat_inj]
theorem zY[MO](x:Li)(row:S)(hr:aa row<=1000000000):Ev TE 264 [.str row,.ip (liV x)] (.bool (jd x row)):=by
 refine ai Tryz.func264 rfl (by simp [nts]) ?_;refine vn ?_;simp only [wq.1,Nat.reduceLT,Tryz.results264];refine vn ?_;simp only [wq.1,seval];refine ag.ev (vw row) rfl ?_;simp only [wq.1];refine jr (n := 11) (q := 261) (first := []) (captured := [.ip (.str row)]) (by simp only [wq.1,↓reduceIte]) (by simp only [wq.1,↓reduceIte]) rfl (by decide) ?_;intro L hLd gets;refine ag.mono (zX row hr 2 _
  (λj h k=>(∀i<3,k i=ac)/\(∀y∈(aY row).take j,y≠x)/\∃t X,t 3= .lp 0 0/\t 1= .ip (liV x)/\h=[am [.bool ac],.misc .dfd,L t .ready aq]++X)
  (λc h k=>x∈aY row/\(∀i<3,k i=ac)/\c=al .ret/\∃t X,h=[am [.bool ab],.misc .dfd,L t .done (al .ret)]++X) ?_ ?_) ?_
 ·exact⟨λi _=>rfl,λy hy=>by simp at hy,_,[],rfl,rfl,by rw[zqp];rfl⟩
 ·rintro i h k hi hk ⟨h1,h2,t,X,t3,t1,rfl⟩;rw[zra]at hi;obtain⟨y,hy⟩:∃y,y=(aY row)[i]:=⟨_,rfl⟩;have hym:y∈aY row:=hy▸zqu hi;have hit:((aY row).map λx=>[liV x])[i]'(by rw[zra];exact hi)=[liV y]:=by rw[List.getElem_map,<-hy]
  rw[hit];refine gets _ _ _ t rfl rfl (λlb=> ?_);have hb:=ZJ y x;have k0:=h1 0 (by decide);have k1:=h1 1 (by decide);have gE:∀o:O,(X++[o])[aa X]? =al o:=λo=>by simp
  have gS:∀o o':O,(X++[o]).set (aa X) o'=X++[o']:=λo o'=>by simp
  refine vm ?_;simp only[wq.1,seval,uq,gE,gS];refine⟨t,rfl,?_⟩;refine aB ?_;refine vn ?_;simp only[wq.1,seval,t1,gE];refine⟨zau,?_⟩;rw[hb];cases hxy:y==x with
  |true =>
   have hxy:y=x:=by simpa using hxy
   refine vm ?_;simp only[wq.1,seval,t3,oQ,XE.jump];exact⟨t,_,rfl,hxy▸hym,h1,t,_,rfl⟩
  |false =>
   have hxy:y≠x:=by simpa using hxy
   refine vm ?_;simp only[wq.1,↓reduceIte,oQ,XE.jump];refine⟨t,_,rfl,h1,λz hz=> ?_,t,_,t3,t1,rfl⟩;rw[List.take_succ_eq_append_getElem hi,<-hy]at hz;rcases zrf.1 hz with hz|hz
   ·exact h2 z hz
   ·rw[zrc.1 hz];exact hxy
 ·rintro ae h' p ⟨hp,hr⟩;cases ae with
  |pan v=>exact hr.elim
  |ret v =>
   rcases hr with⟨h1,h2,t,X,t3,t1,rfl⟩|⟨c,hx,h1,hc,t,X,rfl⟩
   ·have hf:jd x row=ac:=by
     cases hh:jd x row with
     |false=>rfl
     |true=>exact absurd rfl (h2 x (by rw[zqh (by rw[zra];exact zrb _)];exact lF hh))
    have k0:=h1 0 (by decide);have k1:=h1 1 (by decide);have k2:=h1 2 (by decide);refine⟨λi hi=> ?_,hp,t,_,aq,(by decide),rfl,?_⟩
    ·have hi:i=1:=by simpa [ui,uj]using hi
     subst hi;exact k1
    ·simp only[wq.1,Nat.reduceAdd,AC];refine vm ?_;simp only[wq.1,seval,k0];rw[hf];exact aC.dat rfl
   ·have hf:jd x row=ab:=List.contains_iff_mem.2 hx;have k0:=h1 0 (by decide);have k1:=h1 1 (by decide);have k2:=h1 2 (by decide);refine⟨λi hi=> ?_,hp,t,_,al .ret,(by decide),rfl,?_⟩
    ·have hi:i=1:=by simpa [ui,uj]using hi
     subst hi;exact k1
    ·simp only[wq.1,seval,AC,k0];rw[hf];exact aC.dat rfl
theorem BR[MO](rows:List S)(x:Li)(hl:aa rows<=1000000000)(hr:∀r∈rows,aa r<=1000000000):Ev TE 212 [aJ rows,liV x] (vi (iZ rows x)):=by
 have hM:=mLx;refine ai Tryz.func212 rfl (by simp[nts]) (vm ?_);simp only[wq.1,seval,Tryz.results212];refine aF (λm f h=>∃i,m+i=aa rows/\f.t 0=aJ rows/\f.t 3= .lp 0 0/\f.t 5=vi (iZ (rows.take i) x)/\f.t 8=aJ rows/\f.t 9=vi (aa rows)/\f.t 10=vi i/\f.d=[]/\h[0]? =al (am [vi x.1,vi x.2.toNat])) (aa rows) ⟨0,by omega,rfl,rfl,rfl,rfl,by rfl,rfl,rfl,rfl⟩ ?_;rintro m f h ⟨i,hm,t0,t3,t5,t8,t9,t10,hd,h0⟩;have hw:=aA (show i<maxLen by omega);refine vm ?_;simp only[wq.1,seval,t9,t10];refine vcB.mk (λhc=> ?_) (λhc=> ?_)
 ·have hlt:i<aa rows:=by have:=zqs hc;omega
  have hsu:iZ (rows.take (i+1)) x=iZ (rows.take i) x+if jd x rows[i]=ab then 1 else 0:=by unfold iZ;rw[List.take_succ_eq_append_getElem hlt,List.countP_append,List.countP_singleton]
  have hcl:iZ (rows.take i) x<=i:=Nat.le_trans List.countP_le_length (by rw[zrl];omega);have hh:=zY x rows[i] (hr _ (zqu hlt));simp only[wq.1,seval,t3,t8,t10,h0,Bz hlt];refine⟨⟨by omega,by omega⟩,ag.ev (Lc x) rfl ?_⟩;simp only[wq.1,seval];refine ag.ev hh rfl ?_;cases hb:jd x rows[i]with
  |true=>rw[hb,if_pos rfl]at hsu;simp only[wq.1,seval,t5,t10,aA (show iZ (rows.take i) x<maxLen by omega)];exact .inl ⟨m-1,by omega,i+1,by omega,by simp only[wq.1,seval,t0],by simp only[wq.1,seval,t3],by simp only[wq.1,seval,hsu],by simp only[wq.1,seval,t8],by simp only[wq.1,seval,t9],by simp only[wq.1,↓reduceIte,hw],by simp only[wq.1,hd],h0⟩
  |false=>rw[hb,if_neg (by decide),Nat.add_zero]at hsu;simp only[wq.1,seval,t10];exact .inl ⟨m-1,by omega,i+1,by omega,by simp only[wq.1,seval,t0],by simp only[wq.1,seval,t3],by simp only[wq.1,seval,hsu,t5],by simp only[wq.1,seval,t8],by simp only[wq.1,seval,t9],by simp only[wq.1,↓reduceIte,hw],by simp only[wq.1,hd],h0⟩
 ·have hi:i=aa rows:=by have:=of_decide_eq_false hc;omega
  rw[hi,zrx]at t5;simp only[wq.1,seval,t5,hd];exact aC.dat rfl
abbrev foF(f:Fo):List V:=[vi f.kind,vi f.lit,vi f.kids]
abbrev liF(x:Li):List V:=[vi x.1,vi x.2.toNat]
def foC(l:List Fo):List V:=l.flatMap foF
def liC(l:List Li):List V:=l.flatMap liF
theorem zZ(l m:List Fo):foC (l++m)=foC l++foC m:=by simp[foC]
theorem Rh(l m:List Li):liC (l++m)=liC l++liC m:=by simp[liC]
theorem Yh(f:Fo):foC [f]=foF f:=by simp[foC]
theorem Ri(f:Li):liC [f]=liF f:=by simp[liC]
theorem wL:∀l:List Fo,aa (foC l)=aa l*3
 |[]=>rfl
 |t::l=>by show aa (_::_::_::foC l)=_;simp only[zrt,wL l];omega
theorem Jl:∀l:List Li,aa (liC l)=aa l*2
 |[]=>rfl
 |t::l=>by show aa (_::_::liC l)=_;simp only[zrt,Jl l];omega
theorem nO{α:Type}{F:α->List V}{p:Nat->Bool}(hF:∀x,ap p (F x)=F x):∀l:List α,ap p (l.flatMap F)=l.flatMap F
 |[]=>rfl
 |a::l=>by rw[List.flatMap_cons,gp,hF,nO hF l]
theorem jl{p:Nat->Bool}(l:List Fo):ap p (foC l)=foC l:=nO (λ_=>rfl) l
theorem Aa{p:Nat->Bool}(l:List Li):ap p (liC l)=liC l:=nO (λ_=>rfl) l
theorem Ld:∀l:List Fo,aL (foC l)=ab
 |[]=>rfl
 |t::l=>by show(ab&&(ab&&(ab&&aL (foC l))))=ab;rw[Ld l];rfl
theorem Le:∀l:List Li,aL (liC l)=ab
 |[]=>rfl
 |t::l=>by show(ab&&(ab&&aL (liC l)))=ab;rw[Le l];rfl
theorem vz:∀l:List Fo,dB (foC l)=ab
 |[]=>rfl
 |t::l=>by show(ab&&(ab&&(ab&&dB (foC l))))=ab;rw[vz l];rfl
theorem Wq:∀l:List Fo,bV 3 (l.map foV)=ab
 |[]=>rfl
 |t::l=>by show(_&&bV 3 (l.map foV))=ab;rw[Wq l];rfl
theorem Ws:∀l:List Li,bV 2 (l.map liV)=ab
 |[]=>rfl
 |t::l=>by show(_&&bV 2 (l.map liV))=ab;rw[Ws l];rfl
theorem wM:∀l:List Fo,kH (l.map foV)=ab
 |[]=>rfl
 |t::l=>by show(_&&kH (l.map foV))=ab;rw[wM l];rfl
theorem Jm:∀l:List Fo,(l.map foV).flatMap V.vc=foC l
 |[]=>rfl
 |t::l=>by show V.vc (foV t)++(l.map foV).flatMap V.vc=_;rw[Jm l];rfl
theorem ZK:∀l:List Li,(l.map liV).flatMap V.vc=liC l
 |[]=>rfl
 |t::l=>by show V.vc (liV t)++(l.map liV).flatMap V.vc=_;rw[ZK l];rfl
theorem yu[MO]{h:H}{id len cap:Nat}{l:List Fo}(hc:h[id]? =al (am (foC l)))(hl:len=aa l):aC TE h (.ls id 3 0 len cap) (oJ l) :=
 aC.ls hc (au.dat (Ld l)) (Wq l) (Jm l) (by rw[zra];exact hl)
theorem Lh[MO]{h:H}{id len cap:Nat}{l:List Li}(hc:h[id]? =al (am (liC l)))(hl:len=aa l):aC TE h (.ls id 2 0 len cap) (xU l) :=
 aC.ls hc (au.dat (Le l)) (Ws l) (ZK l) (by rw[zra];exact hl)
theorem Eo[MO](l:List Li)(rest:List Fo)(hl:aa l<=1000000)(hr:aa rest<=1000000)(hx:∀x∈l,x.1<=1000000000):Ev TE 213 [xU l,oJ rest] (oJ (zI l rest)):=by
 have hM:=mLx;refine ai Tryz.func213 rfl (by simp[nts]) ?_;obtain⟨r,er⟩:∃r,r=rH rest:=⟨_,rfl⟩;have hrl:aa r<=1000000:=er▸Nat.le_trans (KX rest) hr;obtain⟨K,eK⟩:∃K,K=Qy l rest:=⟨_,rfl⟩;have hK:K=aa l+min (aa r) 1:=by rw[eK,er];rfl
 have hA:zI l rest=(if 1<K then [⟨3,0,K⟩]else [])++l.map jQ++r:=by rw[eK,er];rfl
 rw[hA];refine vn ?_;simp only[wq.1,Nat.reduceLT,Tryz.results213];refine ak (bf (Q:=λxe f h=>xe= .normal/\h=[]/\f.t 0=xU l/\VLe (f.t 1) (oJ r)/\f.d=[]) ?_ ?_)
 ·rintro xe f h ⟨rfl,rfl,t0,t1,hd⟩;show awp _ _ _ _ _ _ _;refine JO (FLe.one 1 t1) (HLe.refl _) ?_;obtain⟨f',ef⟩:∃f':Fr,f'={f with t:=λj=>if j=1 then oJ r else f.t j}:=⟨_,rfl⟩;have u0:f'.t 0=xU l:=by rw[ef];exact t0
  have u1:f'.t 1=oJ r:=by rw[ef];rfl
  have ud:f'.d=[]:=by rw[ef];exact hd
  rw[<-ef];clear ef t0 t1 hd f;have hmn:LY [vi (aa r),vi 1]=(True,vi (min (aa r) 1:Nat)):=by
   show(True,V.int .i64 (if(1:Int)<(aa r:Int)then 1 else(aa r:Int)))=_
   congr 2
   split<;>omega
  have wK:aD .i64 ((aa l:Int)+((min (aa r) 1:Nat):Int))=(K:Int):=by rw[iW (by omega) (by omega),hK];omega
  have dK:ar ((1:Int)<(K:Int))=ar (1<K):=decide_eq_decide.2 (by omega);refine vn ?_;simp only[wq.1,seval,u0,u1,hmn,wK];refine vn ?_;simp only[wq.1,Nat.reduceLT];refine iF 6 3 (by simp only[wq.1,↓reduceIte]) ?_;obtain⟨P0,eP0⟩:∃P0:List Fo,P0=if 1<K then [⟨3,0,K⟩]else []:=⟨_,rfl⟩
  rw[<-eP0];refine ak (bf (Q:=λxe f h=>xe= .normal/\h[0]? =al (am (foC P0))/\f.t 0=xU l/\f.t 1=oJ r/\f.t 6= .ls 0 3 0 (aa P0) (aa P0)/\f.d=[]) ?_ ?_)
  ·clear u0 u1 ud;rintro xe f h ⟨rfl,h0,t0,t1,t6,hd⟩;show awp _ _ _ _ _ _ _;have hPl:aa P0<=1:=by rw[eP0];split<;>simp
   refine vn ?_;simp only[wq.1,seval,t0];refine aF (λm f h=>∃i,m+i=aa l/\h[0]? =al (am (foC (P0++(l.take i).map jQ)))/\f.t 1=oJ r/\f.t 6= .ls 0 3 0 (aa P0+i) (aa P0+i)/\f.t 32=xU l/\f.t 33=vi (aa l)/\f.t 34=vi i/\f.d=[]) (aa l) ⟨0,by omega,by simpa using h0,by simp only[wq.1,seval,t1],by simp only[wq.1,seval,t6],by simp only[wq.1,seval],by simp only[wq.1,seval],by rfl,by simp only[wq.1,hd]⟩ ?_;clear t0 t1 t6 hd h0;rintro m f h ⟨i,hm,h0,t1,t6,t32,t33,t34,hd⟩;have hw:=aA (show i<maxLen by omega);refine vn ?_;simp only[wq.1,Nat.reduceLT,t33,t34];refine vn ?_;simp only[wq.1,↓reduceIte];refine vcB.mk (λhlt=> ?_) (λhlt=> ?_)
   ·have hlt:i<aa l:=by have:=zqs hlt;omega
    obtain⟨x,ex⟩:∃x,x=l[i]:=⟨_,rfl⟩;have hgx:=ZI hlt .any;rw[<-ex]at hgx;have hnd:=Q9 x (hx x (ex▸zqu hlt));have dF:∀q,ap q (foC (P0++(l.take i).map jQ))=foC (P0++(l.take i).map jQ):=λq=>jl _;have hfl:=wL (P0++(l.take i).map jQ);rw[zqa,zra,zrl,Nat.min_eq_left (by omega)]at hfl;have hgE:∀x:O,(h++[x])[aa h]? =al x:=λx=>by simp
    have hgS:∀x y:O,(h++[x]).set (aa h) y=h++[y]:=λx y=>by simp
    have l0:=(zqe h0).1;have hx0:∀o:O,(h++[o])[0]? =al (am (foC (P0++(l.take i).map jQ))):=λo=>by rw[zqj l0];exact h0
    simp only[wq.1];refine vm ?_;simp only[wq.1,seval,t6,t32,t34,hgx,hgE,hgS];refine⟨⟨by omega,by omega⟩,ag.ev hnd rfl ?_⟩;have hap:foC (P0++(l.take i).map jQ)++foF (jQ x)=foC (P0++(l.take (i+1)).map jQ):=by
     rw[List.take_succ_eq_append_getElem hlt,<-ex,zql,<-zqc,zZ (P0++(l.take i).map jQ),List.map_singleton,Yh]
    simp only[wq.1,↓reduceIte,Nat.reduceEqDiff,Nat.reduceLT,Nat.reduceAdd,reduceCtorEq,Nat.reduceMul,t34,hd,hx0,dF,hfl,hw];refine⟨⟨rfl,by decide⟩,rfl,⟨rfl,by omega,by omega⟩,.inl ⟨m-1,by omega,i+1,by omega,?_,by simp only[wq.1,↓reduceIte,Nat.reduceEqDiff,Nat.reduceLT,Nat.reduceLeDiff,Nat.reduceAdd,Nat.reduceSub,Int.reduceToNat,Nat.reduceDiv,Int.reduceLT,Int.reduceLE,Int.reduceNeg,Int.reduceBEq,Int.reduceBNe,Int.reduceAdd,Int.reduceSub,Nat.reduceBEq,reduceCtorEq,Nat.reduceMul,ay,Tryz.results213,t1],by simp only[wq.1,↓reduceIte,Nat.reduceEqDiff,Nat.reduceLT,Nat.reduceLeDiff,Nat.reduceAdd,Nat.reduceSub,Int.reduceToNat,Nat.reduceDiv,Int.reduceLT,Int.reduceLE,Int.reduceNeg,Int.reduceBEq,Int.reduceBNe,Int.reduceAdd,Int.reduceSub,Nat.reduceBEq,reduceCtorEq,Nat.reduceMul,ay,Tryz.results213,Nat.add_assoc],by simp only[wq.1,↓reduceIte,Nat.reduceEqDiff,Nat.reduceLT,Nat.reduceLeDiff,Nat.reduceAdd,Nat.reduceSub,Int.reduceToNat,Nat.reduceDiv,Int.reduceLT,Int.reduceLE,Int.reduceNeg,Int.reduceBEq,Int.reduceBNe,Int.reduceAdd,Int.reduceSub,Nat.reduceBEq,reduceCtorEq,Nat.reduceMul,ay,Tryz.results213,t32],by simp only[wq.1,↓reduceIte,Nat.reduceEqDiff,Nat.reduceLT,Nat.reduceLeDiff,Nat.reduceAdd,Nat.reduceSub,Int.reduceToNat,Nat.reduceDiv,Int.reduceLT,Int.reduceLE,Int.reduceNeg,Int.reduceBEq,Int.reduceBNe,Int.reduceAdd,Int.reduceSub,Nat.reduceBEq,reduceCtorEq,Nat.reduceMul,ay,Tryz.results213,t33],by simp only[wq.1,↓reduceIte,Nat.reduceEqDiff,Nat.reduceLT,Nat.reduceLeDiff,Nat.reduceAdd,Nat.reduceSub,Int.reduceToNat,Nat.reduceDiv,Int.reduceLT,Int.reduceLE,Int.reduceNeg,Int.reduceBEq,Int.reduceBNe,Int.reduceAdd,Int.reduceSub,Nat.reduceBEq,reduceCtorEq,Nat.reduceMul,ay,Tryz.results213],by simp only[wq.1,↓reduceIte,Nat.reduceEqDiff,Nat.reduceLT,Nat.reduceLeDiff,Nat.reduceAdd,Nat.reduceSub,Int.reduceToNat,Nat.reduceDiv,Int.reduceLT,Int.reduceLE,Int.reduceNeg,Int.reduceBEq,Int.reduceBNe,Int.reduceAdd,Int.reduceSub,Nat.reduceBEq,reduceCtorEq,Nat.reduceMul,ay,Tryz.results213,hd]⟩⟩;rw[zqt (by simp),<-hap];rfl
   ·have hi:i=aa l:=by have:=of_decide_eq_false hlt;omega
    subst hi;rw[zrx]at h0;have dF:∀q,ap q (foC (P0++l.map jQ))=foC (P0++l.map jQ):=λq=>jl _;have hfl:=wL (P0++l.map jQ);rw[zqa,zra]at hfl;refine vm ?_;simp only[wq.1,seval,t1,t6,hd,h0,dF,hfl];rw[Jm,jl];refine⟨wM r,⟨vz r,by omega,by omega⟩,yu ?_ ?_⟩
    ·rw[zqt (by simpa using(zqe h0).1),<-zZ]
    ·simp only[zqa,zra]
  ·refine vm ?_;simp only[wq.1,↓reduceIte,Nat.reduceEqDiff,Nat.reduceLT,ud,dK];refine vcB.mk (λhk=> ?_) (λhk=> ?_)
   ·rw[if_pos (zqs hk)]at eP0;subst eP0;simp only[wq.1,↓reduceIte,Nat.reduceEqDiff,Nat.reduceLT,Nat.reduceLeDiff,Nat.reduceAdd,reduceCtorEq,Nat.reduceMul,u0,u1];exact⟨⟨rfl,by decide⟩,rfl,⟨rfl,by rw[hM];decide⟩,rfl⟩
   ·rw[if_neg (of_decide_eq_false hk)]at eP0;subst eP0;simp only[wq.1,seval,u0,u1];exact rfl
 ·cases rest with
  |nil=>subst er;have e0:(((0:Nat):Int)==1)=ac:=rfl;refine vm ?_;have hn:V.any.nil? =aq:=rfl;simp only[wq.1,seval,e0,List.getD_nil,fJ,hn];exact VLe.refl _
  |cons fo rs =>
   refine vm ?_;simp only[wq.1,seval];refine⟨λh=>⟨h,by omega⟩,vcB.mk (λhk=> ?_) (λhk=> ?_)⟩
   ·have h1:fo.kind=1/\rs=[]:=by simp only[zqf,beq_iff_eq]at hk;exact⟨by omega,zse (by omega)⟩
    obtain⟨h1,rfl⟩:=h1;have er:r=[]:=by rw[er];show(if fo.kind=1 then []else [fo])=[];rw[if_pos h1]
    subst er;simp only[wq.1,seval];exact VLe.nils
   ·have er:r=fo::rs:=by
     rw[er]
     match rs,hk with
     |[],hk=>show(if fo.kind=1 then []else [fo])=[fo];rw[if_neg];rintro h;rw[h]at hk;exact absurd hk (by decide)
     |_::_,_=>rfl
    subst er;simp only[wq.1,seval];exact VLe.refl _
theorem Jn[MO](row:S)(hr:aa row<=1000000000):Ev TE 263 [.nils,.fn (.func 261) [] [.ip (.str row)]] (xU (aY row)):=by
 have hM := mLx;have hlr := Eh row;refine ai Tryz.func263 rfl (by simp [nts]) ?_;refine vn ?_;simp only [wq.1,Nat.reduceLT,Tryz.results263];refine gI ?_;refine mF (h' := [am [.ls 1 2 0 0 0],am []]) (HLe.set (i := 0) (o' := am [.ls 1 2 0 0 0]) rfl (OLe.cells (zrb _) (dm.cons dV dm.nil))) ?_;refine vn ?_;simp only [wq.1,seval];refine jr (n := 13) (q := 261) (first := []) (captured := [.ip (.str row)]) (by simp only [wq.1,↓reduceIte]) (by simp only [wq.1,↓reduceIte]) rfl (by decide) ?_;intro L hLd gets;refine ag.mono (zX row hr 3 _
  (λj h k=>(∀i<4,i≠1->k i=ac)/\∃t X,t 2= .lp 0 0/\h=[am [.ls 1 2 0 j j],am (liC ((aY row).take j)),.misc .dfd,L t .ready aq]++X)
  (λc h k=>False) ?_ ?_) ?_
 ·exact⟨λi _ _=>rfl,_,[],rfl,by rw[zqp];rfl⟩
 ·rintro i h k hi hk ⟨h1,t,X,t2,rfl⟩;rw[zra]at hi;obtain⟨y,hy⟩:∃y,y=(aY row)[i]:=⟨_,rfl⟩;have hit:((aY row).map λx=>[liV x])[i]'(by rw[zra];exact hi)=[liV y]:=by rw[List.getElem_map,<-hy]
  have hap:liC ((aY row).take i)++liF y=liC ((aY row).take (i+1)):=by rw[List.take_succ_eq_append_getElem hi,<-hy,Rh,Ri]
  rw[hit];obtain⟨C,hC⟩:∃C,C=liC ((aY row).take i):=⟨_,rfl⟩;have dC:∀q,ap q C=C:=λq=>by rw[hC];exact Aa _
  have hCl:aa C=i*2:=by rw[hC,Jl,zrl,Nat.min_eq_left (by omega)]
  rw[<-hC]at hap ⊢;refine gets _ _ _ t rfl rfl (λlb=> ?_);have k0:=h1 0 (by decide) (by decide);have k2:=h1 2 (by decide) (by decide);have gE:∀o:O,(X++[o])[aa X]? =al o:=λo=>by simp
  have gS:∀o o':O,(X++[o]).set (aa X) o'=X++[o']:=λo o'=>by simp
  refine vm ?_;simp only[wq.1,↓reduceIte,Nat.reduceEqDiff,Nat.reduceLT,Nat.reduceAdd,uq,gE,gS];refine⟨t,rfl,?_⟩;refine aB ?_;refine vm ?_;simp only[wq.1,↓reduceIte,Nat.reduceEqDiff,Nat.reduceLT,Nat.reduceAdd,Nat.reduceBEq,reduceCtorEq,Nat.reduceMul,t2,gE,oQ,XE.jump,dC,hCl,hLd];refine⟨⟨rfl,by decide⟩,rfl,⟨rfl,by omega,by omega⟩,_,_,rfl,λj hj h2=>by rw[h1 j hj h2];simpa using h2,λi=>(t i).drop λx=>x==1,List.map (O.drop λx=>x==1) X++[am [vi y.1,vi y.2.toNat]],?_,?_⟩
  ·show(t 2).drop _=_;rw[t2];rfl
  ·rw[<-hap];rfl
 ·rintro ae h' p ⟨hp,hr⟩;cases ae with
  |pan v=>exact hr.elim
  |ret v =>
   rcases hr with⟨h1,t,X,t2,rfl⟩|⟨_,h⟩
   ·rw[zra,zrx]at *;have k0:=h1 0 (by decide) (by decide);have k2:=h1 2 (by decide) (by decide);have k3:=h1 3 (by decide) (by decide);refine⟨λi hi=> ?_,hp,t,_,aq,(by decide),rfl,?_⟩
    ·have hi:i=2:=by simpa [ui,uj]using hi
     subst hi;exact k2
    ·simp only[wq.1,Nat.reduceAdd,AC];refine vm ?_;simp only[wq.1,seval,k0];exact Lh rfl rfl
   ·exact h.elim
theorem xB[MO](row:S)(hr:aa row<=1000000000):Ev TE 216 [.fn (.func 261) [] [.ip (.str row)]] (xU (aY row)):=by refine ai Tryz.func216 rfl (by simp[nts]) (vm ?_);simp only[wq.1,seval,Tryz.results216];refine ag.ev (Jn row hr) rfl ?_;simp only[wq.1,seval];exact aC.dat (by simp only[aE,nM])
theorem Rj(row:S)(l:List Li)(x:Li):jP row (l++[x])=(jP row l).set x.1 45:=by unfold jP;rw[List.foldl_append];rfl
theorem ZL{b:S}{k:Nat}(h:k<aa b)(c:UInt8):(b.map vb).take (k*1)++[vb c]++(b.map vb).drop (k*1+1)=(b.set k c).map vb:=by rw[Nat.mul_one,List.map_set,List.set_eq_take_append_cons_drop,if_pos (by rw[zra];exact h),zqc];rfl
theorem Ac[MO](rows:List S)(l:List Li)(hl:aa l<=1000000)(hrl:aa rows<=1000000)(hr:∀r∈rows,aa r<=1000000)(hx:∀r∈rows,∀x∈l,x.1<aa r):Ev TE 214 [aJ rows,xU l] (aJ (aS rows l)):=by
 have hM:=mLx;refine ai Tryz.func214 rfl (by simp[nts]) ?_;refine vn ?_;simp only[wq.1,Nat.reduceLT,Tryz.results214];refine vn ?_;simp only[wq.1,Nat.reduceLT];refine iF 5 1 (by simp only[wq.1,↓reduceIte]) ?_;refine vn ?_;simp only[wq.1,seval];refine aF (λm f h=>∃i,m+i=aa rows/\h[0]? =al (am ((aS (rows.take i) l).map V.str))/\f.t 1=xU l/\f.t 5= .ls 0 1 0 i i/\f.t 11=aJ rows/\f.t 12=vi (aa rows)/\f.t 13=vi i/\f.d=[]) (aa rows) ⟨0,by omega,rfl,by simp only[wq.1,seval],by simp only[wq.1,seval],by simp only[wq.1,seval],by simp only[wq.1,seval],by rfl,by simp only[wq.1]⟩ ?_;rintro m f h ⟨i,hm,h0,t1,t5,t11,t12,t13,hd⟩;have hw:=aA (show i<maxLen by omega);refine vn ?_;simp only[wq.1,Nat.reduceLT,t12,t13];refine vn ?_;simp only[wq.1,↓reduceIte];refine vcB.mk (λhlt=> ?_) (λhlt=> ?_)
 ·have hlt:i<aa rows:=by have:=zqs hlt;omega
  obtain⟨r,er⟩:∃r,r=rows[i]:=⟨_,rfl⟩;have hrm:r∈rows:=er▸zqu hlt;have hg:=Bz hlt .any;rw[<-er]at hg;have hrr:=hr r hrm;have hdv:aS (rows.take (i+1)) l=aS (rows.take i) l++[jP r l]:=by unfold aS;rw[List.take_succ_eq_append_getElem hlt,zql,<-er];rfl
  obtain⟨D,eD⟩:∃D,D=aS (rows.take i) l:=⟨_,rfl⟩;have hDl:aa D=i:=by rw[eD];unfold aS;rw[zra,zrl];omega
  rw[<-eD]at h0 hdv;have l0:=(zqe h0).1;simp only[wq.1];refine ak ?_;refine aB ?_;refine vn ?_;simp only[wq.1,seval,t11,t13,hg];refine⟨⟨by omega,by omega⟩,?_⟩;refine ak (iE ?_);refine az rfl rfl ?_;simp only[wq.1,↓reduceIte];refine dM rfl rfl ?_;refine Pv (t:=9) (tt:=79) (el:=5) (q:=⟨.slice 5,1,24,.nils⟩) (qs:=⟨.str,1,16,.str []⟩) (re:=⟨.int .u8,1,1,.int .u8 0⟩) (l:=r) rfl (by simp only[wq.1]) rfl (by simp only[wq.1]) rfl (by simp only[wq.1]) rfl (by simp only[wq.1,↓reduceIte]) (by simp only[wq.1,↓reduceIte]) (by omega) ?_;refine az rfl rfl ?_;simp only[wq.1,↓reduceIte];refine dL ?_;obtain⟨J,eJ⟩:∃J,J=aa h:=⟨_,rfl⟩;have hJ0:0<J:=by omega
  obtain⟨h',eh⟩:∃h',h'=h++[am (r.map vb)]:=⟨_,rfl⟩;have a0':h'[0]? =al (am (D.map V.str)):=by rw[eh,zqj l0];exact h0
  have aJ':h'[J]? =al (am (r.map vb)):=by rw[eh,eJ];exact JS
  show awp _ _ _ _ _ _ (h++[am (r.map vb)]);rw[<-eh,<-eJ];refine vn ?_;simp only[wq.1,seval,t1];refine aF (λmm f h=>∃j,mm+j=aa l/\h[0]? =al (am (D.map V.str))/\h[J]? =al (am ((jP r (l.take j)).map vb))/\f.t 1=xU l/\f.t 5= .ls 0 1 0 i i/\f.t 8= .ls J 1 0 (aa r) (aa r)/\f.t 11=aJ rows/\f.t 12=vi (aa rows)/\f.t 13=vi i/\f.t 19=xU l/\f.t 20=vi (aa l)/\f.t 21=vi j/\f.d=[]) (aa l) ⟨0,by omega,a0',aJ',by simp only[wq.1,seval,t1],by simp only[wq.1,seval,t5],by simp only[wq.1,seval],by simp only[wq.1,seval,t11],by simp only[wq.1,seval,t12],by simp only[wq.1,seval,t13],by simp only[wq.1,seval],by simp only[wq.1,seval],by rfl,by simp only[wq.1,hd]⟩ ?_;clear a0' aJ' eh h' t1 t5 t11 t12 t13 hd h0 l0 eJ h f;rintro mm f h ⟨j,hmm,h0,hJ,t1,t5,t8,t11,t12,t13,t19,t20,t21,hd⟩;have hwj:=aA (show j<maxLen by omega);have l0:=(zqe h0).1;have lJ:=(zqe hJ).1;refine vn ?_;simp only[wq.1,Nat.reduceLT,t20,t21];refine vn ?_;simp only[wq.1,↓reduceIte];refine vcB.mk (λhlj=> ?_) (λhlj=> ?_)
  ·have hlj:j<aa l:=by have:=zqs hlj;omega
   obtain⟨x,ex⟩:∃x,x=l[j]:=⟨_,rfl⟩;have hgx:=ZI hlj .any;rw[<-ex]at hgx;have hxr:=hx r hrm x (ex▸zqu hlj);have hdl:=yl (l.take j) r;have hds:jP r (l.take (j+1))=(jP r (l.take j)).set x.1 45:=by rw[List.take_succ_eq_append_getElem hlj,<-ex,Rj]
   have hgE:∀x:O,(h++[x])[aa h]? =al x:=λx=>by simp
   have hgS:∀x y:O,(h++[x]).set (aa h) y=h++[y]:=λx y=>by simp
   have hxJ:∀o:O,(h++[o])[J]? =al (am ((jP r (l.take j)).map vb)):=λo=>by rw[zqj lJ];exact hJ
   obtain⟨b,eb⟩:∃b,b=jP r (l.take j):=⟨_,rfl⟩;rw[<-eb]at hdl hds hJ hxJ;simp only[wq.1];refine vm ?_;simp only[wq.1,↓reduceIte,Nat.reduceEqDiff,Nat.reduceLT,Nat.reduceLeDiff,Nat.reduceAdd,Nat.reduceSub,Int.reduceToNat,Nat.reduceDiv,Int.reduceLT,Int.reduceLE,Int.reduceNeg,Int.reduceBEq,Int.reduceBNe,Int.reduceAdd,Int.reduceSub,Nat.reduceBEq,reduceCtorEq,Nat.reduceMul,ay,Tryz.results214,t1,t5,t8,t11,t12,t13,t19,t20,t21,hd,hgx,hgE,hgS,hxJ,hwj];refine⟨⟨by omega,by omega⟩,by decide,⟨by omega,by omega⟩,by omega,.inl ⟨mm-1,by omega,j+1,by omega,?_,?_,by simp only[wq.1,↓reduceIte,Nat.reduceEqDiff,Nat.reduceLT,Nat.reduceLeDiff,Nat.reduceAdd,Nat.reduceSub,Int.reduceToNat,Nat.reduceDiv,Int.reduceLT,Int.reduceLE,Int.reduceNeg,Int.reduceBEq,Int.reduceBNe,Int.reduceAdd,Int.reduceSub,Nat.reduceBEq,reduceCtorEq,Nat.reduceMul,ay,Tryz.results214,t1],by simp only[wq.1,↓reduceIte,Nat.reduceEqDiff,Nat.reduceLT,Nat.reduceLeDiff,Nat.reduceAdd,Nat.reduceSub,Int.reduceToNat,Nat.reduceDiv,Int.reduceLT,Int.reduceLE,Int.reduceNeg,Int.reduceBEq,Int.reduceBNe,Int.reduceAdd,Int.reduceSub,Nat.reduceBEq,reduceCtorEq,Nat.reduceMul,ay,Tryz.results214,t5],by simp only[wq.1,↓reduceIte,Nat.reduceEqDiff,Nat.reduceLT,Nat.reduceLeDiff,Nat.reduceAdd,Nat.reduceSub,Int.reduceToNat,Nat.reduceDiv,Int.reduceLT,Int.reduceLE,Int.reduceNeg,Int.reduceBEq,Int.reduceBNe,Int.reduceAdd,Int.reduceSub,Nat.reduceBEq,reduceCtorEq,Nat.reduceMul,ay,Tryz.results214,t8],by simp only[wq.1,↓reduceIte,Nat.reduceEqDiff,Nat.reduceLT,Nat.reduceLeDiff,Nat.reduceAdd,Nat.reduceSub,Int.reduceToNat,Nat.reduceDiv,Int.reduceLT,Int.reduceLE,Int.reduceNeg,Int.reduceBEq,Int.reduceBNe,Int.reduceAdd,Int.reduceSub,Nat.reduceBEq,reduceCtorEq,Nat.reduceMul,ay,Tryz.results214,t11],by simp only[wq.1,↓reduceIte,Nat.reduceEqDiff,Nat.reduceLT,Nat.reduceLeDiff,Nat.reduceAdd,Nat.reduceSub,Int.reduceToNat,Nat.reduceDiv,Int.reduceLT,Int.reduceLE,Int.reduceNeg,Int.reduceBEq,Int.reduceBNe,Int.reduceAdd,Int.reduceSub,Nat.reduceBEq,reduceCtorEq,Nat.reduceMul,ay,Tryz.results214,t12],by simp only[wq.1,↓reduceIte,Nat.reduceEqDiff,Nat.reduceLT,Nat.reduceLeDiff,Nat.reduceAdd,Nat.reduceSub,Int.reduceToNat,Nat.reduceDiv,Int.reduceLT,Int.reduceLE,Int.reduceNeg,Int.reduceBEq,Int.reduceBNe,Int.reduceAdd,Int.reduceSub,Nat.reduceBEq,reduceCtorEq,Nat.reduceMul,ay,Tryz.results214,t13],by simp only[wq.1,↓reduceIte,Nat.reduceEqDiff,Nat.reduceLT,Nat.reduceLeDiff,Nat.reduceAdd,Nat.reduceSub,Int.reduceToNat,Nat.reduceDiv,Int.reduceLT,Int.reduceLE,Int.reduceNeg,Int.reduceBEq,Int.reduceBNe,Int.reduceAdd,Int.reduceSub,Nat.reduceBEq,reduceCtorEq,Nat.reduceMul,ay,Tryz.results214,t19],by simp only[wq.1,↓reduceIte,Nat.reduceEqDiff,Nat.reduceLT,Nat.reduceLeDiff,Nat.reduceAdd,Nat.reduceSub,Int.reduceToNat,Nat.reduceDiv,Int.reduceLT,Int.reduceLE,Int.reduceNeg,Int.reduceBEq,Int.reduceBNe,Int.reduceAdd,Int.reduceSub,Nat.reduceBEq,reduceCtorEq,Nat.reduceMul,ay,Tryz.results214,t20],by simp only[wq.1,↓reduceIte,Nat.reduceEqDiff,Nat.reduceLT,Nat.reduceLeDiff,Nat.reduceAdd,Nat.reduceSub,Int.reduceToNat,Nat.reduceDiv,Int.reduceLT,Int.reduceLE,Int.reduceNeg,Int.reduceBEq,Int.reduceBNe,Int.reduceAdd,Int.reduceSub,Nat.reduceBEq,reduceCtorEq,Nat.reduceMul,ay,Tryz.results214],by simp only[wq.1,↓reduceIte,Nat.reduceEqDiff,Nat.reduceLT,Nat.reduceLeDiff,Nat.reduceAdd,Nat.reduceSub,Int.reduceToNat,Nat.reduceDiv,Int.reduceLT,Int.reduceLE,Int.reduceNeg,Int.reduceBEq,Int.reduceBNe,Int.reduceAdd,Int.reduceSub,Nat.reduceBEq,reduceCtorEq,Nat.reduceMul,ay,Tryz.results214,hd]⟩⟩
   ·rw[zqn (by omega),zqj l0];exact h0
   ·rw[zqt (by simp;omega),hds];exact congrArg (λc=>al (am c)) (ZL (by omega) 45)
  ·have hj:j=aa l:=by have:=of_decide_eq_false hlj;omega
   rw[hj,zrx]at hJ;obtain⟨c1,c2⟩:=qO (k:=J) (cap:=aa r) hJ;rw[yl]at c1 c2;have dD:∀p,ap p (D.map V.str)=D.map V.str:=λp=>aN;have hnx:D.map V.str++[V.str (jP r l)]=(aS (rows.take (i+1)) l).map V.str:=by rw[hdv,zql];rfl
   simp only[wq.1];refine vm ?_;simp only[wq.1,↓reduceIte,Nat.reduceEqDiff,Nat.reduceLT,reduceCtorEq,Nat.reduceMul,t5,t8,hd,c1,c2,h0];refine⟨⟨rfl,by decide⟩,⟨by omega,by omega,by omega⟩,?_⟩;refine vm ?_;simp only[wq.1,seval,t13,hw];refine .inl ⟨m-1,by omega,i+1,by omega,?_,by simp only[wq.1,seval,t1],by simp only[wq.1,seval],by simp only[wq.1,seval,t11],by simp only[wq.1,seval,t12],by simp only[wq.1,↓reduceIte],by simp only[wq.1,hd]⟩;rw[zqt (by simpa using l0),hnx]
 ·have hi:i=aa rows:=by have:=of_decide_eq_false hlt;omega
  rw[hi,zrx]at h0;refine vm ?_;simp only[wq.1,seval,t5,hd];rw[hi];exact aX h0 (by unfold aS;rw[zra])
theorem Vm[MO](h:H)(c:UInt8):jq P h 21 3 (.int .i32 c.toNat)=(True,vi c.toNat):=by have hc:=c.toNat_lt;have hw:aD .i64 (c.toNat:Int)=(c.toNat:Int):=iW (by omega) (by omega);unfold jq;simp only[wq.1,hw]
theorem Rk(n:Nat):xQ (n+1)=xQ n++[(n,49),(n,48)]:=by unfold xQ;rw[List.range_succ,List.flatMap_append];rfl
theorem Rl(rows:List S):∀(l:List Li)(b:Li×Nat),b.2<=aa rows->(l.foldl (fQ rows) b).2<=aa rows
 |[],b,h=>h
 |x::l,b,h=>by
  rw[List.foldl_cons];refine Rl rows l _ ?_;unfold fQ;split
  ·exact List.countP_le_length
  ·exact h
theorem Rn[MO](r0:S)(rs:List S)(hrl:aa (r0::rs)<=1000000)(hr:∀r∈r0::rs,aa r<=1000000):Ev TE 215 [aJ (r0::rs)] (.tup [liV (jW (r0::rs)).1,vi (jW (r0::rs)).2]):=by
 have hM:=mLx;obtain⟨rows,erw⟩:∃rows,rows=r0::rs:=⟨_,rfl⟩;have hg0:(rows.map V.str).getD 0 .any= .str r0:=by rw[erw];rfl
 have hrw:0<aa rows:=by rw[erw];simp
 have hmm:jW rows=(xQ (aa r0)).foldl (fQ rows) ((0,0),0):=by rw[erw];rfl
 have hr0:aa r0<=1000000:=hr r0 (by simp);rw[<-erw]at hrl hr ⊢;rw[hmm];obtain⟨W,eW⟩:∃W:Nat->Li×Nat,W=λi=>(xQ i).foldl (fQ rows) ((0,0),0):=⟨_,rfl⟩;have hW0:W 0=((0,0),0):=by rw[eW];rfl
 have hWs:∀i,W (i+1)=fQ rows (fQ rows (W i) (i,49)) (i,48):=λi=>by rw[eW];show(xQ (i+1)).foldl _ _=_;rw[Rk,List.foldl_append];rfl
 have hWle:∀i,(W i).2<=aa rows:=λi=>by rw[eW];exact Rl rows _ _ (Nat.zero_le _)
 rw[show(xQ (aa r0)).foldl (fQ rows) ((0,0),0)=W (aa r0) by rw[eW]];have d0:EQ [49,48] 0=(49,1):=by decide +kernel
 have d1:EQ [49,48] 1=(48,1):=by decide +kernel
 refine ai Tryz.func215 rfl (by simp[nts]) ?_;refine vn ?_;simp only[wq.1,Nat.reduceLT,Tryz.results215];refine vn ?_;simp only[wq.1,seval];refine vn ?_;simp only[wq.1,seval,hg0];refine⟨by omega,?_⟩;refine aF (λm f h=>∃i,m+i=aa r0/\h[0]? =al (am [vi 0,vi 0])/\h[1]? =al (am [vi (W i).1.1,vi (W i).1.2.toNat])/\f.t 0=aJ rows/\f.t 2= .lp 0 0/\f.t 4= .lp 1 0/\f.t 5=vi (W i).2/\f.t 15=vi (aa r0)/\f.t 16=vi i/\f.d=[]) (aa r0) ⟨0,by omega,rfl,by rw[hW0];rfl,by simp only[wq.1,seval],by simp only[wq.1,seval],by simp only[wq.1,seval],by simp only[wq.1,↓reduceIte,Nat.reduceEqDiff,hW0];rfl,by simp only[wq.1,↓reduceIte,Nat.reduceEqDiff,Nat.reduceLT,Nat.reduceLeDiff,Nat.reduceAdd,Nat.reduceSub,Int.reduceToNat,Nat.reduceDiv,Int.reduceLT,Int.reduceLE,Int.reduceNeg,Int.reduceBEq,Int.reduceBNe,Int.reduceAdd,Int.reduceSub,Nat.reduceBEq,reduceCtorEq,Nat.reduceMul,ay,Tryz.results215],by rfl,by simp only[wq.1,↓reduceIte,Nat.reduceEqDiff,Nat.reduceLT,Nat.reduceLeDiff,Nat.reduceAdd,Nat.reduceSub,Int.reduceToNat,Nat.reduceDiv,Int.reduceLT,Int.reduceLE,Int.reduceNeg,Int.reduceBEq,Int.reduceBNe,Int.reduceAdd,Int.reduceSub,Nat.reduceBEq,reduceCtorEq,Nat.reduceMul,ay,Tryz.results215]⟩ ?_;rintro m f h ⟨i,hm,h0,h1,t0,t2,t4,t5,t15,t16,hd⟩;have hw:=aA (show i<maxLen by omega);refine vn ?_;simp only[wq.1,Nat.reduceLT,t15,t16];refine vn ?_;simp only[wq.1,↓reduceIte];refine vcB.mk (λhlt=> ?_) (λhlt=> ?_)
 ·have hlt:i<aa r0:=by have:=zqs hlt;omega
  simp only[wq.1];refine ak ?_;refine aB ?_;refine vn ?_;simp only[wq.1,seval,t16];refine vn ?_;simp only[wq.1,seval];obtain⟨K,eK⟩:∃K,K=aa h:=⟨_,rfl⟩;have l0:=(zqe h0).1;have l1:=(zqe h1).1;have hK1:1<K:=by omega
  obtain⟨h',eh⟩:∃h',h'=h++[O.misc (Misc.siter [49,48] 0)]:=⟨_,rfl⟩;have a0:h'[0]? =al (am [vi 0,vi 0]):=by rw[eh,zqj l0];exact h0
  have a1:h'[1]? =al (am [vi (W i).1.1,vi (W i).1.2.toNat]):=by rw[eh,zqj l1];exact h1
  have aK:h'[K]? =al (.misc (.siter [49,48] 0)):=by rw[eh,eK];exact JS
  rw[<-eh,<-eK];obtain⟨B,eB⟩:∃B:Nat->Li×Nat,B=λp=>if p=0 then W i else if p=1 then fQ rows (W i) (i,49)else W (i+1):=⟨_,rfl⟩
  obtain⟨C,eC⟩:∃C:Nat->UInt8,C=λp=>if p=0 then 49 else 48:=⟨_,rfl⟩
  have hBs:∀p,p<2->B (p+1)=fQ rows (B p) (i,C p):=λp hp=>by
   have:p=0\/p=1:=by omega
   rcases this with rfl|rfl
   ·rw[eB,eC];rfl
   ·rw[eB,eC];exact hWs i
  have hBle:∀p,p<2->(B p).2<=aa rows:=λp hp=>by
   have:p=0\/p=1:=by omega
   rcases this with rfl|rfl
   ·rw[eB];exact hWle i
   ·rw[eB];show(fQ rows (W i) (i,49)).2<=_;unfold fQ;split
    ·exact List.countP_le_length
    ·exact hWle i
  have hdv:∀p,p<2->EQ [49,48] p=((C p).toNat,1):=λp hp=>by
   have:p=0\/p=1:=by omega
   rcases this with rfl|rfl
   ·rw[d0,eC];rfl
   ·rw[d1,eC];rfl
  refine aB ?_;refine aF (λmm f h=>∃p,mm+p=2/\h[0]? =al (am [vi 0,vi 0])/\h[1]? =al (am [vi (B p).1.1,vi (B p).1.2.toNat])/\h[K]? =al (.misc (.siter [49,48] p))/\f.t 0=aJ rows/\f.t 2= .lp 0 0/\f.t 4= .lp 1 0/\f.t 5=vi (B p).2/\f.t 6=vi i/\f.t 15=vi (aa r0)/\f.t 16=vi i/\f.t 19= .lp K 0/\f.d=[]) 2 ?_ ?_
  ·exact⟨0,rfl,a0,by rw[eB];exact a1,aK,by simp only[wq.1,seval,t0],by simp only[wq.1,seval,t2],by simp only[wq.1,seval,t4],by simp only[wq.1,seval,t5,eB],by simp only[wq.1,seval],by simp only[wq.1,seval,t15],by simp only[wq.1,seval,t16],by simp only[wq.1,↓reduceIte],by simp only[wq.1,hd]⟩
  clear a0 a1 aK eh h' h0 h1 t0 t2 t4 t5 t15 t16 hd l0 l1 eK h f;rintro mm f h ⟨p,hmm,h0,h1,hKp,t0,t2,t4,t5,t6,t15,t16,t19,hd⟩;have l0:=(zqe h0).1;have l1:=(zqe h1).1;have lK:=(zqe hKp).1;refine vn ?_;simp only[wq.1,seval,t19,hKp];by_cases hp:p<2
  ·have hpd:ar (p<2)=ab:=decide_eq_true hp;have hdp:=hdv p hp;obtain⟨c,ec⟩:∃c,c=C p:=⟨_,rfl⟩;have hbs:=hBs p hp;have hble:=hBle p hp;rw[<-ec]at hdp hbs;have hcnt:=BR rows (i,c) (by omega) (λr h=>by have:=hr r h;omega);have hcl:iZ rows (i,c)<=aa rows:=List.countP_le_length;simp only[wq.1,seval,hpd,ny,hdp];obtain⟨h2,eh⟩:∃h2,h2=h.set K (O.misc (Misc.siter [49,48] (p+1))):=⟨_,rfl⟩;have g0:h2[0]? =al (am [vi 0,vi 0]):=by rw[eh,zqn (by omega)];exact h0
   have g1:h2[1]? =al (am [vi (B p).1.1,vi (B p).1.2.toNat]):=by rw[eh,zqn (by omega)];exact h1
   have gK:h2[K]? =al (.misc (.siter [49,48] (p+1))):=by rw[eh,zqt lK]
   rw[<-eh];clear eh h0 h1 hKp l0 l1 lK;have l0:=(zqe g0).1;have l1:=(zqe g1).1;have lK:=(zqe gK).1;have hgE:∀x:O,(h2++[x])[aa h2]? =al x:=λx=>by simp
   have hgS:∀x y:O,(h2++[x]).set (aa h2) y=h2++[y]:=λx y=>by simp
   have b1:∀x:O,(h2++[x])[1]? =al (am [vi (B p).1.1,vi (B p).1.2.toNat]):=λx=>by rw[zqj l1];exact g1
   have hlt2:ar (((B p).2:Int)<(iZ rows (i,c):Int))=ar ((B p).2<iZ rows (i,c)):=decide_eq_decide.2 (by omega);unfold fQ at hbs;refine vm ?_;simp only[wq.1,seval,t0,t6,hgE,hgS,Vm];refine ag.ev hcnt (by simp only[aL,aE,ax,zre]) ?_;simp only[wq.1,seval,t5,hlt2];refine vcB.mk (λhlt=> ?_) (λhlt=> ?_)
   ·rw[if_pos (zqs hlt)]at hbs;simp only[wq.1,seval,t4,hgE,b1];refine .inl ⟨mm-1,by omega,p+1,by omega,by rw[zqn (by omega),zqj l0];exact g0,by rw[zqt (by simp;omega),hbs],by rw[zqn (by omega),zqj lK];exact gK,by simp only[wq.1,seval,t0],by simp only[wq.1,seval,t2],by simp only[wq.1,seval,t4],by simp only[wq.1,↓reduceIte,hbs],by simp only[wq.1,seval,t6],by simp only[wq.1,seval,t15],by simp only[wq.1,seval,t16],by simp only[wq.1,seval,t19],by simp only[wq.1,hd]⟩
   ·rw[if_neg (of_decide_eq_false hlt)]at hbs;simp only[wq.1];refine .inl ⟨mm-1,by omega,p+1,by omega,by rw[zqj l0];exact g0,by rw[zqj l1,hbs];exact g1,by rw[zqj lK];exact gK,by simp only[wq.1,seval,t0],by simp only[wq.1,seval,t2],by simp only[wq.1,seval,t4],by simp only[wq.1,seval,t5,hbs],by simp only[wq.1,seval,t6],by simp only[wq.1,seval,t15],by simp only[wq.1,seval,t16],by simp only[wq.1,seval,t19],by simp only[wq.1,hd]⟩
  ·have hpd:ar (p<2)=ac:=decide_eq_false hp;have hp2:p=2:=by omega
   subst hp2;have hB2:B 2=W (i+1):=by rw[eB];rfl
   rw[hB2]at h1 t5;simp only[wq.1,seval,ny];refine vm ?_;simp only[wq.1,↓reduceIte];refine vm ?_;simp only[wq.1,seval,t16,hw];exact .inl ⟨m-1,by omega,i+1,by omega,h0,h1,by simp only[wq.1,seval,t0],by simp only[wq.1,seval,t2],by simp only[wq.1,seval,t4],by simp only[wq.1,seval,t5],by simp only[wq.1,seval,t15],by simp only[wq.1,↓reduceIte],by simp only[wq.1,hd]⟩
 ·have hi:i=aa r0:=by have:=of_decide_eq_false hlt;omega
  subst hi;refine vm ?_;have hs0:∀x:O,(h.set 0 x)[0]? =al x:=λx=>zqt (zqe h0).1;simp only[wq.1,seval,t2,t4,t5,hd,h0,h1,hs0];exact aC.dat rfl
end Go.Proofs.YthaijohbpdabfaaGreatDoor
