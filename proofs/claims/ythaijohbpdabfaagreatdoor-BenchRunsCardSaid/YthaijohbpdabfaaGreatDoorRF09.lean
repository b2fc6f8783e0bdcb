/- Lemmas for this claim, part F09: each holds under what it names. -/
import Derived.Test.YthaijohbpdabfaaGreatDoorRF08
import Derived.Test.YthaijohbpdabfaaGreatDoorRF07
set_option linter.all false
set_option maxRecDepth 20000
namespace Go.Proofs.YthaijohbpdabfaaGreatDoor
open Go Go.Proofs Go.Abs
open List renaming length → aa, replicate → ao
open Bool renaming true → ab, false → ac
open Option renaming some → al, none → aq
open Decidable renaming decide → ar
open Go.IntKind renaming wrap → aD
open Go.Result renaming andThen → aM
open Go.Abs.O renaming cells → am
open Go.Abs.V renaming drops → ap, dat → aE, dats → aL
def qA:List S->List Pc
 |[]=>[]
 |[s]=>[.word (aP s)]
 |s::t::r=> .word (aP s):: .mark 44:: .blank 32::qA (t::r)
def oZ(w:S)(l:List S):List Pc:= .word w:: .mark 40::(qA l++[.mark 41,.blank 10])
def BN(s w:S)(l:List S):List Pc:= .word (aP s):: .blank 32:: .mark 61:: .blank 32::oZ w l
theorem oG(a b:List Pc):je (a++b)=je a++je b:=by unfold je;rw[List.flatMap_append]
theorem GG:∀l:List S,je (qA l)=Ea l
 |[]=>rfl
 |[s]=>by show aP s++[]=_;rw[zqp];rfl
 |s::t::r=>by show aP s++(44::32::je (qA (t::r)))=_;rw[GG (t::r)];rfl
theorem GH(w:S)(l:List S):je (oZ w l)=gV [] w l:=by show w++40::je (qA l++[.mark 41,.blank 10])=_;rw[oG,GG];unfold gV;simp[je,QI]
theorem GI(s w:S)(l:List S):je (BN s w l)=gV (aP s++[32,61,32]) w l:=by show aP s++32::61::32::je (oZ w l)=_;rw[GH];unfold gV;simp
def zaN(w:S):Prop:=w≠[]/\∀c∈w,iH c=ab
theorem QL:∀ {l:List S} {r:List Pc},(∀s∈l,aU s=ab)->okP r->okP (qA l++ .mark 41::r)
 |[],r,_,h=>⟨by decide,h⟩
 |[s],r,hl,h=>by obtain⟨w1,w2⟩:=tu (hl s (by simp));show okP (.word (aP s):: .mark 41::r);unfold okP;refine⟨w1,w2,λv q e=>(by cases e),?_⟩;unfold okP;exact⟨by decide,h⟩
 |s::t::q,r,hl,h=>by obtain⟨w1,w2⟩:=tu (hl s (by simp));have ih:=QL (l:=t::q) (λx hx=>hl x (by simp[hx])) h;show okP (.word (aP s):: .mark 44:: .blank 32::(qA (t::q)++ .mark 41::r));unfold okP;refine⟨w1,w2,λv q e=>(by cases e),?_⟩;unfold okP;refine⟨by decide,?_⟩;unfold okP;exact⟨by decide,ih⟩
theorem QM{w:S}{l:List S}{r:List Pc}(hw:zaN w)(hl:∀s∈l,aU s=ab)(h:okP r):okP (oZ w l++r):=by
 have e:oZ w l++r= .word w:: .mark 40::(qA l++ .mark 41::(.blank 10::r)):=by simp[oZ]
 rw[e];unfold okP;refine⟨hw.1,hw.2,λv q e=>(by cases e),?_⟩;unfold okP;refine⟨by decide,QL hl ?_⟩;unfold okP;exact⟨by decide,h⟩
theorem QN{s w:S}{l:List S}{r:List Pc}(hs:aU s=ab)(hw:zaN w)(hl:∀s∈l,aU s=ab)(h:okP r):okP (BN s w l++r):=by obtain⟨w1,w2⟩:=tu hs;show okP (.word (aP s):: .blank 32:: .mark 61:: .blank 32::(oZ w l++r));unfold okP;refine⟨w1,w2,λv q e=>(by cases e),?_⟩;unfold okP;refine⟨by decide,?_⟩;unfold okP;refine⟨by decide,?_⟩;unfold okP;exact⟨by decide,QM hw hl h⟩
abbrev TS:=List (Nat×S)
def uX:List S->TS
 |[]=>[]
 |[s]=>[(0,aP s)]
 |s::t::r=>(0,aP s)::(1,[44])::uX (t::r)
theorem KF:∀l:List S,(qA l).flatMap xy=uX l
 |[]=>rfl
 |[_]=>rfl
 |s::t::r=>by show(0,aP s)::(1,[44])::(qA (t::r)).flatMap xy=_;rw[KF (t::r)];rfl
theorem iK{L:List Tk}{a:Nat×S}{m:TS}(h:L.map Tk.s=a::m):∃t l,L=t::l/\t.k=a.1/\t.t=a.2/\l.map Tk.s=m:=by
 cases L with
 |nil=>cases h
 |cons t l=>have h:t.s::l.map Tk.s=a::m:=h;injection h with h1 h2;exact⟨t,l,rfl,congrArg Prod.fst h1,congrArg Prod.snd h1,h2⟩
theorem GK{c:UInt8}{t:Tk}{l:List Tk}(h1:t.k=1)(h2:t.t=[c]):qp c (t::l)=(ab,l):=by show(if(t.k==1&&t.t==[c])=ab then(ab,l)else(ac,t::l))=_;rw[h1,h2];simp
theorem Wi{c d:UInt8}{t:Tk}{l:List Tk}(h2:t.t=[d])(hd:d≠c):qp c (t::l)=(ac,t::l):=by
 show(if(t.k==1&&t.t==[c])=ab then(ab,l)else(ac,t::l))=_;rw[h2];have:([d]==[c])=ac:=by simpa using hd
 rw[this,Bool.and_false];rfl
theorem U3{c:UInt8}{t:Tk}{l:List Tk}(h1:t.k=0):qp c (t::l)=(ac,t::l):=by show(if(t.k==1&&t.t==[c])=ab then(ab,l)else(ac,t::l))=_;rw[h1];rfl
theorem wI{e:Nat}{c:UInt8}{t:Tk}{l:List Tk}(h1:t.k=1)(h2:t.t=[c]):qx e c (t::l)= .ok l:=by unfold qx;rw[GK h1 h2];rfl
theorem zO{e:Nat}{s:S}(hs:aU s=ab){t:Tk}{l:List Tk}(h1:t.k=0)(h2:t.t=aP s):tH e (t::l)= .ok (s,l):=by
 have hw:xR e (t::l)= .ok (t,l):=by show(if t.k=0 then Except.ok (t,l)else Except.error (t.at',2))=_;rw[if_pos h1]
 unfold tH;rw[hw];dsimp only;rw[h2,Ji hs,if_pos rfl]
theorem QO{e:Nat}:∀(l:List S)(f:Nat)(acc:List S)(L:List Tk)(m:TS),(∀s∈l,aU s=ab)->L.map Tk.s=(l.flatMap λs=>[(1,[44]),(0,aP s)])++(1,[41])::m->aa l<f->∃r,AY e f acc L= .ok (acc++l,r)/\r.map Tk.s=m
 |[],0,_,_,_,_,_,h=>by cases h
 |[],f+1,acc,L,m,_,h,_=>by obtain⟨t,l,rfl,a,b,c⟩:=iK h;refine⟨l,?_,c⟩;unfold AY;rw[Wi b (by decide),wI a b,zqp];rfl
 |s::l,0,_,_,_,_,_,h=>by omega
 |s::l,f+1,acc,L,m,hl,h,hf=>by rw[List.flatMap_cons,zqc]at h;obtain⟨t,l1,rfl,a,b,h⟩:=iK h;obtain⟨u,l2,rfl,a2,b2,h⟩:=iK h;obtain⟨r,h1,h2⟩:=QO l f (acc++[s]) l2 m (λq hq=>hl q (by simp[hq])) h (by rw[zrt]at hf;omega);refine⟨r,?_,h2⟩;unfold AY;rw[GK a b];dsimp only;rw[if_pos rfl,zO (hl s (by simp)) a2 b2];dsimp only;rw[h1,zqc];rfl
theorem GL:∀(s:S)(l:List S),uX (s::l)=(0,aP s)::l.flatMap λs=>[(1,[44]),(0,aP s)]
 |s,[]=>rfl
 |s,t::l=>by show(0,aP s)::(1,[44])::uX (t::l)=_;rw[GL t l];rfl
theorem U4(l:List S):aa (l.flatMap λs=>[((1:Nat),([44]:S)),(0,aP s)])=2*aa l:=by
 induction l with
 |nil=>rfl
 |cons a l ih=>rw[List.flatMap_cons,zqa,ih,zrt];simp;omega
theorem KG{e:Nat}{l:List S}{L:List Tk}{m:TS}(hl:∀s∈l,aU s=ab)(h:L.map Tk.s=(1,[40])::(uX l++(1,[41])::m)):∃r,oW e L= .ok (l,r)/\r.map Tk.s=m:=by
 obtain⟨t,l1,rfl,a,b,h⟩:=iK h;unfold oW;rw[wI a b];dsimp only;cases l with
 |nil=>obtain⟨u,l2,rfl,a2,b2,h⟩:=iK h;rw[GK a2 b2];exact⟨l2,rfl,h⟩
 |cons s l =>
  rw[GL]at h;obtain⟨u,l2,rfl,a2,b2,h⟩:=iK h;rw[U3 a2,zO (hl s (by simp)) a2 b2];dsimp only;have hlen:aa l<aa l2+1:=by
   have:=congrArg List.length h
   change _=aa ((l.flatMap λs=>[((1:Nat),([44]:S)),(0,aP s)])++(1,[41])::m)at this
   rw[zra,zqa]at this;have h2:=U4 l;omega
  obtain⟨r,h1,h2⟩:=QO (e:=e) l (aa l2+1) [s] l2 m (λq hq=>hl q (by simp[hq])) h hlen;exact⟨r,h1,h2⟩
inductive Sm where
 |port (out:Bool) (s:S)
 |lat (q:La)
 |gate (g:Ga)
def QQ(out:Bool):S:=if out=ab then fE else jc
def Sm.pcs:Sm->List Pc
 | .port out s=>oZ (QQ out) [s]
 | .lat q=>BN q.name (bW.getD q.init.toNat []) [q.next]
 | .gate g=>BN g.name (dZ.getD g.op.toNat []) g.ins
def Sm.put(c:Ci):Sm->Ci
 | .port out s=>if out=ab then {c with outs:=c.outs++[s]} else {c with ins:=c.ins++[s]}
 | .lat q=>{c with lat:=c.lat++[q]}
 | .gate g=>{c with gates:=c.gates++[g]}
def Sm.ok:Sm->Prop
 | .port _ s=>aU s=ab
 | .lat q=>aU q.name=ab/\aU q.next=ab/\qf q=ab
 | .gate g=>aU g.name=ab/\(∀s∈g.ins,aU s=ab)/\GPl g
def smC(x:Ci):List Sm:=x.ins.map (.port ac)++x.outs.map (.port ab)++x.lat.map .lat++x.gates.map .gate
theorem GM(x:Ci):qy x=je ((smC x).flatMap Sm.pcs):=by
 have h1:∀(o:Bool)(l:List S),je ((l.map (Sm.port o)).flatMap Sm.pcs)=l.flatMap λs=>gV [] (QQ o) [s]:=λo l=>by
  induction l with
  |nil=>rfl
  |cons a l ih=>rw[zrd,List.flatMap_cons,oG,ih,List.flatMap_cons];show je (oZ _ _)++_=_;rw[GH]
 have h2:∀l:List La,je ((l.map Sm.lat).flatMap Sm.pcs)=l.flatMap λq=>gV (aP q.name++[32,61,32]) (bW.getD q.init.toNat []) [q.next]:=λl=>by
  induction l with
  |nil=>rfl
  |cons a l ih=>rw[zrd,List.flatMap_cons,oG,ih,List.flatMap_cons];show je (BN _ _ _)++_=_;rw[GI]
 have h3:∀l:List Ga,je ((l.map Sm.gate).flatMap Sm.pcs)=l.flatMap λg=>gV (aP g.name++[32,61,32]) (dZ.getD g.op.toNat []) g.ins:=λl=>by
  induction l with
  |nil=>rfl
  |cons a l ih=>rw[zrd,List.flatMap_cons,oG,ih,List.flatMap_cons];show je (BN _ _ _)++_=_;rw[GI]
 unfold smC;rw[List.flatMap_append,List.flatMap_append,List.flatMap_append,oG,oG,oG,h1,h1,h2,h3];rfl
theorem KH:∀k:Fin 10,(dZ.getD k.1 []≠[]/\(dZ.getD k.1 []).all iH=ab)/\bW.findIdx? (·==dZ.getD k.1 [])=aq/\opW (dZ.getD k.1 [])=al k.1:=by decide
theorem KI:∀k:Fin 3,(bW.getD k.1 []≠[]/\(bW.getD k.1 []).all iH=ab)/\bW.findIdx? (·==bW.getD k.1 [])=al k.1:=by decide
theorem XX:∀o:Bool,QQ o≠[]/\(QQ o).all iH=ab:=by decide
theorem XY{g:Ga}(h:GPl g):∃k:Fin 10,g.op=(k.1:Int):=by have hh:=h.h;unfold vJ at hh;simp only[zqf,zqb]at hh;have:=h.o;have h1:=hh.1;have h2:=hh.2.1;exact⟨⟨g.op.toNat,by omega⟩,by show g.op=(g.op.toNat:Int);omega⟩
theorem ZC:∀(l:List Sm),(∀m∈l,m.ok)->okP (l.flatMap Sm.pcs)
 |[],_=>trivial
 |m::l,h=>by
  rw[List.flatMap_cons];have ih:=ZC l λq hq=>h q (by simp[hq]);have hm:=h m (by simp);cases m with
  |port out s=>obtain⟨p1,p2⟩:=XX out;exact QM ⟨p1,zrs.1 p2⟩ (λq hq=>by rw[zrc.1 hq];exact hm) ih
  |lat q =>
   obtain⟨h1,h2,h3⟩:=hm;have:q.init.toNat<3:=by unfold qf at h3;simp only[zqf,zqb]at h3;omega
   obtain⟨⟨p1,p2⟩,_⟩:=KI ⟨q.init.toNat,this⟩;exact QN h1 ⟨p1,zrs.1 p2⟩ (λs hs=>by rw[zrc.1 hs];exact h2) ih
  |gate g =>
   obtain⟨h1,h2,h3⟩:=hm;obtain⟨k,hk⟩:=XY h3;obtain⟨⟨p1,p2⟩,_⟩:=KH k;have e:g.op.toNat=k.1:=by omega
   refine QN h1 ?_ h2 ih;rw[e];exact⟨p1,zrs.1 p2⟩
def Sm.ts:Sm->TS
 | .port out s=>[(0,QQ out),(1,[40]),(0,aP s),(1,[41])]
 | .lat q=>(0,aP q.name)::(1,[61])::(0,bW.getD q.init.toNat [])::(1,[40])::(uX [q.next]++[(1,[41])])
 | .gate g=>(0,aP g.name)::(1,[61])::(0,dZ.getD g.op.toNat [])::(1,[40])::(uX g.ins++[(1,[41])])
theorem Eb(w:S)(l:List S):(oZ w l).flatMap xy=(0,w)::(1,[40])::(uX l++[(1,[41])]):=by show(0,w)::(1,[40])::(qA l++[Pc.mark 41,Pc.blank 10]).flatMap xy=_;rw[List.flatMap_append,KF];rfl
theorem zas(m:Sm):m.pcs.flatMap xy=m.ts:=by
 cases m with
 |port out s=>exact Eb _ _
 |lat q=>show(0,aP q.name)::(1,[61])::(oZ _ _).flatMap xy=_;rw[Eb];rfl
 |gate g=>show(0,aP g.name)::(1,[61])::(oZ _ _).flatMap xy=_;rw[Eb];rfl
theorem qB(e:Nat)(c:Ci)(t:Tk)(r:List Tk):Jj e c (t::r)=if t.k=0/\(t.t=jc\/t.t=fE)/\(qp 61 r).1=ac then A7 e c (t.t==fE) r else AZ e c (t::r):=rfl
theorem XZ{e:Nat}{c:Ci}{m:Sm}(hm:m.ok){L:List Tk}{r:TS}(h:L.map Tk.s=m.ts++r):∃L',Jj e c L= .ok (m.put c,L')/\L'.map Tk.s=r:=by
 cases m with
 |port out s =>
  obtain⟨t,l1,rfl,a1,b1,h⟩:=iK h;obtain⟨u,l2,rfl,a2,b2,h⟩:=iK h;obtain⟨v,l3,rfl,a3,b3,h⟩:=iK h;obtain⟨w,l4,rfl,a4,b4,h⟩:=iK h;refine⟨l4,?_,h⟩;have hb:t.t=jc\/t.t=fE:=by
   rw[b1];cases out
   ·exact .inl rfl
   ·exact .inr rfl
  have ho:(t.t==fE)=out:=by rw[b1];cases out<;>decide
  rw[qB,if_pos ⟨a1,hb,by rw[Wi b2 (by decide)]⟩];unfold A7;rw[wI a2 b2];dsimp only;rw[zO hm a3 b3];dsimp only;rw[wI a4 b4,ho];rfl
 |lat q =>
  obtain⟨h1,h2,h3⟩:=hm;have hi:0<=q.init/\q.init.toNat<3:=by unfold qf at h3;simp only[zqf,zqb]at h3;omega
  obtain⟨_,p3⟩:=KI ⟨q.init.toNat,hi.2⟩;obtain⟨t,l1,rfl,a1,b1,h⟩:=iK h;obtain⟨u,l2,rfl,a2,b2,h⟩:=iK h;obtain⟨v,l3,rfl,a3,b3,h⟩:=iK h;obtain⟨L',n1,n2⟩:=KG (e:=e) (l:=[q.next]) (m:=r) (λs hs=>by rw[zrc.1 hs];exact h2) (L:=l3) (by rw[h];rfl);refine⟨L',?_,n2⟩;rw[qB,if_neg (λhh=>by have:=hh.2.2;rw[GK a2 b2]at this;cases this)];unfold AZ;rw[zO h1 a1 b1];dsimp only;rw[wI a2 b2];dsimp only;have hw:xR e (v::l3)= .ok (v,l3):=by show(if v.k=0 then Except.ok (v,l3)else Except.error (v.at',2))=_;rw[if_pos a3]
  rw[hw];dsimp only;rw[b3];dsimp only at p3;rw[p3];dsimp only;rw[n1];dsimp only;rw[if_pos (show [q.next].length=1 from rfl)];have:((q.init.toNat:Nat):Int)=q.init:=by omega
  show Except.ok (({c with lat:=c.lat++[(⟨q.name,q.next,((q.init.toNat:Nat):Int)⟩:La)]}:Ci),L')=_;rw[this];rfl
 |gate g =>
  obtain⟨h1,h2,h3⟩:=hm;obtain⟨k,hk⟩:=XY h3;obtain⟨_,p3,p4⟩:=KH k;have e0:g.op.toNat=k.1:=by omega
  obtain⟨t,l1,rfl,a1,b1,h⟩:=iK h;obtain⟨u,l2,rfl,a2,b2,h⟩:=iK h;obtain⟨v,l3,rfl,a3,b3,h⟩:=iK h;obtain⟨L',n1,n2⟩:=KG (e:=e) (l:=g.ins) (m:=r) h2 (L:=l3) (by rw[h];show(1,[40])::((uX g.ins++[(1,[41])])++r)=_;rw[zqc];rfl);refine⟨L',?_,n2⟩;rw[qB,if_neg (λhh=>by have:=hh.2.2;rw[GK a2 b2]at this;cases this)];unfold AZ;rw[zO h1 a1 b1];dsimp only;rw[wI a2 b2];dsimp only;have hw:xR e (v::l3)= .ok (v,l3):=by show(if v.k=0 then Except.ok (v,l3)else Except.error (v.at',2))=_;rw[if_pos a3]
  have b3:v.t=dZ.getD k.1 []:=by rw[<-e0];exact b3
  rw[hw];dsimp only;rw[b3,p3,p4];dsimp only;rw[n1];dsimp only;have hg:(⟨g.name,((k.1:Nat):Int),g.ins,[],ac⟩:Ga)=g:=by
   rw[<-hk,<-h3.r,<-h3.f]
  show Except.ok (({c with gates:=c.gates++[aZ ⟨g.name,((k.1:Nat):Int),g.ins,[],ac⟩]}:Ci),L')=_;rw[hg,h3.canon];rfl
theorem ZE(m:Sm):m.ts≠[]:=by cases m<;>simp[Sm.ts]
theorem KJ{e:Nat}:∀(l:List Sm)(f:Nat)(c:Ci)(L:List Tk),(∀m∈l,m.ok)->L.map Tk.s=l.flatMap Sm.ts->aa L<=f->uV e f c L= .ok (l.foldl Sm.put c)
 |[],f,c,L,_,h,_=>by
  have:L=[]:=by simpa using h
  subst this;cases f<;>rfl
 |m::l,f,c,L,hm,h,hf=>by
  rw[List.flatMap_cons]at h;obtain⟨L',h1,h2⟩:=XZ (e:=e) (c:=c) (hm m (by simp)) h;have hl:=congrArg List.length h;rw[zra,zqa]at hl;have hl2:=congrArg List.length h2;rw[zra]at hl2;have hp:0<aa m.ts:=List.length_pos_iff.2 (ZE m);cases L with
  |nil=>simp at hl;omega
  |cons t r=>obtain⟨f,rfl⟩:∃g,f=g+1:=⟨f-1,by simp at hf;omega⟩;unfold uV;rw[h1];dsimp only;exact KJ l f _ L' (λq hq=>hm q (by simp[hq])) h2 (by rw[zrt]at hf hl;omega)
theorem X4(x c:Ci):(smC x).foldl Sm.put c=⟨c.ins++x.ins,c.outs++x.outs,c.lat++x.lat,c.gates++x.gates⟩:=by
 have h1:∀(l:List S)(c:Ci),(l.map (Sm.port ac)).foldl Sm.put c={c with ins:=c.ins++l}:=λl=>by
  induction l with
  |nil=>intro c;simp
  |cons a l ih=>intro c;rw[zrd,List.foldl_cons,ih];simp[Sm.put]
 have h2:∀(l:List S)(c:Ci),(l.map (Sm.port ab)).foldl Sm.put c={c with outs:=c.outs++l}:=λl=>by
  induction l with
  |nil=>intro c;simp
  |cons a l ih=>intro c;rw[zrd,List.foldl_cons,ih];simp[Sm.put]
 have h3:∀(l:List La)(c:Ci),(l.map Sm.lat).foldl Sm.put c={c with lat:=c.lat++l}:=λl=>by
  induction l with
  |nil=>intro c;simp
  |cons a l ih=>intro c;rw[zrd,List.foldl_cons,ih];simp[Sm.put]
 have h4:∀(l:List Ga)(c:Ci),(l.map Sm.gate).foldl Sm.put c={c with gates:=c.gates++l}:=λl=>by
  induction l with
  |nil=>intro c;simp
  |cons a l ih=>intro c;rw[zrd,List.foldl_cons,ih];simp[Sm.put]
 unfold smC;rw[List.foldl_append,List.foldl_append,List.foldl_append,h1,h2,h3,h4]
def o6(fnd:List Tk->S->Nat)(s:S):RN Ci:=match (tkN (aa s) 0 s).2 with
 |some a=> .error (a,2)
 |none=>match uV (aa s) (tkN (aa s) 0 s).1.length ⟨[],[],[],[]⟩ (tkN (aa s) 0 s).1 with
  | .error x=> .error x
  | .ok c=>if(kW c).1=0 then .ok c else .error (if(kW c).2=[]then 0 else fnd (tkN (aa s) 0 s).1 (kW c).2,(kW c).1)
theorem GN{x:Ci}(ho:(kW x).1=0)(hp:∀g∈x.gates,GPl g)(fnd:List Tk->S->Nat):o6 fnd (qy x)= .ok x:=by
 have hn:=iJ ho;have hok:∀m∈smC x,m.ok:=λm hm=>by
  unfold smC at hm;simp only[zrf,zrh]at hm;rcases hm with((⟨s,hs,rfl⟩|⟨s,hs,rfl⟩)|⟨q,hq,rfl⟩)|⟨g,hg,rfl⟩
  ·exact hn.told s (by unfold dW;simp[hs])
  ·exact hn.told s (by unfold dW;simp[hs])
  ·refine⟨hn.told _ ?_,hn.told _ ?_,hn.lat q hq⟩<;>(unfold dW;simp only[zrf,List.mem_flatMap];exact .inl (.inr ⟨q,hq,by simp⟩))
  ·refine⟨hn.told _ ?_,λs hs=>hn.told _ ?_,hp g hg⟩
   ·unfold dW;exact List.mem_append_right _ (List.mem_flatMap.2 ⟨g,hg,by simp⟩)
   ·unfold dW;exact List.mem_append_right _ (List.mem_flatMap.2 ⟨g,hg,by simp[hs]⟩)
 obtain⟨t1,t2⟩:=uU ((smC x).flatMap Sm.pcs) (aa (qy x)) 0 (ZC _ hok) (by rw[GM];exact zrb _);rw[<-GM]at t1 t2;have t1:(tkN (aa (qy x)) 0 (qy x)).1.map Tk.s=(smC x).flatMap Sm.ts:=by
  rw[t1,List.flatMap_assoc]
  congr 1
  funext m
  exact zas m
 unfold o6;rw[t2];dsimp only;rw[KJ (smC x) _ _ _ hok t1 (zrb _),X4];dsimp only;simp only[List.nil_append];rw[if_pos ho]
def Wj(v:List Bool)(n:Nat):Bool:=v.getD (n/2) ac != (n%2==1)
inductive VF (v : List Bool) : List Bool -> List Fo -> Prop
 |nil:VF v [] []
 |lit {fo:Fo} {bs:List Bool} {l:List Fo}:fo.kind=2->VF v bs l->VF v (Wj v fo.lit::bs) (fo::l)
 |and {fo:Fo} {cs bs:List Bool} {l:List Fo}:fo.kind=3->aa cs=fo.kids->VF v (cs++bs) l->VF v (cs.all id::bs) (fo::l)
 |or {fo:Fo} {cs bs:List Bool} {l:List Fo}:fo.kind=4->aa cs=fo.kids->VF v (cs++bs) l->VF v (cs.any id::bs) (fo::l)
theorem VF.app{v:List Bool}{a b:List Bool}{l m:List Fo}(h:VF v a l)(k:VF v b m):VF v (a++b) (l++m):=by
 induction h with
 |nil=>exact k
 |lit h1 _ ih=>exact .lit h1 ih
 |and h1 h2 _ ih=>rw[zqc]at ih;exact .and h1 h2 ih
 |or h1 h2 _ ih=>rw[zqc]at ih;exact .or h1 h2 ih
def lv(v:List Bool)(x:Li):Bool:=v.getD x.1 ac==(x.2==49)
def Tj(row:S):Prop:=∀c∈row,c=45\/c=48\/c=49
theorem X5{v:List Bool}{x:Li}(h:x.2=48\/x.2=49):Wj v (jQ x).lit=lv v x:=by
 unfold Wj lv jQ;rcases h with h|h
 ·rw[h,if_pos rfl];have e1:(2*x.1+1)/2=x.1:=by omega
  have e2:((2*x.1+1)%2==1)=ab:=by rw[show(2*x.1+1)%2=1 by omega];rfl
  dsimp only;rw[e1,e2];cases v.getD x.1 ac<;>decide
 ·rw[h,if_neg (by decide)];have e1:(2*x.1)/2=x.1:=by omega
  have e2:((2*x.1)%2==1)=ac:=by rw[show(2*x.1)%2=0 by omega];rfl
  dsimp only;rw[e1,e2];cases v.getD x.1 ac<;>decide
theorem Ec{v:List Bool}:∀ {l:List Li},(∀x∈l,x.2=48\/x.2=49)->VF v (l.map (lv v)) (l.map jQ)
 |[],_=> .nil
 |x::l,h=>by rw[zrd,zrd,<-X5 (h x (by simp))];exact .lit rfl (Ec λy hy=>h y (by simp[hy]))
def ZF(v:List Bool)(b:Bool)(rest:List Fo):Prop:=(b=ab/\((∃f:Fo,f.kind=1/\rest=[f])\/rest=[]))\/VF v [b] rest
theorem VF.all{v:List Bool}{l:List Li}{rest:List Fo}{b:Bool}(hl:∀x∈l,x.2=48\/x.2=49)(hne:l≠[])(hr:ZF v b rest):VF v [l.all (lv v)&&b] (zI l rest):=by
 have hpos:0<aa l:=List.length_pos_iff.2 hne;have key:(b=ab/\rH rest=[])\/VF v [b] (rH rest)/\0<aa (rH rest):=by
  rcases hr with⟨hb,⟨f,hf,rfl⟩|rfl⟩|hr
  ·left;exact⟨hb,by show(if f.kind=1 then []else [f])=[];rw[if_pos hf]⟩
  ·left;exact⟨hb,rfl⟩
  ·match rest,hr with
   |[f],hr =>
    right;have hk:f.kind≠1:=by
     cases hr with
     |lit h _=>omega
     |and h _ _=>omega
     |or h _ _=>omega
    have e:rH [f]=[f]:=by show(if f.kind=1 then []else [f])=[f];rw[if_neg hk]
    rw[e];exact⟨hr,by simp⟩
   |[],hr=>cases hr
   |a::b::c,hr=>exact .inr ⟨hr,by show 0<aa (a::b::c);simp⟩
 unfold zI Qy;rcases key with⟨hb,h⟩|⟨h,hp⟩
 ·rw[h,hb,zqp,Bool.and_true];have e:aa l+min (aa ([]:List Fo)) 1=aa l:=by simp
  rw[e];split
  ·have:=VF.and (v:=v) (fo:=⟨3,0,aa l⟩) (cs:=l.map (lv v)) (bs:=[]) (l:=l.map jQ) rfl (by simp) (by rw[zqp];exact Ec hl);rw[List.all_map]at this;exact this
  ·have h1:aa l=1:=by omega
   obtain⟨x,rfl⟩:=List.length_eq_one_iff.1 h1;have:=Ec (v:=v) hl;simpa using this
 ·have e:aa l+min (aa (rH rest)) 1=aa l+1:=by omega
  rw[e,if_pos (by omega)];have:=VF.and (v:=v) (fo:=⟨3,0,aa l+1⟩) (cs:=l.map (lv v)++[b]) (bs:=[]) (l:=l.map jQ++rH rest) rfl (by simp) (by rw[zqp];exact(Ec hl).app h);rw[List.all_append,List.all_map]at this;simpa using this
theorem zQ:∀(row:S)(v w:List Bool)(i:Nat),aa row=aa v->w.drop i=v->Tj row->rE row v=(bg i row).all (lv w)
 |[],[],_,_,_,_,_=>rfl
 |c::r,b::v,w,i,hl,hd,hb=>by
  have hw:w.getD i ac=b:=by
   have:w[i]? =al b:=by rw[<-List.head?_drop,hd];rfl
   rw[zqg,this];rfl
  have hd2:w.drop (i+1)=v:=by rw[<-List.drop_drop,hd];rfl
  have ih:=zQ r v w (i+1) (by simpa using hl) hd2 λc hc=>hb c (by simp[hc]);rw[rE,bg,List.headD_cons,List.tail_cons,ih];rcases hb c (by simp)with rfl|rfl|rfl
  ·rw[if_pos rfl];rfl
  ·rw[if_neg (by decide),List.all_cons];unfold lv;dsimp only;rw[hw];cases b<;>rfl
  ·rw[if_neg (by decide),List.all_cons];unfold lv;dsimp only;rw[hw];cases b<;>rfl
theorem Ed{row:S}(h:Tj row):∀x∈aY row,x.2=48\/x.2=49:=λx hx=>by obtain⟨h1,h2⟩:=uT hx;have:=h x.2 (List.mem_of_getElem? h2);exact this.resolve_left h1
theorem KL:∀(row:S)(i j:Nat),bg i (row.set j 45)=(bg i row).filter λx=>x.1 != i+j
 |[],i,j=>by simp[bg]
 |c::r,i,0=>by
  rw[List.set_cons_zero,bg,if_pos rfl,bg];have hr:(bg (i+1) r).filter (λx=>x.1 != i+0)=bg (i+1) r:=by
   rw[List.filter_eq_self];intro x hx;have:=mW hx;simp;omega
  split
  ·exact hr.symm
  ·rw[List.filter_cons_of_neg (by simp),hr]
 |c::r,i,j+1=>by
  have ih:=KL r (i+1) j;have e:i+1+j=i+(j+1):=by omega
  rw[e]at ih;rw[List.set_cons_succ,bg,bg,ih];split
  ·rfl
  ·rw[List.filter_cons_of_pos (by simp;try omega)]
theorem QR(l:List Li):∀row:S,aY (jP row l)=(aY row).filter λx=> !(l.any λy=>y.1==x.1):=by
 unfold jP aY
 induction l with
 |nil=>intro row;exact(List.filter_eq_self.2 λx _=>rfl).symm
 |cons y l ih =>
  intro row;rw[List.foldl_cons,ih,KL,List.filter_filter];refine List.filter_congr λx _=> ?_;rw[Nat.zero_add,List.any_cons,Bool.not_or];have:(x.1 != y.1)= !(y.1==x.1):=by
   unfold bne
   congr 1
   by_cases h:x.1=y.1
   ·rw[h]
   ·have h2:y.1≠x.1:=Ne.symm h;rw[beq_eq_false_iff_ne.2 h,beq_eq_false_iff_ne.2 h2]
  rw[this,Bool.and_comm]
theorem U5{row:S}{x y:Li}(hx:x∈aY row)(hy:y∈aY row)(h:x.1=y.1):x=y:=by obtain⟨_,a⟩:=uT hx;obtain⟨_,b⟩:=uT hy;rw[h,b]at a;exact Prod.ext h (Option.some.inj a).symm
theorem U6{v:List Bool}{l:List Li}{row:S}(h:∀x∈l,x∈aY row):(aY row).all (lv v)=(l.all (lv v)&&(aY (jP row l)).all (lv v)):=by
 rw[QR];rw[Bool.eq_iff_iff];simp only[zqf,zrs,List.mem_filter,Bool.not_eq_true',List.any_eq_false];constructor
 ·exact λhh=>⟨λx hx=>hh x (h x hx),λx hx=>hh x hx.1⟩
 ·rintro⟨h1,h2⟩ x hx;by_cases hin:x∈l
  ·exact h1 x hin
  ·refine h2 x ⟨hx,λy hy he=>hin ?_⟩;have he:y.1=x.1:=by simpa using he
   rw[<-U5 (h y hy) hx he];exact hy
theorem QS{row:S}{v:List Bool}(h:jX row=ab):(aY row).all (lv v)=ab:=by
 have:aY row=[]:=by
  have h1:=qR 0 row;have h2:Az row=0:=by unfold Az;rw[List.countP_eq_zero];intro c hc;have:=zrs.1 h c hc;simpa using this
  rw[h2]at h1;exact zse h1
 rw[this];rfl
theorem KN{row:S}(l:List Li)(h:Tj row):Tj (jP row l):=by
 unfold jP
 induction l generalizing row with
 |nil=>exact h
 |cons x l ih =>
  refine ih λc hc=> ?_;rcases List.mem_or_eq_of_mem_set hc with hc|hc
  ·exact h c hc
  ·exact .inl hc
def uY(v:List Bool)(rows:List S):Bool:=rows.any λr=>(aY r).all (lv v)
theorem QT{v:List Bool}{l:List Li}:∀ {rows:List S},(∀r∈rows,∀x∈l,x∈aY r)->rows≠[]->uY v rows=(l.all (lv v)&&uY v (aS rows l)):=by
 intro rows h _;have:∀rows:List S,(∀r∈rows,∀x∈l,x∈aY r)->uY v rows=(l.all (lv v)&&uY v (aS rows l)):=λrows=>by
  induction rows with
  |nil=>intro _;simp[uY,aS]
  |cons r rows ih=>intro h;have e1:uY v (r::rows)=((aY r).all (lv v)||uY v rows):=rfl;have e2:uY v (aS (r::rows) l)=((aY (jP r l)).all (lv v)||uY v (aS rows l)):=rfl;rw[e1,e2,ih λq hq=>h q (by simp[hq]),U6 (h r (by simp)),Bool.and_or_distrib_left]
 exact this rows h
theorem GR{v:List Bool}(p:S->Bool):∀rows:List S,uY v rows=(uY v (rows.filter p)||uY v (rows.filter λr=> !p r))
 |[]=>rfl
 |r::rows=>by
  have e1:uY v (r::rows)=((aY r).all (lv v)||uY v rows):=rfl;rw[e1,GR p rows];by_cases h:p r=ab
  ·rw[List.filter_cons_of_pos h,List.filter_cons_of_neg (by simp[h])];show _=((aY r).all (lv v)||uY v (rows.filter p)||_);rw[Bool.or_assoc]
  ·rw[List.filter_cons_of_neg h,List.filter_cons_of_pos (by simp[h])];show _=(uY v (rows.filter p)||((aY r).all (lv v)||_));rw[<-Bool.or_assoc,<-Bool.or_assoc,Bool.or_comm ((aY r).all (lv v))];rfl
def zat(v:List Bool)(rows:List S)(l:List Fo):Prop:=(rows=[]/\l=[⟨0,0,0⟩])\/((rows.any jX=ab/\uY v rows=ab)/\∃f:Fo,f.kind=1/\l=[f])\/VF v [uY v rows] l
theorem zat.rest{v:List Bool}{rows:List S}{l:List Fo}(h:zat v rows l)(hne:rows≠[]):ZF v (uY v rows) l:=by
 rcases h with⟨h,_⟩|⟨hb,h⟩|h
 ·exact absurd h hne
 ·exact .inl ⟨hb.2,.inl h⟩
 ·exact .inr h
theorem Ee{v:List Bool}:∀(f:Nat)(rows:List S),(∀r∈rows,Tj r)->bK rows<f->zat v rows (wF f rows)
 |0,_,_,h=>by omega
 |f+1,rows,hb,hs=>by
  unfold wF;by_cases h0:rows=[]
  ·rw[if_pos h0,h0];exact .inl ⟨rfl,rfl⟩
  rw[if_neg h0];by_cases h1:rows.any jX=ab
  ·rw[if_pos h1];refine .inr (.inl ⟨⟨h1,?_⟩,_,rfl,rfl⟩);obtain⟨r,hr,hf⟩:=List.any_eq_true.1 h1;exact List.any_eq_true.2 ⟨r,hr,QS hf⟩
  rw[if_neg h1];have hfree:∀r∈rows,jX r=ac:=λr hr=>by
   have h1:rows.any jX=ac:=by simpa using h1
   rw[List.any_eq_false]at h1;simpa using h1 r hr
  refine .inr (.inr ?_);obtain⟨r0,rs,rfl⟩:∃r0 rs,rows=r0::rs:=by
   cases rows with
   |nil=>exact absurd rfl h0
   |cons a b=>exact⟨a,b,rfl⟩
  by_cases h2:bD (r0::rs)≠[]
  ·rw[if_pos h2];obtain⟨x,cs,hc⟩:∃x cs,bD (r0::rs)=x::cs:=by
    cases hcc:bD (r0::rs)with
    |nil=>exact absurd hcc h2
    |cons a b=>exact⟨a,b,rfl⟩
   have hcm:∀y∈bD (r0::rs),y∈aY r0:=λy hy=>(List.mem_filter.1 hy).1;have hx:x∈aY r0:=hcm x (by rw[hc];simp);have hsz:bK (aS (r0::rs) (bD (r0::rs)))<bK (r0::rs):=by rw[hc];exact iw hx
   have hall:∀r∈r0::rs,∀y∈bD (r0::rs),y∈aY r:=λr hr y hy=>by have:=(List.mem_filter.1 hy).2;rw[beq_iff_eq]at this;exact lF (List.countP_eq_length.1 this r hr)
   have ih:=Ee (v:=v) f (aS (r0::rs) (bD (r0::rs))) (λr hr=>by
    obtain⟨q,hq,rfl⟩:=zrh.1 hr;exact KN _ (hb q hq)) (by omega)
   rw[QT hall (by simp)];exact VF.all (λy hy=>Ed (hb r0 (by simp)) y (hcm y hy)) h2 (ih.rest (by unfold aS;simp))
  ·rw[if_neg h2];by_cases h3:(jW (r0::rs)).2<2
   ·rw[if_pos h3];have key:∀l:List S,(∀r∈l,Tj r/\jX r=ac)->VF v (l.map λr=>(aY r).all (lv v)) (l.flatMap λr=>zI (aY r) []):=λl=>by
     induction l with
     |nil=>exact λ_=> .nil
     |cons r l ih=>intro h;rw[zrd,List.flatMap_cons];obtain⟨a1,a2⟩:=h r (by simp);have:=VF.all (v:=v) (b:=ab) (rest:=[]) (Ed a1) (uS a2) (.inl ⟨rfl,.inr rfl⟩);rw[Bool.and_true]at this;exact this.app (ih λq hq=>h q (by simp[hq]))
    have:=VF.or (v:=v) (fo:=⟨4,0,aa (r0::rs)⟩) (cs:=(r0::rs).map λr=>(aY r).all (lv v)) (bs:=[]) (l:=(r0::rs).flatMap λr=>zI (aY r) []) rfl (by simp) (by rw[zqp];exact key _ λr hr=>⟨hb r hr,hfree r hr⟩);rw[List.any_map]at this;exact this
   ·rw[if_neg h3];obtain⟨x,hx⟩:∃x,x=(jW (r0::rs)).1:=⟨_,rfl⟩;rw[<-hx];have m2:(jW (r0::rs)).2=iZ (r0::rs) x:=by
     rcases DX (r0::rs)with⟨h,_⟩|⟨a,b⟩
     ·omega
     ·exact hx▸b
    have hex:∃r∈r0::rs,jd x r=ab:=List.countP_pos_iff.1 (show 0<iZ (r0::rs) x by omega);obtain⟨p,hp,hpx⟩:=hex;have hpx':=lF hpx;have hq:∃q qs,(r0::rs).filter (jd x)=q::qs:=by
     have:p∈(r0::rs).filter (jd x):=List.mem_filter.2 ⟨hp,hpx⟩;cases hc:(r0::rs).filter (jd x)with
     |nil=>rw[hc]at this;cases this
     |cons a b=>exact⟨a,b,rfl⟩
    obtain⟨q,qs,hqe⟩:=hq;have hqx:x∈aY q:=lF (List.mem_filter.1 (show q∈(r0::rs).filter (jd x) by rw[hqe];simp)).2;have hs1:bK (aS ((r0::rs).filter (jd x)) [x])<bK (r0::rs):=by have h4:=lD (jd x) (r0::rs);rw[hqe]at h4 ⊢;have:=iw (l:=[]) (rows:=qs) hqx;omega
    have hs2:bK ((r0::rs).filter λr=> !jd x r)<bK (r0::rs):=jD ⟨p,hp,by rw[hpx];rfl⟩;have i1:=Ee (v:=v) f (aS ((r0::rs).filter (jd x)) [x]) (λr hr=>by
     obtain⟨s,hs,rfl⟩:=zrh.1 hr;exact KN _ (hb s (List.mem_filter.1 hs).1)) (by omega)
    have i2:=Ee (v:=v) f ((r0::rs).filter λr=> !jd x r) (λr hr=>hb r (List.mem_filter.1 hr).1) (by omega);have a1:=VF.all (v:=v) (l:=[x]) (λy hy=>by rw[zrc.1 hy];exact Ed (hb p hp) x hpx') (by simp) (i1.rest (by rw[hqe];unfold aS;simp));have e1:=QT (v:=v) (l:=[x]) (rows:=(r0::rs).filter (jd x)) (λr hr y hy=>by rw[zrc.1 hy];exact lF (List.mem_filter.1 hr).2) (by rw[hqe];simp);rw[<-e1]at a1;have a2:VF v [uY v ((r0::rs).filter λr=> !jd x r)] (wF f ((r0::rs).filter λr=> !jd x r)):=by
     rcases i2 with⟨h,_⟩|⟨⟨h,_⟩,_⟩|h
     ·exfalso;have hall:∀r∈r0::rs,jd x r=ab:=λr hr=>by
       cases hh:jd x r with
       |true=>rfl
       |false=>have:r∈(r0::rs).filter λr=> !jd x r:=List.mem_filter.2 ⟨hr,by rw[hh];rfl⟩;rw[h]at this;cases this
      have:x∈bD (r0::rs):=by refine List.mem_filter.2 ⟨lF (hall r0 (by simp)),?_⟩;rw[beq_iff_eq];exact List.countP_eq_length.2 hall
      have h2:bD (r0::rs)=[]:=by simpa using h2
      rw[h2]at this;cases this
     ·exfalso;obtain⟨r,hr,hh⟩:=List.any_eq_true.1 h;rw[hfree r (List.mem_filter.1 hr).1]at hh;cases hh
     ·exact h
    have:=VF.or (v:=v) (fo:=⟨4,0,2⟩) (cs:=[uY v ((r0::rs).filter (jd x)),uY v ((r0::rs).filter λr=> !jd x r)]) (bs:=[]) rfl rfl (by rw[zqp];exact a1.app a2);rw[GR (jd x)];simpa using this
def Eqs(σ:S->Bool)(gs:List Ga):Prop:=∀g∈gs,σ g.name=rF g (g.ins.map σ)
def A8(σ:S->Bool)(x:Xs):Prop:=∀(n:Nat)(s t:S),x.nots.1[n]? =al s->x.nots.2[n]? =al t->σ t= !σ s
def AA(x y:Xs):Prop:=∃gs,y.gates=x.gates++gs
theorem AA.refl(x:Xs):AA x x:=⟨[],by simp⟩
theorem AA.trans{x y z:Xs}(h:AA x y)(k:AA y z):AA x z:=by obtain⟨a,ha⟩:=h;obtain⟨b,hb⟩:=k;exact⟨a++b,by rw[hb,ha,zqc]⟩
theorem Eqs.pre{σ:S->Bool}{x y:Xs}(h:Eqs σ y.gates)(k:AA x y):Eqs σ x.gates:=λg hg=>by obtain⟨a,ha⟩:=k;exact h g (by rw[ha];exact List.mem_append_left _ hg)
theorem qC(x:Xs)(g:Ga):AA x (iI x g).1:=by
 unfold iI;split
 ·exact⟨_,rfl⟩
 ·exact⟨_,rfl⟩
theorem jk(x:Xs)(g:Ga):(iI x g).1.nots=x.nots:=by unfold iI;split<;>rfl
theorem wJ{σ:S->Bool}{x:Xs}{g:Ga}(h:Eqs σ (iI x g).1.gates):σ (iI x g).2=rF g (g.ins.map σ):=by
 unfold iI at h ⊢;split
 ·rename_i hn;rw[if_pos hn]at h;exact h {g with name:=oV x.used} (by simp)
 ·rename_i hn;rw[if_neg hn]at h;exact h g (by simp)
theorem X6(n:S)(b:Bool):rF ⟨n,3,[],[],ac⟩ [b]= !b:=by cases b<;>rfl
theorem NE(x:Xs)(s:S):AA x (dN x s).1:=by
 unfold dN;split
 ·exact AA.refl x
 ·exact qC x _
theorem NF{σ:S->Bool}{x:Xs}{s:S}(hl:aa x.nots.1=aa x.nots.2)(hn:A8 σ x)(h:Eqs σ (dN x s).1.gates):σ (dN x s).2= !σ s/\A8 σ (dN x s).1/\(dN x s).1.nots.1.length=(dN x s).1.nots.2.length:=by
 unfold dN at h ⊢;cases ha:at? x.nots.1 s with
 |some n =>
  obtain⟨h1,h2⟩:=lh ha;have hb:n<aa x.nots.2:=by omega
  refine⟨?_,hn,hl⟩;have:=hn n s x.nots.2[n] (by rw[zqk h1,h2]) (zqk hb);dsimp only;rw[zqg,zqk hb];exact this
 |none =>
  rw[ha]at h;dsimp only at h ⊢;have hv:=wJ h;have e:rF ⟨[],3,[s],[],ac⟩ [σ s]= !σ s:=X6 [] (σ s);have hv:σ (iI x ⟨[],3,[s],[],ac⟩).2= !σ s:=by rw[hv];exact e
  refine⟨hv,λn u t h1 h2=> ?_,by simp[hl]⟩;have h1:(x.nots.1++[s])[n]? =al u:=h1;have h2:(x.nots.2++[(iI x ⟨[],3,[s],[],ac⟩).2])[n]? =al t:=h2;by_cases hlt:n<aa x.nots.1
  ·rw[zqj hlt]at h1;rw[zqj (by omega)]at h2;exact hn n u t h1 h2
  ·have hl1:=(zqe h1).1;rw[zqa,zrk]at hl1;have:n=aa x.nots.1:=by omega
   subst this;rw[zsb (zrb _),Nat.sub_self]at h1;rw[hl,zsb (zrb _),Nat.sub_self]at h2;have h1:s=u:=Option.some.inj h1;have h2:(iI x ⟨[],3,[s],[],ac⟩).2=t:=Option.some.inj h2;rw[<-h1,<-h2];exact hv
theorem GU:∀l:List Bool,(l.count ab==aa l)=l.all id
 |[]=>rfl
 |b::l=>by
  have ih:=GU l;have hle:l.count ab<=aa l:=List.count_le_length;cases b with
  |true =>
   rw[List.count_cons_self,zrt,List.all_cons,<-ih,id,Bool.true_and];by_cases h:l.count ab=aa l
   ·rw[h];simp
   ·rw[beq_eq_false_iff_ne.2 h,beq_eq_false_iff_ne.2 (by omega)]
  |false=>rw[List.count_cons_of_ne (by decide),zrt,List.all_cons,id,Bool.false_and];exact beq_eq_false_iff_ne.2 (by omega)
theorem GX:∀l:List Bool,ar (0<l.count ab)=l.any id
 |[]=>rfl
 |b::l=>by
  cases b with
  |true=>rw[List.count_cons_self,List.any_cons];simp
  |false=>rw[List.count_cons_of_ne (by decide),GX l,List.any_cons];simp
def oH(op:Int)(l:List Bool):Bool:=if op=4 then l.all id else l.any id
theorem uZ(n:S)(is:List S)(l:List Bool):rF ⟨n,4,is,[],ac⟩ l=oH 4 l/\rF ⟨n,6,is,[],ac⟩ l=oH 6 l/\rF ⟨n,5,is,[],ac⟩ l= !oH 4 l/\rF ⟨n,7,is,[],ac⟩ l= !oH 6 l:=by
 have h1:=GU l;have h2:=GX l;refine⟨?_,?_,?_,?_⟩
 ·show((l.count ab==aa l) != ac)=l.all id;rw[h1];cases l.all id<;>rfl
 ·show(ar (0<l.count ab) != ac)=l.any id;rw[h2];cases l.any id<;>rfl
 ·show((l.count ab==aa l) != ab)= !l.all id;rw[h1];cases l.all id<;>rfl
 ·show(ar (0<l.count ab) != ab)= !l.any id;rw[h2];cases l.any id<;>rfl
theorem qW(name:S)(op last:Int):∀(f:Nat)(x:Xs)(l:List S),AA x (gU f x name op last l).1
 |0,x,l=>qC x _
 |f+1,x,l=>by
  rw[gU];split
  ·exact(qC x _).trans (qW name op last f _ _)
  ·exact qC x _
theorem ve(name:S)(op last:Int):∀(f:Nat)(x:Xs)(l:List S),(gU f x name op last l).1.nots=x.nots
 |0,x,l=>jk x _
 |f+1,x,l=>by
  rw[gU];split
  ·rw[ve name op last f,jk]
  ·exact jk x _
theorem NG{op:Int}(ho:op=4\/op=6)(a b:List Bool):oH op (oH op a::b)=oH op (a++b):=by
 rcases ho with rfl|rfl
 ·show(oH 4 a::b).all id=(a++b).all id;rw[List.all_cons,List.all_append];rfl
 ·show(oH 6 a::b).any id=(a++b).any id;rw[List.any_cons,List.any_append];rfl
theorem Ef{σ:S->Bool}(name:S){op last:Int}(ho:op=4\/op=6)(F:Bool->Bool)(hF:∀(is:List S)(l:List Bool),rF ⟨name,last,is,[],ac⟩ l=F (oH op l)):∀(f:Nat)(x:Xs)(l:List S),Eqs σ (gU f x name op last l).1.gates->σ (gU f x name op last l).2=F (oH op (l.map σ))
 |0,x,l,h=>by unfold gU at h ⊢;rw[wJ h];exact hF l _
 |f+1,x,l,h=>by
  unfold gU at h ⊢;by_cases h8:8<aa l
  ·rw[if_pos h8]at h ⊢;have h1:=wJ (h.pre (qW name op last f _ _));have h2:σ (iI x ⟨[],op,l.take 8,[],ac⟩).2=oH op ((l.take 8).map σ):=by
    rw[h1];rcases ho with rfl|rfl
    ·exact(uZ [] _ _).1
    ·exact(uZ [] _ _).2.1
   rw[Ef name ho F hF f _ _ h,zrd,h2,NG ho,<-zql,List.take_append_drop]
  ·rw[if_neg h8]at h ⊢;rw[wJ h];exact hF l _
theorem X7(x:Xs)(ins:List S)(n:Nat):AA x (vK x ins n).1:=by
 unfold vK;split
 ·exact NE x _
 ·exact AA.refl x
theorem nJ(ins:List S):∀(f k:Nat)(x:Xs)(l:List Fo),AA x (aO ins f k x l).1
 |0,_,x,_=>AA.refl x
 |_+1,0,x,_=>AA.refl x
 |_+1,_+1,x,[]=>AA.refl x
 |f+1,k+1,x,fo::l=>by
  rw[aO];split
  ·exact(X7 x ins fo.lit).trans (nJ ins f k _ l)
  ·exact((nJ ins f fo.kids x l).trans (qW _ _ _ _ _ _)).trans (nJ ins f k _ _)
theorem X8{σ:S->Bool}{x:Xs}{ins:List S}{n:Nat}(hl:aa x.nots.1=aa x.nots.2)(hn:A8 σ x)(hi:n/2<aa ins)(h:Eqs σ (vK x ins n).1.gates) :
 σ (vK x ins n).2=Wj (ins.map σ) n/\A8 σ (vK x ins n).1/\(vK x ins n).1.nots.1.length=(vK x ins n).1.nots.2.length:=by
 have e:(ins.map σ).getD (n/2) ac=σ (ins.getD (n/2) []):=by rw[zqg,zqo,zqg,zqk hi];rfl
 unfold vK at h ⊢;unfold Wj;rw[e];by_cases ho:n%2=1
 ·rw[if_pos ho]at h ⊢;obtain⟨a,b,c⟩:=NF hl hn h;refine⟨?_,b,c⟩;rw[a,ho];cases σ (ins.getD (n/2) [])<;>rfl
 ·rw[if_neg ho]at h ⊢;refine⟨?_,hn,hl⟩;have:(n%2==1)=ac:=beq_eq_false_iff_ne.2 ho;rw[this];show σ (ins.getD (n/2) [])=_;cases σ (ins.getD (n/2) [])<;>rfl
theorem vg{σ:S->Bool}{ins:List S}:∀(f k j:Nat)(x:Xs)(l:List Fo)(cs bs:List Bool),WF (aa ins) (k+j) l->aa l<f->aa cs=k->VF (ins.map σ) (cs++bs) l->aa x.nots.1=aa x.nots.2->A8 σ x->Eqs σ (aO ins f k x l).1.gates ->
 (aO ins f k x l).2.1.map σ=cs/\VF (ins.map σ) bs (aO ins f k x l).2.2/\WF (aa ins) j (aO ins f k x l).2.2/\(aO ins f k x l).2.2.length<=aa l/\A8 σ (aO ins f k x l).1/\(aO ins f k x l).1.nots.1.length=(aO ins f k x l).1.nots.2.length
 |0,_,_,_,_,_,_,_,h,_,_,_,_,_=>by omega
 |f+1,0,j,x,l,cs,bs,hw,_,hc,hv,hl,hn,_=>by have:cs=[]:=zse hc;subst this;rw[aO];rw[Nat.zero_add]at hw;exact⟨rfl,hv,hw,zrb _,hn,hl⟩
 |f+1,k+1,j,x,[],cs,bs,hw,_,_,_,_,_,_=>by rw[Nat.add_right_comm]at hw;unfold WF at hw;exact hw.elim
 |f+1,k+1,j,x,fo::l,cs,bs,hw,hf,hc,hv,hl,hn,he=>by
  rw[Nat.add_right_comm]at hw;unfold WF at hw;rw[zrt]at hf;obtain⟨b,cs,rfl⟩:∃b cs',cs=b::cs':=by
   cases cs with
   |nil=>cases hc
   |cons b cs=>exact⟨b,cs,rfl⟩
  have hc:aa cs=k:=by simpa using hc
  rw[aO]at he ⊢;rcases hw with⟨w1,w2,w3⟩|⟨w1,w2,w3⟩
  ·rw[if_pos w1]at he ⊢;dsimp only at he ⊢;obtain⟨hb,hv2⟩:b=Wj (ins.map σ) fo.lit/\VF (ins.map σ) (cs++bs) l:=by
    have hv:VF (ins.map σ) (b::(cs++bs)) (fo::l):=hv;cases hv with
    |lit _ h=>exact⟨rfl,h⟩
    |and h _ _=>omega
    |or h _ _=>omega
   obtain⟨a1,a2,a3⟩:=X8 (σ:=σ) hl hn (n:=fo.lit) (ins:=ins) (by omega) (he.pre (nJ ins f k _ l));obtain⟨i1,i2,i3,i4,i5,i6⟩:=vg f k j _ l cs bs w3 (by omega) hc hv2 a3 a2 he;exact⟨by rw[zrd,a1,i1,hb],i2,i3,Nat.le_trans i4 (Nat.le_succ _),i5,i6⟩
  ·have hk:¬fo.kind=2:=by rcases w1 with h|h<;>rw[h]<;>decide
   rw[if_neg hk]at he ⊢;dsimp only at he ⊢;obtain⟨ks,hb,hkl,hv2⟩:∃ks:List Bool,b=oH (opF fo) ks/\aa ks=fo.kids/\VF (ins.map σ) (ks++(cs++bs)) l:=by
    have hv:VF (ins.map σ) (b::(cs++bs)) (fo::l):=hv;cases hv with
    |lit h _=>exact absurd h hk
    |and h h2 h3=>exact⟨_,by unfold opF;rw[if_pos h];rfl,h2,h3⟩
    |or h h2 h3=>exact⟨_,by unfold opF;rw[if_neg (by omega)];rfl,h2,h3⟩
   obtain⟨q,hq⟩:∃q,q=aO ins f fo.kids x l:=⟨_,rfl⟩;rw[<-hq]at he ⊢;obtain⟨y,hy⟩:∃y,y=gU (aa q.2.1) q.1 [] (opF fo) (opF fo) q.2.1:=⟨_,rfl⟩;rw[<-hy]at he ⊢;have ey:Eqs σ y.1.gates:=he.pre (nJ ins f k _ _);have eq1:Eqs σ q.1.gates:=by rw[hy]at ey;exact ey.pre (qW _ _ _ _ _ _)
   obtain⟨i1,i2,i3,i4,i5,i6⟩:=vg f fo.kids (k+j) x l ks (cs++bs) w3 (by omega) hkl hv2 hl hn (by rw[<-hq];exact eq1);rw[<-hq]at i1 i2 i3 i4 i5 i6;have hop:opF fo=4\/opF fo=6:=by
    unfold opF;split
    ·exact .inl rfl
    ·exact .inr rfl
   have hyv:σ y.2=oH (opF fo) (q.2.1.map σ):=by rw[hy]at ey ⊢;exact Ef [] hop id (λis l=>by rcases hop with h|h<;>rw[h]<;>first|exact(uZ [] is l).1|exact(uZ [] is l).2.1) _ _ _ ey
   have hyn:y.1.nots=q.1.nots:=by rw[hy];exact ve _ _ _ _ _ _
   obtain⟨j1,j2,j3,j4,j5,j6⟩:=vg f k j y.1 q.2.2 cs bs i3 (by omega) hc i2 (by rw[hyn];exact i6) (λn s t h1 h2=>i5 n s t (by rw[<-hyn];exact h1) (by rw[<-hyn];exact h2)) he;exact⟨by rw[zrd,hyv,i1,j1,hb],j2,j3,Nat.le_trans j4 (Nat.le_succ_of_le i4),j5,j6⟩
theorem KO:∀(rows acc:List S)(s:S),s∈acc\/s∈rows->s∈rows.foldl (λl r=>if l.contains r=ab then l else l++[r]) acc
 |[],acc,s,h=>h.elim id λh=>by cases h
 |q::rows,acc,s,h=>by
  rw[List.foldl_cons];refine KO rows _ s ?_;rcases h with h|h
  ·left;split
   ·exact h
   ·exact List.mem_append_left _ h
  ·rcases zrj.1 h with rfl|h
   ·left;split
    ·rename_i hc;exact List.contains_iff_mem.1 hc
    ·simp
   ·exact .inr h
theorem U7(v:List Bool)(rows:List S):uY v (bM rows)=uY v rows:=by
 rw[Bool.eq_iff_iff];unfold uY bM;simp only[List.any_eq_true];constructor
 ·rintro⟨r,hr,h⟩;rcases lZ rows [] r hr with hr|hr
  ·cases hr
  ·exact⟨r,hr,h⟩
 ·rintro⟨r,hr,h⟩;exact⟨r,KO rows [] r (.inr hr),h⟩
theorem U8{v:List Bool}{rows:List S}(h:∀q∈rows,aa q=aa v/\Tj q):rows.any (λr=>rE r v)=uY v rows:=by
 rw[Bool.eq_iff_iff];unfold uY;simp only[List.any_eq_true];constructor
 ·rintro⟨r,hr,hh⟩;obtain⟨a,b⟩:=h r hr;rw[zQ r v v 0 a (List.drop_zero) b]at hh;exact⟨r,hr,hh⟩
 ·rintro⟨r,hr,hh⟩;obtain⟨a,b⟩:=h r hr;refine⟨r,hr,?_⟩;rw[zQ r v v 0 a (List.drop_zero) b];exact hh
theorem QU{σ:S->Bool}{x:Xs}{g:Ga}(ho:g.op=10)(hne:g.name≠[])(hr:∀q∈g.rows,aa q=aa g.ins/\Tj q)(hl:aa x.nots.1=aa x.nots.2)(hn:A8 σ x)(h:Eqs σ (jT x g).gates) :
 σ g.name=rF g (g.ins.map σ)/\A8 σ (jT x g)/\(jT x g).nots.1.length=(jT x g).nots.2.length:=by
 obtain⟨v,hv⟩:∃v,v=g.ins.map σ:=⟨_,rfl⟩;have hvl:aa v=aa g.ins:=by rw[hv,zra]
 have hval:rF g v=(uY v (bM g.rows) != g.off):=by unfold rF;rw[if_pos ho,U8 (λq hq=>by rw[hvl];exact hr q hq),U7]
 have hrow:∀q∈bM g.rows,aa q=aa g.ins/\Tj q:=λq hq=>by
  rcases lZ g.rows [] q hq with h|h
  ·cases h
  ·exact hr q h
 have hf:=Ee (v:=v) (bK (bM g.rows)+1) (bM g.rows) (λq hq=>(hrow q hq).2) (by omega);have hw:=zK (n:=aa g.ins) (bK (bM g.rows)+1) (bM g.rows) (λq hq=>(hrow q hq).1) (by omega);rw[show wF (bK (bM g.rows)+1) (bM g.rows)=Qz (bM g.rows)from rfl]at hf hw;have z0:∀off:Bool,rF ⟨g.name,fM off 0,[],[],ac⟩ []=(ac != off):=λoff=>by cases off<;>rfl
 have z1:∀off:Bool,rF ⟨g.name,fM off 1,[],[],ac⟩ []=(ab != off):=λoff=>by cases off<;>rfl
 have named:∀(y:Xs)(q:Ga),q.name=g.name->Eqs σ (iI y q).1.gates->σ g.name=rF q (q.ins.map σ):=λy q hqn hh=>by
  have h2:(iI y q).2=g.name:=by unfold iI;rw[if_neg (by rw[hqn];exact hne)];exact hqn
  rw[<-h2];exact wJ hh
 rw[<-hv,hval];unfold jT at h ⊢;rcases hf with⟨e0,e⟩|⟨⟨_,hany⟩,fo,hfo,e⟩|hf
 ·rw[e]at h ⊢;dsimp only at h ⊢;rw[if_pos rfl]at h ⊢;refine⟨?_,by intro n s t a b;rw[jk]at a b;exact hn n s t a b,by rw[jk];exact hl⟩;rw[named x ⟨g.name,fM g.off 0,[],[],ac⟩ rfl h,e0];exact z0 g.off
 ·rw[e]at h ⊢;dsimp only at h ⊢;rw[if_neg (by rw[hfo];decide),if_pos hfo]at h ⊢;refine⟨?_,by intro n s t a b;rw[jk]at a b;exact hn n s t a b,by rw[jk];exact hl⟩;rw[named x ⟨g.name,fM g.off 1,[],[],ac⟩ rfl h,hany];exact z1 g.off
 ·obtain⟨b,hb⟩:∃b,b=uY v (bM g.rows):=⟨_,rfl⟩;rw[<-hb]at hf ⊢;have hw:WF (aa g.ins) 1 (Qz (bM g.rows)):=by
   rcases hw with⟨_,e⟩|⟨_,fo,hfo,e⟩|⟨_,_,hw⟩
   ·rw[e]at hf;cases hf with
    |lit h _=>cases h
    |and h _ _=>cases h
    |or h _ _=>cases h
   ·rw[e]at hf;cases hf with
    |lit h _=>omega
    |and h _ _=>omega
    |or h _ _=>omega
   ·exact hw
  cases hc:Qz (bM g.rows)with
  |nil=>rw[hc]at hf;cases hf
  |cons fo l =>
   rw[hc]at hf hw h;dsimp only at h ⊢;unfold WF at hw;rcases hw with⟨w1,w2,w3⟩|⟨w1,w2,w3⟩
   ·rw[if_neg (by rw[w1];decide),if_neg (by rw[w1];decide),if_pos w1]at h ⊢;refine⟨?_,by intro n s t a b;rw[jk]at a b;exact hn n s t a b,by rw[jk];exact hl⟩;rw[named x ⟨g.name,fM g.off (if fo.lit%2=1 then 3 else 2),[g.ins.getD (fo.lit/2) []],[],ac⟩ rfl h];have hbl:b=Wj v fo.lit:=by
     cases hf with
     |lit _ _=>rfl
     |and h _ _=>omega
     |or h _ _=>omega
    have hi:fo.lit/2<aa g.ins:=by omega
    have e:v.getD (fo.lit/2) ac=σ (g.ins.getD (fo.lit/2) []):=by rw[hv,zqg,zqo,zqg,zqk hi];rfl
    have zz:∀(off w:Bool),rF ⟨g.name,fM off 3,[g.ins.getD (fo.lit/2) []],[],ac⟩ [w]=((w != ab) != off)/\rF ⟨g.name,fM off 2,[g.ins.getD (fo.lit/2) []],[],ac⟩ [w]=((w != ac) != off):=λoff w=>by cases off<;>cases w<;>exact⟨rfl,rfl⟩
    rw[hbl];unfold Wj;rw[e];by_cases hodd:fo.lit%2=1
    ·rw[if_pos hodd,hodd];exact(zz g.off _).1
    ·rw[if_neg hodd,beq_eq_false_iff_ne.2 hodd];exact(zz g.off _).2
   ·have hk0:fo.kind≠0/\fo.kind≠1/\fo.kind≠2:=by rcases w1 with h|h<;>rw[h]<;>decide
    rw[if_neg hk0.1,if_neg hk0.2.1,if_neg hk0.2.2]at h ⊢;obtain⟨q,hq⟩:∃q,q=aO g.ins (aa l+1) fo.kids x l:=⟨_,rfl⟩;rw[<-hq]at h ⊢;obtain⟨ks,hbk,hkl,hv2⟩:∃ks:List Bool,b=oH (opF fo) ks/\aa ks=fo.kids/\VF v (ks++[]) l:=by
     cases hf with
     |lit h _=>exact absurd h hk0.2.2
     |and h h2 h3=>exact⟨_,by unfold opF;rw[if_pos h];rfl,h2,h3⟩
     |or h h2 h3=>exact⟨_,by unfold opF;rw[if_neg (by omega)];rfl,h2,h3⟩
    have eq1:Eqs σ q.1.gates:=h.pre (qW _ _ _ _ _ _);rw[hv]at hv2;obtain⟨i1,_,_,_,i5,i6⟩:=vg (σ:=σ) (aa l+1) fo.kids 0 x l ks [] w3 (by omega) hkl hv2 hl hn (by rw[<-hq];exact eq1);rw[<-hq]at i1 i5 i6;have hop:opF fo=4\/opF fo=6:=by
     unfold opF;split
     ·exact .inl rfl
     ·exact .inr rfl
    refine⟨?_,by intro n s t a b;rw[ve]at a b;exact i5 n s t a b,by rw[ve];exact i6⟩;have hmv:=Ef (σ:=σ) g.name hop (last:=fM g.off (opF fo)) (λb=>b != g.off) (λis l=>by
     have:=uZ g.name is l;rcases hop with h|h<;>rw[h]<;>cases g.off
     ·show rF ⟨g.name,4,is,[],ac⟩ l=_;rw[this.1];cases oH 4 l<;>rfl
     ·show rF ⟨g.name,5,is,[],ac⟩ l=_;rw[this.2.2.1];cases oH 4 l<;>rfl
     ·show rF ⟨g.name,6,is,[],ac⟩ l=_;rw[this.2.1];cases oH 6 l<;>rfl
     ·show rF ⟨g.name,7,is,[],ac⟩ l=_;rw[this.2.2.2];cases oH 6 l<;>rfl) _ _ _ h
    have hnm:∀(f:Nat)(y:Xs)(op last:Int)(l:List S),(gU f y g.name op last l).2=g.name:=λf=>by
     induction f with
     |zero=>intro y op last l;unfold gU iI;rw[if_neg hne]
     |succ f ih =>
      intro y op last l;unfold gU;split
      ·exact ih _ _ _ _
      ·unfold iI;rw[if_neg hne]
    rw[hnm]at hmv;rw[hmv,i1,hbk]
theorem QV(x:Xs)(g:Ga):AA x (jT x g):=by
 unfold jT;split
 ·exact AA.refl x
 ·split
  ·exact qC x _
  ·split
   ·exact qC x _
   ·split
    ·exact qC x _
    ·exact(nJ _ _ _ _ _).trans (qW _ _ _ _ _ _)
theorem U9(x:Xs)(g:Ga):AA x (wG x g):=by
 unfold wG;split
 ·exact QV x _
 ·exact qC x _
theorem KP:∀(gs:List Ga)(x:Xs),AA x (gs.foldl wG x)
 |[],x=>AA.refl x
 |g::gs,x=>(U9 x g).trans (KP gs _)
theorem QW{g:Ga}(h:gQ g=ab)(ho:(aZ g).op=10):aZ g=g:=by
 have hk:=jC h;unfold aZ at ho ⊢;rw[uQ hk.1]at ho ⊢;split
 ·rfl
 ·rename_i h1;rw[if_neg h1]at ho;cases hf:jI (aa g.ins) g.rows g.off with
  |none=>rfl
  |some op=>rw[hf]at ho;exfalso;have:=(qc hf).1;have ho:(op:Int)=10:=ho;omega
theorem QX{g:Ga}(h:gQ g=ab):∀q∈g.rows,aa q=aa g.ins/\Tj q:=λq hq=>by
 have:=(jC h).2.2 q hq;unfold mQ at this;simp only[zqf,beq_iff_eq,zrs]at this;refine⟨this.1,λc hc=> ?_⟩;have hb:=this.2 c hc;unfold zah at hb;simp only[Bool.or_eq_true,beq_iff_eq]at hb;rcases hb with(h|h)|h
 ·exact .inr (.inl h)
 ·exact .inr (.inr h)
 ·exact .inl h
theorem KQ{σ:S->Bool}:∀(gs:List Ga)(x:Xs),(∀g∈gs,gQ g=ab/\g.name≠[])->aa x.nots.1=aa x.nots.2->A8 σ x->Eqs σ (gs.foldl wG x).gates->Eqs σ gs
 |[],_,_,_,_,_=>λg hg=>by cases hg
 |g::gs,x,hg,hl,hn,h=>by
  obtain⟨hb,hne⟩:=hg g (by simp);obtain⟨c1,c2,c3⟩:=zf (jC hb).1;have hx:Eqs σ (wG x g).gates:=h.pre (KP gs _);obtain⟨k1,k2,k3⟩:σ g.name=rF g (g.ins.map σ)/\A8 σ (wG x g)/\(wG x g).nots.1.length=(wG x g).nots.2.length:=by
   unfold wG at hx ⊢;by_cases ho:(aZ g).op=10
   ·rw[if_pos ho]at hx ⊢;have e:=QW hb ho;rw[e]at hx ho ⊢;exact QU ho hne (QX hb) hl hn hx
   ·rw[if_neg ho]at hx ⊢;have hv:=wJ hx;have e:(iI x (aZ g)).2=g.name:=by
     unfold iI;rw[c3,if_neg hne]
    rw[e,c2,Qx (jC hb).1 (by simp)]at hv;refine⟨hv,?_,by rw[jk];exact hl⟩;intro n s t a b;rw[jk]at a b;exact hn n s t a b
  have ih:=KQ gs _ (λq hq=>hg q (by simp[hq])) k3 k2 h;intro q hq;rcases zrj.1 hq with rfl|hq
  ·exact k1
  ·exact ih q hq
theorem Va{c:Ci}(hn:NetOk c){σ:S->Bool}(h:Eqs σ (D5 c).gates):Eqs σ c.gates:=by refine KQ c.gates _ (λg hg=>⟨hn.gates g hg,D8 (hn.told _ ?_)⟩) rfl (λn s t h=>by cases h) h;unfold dW;exact List.mem_append_right _ (List.mem_flatMap.2 ⟨g,hg,by simp⟩)
theorem Vb{c:Ci}(ho:(kW c).1=0){σ τ:S->Bool}(h1:Eqs σ c.gates)(h2:Eqs τ c.gates)(hb:∀s∈aT c,s∉c.gates.map (·.name)->σ s=τ s):∀s∈aT c,σ s=τ s:=by
 have hn:=iJ ho;obtain⟨r,hr⟩:=KC ho;have key:∀(n:Nat)(s:S),r s<n->s∈aT c->σ s=τ s:=λn=>by
  induction n with
  |zero=>intro s h;omega
  |succ n ih =>
   intro s hs hm;by_cases hg:s∈c.gates.map (·.name)
   ·obtain⟨g,hgc,rfl⟩:=zrh.1 hg;rw[h1 g hgc,h2 g hgc]
    congr 1
    refine zsd λt ht=> ?_;have hlt:=hr g hgc t ht;refine ih t (by omega) (List.contains_iff_mem.1 (hn.used t ?_));unfold fP;exact List.mem_append_right _ (List.mem_flatMap.2 ⟨g,hgc,ht⟩)
   ·exact hb s hm hg
 exact λs hs=>key (r s+1) s (by omega) hs
theorem QY(k:S)(l:List S)(t:S):at? (k::l) t=if k=t then al 0 else(at? l t).map (·+1):=rfl
theorem Wl (t : S) : ∀ (l m : List S),at? (l ++ m) t = (match at? l t with | some n => al n | none => (at? m t).map (· + aa l))
 |[],m=>by show at? m t=(at? m t).map (·+0);cases at? m t<;>rfl
 |k::l,m=>by
  have ih:=Wl t l m;rw[List.cons_append,QY,QY];by_cases h:k=t
  ·rw[if_pos h,if_pos h]
  ·rw[if_neg h,if_neg h,ih];cases at? l t with
   |some n=>rfl
   |none =>
    dsimp only;cases at? m t with
    |none=>rfl
    |some n=>show al (n+aa l+1)=al (n+(aa l+1));rw[Nat.add_assoc]
theorem ZG{m:Env}(h:okE m)(s t:S)(b:Bool):lkE (ptE m s b) t=if t=s then b else lkE m t:=by
 unfold okE at h;unfold ptE lkE;cases hs:at? m.1 s with
 |some n =>
  obtain⟨h1,h2⟩:=lh hs;have e:m.1.set n s=m.1:=by rw[<-h2];exact List.set_getElem_self h1
  dsimp only;rw[e];by_cases hts:t=s
  ·rw[if_pos hts,hts,hs];show(m.2.set n b).getD n ac=b;rw[zqg,zqt (by omega)];rfl
  ·rw[if_neg hts];cases ht:at? m.1 t with
   |none=>rfl
   |some j=>obtain⟨h3,h4⟩:=lh ht;have hne:n≠j:=λe=>hts (by rw[<-h4,<-h2];simp[e]);show(m.2.set n b).getD j ac=m.2.getD j ac;rw[zqg,zqn hne,<-zqg]
 |none =>
  dsimp only;rw[Wl];cases ht:at? m.1 t with
  |some j =>
   obtain⟨h3,h4⟩:=lh ht;have hts:t≠s:=λe=>by rw[e,hs]at ht;cases ht
   rw[if_neg hts];show(m.2++[b]).getD j ac=m.2.getD j ac;rw[zqg,zqj (by omega),<-zqg]
  |none =>
   by_cases hts:t=s
   ·rw[if_pos hts,hts];have e:at? [s] s=al 0:=by unfold at?;rw[if_pos rfl]
    rw[e];show(m.2++[b]).getD (0+aa m.1) ac=b;rw[zqg,Nat.zero_add,h,zsb (zrb _),Nat.sub_self];rfl
   ·rw[if_neg hts];have e:at? [s] t=aq:=by unfold at?;rw[if_neg (Ne.symm hts)];rfl
    rw[e];rfl
theorem KR{gs:List Ga}(hg:∀g∈gs,gQ g=ab)(hnd:(gs.map (·.name)).Nodup):∀(L:List Nat)(m:Env),okE m->(∀a∈L,a<aa gs)->L.Nodup ->
 (∀L1 a L2,L=L1++a::L2->∀s∈(gs.getD a ga0).ins,∀b∈a::L2,(gs.getD b ga0).name≠s) ->
 (∀a∈L,lkE (L.foldl (sZ gs) m) (gs.getD a ga0).name=rF (gs.getD a ga0) ((gs.getD a ga0).ins.map (lkE (L.foldl (sZ gs) m))))/\∀s,(∀a∈L,(gs.getD a ga0).name≠s)->lkE (L.foldl (sZ gs) m) s=lkE m s
 |[],m,_,_,_,_=>⟨λa h=>(by cases h),λs _=>rfl⟩
 |a::L,m,hm,hlt,hn,hord=>by
  have hn2:=List.nodup_cons.1 hn;have hm2:okE (sZ gs m a):=Jc hm _ _;obtain⟨i1,i2⟩:=KR hg hnd L (sZ gs m a) hm2 (λb hb=>hlt b (by simp[hb])) hn2.2 (λL1 b L2 e=>hord (a::L1) b L2 (by rw[e];rfl));have hal:=hlt a (by simp);have ega:gs.getD a ga0=gs[a]:=by rw[zqg,zqk hal];rfl
  have hstep:∀s,lkE (sZ gs m a) s=if s=(gs.getD a ga0).name then(xO (gs.getD a ga0) ((gs.getD a ga0).ins.map (lkE m))).1 else lkE m s:=λs=>ZG hm _ _ _
  have hval:(xO (gs.getD a ga0) ((gs.getD a ga0).ins.map (lkE m))).1=rF (gs.getD a ga0) ((gs.getD a ga0).ins.map (lkE m)):=by unfold xO;rw[ega,hg _ (zqu hal),zra,beq_self_eq_true];rfl
  have hother:∀b∈L,(gs.getD b ga0).name≠(gs.getD a ga0).name:=λb hb e=>by
   have hbl:=hlt b (by simp[hb]);have egb:gs.getD b ga0=gs[b]:=by rw[zqg,zqk hbl];rfl
   rw[ega,egb]at e;have hba:b≠a:=λe2=>hn2.1 (e2▸hb);rcases Nat.lt_or_gt_of_ne hba with h|h
   ·exact List.pairwise_iff_getElem.1 hnd b a (by simpa using hbl) (by simpa using hal) h (by simpa using e)
   ·exact List.pairwise_iff_getElem.1 hnd a b (by simpa using hal) (by simpa using hbl) h (by simpa using e.symm)
  rw[List.foldl_cons];refine⟨λb hb=> ?_,λs hs=> ?_⟩
  ·rcases zrj.1 hb with rfl|hb
   ·rw[i2 _ hother,hstep,if_pos rfl,hval]
    congr 1
    refine zsd λs hs=> ?_;have h1:=hord [] b L rfl s hs;rw[i2 s λc hc=>h1 c (by simp[hc]),hstep,if_neg (Ne.symm (h1 b (by simp)))]
   ·exact i1 b hb
  ·rw[i2 s λb hb=>hs b (by simp[hb]),hstep,if_neg (Ne.symm (hs a (by simp)))]
theorem Vd{names:List S}(h:names.Nodup){b:Nat}(hb:b<aa names):iQ names names[b]=al b:=by unfold iQ;refine List.findIdx?_eq_some_iff_getElem.2 ⟨hb,by simp,λj hj=> ?_⟩;have:=List.pairwise_iff_getElem.1 h j b (by omega) hb hj;simpa using this
theorem QZ{c:Ci}(ho:(kW c).1=0):(jA c).1.Nodup/\(∀i<aa c.gates,i∈(jA c).1)/\∀L1 a L2,(jA c).1=L1++a::L2->∀s∈(c.gates.getD a ga0).ins,∀b∈a::L2,(c.gates.getD b ga0).name≠s:=by
 have hn:=iJ ho;have h1:(ou c).1=0:=(zg c).2 hn;have hl:aa (c.gates.map (·.name))=aa (c.gates.map (·.ins)):=by simp
 have e1:(jA c).1=oD (c.gates.map (·.name)) (c.gates.map (·.ins)):=by unfold jA;rw[if_pos h1]
 have hnev:kV (c.gates.map (·.name)) (c.gates.map (·.ins))=[]:=by
  unfold kW at ho;rw[if_neg (by rw[h1];decide)]at ho;have e:(jA c).2=kV (c.gates.map (·.name)) (c.gates.map (·.ins)):=by
   unfold jA;rw[if_pos h1]
  rw[e]at ho;cases hc:kV (c.gates.map (·.name)) (c.gates.map (·.ins))with
  |nil=>rfl
  |cons a b=>rw[hc]at ho;cases ho
 have hall:=Gv hl hnev;obtain⟨⟨N',cv⟩,hpos⟩:=Jd hl;have hlt:=yj c;rw[e1]at hlt ⊢;have hnd:(oD (c.gates.map (·.name)) (c.gates.map (·.ins))).Nodup:=by simpa using cv.nd
 refine⟨hnd,λi hi=>hall i (by simpa using hi),λL1 a L2 hL s hs b hb e=> ?_⟩;have hbL:b∈oD (c.gates.map (·.name)) (c.gates.map (·.ins)):=by rw[hL];exact List.mem_append_right _ hb
 have haL:a∈oD (c.gates.map (·.name)) (c.gates.map (·.ins)):=by rw[hL];simp
 have hbl:=hlt b hbL;have hal:=hlt a haL;have hbn:(c.gates.map (·.name))[b]'(by simpa using hbl)=s:=by rw[<-e,zqg,zqk hbl];simp
 have hpl:=Vd (lV hn.nets) (b:=b) (by simpa using hbl);have hpl:iQ (c.gates.map (·.name)) s=al b:=by rw[<-hbn];exact hpl
 have hw:b∈(oC (c.gates.map (·.name)) (c.gates.map (·.ins))).1.getD a []:=(DY _ _ _ _).2 ⟨s,by
  have e3:(c.gates.map (·.ins)).getD a []=(c.gates.getD a ga0).ins:=by rw[zqg,zqo,zqg,zqk hal];rfl
  rw[e3];exact hs,hpl⟩
 have hb1:=hpos L1 a L2 hL b hw;rw[hL]at hnd;exact(List.nodup_append.1 hnd).2.2 b hb1 b hb rfl
theorem KT{c:Ci}(ho:(kW c).1=0)(st ins:List Bool):Eqs (lkE (rG c st ins)) c.gates/\∀s,s∉c.gates.map (·.name)->lkE (rG c st ins) s=lkE (xP ((aT c).take (aa (ins++st))) (ins++st)) s:=by
 have hn:=iJ ho;obtain⟨f1,f2,f3⟩:=QZ ho;obtain⟨g1,g2⟩:=KR (gs:=c.gates) hn.gates (lV hn.nets) (jA c).1 (xP ((aT c).take (aa (ins++st))) (ins++st)) (DU _ _) (yj c) f1 f3;refine⟨λg hg=> ?_,λs hs=> ?_⟩
 ·obtain⟨i,hi,rfl⟩:=List.getElem_of_mem hg;have:=g1 i (f2 i hi);have e:c.gates.getD i ga0=c.gates[i]:=by rw[zqg,zqk hi];rfl
  rw[e]at this;exact this
 ·refine g2 s λa ha e=>hs ?_;have hal:=yj c a ha;have e2:c.gates.getD a ga0=c.gates[a]:=by rw[zqg,zqk hal];rfl
  rw[e2]at e;exact zrh.2 ⟨c.gates[a],zqu hal,e⟩
theorem GY{c x:Ci}(h:D6 c=(x,0)):(kW c).1=0/\x.gates=(D5 c).gates:=by
 have hc0:(kW c).1=0:=by
  unfold D6 at h;by_cases ho:(kW c).1≠0
  ·rw[if_pos ho]at h;have:=congrArg Prod.snd h;exact absurd this (by show(1:Int)≠0;decide)
  ·exact Decidable.not_not.1 ho
 refine⟨hc0,?_⟩;unfold D6 at h;rw[if_neg (by rw[hc0];decide)]at h;split at h
 ·have:=congrArg Prod.snd h;exact absurd this (by show(8:Int)≠0;decide)
 ·have hx2:=congrArg Prod.fst h;have hx2:{c with gates:=(D5 c).gates}=x:=hx2;rw[<-hx2]
theorem Ve{c x:Ci}(h:D6 c=(x,0))(st ins:List Bool)(hl:¬(aa st≠aa c.lat\/aa ins≠aa c.ins)):∀s∈aT c,lkE (rG x st ins) s=lkE (rG c st ins) s:=by
 obtain⟨hx,hp,e1,e2,e3⟩:=D9 h;have hx1:(kW x).1=0:=by rw[hx]
 obtain⟨hc0,hxg⟩:=GY h;have hn:=iJ hc0;have hlen:aa (ins++st)=aa (c.ins++c.lat.map (·.name)):=by simp only[zqa,zra];omega
 obtain⟨a1,a2⟩:=KT hx1 st ins;obtain⟨b1,b2⟩:=KT hc0 st ins;rw[hxg]at a1;have a1:=Va hn a1;have t1:(aT x).take (aa (ins++st))=c.ins++c.lat.map (·.name):=by unfold aT;rw[e1,e3,hlen,List.take_left]
 have t2:(aT c).take (aa (ins++st))=c.ins++c.lat.map (·.name):=by unfold aT;rw[hlen,List.take_left]
 rw[t1]at a2;rw[t2]at b2;have hxn:=iJ hx1;have hbase:∀s∈aT c,s∉c.gates.map (·.name)->lkE (rG x st ins) s=lkE (rG c st ins) s:=λs hs hng=>by
  rw[b2 s hng];refine a2 s λhxs=> ?_;have hb:s∈c.ins++c.lat.map (·.name):=by
   unfold aT at hs;exact(zrf.1 hs).resolve_right hng
  have hnd:(aT x).Nodup:=by have:=uJ (aT x) [] hxn.nets List.nodup_nil;simpa using this
  unfold aT at hnd;rw[e1,e3]at hnd;exact(List.nodup_append.1 hnd).2.2 s hb s hxs rfl
 exact Vb hc0 a1 b1 hbase
theorem Vf{c x:Ci}(h:D6 c=(x,0))(st ins:List Bool):ql x st ins=ql c st ins:=by
 obtain⟨hx,hp,e1,e2,e3⟩:=D9 h;have hx1:(kW x).1=0:=by rw[hx]
 obtain⟨hc0,hxg⟩:=GY h;have hn:=iJ hc0;have hx0:¬(kW x).1≠0:=by rw[hx1];decide
 have hc2:¬(kW c).1≠0:=by rw[hc0];decide
 unfold ql;rw[if_neg hx0,if_neg hc2,e1,e2,e3];by_cases hl:aa st≠aa c.lat\/aa ins≠aa c.ins
 ·rw[if_pos hl,if_pos hl]
 rw[if_neg hl,if_neg hl];have key:=Ve h st ins hl;have ho:c.outs.map (lkE (rG x st ins))=c.outs.map (lkE (rG c st ins)):=zsd λs hs=>key s (List.contains_iff_mem.1 (hn.used s (by unfold fP;simp[hs])));have hla:c.lat.map (λq=>lkE (rG x st ins) q.next)=c.lat.map (λq=>lkE (rG c st ins) q.next):=zsd λq hq=>key q.next (List.contains_iff_mem.1 (hn.used _ (by unfold fP;simp only[zrf,zrh];exact .inl (.inr ⟨q,hq,rfl⟩))))
 rw[ho,hla]
theorem KU{α:Type}{f:α->S}{l:List α}{n:Nat}(h:∀a∈l,aa (f a)<=n):aa (l.flatMap f)<=aa l*n:=by
 induction l with
 |nil=>simp
 |cons a l ih=>rw[List.flatMap_cons,zqa,zrt,Nat.succ_mul];have h1:=h a (by simp);have h2:=ih λb hb=>h b (by simp[hb]);omega
theorem qX{s:S}(h:aU s=ab):aa (aP s)<=83:=by
 have hl:aa s<=40:=by unfold aU at h;simp only[zqf,zqb]at h;exact h.2.2
 unfold aP;split
 ·unfold bu;have:∀l:S,aa (l.flatMap Us)=2*aa l:=by
   intro l
   induction l with
   |nil=>rfl
   |cons a l ih=>rw[List.flatMap_cons,zqa,ih,zrt];simp[Us];omega
  rw[zqa,this];have:aa rC=3:=rfl;omega
 ·omega
theorem GZ:∀ {l:List S},(∀s∈l,aU s=ab)->aa (Ea l)<=aa l*85
 |[],_=>Nat.zero_le _
 |[s],h=>by have:=qX (h s (by simp));show aa (aP s)<=1*85;omega
 |s::t::r,h=>by have h1:=qX (h s (by simp));have h2:=GZ (l:=t::r) λq hq=>h q (by simp[hq]);show aa (aP s++44::32::Ea (t::r))<=_;rw[zqa,zrt,zrt,zrt];omega
theorem vk{a w:S}{l:List S}(h:∀s∈l,aU s=ab):aa (gV a w l)<=aa a+aa w+aa l*85+3:=by have:=GZ h;unfold gV;rw[zqa,zqa,zrt,zqa,zrt,zrt,List.length_nil];omega
theorem BO{x:Ci}(ho:(kW x).1=0):aa (qy x)<=800000:=by
 have hn:=iJ ho;have lm:=P9 hn.lim;have hw:∀k,aa (dZ.getD k [])<=4:=λk=>by
  by_cases hk:k<10
  ·have:∀j:Fin 10,aa (dZ.getD j.1 [])<=4:=by decide
   exact this ⟨k,hk⟩
  ·rw[zqg,zsj (by show 10<=k;omega)];simp
 have hlw:∀k,aa (bW.getD k [])<=4:=λk=>by
  by_cases hk:k<3
  ·have:∀j:Fin 3,aa (bW.getD j.1 [])<=4:=by decide
   exact this ⟨k,hk⟩
  ·rw[zqg,zsj (by show 3<=k;omega)];simp
 have k1:=KU (f:=λs=>gV [] jc [s]) (l:=x.ins) (n:=1000) λs hs=>by
  have:=vk (a:=[]) (w:=jc) (l:=[s]) λq hq=>by rw[zrc.1 hq];exact hn.told s (by unfold dW;simp[hs])
  have e:aa jc=5:=rfl;simp only[zrt,List.length_nil,e]at this;omega
 have k2:=KU (f:=λs=>gV [] fE [s]) (l:=x.outs) (n:=1000) λs hs=>by
  have:=vk (a:=[]) (w:=fE) (l:=[s]) λq hq=>by rw[zrc.1 hq];exact hn.told s (by unfold dW;simp[hs])
  have e:aa fE=6:=rfl;simp only[zrt,List.length_nil,e]at this;omega
 have k3:=KU (f:=λq:La=>gV (aP q.name++[32,61,32]) (bW.getD q.init.toNat []) [q.next]) (l:=x.lat) (n:=1000) λq hq=>by
  have h1:aU q.name=ab:=hn.told _ (by unfold dW;simp only[zrf,List.mem_flatMap];exact .inl (.inr ⟨q,hq,by simp⟩));have h2:aU q.next=ab:=hn.told _ (by unfold dW;simp only[zrf,List.mem_flatMap];exact .inl (.inr ⟨q,hq,by simp⟩))
  have:=vk (a:=aP q.name++[32,61,32]) (w:=bW.getD q.init.toNat []) (l:=[q.next]) λs hs=>by rw[zrc.1 hs];exact h2
  have e1:=qX h1;have e2:=hlw q.init.toNat;rw[zqa]at this;simp only[zrt,List.length_nil]at this;omega
 have k4:=KU (f:=λg:Ga=>gV (aP g.name++[32,61,32]) (dZ.getD g.op.toNat []) g.ins) (l:=x.gates) (n:=1000) λg hg=>by have h1:aU g.name=ab:=hn.told _ (by unfold dW;exact List.mem_append_right _ (List.mem_flatMap.2 ⟨g,hg,by simp⟩));have:=vk (a:=aP g.name++[32,61,32]) (w:=dZ.getD g.op.toNat []) (l:=g.ins) λs hs=>hn.told _ (by unfold dW;exact List.mem_append_right _ (List.mem_flatMap.2 ⟨g,hg,by simp[hs]⟩));have e1:=qX h1;have e2:=hw g.op.toNat;have e3:=lm.gins g hg;rw[zqa]at this;simp only[zrt,List.length_nil]at this;omega
 unfold qy;simp only[zqa];have:=lm.ins;have:=lm.outs;have:=lm.lat;have:=lm.gates;omega
end Go.Proofs.YthaijohbpdabfaaGreatDoor
