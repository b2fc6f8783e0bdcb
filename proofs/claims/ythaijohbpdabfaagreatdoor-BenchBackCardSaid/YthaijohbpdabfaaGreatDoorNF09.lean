/- Lemmas for this claim, part F09: each holds under what it names. -/
import Derived.Test.YthaijohbpdabfaaGreatDoorNF08
import Derived.Test.YthaijohbpdabfaaGreatDoorNF02
import Derived.Test.YthaijohbpdabfaaGreatDoorNA9
import Derived.Test.YthaijohbpdabfaaGreatDoorNA8
import Derived.Test.YthaijohbpdabfaaGreatDoorNA7
import Derived.Test.YthaijohbpdabfaaGreatDoorNA10
set_option linter.all false
set_option maxRecDepth 20000
set_option maxHeartbeats 4000000
namespace Go.Proofs.YthaijohbpdabfaaGreatDoor
open Go Go.Proofs Go.Abs
def pg:List S->List Pc
 |[]=>[]
 |[s]=>[.word (aO s)]
 |s::t::r=> .word (aO s):: .mark 44:: .blank 32::pg (t::r)
def nX(w:S)(l:List S):List Pc:= .word w:: .mark 40::(pg l++[.mark 41,.blank 10])
def Ar(s w:S)(l:List S):List Pc:= .word (aO s):: .blank 32:: .mark 61:: .blank 32::nX w l
theorem nG(a b:List Pc):iM (a++b)=iM a++iM b:=by unfold iM;rw[List.flatMap_append]
theorem E9:∀l:List S,iM (pg l)=CQ l
 |[]=>rfl
 |[s]=>by show aO s++[]=_;rw[zqp];rfl
 |s::t::r=>by show aO s++(44::32::iM (pg (t::r)))=_;rw[E9 (t::r)];rfl
theorem Fa(w:S)(l:List S):iM (nX w l)=gm [] w l:=by show w++40::iM (pg l++[.mark 41,.blank 10])=_;rw[nG,E9];unfold gm;simp[iM,OI]
theorem Fb(s w:S)(l:List S):iM (Ar s w l)=gm (aO s++[32,61,32]) w l:=by show aO s++32::61::32::iM (nX w l)=_;rw[Fa];unfold gm;simp
def YD(w:S):Prop:=w≠[]/\∀c∈w,gX c=true
theorem OM:∀ {l:List S} {r:List Pc},(∀s∈l,aS s=true)->okP r->okP (pg l++ .mark 41::r)
 |[],r,_,h=>⟨by decide,h⟩
 |[s],r,hl,h=>by obtain⟨w1,w2⟩:=ry (hl s (by simp));show okP (.word (aO s):: .mark 41::r);unfold okP;refine⟨w1,w2,fun v q e=>(by cases e),?_⟩;unfold okP;exact⟨by decide,h⟩
 |s::t::q,r,hl,h=>by obtain⟨w1,w2⟩:=ry (hl s (by simp));have ih:=OM (l:=t::q) (fun x hx=>hl x (by simp[hx])) h;show okP (.word (aO s):: .mark 44:: .blank 32::(pg (t::q)++ .mark 41::r));unfold okP;refine⟨w1,w2,fun v q e=>(by cases e),?_⟩;unfold okP;refine⟨by decide,?_⟩;unfold okP;exact⟨by decide,ih⟩
theorem OO{w:S}{l:List S}{r:List Pc}(hw:YD w)(hl:∀s∈l,aS s=true)(h:okP r):okP (nX w l++r):=by
 have e:nX w l++r= .word w:: .mark 40::(pg l++ .mark 41::(.blank 10::r)):=by simp[nX]
 rw[e];unfold okP;refine⟨hw.1,hw.2,fun v q e=>(by cases e),?_⟩;unfold okP;refine⟨by decide,OM hl ?_⟩;unfold okP;exact⟨by decide,h⟩
theorem OQ{s w:S}{l:List S}{r:List Pc}(hs:aS s=true)(hw:YD w)(hl:∀s∈l,aS s=true)(h:okP r):okP (Ar s w l++r):=by obtain⟨w1,w2⟩:=ry hs;show okP (.word (aO s):: .blank 32:: .mark 61:: .blank 32::(nX w l++r));unfold okP;refine⟨w1,w2,fun v q e=>(by cases e),?_⟩;unfold okP;refine⟨by decide,?_⟩;unfold okP;refine⟨by decide,?_⟩;unfold okP;exact⟨by decide,OO hw hl h⟩
abbrev TS:=List (Nat×S)
def tZ:List S->TS
 |[]=>[]
 |[s]=>[(0,aO s)]
 |s::t::r=>(0,aO s)::(1,[44])::tZ (t::r)
theorem Jb:∀l:List S,(pg l).flatMap vP=tZ l
 |[]=>rfl
 |[_]=>rfl
 |s::t::r=>by show(0,aO s)::(1,[44])::(pg (t::r)).flatMap vP=_;rw[Jb (t::r)];rfl
theorem gZ{L:List Tk}{a:Nat×S}{m:TS}(h:L.map Tk.s=a::m):∃t l,L=t::l/\t.k=a.1/\t.t=a.2/\l.map Tk.s=m:=by
 cases L with
 |nil=>cases h
 |cons t l=>have h:t.s::l.map Tk.s=a::m:=h;injection h with h1 h2;exact⟨t,l,rfl,congrArg Prod.fst h1,congrArg Prod.snd h1,h2⟩
theorem Fe{c:UInt8}{t:Tk}{l:List Tk}(h1:t.k=1)(h2:t.t=[c]):o7 c (t::l)=(true,l):=by show(if(t.k==1&&t.t==[c])=true then(true,l)else(false,t::l))=_;rw[h1,h2];simp
theorem Ua{c d:UInt8}{t:Tk}{l:List Tk}(h2:t.t=[d])(hd:d≠c):o7 c (t::l)=(false,t::l):=by
 show(if(t.k==1&&t.t==[c])=true then(true,l)else(false,t::l))=_;rw[h2];have:([d]==[c])=false:=by simpa using hd
 rw[this,Bool.and_false];rfl
theorem Sj{c:UInt8}{t:Tk}{l:List Tk}(h1:t.k=0):o7 c (t::l)=(false,t::l):=by show(if(t.k==1&&t.t==[c])=true then(true,l)else(false,t::l))=_;rw[h1];rfl
theorem uT{e:Nat}{c:UInt8}{t:Tk}{l:List Tk}(h1:t.k=1)(h2:t.t=[c]):o8 e c (t::l)= .ok l:=by unfold o8;rw[Fe h1 h2];rfl
theorem yH{e:Nat}{s:S}(hs:aS s=true){t:Tk}{l:List Tk}(h1:t.k=0)(h2:t.t=aO s):rC e (t::l)= .ok (s,l):=by
 have hw:wE e (t::l)= .ok (t,l):=by show(if t.k=0 then Except.ok (t,l)else Except.error (t.at',2))=_;rw[if_pos h1]
 unfold rC;rw[hw];dsimp only;rw[h2,Hr hs,if_pos rfl]
theorem OT{e:Nat}:∀(l:List S)(f:Nat)(acc:List S)(L:List Tk)(m:TS),(∀s∈l,aS s=true)->L.map Tk.s=(l.flatMap fun s=>[(1,[44]),(0,aO s)])++(1,[41])::m->l.length<f->∃r,zF e f acc L= .ok (acc++l,r)/\r.map Tk.s=m
 |[],0,_,_,_,_,_,h=>by cases h
 |[],f+1,acc,L,m,_,h,_=>by obtain⟨t,l,rfl,a,b,c⟩:=gZ h;refine⟨l,?_,c⟩;unfold zF;rw[Ua b (by decide),uT a b,zqp];rfl
 |s::l,0,_,_,_,_,_,h=>by omega
 |s::l,f+1,acc,L,m,hl,h,hf=>by rw[List.flatMap_cons,zqc]at h;obtain⟨t,l1,rfl,a,b,h⟩:=gZ h;obtain⟨u,l2,rfl,a2,b2,h⟩:=gZ h;obtain⟨r,h1,h2⟩:=OT l f (acc++[s]) l2 m (fun q hq=>hl q (by simp[hq])) h (by rw[zrt]at hf;omega);refine⟨r,?_,h2⟩;unfold zF;rw[Fe a b];dsimp only;rw[if_pos rfl,yH (hl s (by simp)) a2 b2];dsimp only;rw[h1,zqc];rfl
theorem Ff:∀(s:S)(l:List S),tZ (s::l)=(0,aO s)::l.flatMap fun s=>[(1,[44]),(0,aO s)]
 |s,[]=>rfl
 |s,t::l=>by show(0,aO s)::(1,[44])::tZ (t::l)=_;rw[Ff t l];rfl
theorem Sl(l:List S):(l.flatMap fun s=>[((1:Nat),([44]:S)),(0,aO s)]).length=2*l.length:=by
 induction l with
 |nil=>rfl
 |cons a l ih=>rw[List.flatMap_cons,zqa,ih,zrt];simp;omega
theorem Jc{e:Nat}{l:List S}{L:List Tk}{m:TS}(hl:∀s∈l,aS s=true)(h:L.map Tk.s=(1,[40])::(tZ l++(1,[41])::m)):∃r,nV e L= .ok (l,r)/\r.map Tk.s=m:=by
 obtain⟨t,l1,rfl,a,b,h⟩:=gZ h;unfold nV;rw[uT a b];dsimp only;cases l with
 |nil=>obtain⟨u,l2,rfl,a2,b2,h⟩:=gZ h;rw[Fe a2 b2];exact⟨l2,rfl,h⟩
 |cons s l =>
  rw[Ff]at h;obtain⟨u,l2,rfl,a2,b2,h⟩:=gZ h;rw[Sj a2,yH (hl s (by simp)) a2 b2];dsimp only;have hlen:l.length<l2.length+1:=by
   have:=congrArg List.length h
   change _=((l.flatMap fun s=>[((1:Nat),([44]:S)),(0,aO s)])++(1,[41])::m).length at this
   rw[zra,zqa]at this;have h2:=Sl l;omega
  obtain⟨r,h1,h2⟩:=OT (e:=e) l (l2.length+1) [s] l2 m (fun q hq=>hl q (by simp[hq])) h hlen;exact⟨r,h1,h2⟩
inductive Sm where
 |port (out:Bool) (s:S)
 |lat (q:La)
 |gate (g:Ga)
def OU(out:Bool):S:=if out=true then dZ else iK
def Sm.pcs:Sm->List Pc
 | .port out s=>nX (OU out) [s]
 | .lat q=>Ar q.name (bM.getD q.init.toNat []) [q.next]
 | .gate g=>Ar g.name (dL.getD g.op.toNat []) g.ins
def Sm.put(c:Ci):Sm->Ci
 | .port out s=>if out=true then {c with outs:=c.outs++[s]} else {c with ins:=c.ins++[s]}
 | .lat q=>{c with lat:=c.lat++[q]}
 | .gate g=>{c with gates:=c.gates++[g]}
def Sm.ok:Sm->Prop
 | .port _ s=>aS s=true
 | .lat q=>aS q.name=true/\aS q.next=true/\oP q=true
 | .gate g=>aS g.name=true/\(∀s∈g.ins,aS s=true)/\GPl g
def smC(x:Ci):List Sm:=x.ins.map (.port false)++x.outs.map (.port true)++x.lat.map .lat++x.gates.map .gate
theorem Fg(x:Ci):o9 x=iM ((smC x).flatMap Sm.pcs):=by
 have h1:∀(o:Bool)(l:List S),iM ((l.map (Sm.port o)).flatMap Sm.pcs)=l.flatMap fun s=>gm [] (OU o) [s]:=fun o l=>by
  induction l with
  |nil=>rfl
  |cons a l ih=>rw[zrd,List.flatMap_cons,nG,ih,List.flatMap_cons];show iM (nX _ _)++_=_;rw[Fa]
 have h2:∀l:List La,iM ((l.map Sm.lat).flatMap Sm.pcs)=l.flatMap fun q=>gm (aO q.name++[32,61,32]) (bM.getD q.init.toNat []) [q.next]:=fun l=>by
  induction l with
  |nil=>rfl
  |cons a l ih=>rw[zrd,List.flatMap_cons,nG,ih,List.flatMap_cons];show iM (Ar _ _ _)++_=_;rw[Fb]
 have h3:∀l:List Ga,iM ((l.map Sm.gate).flatMap Sm.pcs)=l.flatMap fun g=>gm (aO g.name++[32,61,32]) (dL.getD g.op.toNat []) g.ins:=fun l=>by
  induction l with
  |nil=>rfl
  |cons a l ih=>rw[zrd,List.flatMap_cons,nG,ih,List.flatMap_cons];show iM (Ar _ _ _)++_=_;rw[Fb]
 unfold smC;rw[List.flatMap_append,List.flatMap_append,List.flatMap_append,nG,nG,nG,h1,h1,h2,h3];rfl
theorem Jd:∀k:Fin 10,(dL.getD k.1 []≠[]/\(dL.getD k.1 []).all gX=true)/\bM.findIdx? (·==dL.getD k.1 [])=none/\opW (dL.getD k.1 [])=some k.1:=by decide
theorem Je:∀k:Fin 3,(bM.getD k.1 []≠[]/\(bM.getD k.1 []).all gX=true)/\bM.findIdx? (·==bM.getD k.1 [])=some k.1:=by decide
theorem Vu:∀o:Bool,OU o≠[]/\(OU o).all gX=true:=by decide
theorem Vw{g:Ga}(h:GPl g):∃k:Fin 10,g.op=(k.1:Int):=by have hh:=h.h;unfold uJ at hh;simp only[zqf,zqb]at hh;have:=h.o;have h1:=hh.1;have h2:=hh.2.1;exact⟨⟨g.op.toNat,by omega⟩,by show g.op=(g.op.toNat:Int);omega⟩
theorem Xu:∀(l:List Sm),(∀m∈l,m.ok)->okP (l.flatMap Sm.pcs)
 |[],_=>trivial
 |m::l,h=>by
  rw[List.flatMap_cons];have ih:=Xu l fun q hq=>h q (by simp[hq]);have hm:=h m (by simp);cases m with
  |port out s=>obtain⟨p1,p2⟩:=Vu out;exact OO ⟨p1,zrs.1 p2⟩ (fun q hq=>by rw[zrc.1 hq];exact hm) ih
  |lat q =>
   obtain⟨h1,h2,h3⟩:=hm;have:q.init.toNat<3:=by unfold oP at h3;simp only[zqf,zqb]at h3;omega
   obtain⟨⟨p1,p2⟩,_⟩:=Je ⟨q.init.toNat,this⟩;exact OQ h1 ⟨p1,zrs.1 p2⟩ (fun s hs=>by rw[zrc.1 hs];exact h2) ih
  |gate g =>
   obtain⟨h1,h2,h3⟩:=hm;obtain⟨k,hk⟩:=Vw h3;obtain⟨⟨p1,p2⟩,_⟩:=Jd k;have e:g.op.toNat=k.1:=by omega
   refine OQ h1 ?_ h2 ih;rw[e];exact⟨p1,zrs.1 p2⟩
def Sm.ts:Sm->TS
 | .port out s=>[(0,OU out),(1,[40]),(0,aO s),(1,[41])]
 | .lat q=>(0,aO q.name)::(1,[61])::(0,bM.getD q.init.toNat [])::(1,[40])::(tZ [q.next]++[(1,[41])])
 | .gate g=>(0,aO g.name)::(1,[61])::(0,dL.getD g.op.toNat [])::(1,[40])::(tZ g.ins++[(1,[41])])
theorem CU(w:S)(l:List S):(nX w l).flatMap vP=(0,w)::(1,[40])::(tZ l++[(1,[41])]):=by show(0,w)::(1,[40])::(pg l++[Pc.mark 41,Pc.blank 10]).flatMap vP=_;rw[List.flatMap_append,Jb];rfl
theorem Yi(m:Sm):m.pcs.flatMap vP=m.ts:=by
 cases m with
 |port out s=>exact CU _ _
 |lat q=>show(0,aO q.name)::(1,[61])::(nX _ _).flatMap vP=_;rw[CU];rfl
 |gate g=>show(0,aO g.name)::(1,[61])::(nX _ _).flatMap vP=_;rw[CU];rfl
theorem pq(e:Nat)(c:Ci)(t:Tk)(r:List Tk):Ht e c (t::r)=if t.k=0/\(t.t=iK\/t.t=dZ)/\(o7 61 r).1=false then zH e c (t.t==dZ) r else zG e c (t::r):=rfl
theorem Vx{e:Nat}{c:Ci}{m:Sm}(hm:m.ok){L:List Tk}{r:TS}(h:L.map Tk.s=m.ts++r):∃L',Ht e c L= .ok (m.put c,L')/\L'.map Tk.s=r:=by
 cases m with
 |port out s =>
  obtain⟨t,l1,rfl,a1,b1,h⟩:=gZ h;obtain⟨u,l2,rfl,a2,b2,h⟩:=gZ h;obtain⟨v,l3,rfl,a3,b3,h⟩:=gZ h;obtain⟨w,l4,rfl,a4,b4,h⟩:=gZ h;refine⟨l4,?_,h⟩;have hb:t.t=iK\/t.t=dZ:=by
   rw[b1];cases out
   ·exact .inl rfl
   ·exact .inr rfl
  have ho:(t.t==dZ)=out:=by rw[b1];cases out<;>decide
  rw[pq,if_pos ⟨a1,hb,by rw[Ua b2 (by decide)]⟩];unfold zH;rw[uT a2 b2];dsimp only;rw[yH hm a3 b3];dsimp only;rw[uT a4 b4,ho];rfl
 |lat q =>
  obtain⟨h1,h2,h3⟩:=hm;have hi:0<=q.init/\q.init.toNat<3:=by unfold oP at h3;simp only[zqf,zqb]at h3;omega
  obtain⟨_,p3⟩:=Je ⟨q.init.toNat,hi.2⟩;obtain⟨t,l1,rfl,a1,b1,h⟩:=gZ h;obtain⟨u,l2,rfl,a2,b2,h⟩:=gZ h;obtain⟨v,l3,rfl,a3,b3,h⟩:=gZ h;obtain⟨L',n1,n2⟩:=Jc (e:=e) (l:=[q.next]) (m:=r) (fun s hs=>by rw[zrc.1 hs];exact h2) (L:=l3) (by rw[h];rfl);refine⟨L',?_,n2⟩;rw[pq,if_neg (fun hh=>by have:=hh.2.2;rw[Fe a2 b2]at this;cases this)];unfold zG;rw[yH h1 a1 b1];dsimp only;rw[uT a2 b2];dsimp only;have hw:wE e (v::l3)= .ok (v,l3):=by show(if v.k=0 then Except.ok (v,l3)else Except.error (v.at',2))=_;rw[if_pos a3]
  rw[hw];dsimp only;rw[b3];dsimp only at p3;rw[p3];dsimp only;rw[n1];dsimp only;rw[if_pos (show [q.next].length=1 from rfl)];have:((q.init.toNat:Nat):Int)=q.init:=by omega
  show Except.ok (({c with lat:=c.lat++[(⟨q.name,q.next,((q.init.toNat:Nat):Int)⟩:La)]}:Ci),L')=_;rw[this];rfl
 |gate g =>
  obtain⟨h1,h2,h3⟩:=hm;obtain⟨k,hk⟩:=Vw h3;obtain⟨_,p3,p4⟩:=Jd k;have e0:g.op.toNat=k.1:=by omega
  obtain⟨t,l1,rfl,a1,b1,h⟩:=gZ h;obtain⟨u,l2,rfl,a2,b2,h⟩:=gZ h;obtain⟨v,l3,rfl,a3,b3,h⟩:=gZ h;obtain⟨L',n1,n2⟩:=Jc (e:=e) (l:=g.ins) (m:=r) h2 (L:=l3) (by rw[h];show(1,[40])::((tZ g.ins++[(1,[41])])++r)=_;rw[zqc];rfl);refine⟨L',?_,n2⟩;rw[pq,if_neg (fun hh=>by have:=hh.2.2;rw[Fe a2 b2]at this;cases this)];unfold zG;rw[yH h1 a1 b1];dsimp only;rw[uT a2 b2];dsimp only;have hw:wE e (v::l3)= .ok (v,l3):=by show(if v.k=0 then Except.ok (v,l3)else Except.error (v.at',2))=_;rw[if_pos a3]
  have b3:v.t=dL.getD k.1 []:=by rw[<-e0];exact b3
  rw[hw];dsimp only;rw[b3,p3,p4];dsimp only;rw[n1];dsimp only;have hg:(⟨g.name,((k.1:Nat):Int),g.ins,[],false⟩:Ga)=g:=by
   rw[<-hk,<-h3.r,<-h3.f]
  show Except.ok (({c with gates:=c.gates++[aZ ⟨g.name,((k.1:Nat):Int),g.ins,[],false⟩]}:Ci),L')=_;rw[hg,h3.canon];rfl
theorem Xv(m:Sm):m.ts≠[]:=by cases m<;>simp[Sm.ts]
theorem Jf{e:Nat}:∀(l:List Sm)(f:Nat)(c:Ci)(L:List Tk),(∀m∈l,m.ok)->L.map Tk.s=l.flatMap Sm.ts->L.length<=f->tY e f c L= .ok (l.foldl Sm.put c)
 |[],f,c,L,_,h,_=>by
  have:L=[]:=by simpa using h
  subst this;cases f<;>rfl
 |m::l,f,c,L,hm,h,hf=>by
  rw[List.flatMap_cons]at h;obtain⟨L',h1,h2⟩:=Vx (e:=e) (c:=c) (hm m (by simp)) h;have hl:=congrArg List.length h;rw[zra,zqa]at hl;have hl2:=congrArg List.length h2;rw[zra]at hl2;have hp:0<m.ts.length:=List.length_pos_iff.2 (Xv m);cases L with
  |nil=>simp at hl;omega
  |cons t r=>obtain⟨f,rfl⟩:∃g,f=g+1:=⟨f-1,by simp at hf;omega⟩;unfold tY;rw[h1];dsimp only;exact Jf l f _ L' (fun q hq=>hm q (by simp[hq])) h2 (by rw[zrt]at hf hl;omega)
theorem Vy(x c:Ci):(smC x).foldl Sm.put c=⟨c.ins++x.ins,c.outs++x.outs,c.lat++x.lat,c.gates++x.gates⟩:=by
 have h1:∀(l:List S)(c:Ci),(l.map (Sm.port false)).foldl Sm.put c={c with ins:=c.ins++l}:=fun l=>by
  induction l with
  |nil=>intro c;simp
  |cons a l ih=>intro c;rw[zrd,List.foldl_cons,ih];simp[Sm.put]
 have h2:∀(l:List S)(c:Ci),(l.map (Sm.port true)).foldl Sm.put c={c with outs:=c.outs++l}:=fun l=>by
  induction l with
  |nil=>intro c;simp
  |cons a l ih=>intro c;rw[zrd,List.foldl_cons,ih];simp[Sm.put]
 have h3:∀(l:List La)(c:Ci),(l.map Sm.lat).foldl Sm.put c={c with lat:=c.lat++l}:=fun l=>by
  induction l with
  |nil=>intro c;simp
  |cons a l ih=>intro c;rw[zrd,List.foldl_cons,ih];simp[Sm.put]
 have h4:∀(l:List Ga)(c:Ci),(l.map Sm.gate).foldl Sm.put c={c with gates:=c.gates++l}:=fun l=>by
  induction l with
  |nil=>intro c;simp
  |cons a l ih=>intro c;rw[zrd,List.foldl_cons,ih];simp[Sm.put]
 unfold smC;rw[List.foldl_append,List.foldl_append,List.foldl_append,h1,h2,h3,h4]
def nY(fnd:List Tk->S->Nat)(s:S):RN Ci:=match (tkN s.length 0 s).2 with
 |some a=> .error (a,2)
 |none=>match tY s.length (tkN s.length 0 s).1.length ⟨[],[],[],[]⟩ (tkN s.length 0 s).1 with
  | .error x=> .error x
  | .ok c=>if(sV c).1=0 then .ok c else .error (if(sV c).2=[]then 0 else fnd (tkN s.length 0 s).1 (sV c).2,(sV c).1)
theorem Fh{x:Ci}(ho:(sV x).1=0)(hp:∀g∈x.gates,GPl g)(fnd:List Tk->S->Nat):nY fnd (o9 x)= .ok x:=by
 have hn:=ny ho;have hok:∀m∈smC x,m.ok:=fun m hm=>by
  unfold smC at hm;simp only[zrf,zrh]at hm;rcases hm with((⟨s,hs,rfl⟩|⟨s,hs,rfl⟩)|⟨q,hq,rfl⟩)|⟨g,hg,rfl⟩
  ·exact hn.told s (by unfold dG;simp[hs])
  ·exact hn.told s (by unfold dG;simp[hs])
  ·refine⟨hn.told _ ?_,hn.told _ ?_,hn.lat q hq⟩<;>(unfold dG;simp only[zrf,List.mem_flatMap];exact .inl (.inr ⟨q,hq,by simp⟩))
  ·refine⟨hn.told _ ?_,fun s hs=>hn.told _ ?_,hp g hg⟩
   ·unfold dG;exact List.mem_append_right _ (List.mem_flatMap.2 ⟨g,hg,by simp⟩)
   ·unfold dG;exact List.mem_append_right _ (List.mem_flatMap.2 ⟨g,hg,by simp[hs]⟩)
 obtain⟨t1,t2⟩:=tX ((smC x).flatMap Sm.pcs) (o9 x).length 0 (Xu _ hok) (by rw[Fg];exact zrb _);rw[<-Fg]at t1 t2;have t1:(tkN (o9 x).length 0 (o9 x)).1.map Tk.s=(smC x).flatMap Sm.ts:=by
  rw[t1,List.flatMap_assoc]
  congr 1
  funext m
  exact Yi m
 unfold nY;rw[t2];dsimp only;rw[Jf (smC x) _ _ _ hok t1 (zrb _),Vy];dsimp only;simp only[List.nil_append];rw[if_pos ho]
theorem Jg{α:Type}{f:α->S}{l:List α}{n:Nat}(h:∀a∈l,(f a).length<=n):(l.flatMap f).length<=l.length*n:=by
 induction l with
 |nil=>simp
 |cons a l ih=>rw[List.flatMap_cons,zqa,zrt,Nat.succ_mul];have h1:=h a (by simp);have h2:=ih fun b hb=>h b (by simp[hb]);omega
theorem qh{s:S}(h:aS s=true):(aO s).length<=83:=by
 have hl:s.length<=40:=by unfold aS at h;simp only[zqf,zqb]at h;exact h.2.2
 unfold aO;split
 ·unfold bg;have:∀l:S,(l.flatMap QZ).length=2*l.length:=by
   intro l
   induction l with
   |nil=>rfl
   |cons a l ih=>rw[List.flatMap_cons,zqa,ih,zrt];simp[QZ];omega
  rw[zqa,this];have:qA.length=3:=rfl;omega
 ·omega
theorem Fj:∀ {l:List S},(∀s∈l,aS s=true)->(CQ l).length<=l.length*85
 |[],_=>Nat.zero_le _
 |[s],h=>by have:=qh (h s (by simp));show(aO s).length<=1*85;omega
 |s::t::r,h=>by have h1:=qh (h s (by simp));have h2:=Fj (l:=t::r) fun q hq=>h q (by simp[hq]);show(aO s++44::32::CQ (t::r)).length<=_;rw[zqa,zrt,zrt,zrt];omega
theorem uf{a w:S}{l:List S}(h:∀s∈l,aS s=true):(gm a w l).length<=a.length+w.length+l.length*85+3:=by have:=Fj h;unfold gm;rw[zqa,zqa,zrt,zqa,zrt,zrt,List.length_nil];omega
theorem Au{x:Ci}(ho:(sV x).1=0):(o9 x).length<=800000:=by
 have hn:=ny ho;have lm:=Vb hn.lim;have hw:∀k,(dL.getD k []).length<=4:=fun k=>by
  by_cases hk:k<10
  ·have:∀j:Fin 10,(dL.getD j.1 []).length<=4:=by decide
   exact this ⟨k,hk⟩
  ·rw[zqg,zsj (by show 10<=k;omega)];simp
 have hlw:∀k,(bM.getD k []).length<=4:=fun k=>by
  by_cases hk:k<3
  ·have:∀j:Fin 3,(bM.getD j.1 []).length<=4:=by decide
   exact this ⟨k,hk⟩
  ·rw[zqg,zsj (by show 3<=k;omega)];simp
 have k1:=Jg (f:=fun s=>gm [] iK [s]) (l:=x.ins) (n:=1000) fun s hs=>by
  have:=uf (a:=[]) (w:=iK) (l:=[s]) fun q hq=>by rw[zrc.1 hq];exact hn.told s (by unfold dG;simp[hs])
  have e:iK.length=5:=rfl;simp only[zrt,List.length_nil,e]at this;omega
 have k2:=Jg (f:=fun s=>gm [] dZ [s]) (l:=x.outs) (n:=1000) fun s hs=>by
  have:=uf (a:=[]) (w:=dZ) (l:=[s]) fun q hq=>by rw[zrc.1 hq];exact hn.told s (by unfold dG;simp[hs])
  have e:dZ.length=6:=rfl;simp only[zrt,List.length_nil,e]at this;omega
 have k3:=Jg (f:=fun q:La=>gm (aO q.name++[32,61,32]) (bM.getD q.init.toNat []) [q.next]) (l:=x.lat) (n:=1000) fun q hq=>by
  have h1:aS q.name=true:=hn.told _ (by unfold dG;simp only[zrf,List.mem_flatMap];exact .inl (.inr ⟨q,hq,by simp⟩));have h2:aS q.next=true:=hn.told _ (by unfold dG;simp only[zrf,List.mem_flatMap];exact .inl (.inr ⟨q,hq,by simp⟩))
  have:=uf (a:=aO q.name++[32,61,32]) (w:=bM.getD q.init.toNat []) (l:=[q.next]) fun s hs=>by rw[zrc.1 hs];exact h2
  have e1:=qh h1;have e2:=hlw q.init.toNat;rw[zqa]at this;simp only[zrt,List.length_nil]at this;omega
 have k4:=Jg (f:=fun g:Ga=>gm (aO g.name++[32,61,32]) (dL.getD g.op.toNat []) g.ins) (l:=x.gates) (n:=1000) fun g hg=>by have h1:aS g.name=true:=hn.told _ (by unfold dG;exact List.mem_append_right _ (List.mem_flatMap.2 ⟨g,hg,by simp⟩));have:=uf (a:=aO g.name++[32,61,32]) (w:=dL.getD g.op.toNat []) (l:=g.ins) fun s hs=>hn.told _ (by unfold dG;exact List.mem_append_right _ (List.mem_flatMap.2 ⟨g,hg,by simp[hs]⟩));have e1:=qh h1;have e2:=hw g.op.toNat;have e3:=lm.gins g hg;rw[zqa]at this;simp only[zrt,List.length_nil]at this;omega
 unfold o9;simp only[zqa];have:=lm.ins;have:=lm.outs;have:=lm.lat;have:=lm.gates;omega
theorem Jh{n k:Nat}(h:WF n (k+1) []):False:=by unfold WF at h;exact h.elim
theorem jg{n:Nat}{ins:List S}:∀(f k j:Nat)(x:Xs)(l:List Fo),WF n (k+j) l->l.length<f ->
 (aP ins f k x l).2.1.length=k/\WF n j (aP ins f k x l).2.2/\(aP ins f k x l).2.2.length+k<=l.length
 |0,_,_,_,_,_,h=>by omega
 |f+1,0,j,x,l,hw,_=>by rw[aP];rw[Nat.zero_add]at hw;exact⟨rfl,hw,zrb _⟩
 |f+1,k+1,j,x,[],hw,_=>by rw[Nat.add_right_comm]at hw;exact(Jh hw).elim
 |f+1,k+1,j,x,fo::l,hw,hf=>by
  rw[Nat.add_right_comm]at hw;unfold WF at hw;rw[zrt]at hf;rw[aP];rcases hw with⟨w1,w2,w3⟩|⟨w1,w2,w3⟩
  ·rw[if_pos w1];obtain⟨a1,a2,a3⟩:=jg f k j (Aq x ins fo.lit).1 l w3 (by omega);exact⟨by rw[zrt,a1],a2,by rw[zrt];dsimp only;omega⟩
  ·rw[if_neg (by rcases w1 with h|h<;>rw[h]<;>decide)];obtain⟨a1,a2,a3⟩:=jg f fo.kids (k+j) x l w3 (by omega);obtain⟨q,hq⟩:∃q,q=aP ins f fo.kids x l:=⟨_,rfl⟩;rw[<-hq]at a1 a2 a3 ⊢;obtain⟨b1,b2,b3⟩:=jg f k j (jG q.2.1.length q.1 [] (opF fo) (opF fo) q.2.1).1 q.2.2 a2 (by omega);exact⟨by dsimp only;rw[zrt,b1],b2,by rw[zrt];dsimp only;omega⟩
theorem jJ{n:Nat}{ins:List S}:∀(f k j:Nat)(x:Xs)(l:List Fo),WF n (k+j) l->l.length<f->aP ins (f+1) k x l=aP ins f k x l
 |0,_,_,_,_,_,h=>by omega
 |f+1,0,j,x,l,hw,_=>by rw[aP,aP]
 |f+1,k+1,j,x,[],hw,_=>by rw[Nat.add_right_comm]at hw;exact(Jh hw).elim
 |f+1,k+1,j,x,fo::l,hw,hf=>by
  rw[Nat.add_right_comm]at hw;unfold WF at hw;rw[zrt]at hf;rw[aP,aP];rcases hw with⟨w1,w2,w3⟩|⟨w1,w2,w3⟩
  ·rw[if_pos w1,if_pos w1,jJ f k j (Aq x ins fo.lit).1 l w3 (by omega)]
  ·have hn:¬fo.kind=2:=by rcases w1 with h|h<;>rw[h]<;>decide
   rw[if_neg hn,if_neg hn,jJ f fo.kids (k+j) x l w3 (by omega)];obtain⟨a1,a2,a3⟩:=jg (ins:=ins) f fo.kids (k+j) x l w3 (by omega);obtain⟨q,hq⟩:∃q,q=aP ins f fo.kids x l:=⟨_,rfl⟩;rw[<-hq]at a1 a2 a3 ⊢;dsimp only;rw[jJ f k j _ q.2.2 a2 (by omega)]
theorem yI{n:Nat}{ins:List S}{k j:Nat}{x:Xs}{l:List Fo}(hw:WF n (k+j) l):∀(d:Nat),aP ins (l.length+1+d) k x l=aP ins (l.length+1) k x l
 |0=>rfl
 |d+1=>by rw[<-Nat.add_assoc,jJ (n:=n) (l.length+1+d) k j x l hw (by omega),yI hw d]
def xsz(x:Xs):Nat:=x.gates.length+x.used.length+x.nots.1.length
theorem vS(x:Xs)(g:Ga):xsz (jA x g).1<=xsz x+2/\(jA x g).1.nots=x.nots:=by
 unfold jA;split
 ·refine⟨?_,rfl⟩;show(x.gates++_).length+(x.used++_).length+_<=x.gates.length+x.used.length+x.nots.1.length+2;simp only[zqa,zrk];omega
 ·refine⟨?_,rfl⟩;show(x.gates++_).length+x.used.length+_<=x.gates.length+x.used.length+x.nots.1.length+2;simp only[zqa,zrk];omega
theorem OV(x:Xs)(s:S):xsz (gY x s).1<=xsz x+3:=by
 unfold gY;obtain⟨h,hn⟩:=vS x ⟨[],3,[s],[],false⟩;split
 ·exact Nat.le_add_right _ _
 ·unfold xsz at h ⊢;dsimp only;rw[hn]at h;simp only[zqa,zrk];omega
theorem Xw(x:Xs)(ins:List S)(n:Nat):xsz (Aq x ins n).1<=xsz x+3:=by
 unfold Aq;split
 ·exact OV _ _
 ·exact Nat.le_add_right _ _
theorem Hu:∀(f:Nat)(x:Xs)(name:S)(op last:Int)(l:List S),l.length<=f->1<=f->xsz (jG f x name op last l).1<=xsz x+2*f
 |0,_,_,_,_,_,_,h=>by omega
 |f+1,x,name,op,last,l,hl,_=>by
  rw[jG];split
  ·rename_i h8;have h1:=(vS x ⟨[],op,l.take 8,[],false⟩).1;have h2:=Hu f (jA x ⟨[],op,l.take 8,[],false⟩).1 name op last ((jA x ⟨[],op,l.take 8,[],false⟩).2::l.drop 8) (by rw[zrt,List.length_drop];omega) (by omega);omega
  ·have h1:=(vS x ⟨name,last,l,[],false⟩).1;omega
theorem nH{n:Nat}{ins:List S}:∀(f k j:Nat)(x:Xs)(l:List Fo),WF n (k+j) l->l.length<f ->
 xsz (aP ins f k x l).1+2*k+5*(aP ins f k x l).2.2.length<=xsz x+5*l.length
 |0,_,_,_,_,_,h=>by omega
 |f+1,0,j,x,l,hw,_=>by rw[aP];dsimp only;omega
 |f+1,k+1,j,x,[],hw,_=>by rw[Nat.add_right_comm]at hw;exact(Jh hw).elim
 |f+1,k+1,j,x,fo::l,hw,hf=>by
  rw[Nat.add_right_comm]at hw;unfold WF at hw;rw[zrt]at hf;rw[aP];rcases hw with⟨w1,w2,w3⟩|⟨w1,w2,w3⟩
  ·rw[if_pos w1];have a:=nH (ins:=ins) f k j (Aq x ins fo.lit).1 l w3 (by omega);have b:=Xw x ins fo.lit;rw[zrt];dsimp only;omega
  ·rw[if_neg (by rcases w1 with h|h<;>rw[h]<;>decide)];obtain⟨a1,a2,a3⟩:=jg (ins:=ins) f fo.kids (k+j) x l w3 (by omega);have a4:=nH (ins:=ins) f fo.kids (k+j) x l w3 (by omega);obtain⟨q,hq⟩:∃q,q=aP ins f fo.kids x l:=⟨_,rfl⟩;rw[<-hq]at a1 a2 a3 a4 ⊢;have m:=Hu q.2.1.length q.1 [] (opF fo) (opF fo) q.2.1 (zrb _) (by omega);have b:=nH (ins:=ins) f k j (jG q.2.1.length q.1 [] (opF fo) (opF fo) q.2.1).1 q.2.2 a2 (by omega);rw[zrt];dsimp only;omega
theorem Aw(p:S->Bool):∀rows:List S,cZ (rows.filter p)+cZ (rows.filter fun r=> !p r)=cZ rows
 |[]=>rfl
 |r::rows=>by
  have ih:=Aw p rows;rw[List.filter_cons,List.filter_cons,dN];cases hp:p r with
  |true=>rw[if_pos rfl,if_neg (by decide:¬(!true)=true),dN];omega
  |false=>rw[if_neg (by decide:¬false=true),if_pos (by rfl:(!false)=true),dN];omega
theorem Ji(l:List Fo):(zC l).length<=l.length:=by
 match l with
 |[]=>exact zrb _
 |[f]=>show(if f.kind=1 then []else [f]).length<=1;split<;>simp
 |_::_::_=>exact zrb _
theorem CV(l:List Li)(rest:List Fo):(CE l rest).length<=1+l.length+rest.length:=by
 have:=Ji rest;unfold CE;rw[zqa,zqa,zra];split
 ·simp only[zrk];omega
 ·simp only[List.length_nil];omega
theorem CW(row:S):(bD row).length<=row.length:=by show(bV 0 row).length<=_;rw[tN];exact List.countP_le_length
theorem CX:∀rows:List S,(rows.flatMap fun r=>CE (bD r) []).length<=cZ rows
 |[]=>zrb _
 |r::rows=>by have ih:=CX rows;have h:=CV (bD r) [];have e:(bD r).length=Am r:=tN 0 r;rw[List.flatMap_cons,zqa,dN];simp only[List.length_nil]at h;omega
theorem rD:∀(f:Nat)(rows:List S),(∀r∈rows,r.length<=8)->cZ rows<f->(yB f rows).length<=10*cZ rows+1
 |0,_,_,h=>by omega
 |f+1,rows,hn,hs=>by
  unfold yB;by_cases h0:rows=[]
  ·rw[if_pos h0];simp
  rw[if_neg h0];by_cases h1:rows.any og=true
  ·rw[if_pos h1];simp
  rw[if_neg h1];obtain⟨r0,rs,rfl⟩:∃r0 rs,rows=r0::rs:=by
   cases rows with
   |nil=>exact absurd rfl h0
   |cons a b=>exact⟨a,b,rfl⟩
  have hdl:∀ {rows:List S} {l:List Li},(∀r∈rows,r.length<=8)->∀r∈aW rows l,r.length<=8:=fun h r hr=>by obtain⟨q,hq,rfl⟩:=zrh.1 hr;rw[wR];exact h q hq
  by_cases h2:dM (r0::rs)≠[]
  ·rw[if_pos h2];obtain⟨x,cs,hc⟩:∃x cs,dM (r0::rs)=x::cs:=by
    cases hcc:dM (r0::rs)with
    |nil=>exact absurd hcc h2
    |cons a b=>exact⟨a,b,rfl⟩
   have hx:x∈bD r0:=(List.mem_filter.1 (show x∈dM (r0::rs) by rw[hc];simp)).1;have hsz:cZ (aW (r0::rs) (dM (r0::rs)))<cZ (r0::rs):=by rw[hc];exact je hx
   have ih:=rD f (aW (r0::rs) (dM (r0::rs))) (hdl hn) (by omega);have ha:=CV (dM (r0::rs)) (yB f (aW (r0::rs) (dM (r0::rs))));have hcl:(dM (r0::rs)).length<=8:=Nat.le_trans (List.length_filter_le _ _) (Nat.le_trans (CW r0) (hn r0 (by simp)));omega
  ·rw[if_neg h2];by_cases h3:(lG (r0::rs)).2<2
   ·rw[if_pos h3,zrt];have:=CX (r0::rs);omega
   ·rw[if_neg h3];obtain⟨x,hx⟩:∃x,x=(lG (r0::rs)).1:=⟨_,rfl⟩;rw[<-hx];have hcnt:2<=iU (r0::rs) x:=by
     rcases Hf (r0::rs)with⟨h,_⟩|⟨_,h⟩
     ·omega
     ·rw[hx];omega
    obtain⟨q0,qs,hq⟩:∃q0 qs,(r0::rs).filter (lI x)=q0::qs:=by
     cases hf:(r0::rs).filter (lI x)with
     |nil=>exfalso;unfold iU at hcnt;rw[List.countP_eq_length_filter,hf]at hcnt;simp at hcnt
     |cons a b=>exact⟨a,b,rfl⟩
    have hq0:x∈bD q0:=by
     have:q0∈(r0::rs).filter (lI x):=by rw[hq];simp
     exact uQ (List.mem_filter.1 this).2
    have s1:cZ (aW ((r0::rs).filter (lI x)) [x])<cZ ((r0::rs).filter (lI x)):=by rw[hq];exact je hq0
    have s2:=Aw (lI x) (r0::rs);have i1:=rD f (aW ((r0::rs).filter (lI x)) [x]) (hdl fun r hr=>hn r (List.mem_filter.1 hr).1) (by omega);have i2:=rD f ((r0::rs).filter fun r=> !lI x r) (fun r hr=>hn r (List.mem_filter.1 hr).1) (by omega);have ha:=CV [x] (yB f (aW ((r0::rs).filter (lI x)) [x]));rw[zrt,zqa];simp only[zrk]at ha;omega
theorem CY:∀(rows acc:List S),(rows.foldl (fun l r=>if l.contains r=true then l else l++[r]) acc).length<=acc.length+rows.length
 |[],acc=>by simp
 |r::rows,acc=>by
  rw[List.foldl_cons];have:=CY rows (if acc.contains r=true then acc else acc++[r]);refine Nat.le_trans this ?_;split
  ·simp only[zrt];omega
  ·simp only[zrt,zqa,zrk,List.length_nil];omega
theorem yJ{m:Nat}:∀rows:List S,(∀r∈rows,r.length<=m)->cZ rows<=(m+1)*rows.length
 |[],_=>Nat.zero_le _
 |r::rows,h=>by have ih:=yJ rows fun q hq=>h q (by simp[hq]);have h1:=h r (by simp);have h2:Am r<=r.length:=List.countP_le_length;rw[dN,zrt,Nat.mul_add];omega
theorem Jj{rows:List S}(h1:rows.length<=128)(h2:∀r∈rows,r.length<=8):(TW (dQ rows)).length<=11521:=by
 have hu:=CY rows [];have hm:∀r∈dQ rows,r.length<=8:=fun r hr=>by
  rcases qg rows [] r hr with h|h
  ·cases h
  ·exact h2 r h
 have hs:=yJ (dQ rows) hm;have hl:(dQ rows).length<=128:=Nat.le_trans hu (by simpa using h1);have hf:=rD (cZ (dQ rows)+1) (dQ rows) hm (by omega);show(yB _ _).length<=_;omega
theorem Sr{x:Xs}{g:Ga}(h1:g.rows.length<=128)(h2:∀r∈g.rows,r.length=g.ins.length)(h3:g.ins.length<=8):xsz (tV x g)<=xsz x+60000:=by
 have hl:=Jj (rows:=g.rows) h1 fun r hr=>by rw[h2 r hr];exact h3
 have hw:=Ap (n:=g.ins.length) (cZ (dQ g.rows)+1) (dQ g.rows) (fun r hr=>by
  rcases qg g.rows [] r hr with h|h
  ·cases h
  ·exact h2 r h) (by omega)
 unfold tV;have hp:∀g',xsz (jA x g').1<=xsz x+60000:=fun g'=>by have:=(vS x g').1;omega
 cases hf:TW (dQ g.rows)with
 |nil=>dsimp only;omega
 |cons fo l =>
  rw[hf,zrt]at hl;dsimp only;split
  ·exact hp _
  ·split
   ·exact hp _
   ·split
    ·exact hp _
    ·rename_i k0 k1 k2;have hwf:WF g.ins.length 1 (fo::l):=by
      have e:yB (cZ (dQ g.rows)+1) (dQ g.rows)=fo::l:=hf;rw[e]at hw;rcases hw with⟨_,h⟩|⟨_,fo',h,h'⟩|⟨_,_,h⟩
      ·injection h with h _;rw[h]at k0;exact absurd rfl k0
      ·injection h' with h' _;rw[h']at k1;exact absurd h k1
      ·exact h
     unfold WF at hwf;rcases hwf with⟨w1,_⟩|⟨w1,w2,w3⟩
     ·exact absurd w1 k2
     ·obtain⟨a1,a2,a3⟩:=jg (ins:=g.ins) (l.length+1) fo.kids 0 x l w3 (by omega);have a4:=nH (ins:=g.ins) (l.length+1) fo.kids 0 x l w3 (by omega);have m:=Hu (aP g.ins (l.length+1) fo.kids x l).2.1.length (aP g.ins (l.length+1) fo.kids x l).1 g.name (opF fo) (iE g.off (opF fo)) (aP g.ins (l.length+1) fo.kids x l).2.1 (zrb _) (by omega);omega
def nlX(x:Xs):Prop:=x.nots.1.length=x.nots.2.length
theorem yK{x:Xs}(g:Ga)(h:nlX x):nlX (jA x g).1:=by unfold nlX;rw[(vS x g).2];exact h
theorem OW{x:Xs}(s:S)(h:nlX x):nlX (gY x s).1:=by
 unfold gY;split
 ·exact h
 ·show(x.nots.1++[s]).length=(x.nots.2++_).length;simp only[zqa,zrk];have:x.nots.1.length=x.nots.2.length:=h;omega
theorem Ub{x:Xs}(ins:List S)(n:Nat)(h:nlX x):nlX (Aq x ins n).1:=by
 unfold Aq;split
 ·exact OW _ h
 ·exact h
theorem CZ:∀(f:Nat) {x:Xs} (name:S) (op last:Int) (l:List S),nlX x->nlX (jG f x name op last l).1
 |0,x,name,op,last,l,h=>yK _ h
 |f+1,x,name,op,last,l,h=>by
  rw[jG];split
  ·exact CZ f name op last _ (yK _ h)
  ·exact yK _ h
theorem qj{ins:List S}:∀(f k:Nat) {x:Xs} (l:List Fo),nlX x->nlX (aP ins f k x l).1
 |0,_,_,_,h=>by rw[aP];exact h
 |f+1,0,_,_,h=>by rw[aP];exact h
 |f+1,k+1,_,[],h=>by rw[aP];exact h
 |f+1,k+1,x,fo::l,h=>by
  rw[aP];split
  ·exact qj f k l (Ub ins fo.lit h)
  ·exact qj f k _ (CZ _ _ _ _ _ (qj f fo.kids l h))
def mi(ins:List S)(x:Xs)(fo:Fo)(l:List Fo):Xs×S×List Fo :=
 if fo.kind=2 then((Aq x ins fo.lit).1,(Aq x ins fo.lit).2,l)
 else((jG (aP ins (l.length+1) fo.kids x l).2.1.length (aP ins (l.length+1) fo.kids x l).1 [] (opF fo) (opF fo) (aP ins (l.length+1) fo.kids x l).2.1).1,(jG (aP ins (l.length+1) fo.kids x l).2.1.length (aP ins (l.length+1) fo.kids x l).1 [] (opF fo) (opF fo) (aP ins (l.length+1) fo.kids x l).2.1).2,(aP ins (l.length+1) fo.kids x l).2.2)
theorem Az{n:Nat}{ins:List S}{k j F:Nat}{x:Xs}{fo:Fo}{l:List Fo}(hw:WF n (k+1+j) (fo::l))(hF:l.length+1<F) :
 aP ins F (k + 1) x (fo :: l) = ((aP ins F k (mi ins x fo l).1 (mi ins x fo l).2.2).1,(mi ins x fo l).2.1 :: (aP ins F k (mi ins x fo l).1 (mi ins x fo l).2.2).2.1,(aP ins F k (mi ins x fo l).1 (mi ins x fo l).2.2).2.2)
  /\ WF n (k+j) (mi ins x fo l).2.2/\(mi ins x fo l).2.2.length<=l.length:=by
 obtain⟨f,rfl⟩:∃f,F=f+1:=⟨F-1,by omega⟩;rw[Nat.add_right_comm]at hw;unfold WF at hw;unfold mi;rcases hw with⟨w1,w2,w3⟩|⟨w1,w2,w3⟩
 ·rw[if_pos w1];dsimp only;refine⟨?_,w3,zrb _⟩;rw[jJ (n:=n) f k j _ l w3 (by omega),aP,if_pos w1]
 ·have hn:¬fo.kind=2:=by rcases w1 with h|h<;>rw[h]<;>decide
  rw[if_neg hn];obtain⟨d,hd⟩:∃d,f=l.length+1+d:=⟨f-(l.length+1),by omega⟩;have hfu:aP ins f fo.kids x l=aP ins (l.length+1) fo.kids x l:=by rw[hd];exact yI (n:=n) (j:=k+j) w3 d
  obtain⟨a1,a2,a3⟩:=jg (n:=n) (ins:=ins) (l.length+1) fo.kids (k+j) x l w3 (by omega);dsimp only;refine⟨?_,a2,by omega⟩;rw[jJ (n:=n) f k j _ _ a2 (by omega),aP,if_neg hn,hfu]
theorem Vz{n:Nat}{ins:List S}{j:Nat}{x:Xs}{fo:Fo}{l:List Fo}(hw:WF n (1+j) (fo::l)):xsz (mi ins x fo l).1+5*(mi ins x fo l).2.2.length<=xsz x+5*(l.length+1):=by have h:=nH (ins:=ins) (l.length+2) 1 j x (fo::l) hw (by simp);have hs:=(Az (ins:=ins) (F:=l.length+2) (x:=x) (k:=0) (j:=j) (n:=n) (by rw[Nat.zero_add];exact hw) (by omega)).1;rw[hs,zrt]at h;rw[aP]at h;dsimp only at h;omega
theorem VA{ins:List S}{x:Xs}(fo:Fo)(l:List Fo)(h:nlX x):nlX (mi ins x fo l).1:=by
 unfold mi;split
 ·exact Ub _ _ h
 ·exact CZ _ _ _ _ _ (qj _ _ _ h)
theorem Su[MO](c:UInt8):Ev TE 323 [vb c] (.bool (E8 c)):=by have e1:decide ((32:Int)<(c.toNat:Int))=decide (32<c.toNat):=decide_eq_decide.2 (by omega);have e2:decide ((c.toNat:Int)<=126)=decide (c.toNat<=126):=decide_eq_decide.2 (by omega);refine ak Tryz.func323 rfl (by simp[nts]) (vm ?_);simp only[wq.1,seval,Tryz.results323,e1,e2];exact aG.eq rfl rfl
def Uc:S:=[61,40,41,44]
def VB:S:=[61,40,41,44,35]
theorem Sv(c:UInt8):Uc.contains c=ru c:=by unfold Uc ru;simp only[List.contains_cons,List.contains_nil,Bool.or_false,Bool.or_assoc]
theorem VC(c:UInt8):VB.contains c=(ru c||c==35):=by unfold VB ru;simp only[List.contains_cons,List.contains_nil,Bool.or_false,Bool.or_assoc]
theorem OX[MO](c:UInt8):Ev TE 322 [vb c] (.bool (gX c)):=by
 have h:=EC VB c.toNat (by have:=c.toNat_lt;omega);rw[UInt8.ofNat_toNat]at h;refine ak Tryz.func322 rfl (by simp[nts]) (vm ?_);simp only[wq.1,seval,Tryz.results322];refine ag.ev (Su c) rfl ?_;unfold gX;cases hg:E8 c with
 |false=>simp only[wq.1,seval];refine⟨vi 0,?_⟩;simp only[wq.1,Int.reduceLT];exact aG.dat rfl
 |true=>simp only[wq.1,seval];refine ag.ev h rfl ?_;simp only[wq.1,seval];refine aG.eq rfl ?_;rw[Cb,VC]
def yL(p:Nat):S->Option (Option Tk×Nat)
 |[]=>some (none,0)
 |c::r =>
  if c=35 then some (none,Dt (· != 10) (c::r))
  else if o6 c=true then some (none,1)
  else if ru c=true then some (some ⟨1,[c],p⟩,1)
  else if gX c=true then some (some ⟨0,(c::r).takeWhile gX,p⟩,Dt gX (c::r))
  else none
theorem Jk{n p:Nat}{c:UInt8}{r:S}:tkN (n+1) p (c::r)=match yL p (c::r)with
 |none=>([],some p)
 |some (o,m)=>(o.toList++(tkN n (p+m) ((c::r).drop m)).1,(tkN n (p+m) ((c::r).drop m)).2):=by
 rw[tkN,yL];by_cases h1:c=35
 ·rw[if_pos h1,if_pos h1,Cc];rfl
 rw[if_neg h1,if_neg h1];by_cases h2:o6 c=true
 ·rw[if_pos h2,if_pos h2];rfl
 rw[if_neg h2,if_neg h2];by_cases h3:ru c=true
 ·rw[if_pos h3,if_pos h3];rfl
 rw[if_neg h3,if_neg h3];by_cases h4:gX c=true
 ·rw[if_pos h4,if_pos h4,Cc];rfl
 rw[if_neg h4,if_neg h4]
theorem OY{p:Nat}{c:UInt8}{r:S}{o:Option Tk}{m:Nat}(h:yL p (c::r)=some (o,m)):1<=m/\m<=(c::r).length:=by
 have hw:∀q:UInt8->Bool,q c=true->1<=Dt q (c::r)/\Dt q (c::r)<=(c::r).length:=fun q hq=>by unfold Dt;refine⟨by rw[List.takeWhile_cons,if_pos hq];simp,(List.takeWhile_sublist _).length_le⟩
 have h1l:1<=(c::r).length:=by simp
 rw[yL]at h;split at h
 ·rename_i h1;have:=hw (· != 10) (by rw[h1];decide);injection h with h;injection h with _ h;rw[<-h];exact this
 ·split at h
  ·injection h with h;injection h with _ h;rw[<-h];exact⟨zrb _,h1l⟩
  ·split at h
   ·injection h with h;injection h with _ h;rw[<-h];exact⟨zrb _,h1l⟩
   ·split at h
    ·rename_i h4;injection h with h;injection h with _ h;rw[<-h];exact hw _ h4
    ·cases h
abbrev VD(a:Nat):V:= .iface 193 (.agg [vi a])
theorem VE[MO](k:Int)(s:S)(a:Nat){h:H}{R:AEnd->H->(Nat->Bool)->Prop}(hr:∀X,R (.pan (VD a)) (h++X) (fun _=>false)):ag TE 320 [vi k,.str s,vi a,vi 0] h R:=by refine aj Tryz.func320 rfl (by simp[nts]) (vm ?_);simp only[wq.1,seval,Tryz.results320];refine⟨by simp,?_⟩;simp only[XE.seq];exact bU (R:=R) rfl (hr _)
theorem SA{s:S}{a:Nat}{c:UInt8}{r:S}(hr:s.drop a=c::r):∃ha:a<s.length,s[a]=c:=by
 have ha:a<s.length:=by have:=congrArg List.length hr;rw[List.length_drop,zrt]at this;omega
 refine⟨ha,?_⟩;have:=List.drop_eq_getElem_cons ha;rw[hr]at this;injection this with h1 _;exact h1.symm
theorem OZ(c:UInt8):decide (0<=Lib.indexByte [32,9,13,10] c)=o6 c:=by rw[IL];unfold o6;simp only[List.contains_cons,List.contains_nil,Bool.or_false,Bool.or_assoc]
theorem SB(c:UInt8):decide (0<=Lib.indexByte [61,40,41,44] c)=ru c:=by rw[IL];exact Sv c
theorem yM[MO](s:S)(a:Nat)(c:UInt8)(r:S)(hr:s.drop a=c::r)(hs:s.length<=1000000000):ag TE 317 [.agg [],.str s,vi a] [] (fun ae _ _=>match yL a (c::r)with
 |some (o,m)=>ae= .ret (.tup [tkO o,vi m])
 |none=>ae= .pan (VD a)):=by
 have hM:=mLx;obtain⟨ha,hc⟩:=SA hr;have hln:=UW s a (by omega) hs;have hib:=EC [32,9,13,10] c.toNat (by have:=c.toNat_lt;omega);have him:=EC [61,40,41,44] c.toNat (by have:=c.toNat_lt;omega);rw[UInt8.ofNat_toNat]at hib him;have hrn:=TM s a 322 gX (by omega) hs (by simp[ens]) OX;rw[hr]at hln hrn;have e35:((c.toNat:Int)==35)=(c==35):=Xe c 35;have hlen:(c::r).length=s.length-a:=by rw[<-hr,List.length_drop]
 have hpos:Dt gX (c::r)<=(c::r).length:=(List.takeWhile_sublist _).length_le;obtain⟨R,hR⟩:∃R,R=yL a (c::r):=⟨_,rfl⟩;rw[<-hR];rw[yL]at hR;refine aj Tryz.func317 rfl (by simp[nts]) (vm ?_);simp only[wq.1,seval,Tryz.results317,QQ ha,hc,e35];refine⟨⟨by omega,by omega⟩,vcB.mk (fun h1=> ?_) (fun h1=> ?_)⟩
 ·rw[if_pos (by simpa using h1)]at hR;subst hR;simp only[wq.1,seval];refine ag.ev hln rfl ?_;simp only[wq.1,seval];refine ag.ev (NK _) rfl ?_;simp only[wq.1,seval]
 rw[if_neg (by simpa using h1)]at hR;simp only[wq.1,seval];refine ag.ev hib rfl ?_;simp only[wq.1,seval,OZ];refine vcB.mk (fun h2=> ?_) (fun h2=> ?_)
 ·rw[if_pos h2]at hR;subst hR;simp only[wq.1,Nat.reduceLT];refine ag.ev (NK _) rfl ?_;simp only[wq.1,↓reduceIte,Nat.reduceEqDiff,Nat.reduceLT,Nat.reduceAdd,Int.reduceNeg,reduceCtorEq];rfl
 rw[if_neg (by rw[h2];decide)]at hR;simp only[wq.1,seval];refine ag.ev him rfl ?_;simp only[wq.1,seval,SB];refine vcB.mk (fun h3=> ?_) (fun h3=> ?_)
 ·rw[if_pos h3]at hR;subst hR;have h:=TN 1 s a 1 (by decide) (by omega) hs;rw[hr]at h;simp only[wq.1,seval];refine ag.ev h rfl ?_;simp only[wq.1,seval];rfl
 rw[if_neg (by rw[h3];decide)]at hR;by_cases h4:gX c=true
 ·rw[if_pos h4]at hR;subst hR;have h:=TN 0 s a (Dt gX (c::r)) (by unfold Dt;rw[List.takeWhile_cons,if_pos h4];simp) (by omega) hs;rw[hr]at h;have ht:(c::r).take (Dt gX (c::r))=(c::r).takeWhile gX:=by
   unfold Dt
   conv=>lhs;rw[<-List.takeWhile_append_dropWhile (p:=gX) (l:=c::r)]
   rw[List.take_append_of_le_length (by simp)];simp
  rw[ht]at h;simp only[wq.1,seval];refine ag.ev hrn rfl ?_;simp only[wq.1,seval];refine ag.ev h rfl ?_;simp only[wq.1,seval];rfl
 ·rw[if_neg h4]at hR;subst hR;have h0:Dt gX (c::r)=0:=by
   unfold Dt;rw[List.takeWhile_cons,if_neg h4];rfl
  rw[h0]at hrn;simp only[wq.1,seval];refine ag.ev hrn rfl ?_;simp only[wq.1,seval];refine VE _ _ _ fun X=> ?_;simp only[wq.1,fB];simp only[XE.seq];exact bU (R:=fun ae _ _=>ae=AEnd.pan (VD a)) rfl rfl
abbrev liV(x:Li):V:= .agg [vi x.1,vi x.2.toNat]
abbrev foV(f:Fo):V:= .agg [vi f.kind,vi f.lit,vi f.kids]
abbrev wF(l:List Li):V:= .is false 2 (l.map liV)
abbrev nI(l:List Fo):V:= .is false 3 (l.map foV)
theorem mr:∀l:List Li,V.dats (l.map liV)=true
 |[]=>rfl
 |t::l=>by show(V.dat (liV t)&&V.dats (l.map liV))=true;rw[mr l];rfl
theorem kE:∀l:List Fo,V.dats (l.map foV)=true
 |[]=>rfl
 |t::l=>by show(V.dat (foV t)&&V.dats (l.map foV))=true;rw[kE l];rfl
theorem Xx{l:List Li}{i:Nat}(h:i<l.length)(d:V):(l.map liV).getD i d=liV l[i]:=fP h _
theorem O0[MO](x:Li)(hx:x.1<=1000000000):Ev TE 262 [liV x] (foV (mg x)):=by
 have hM:=mLx;have w1:IntKind.i64.wrap (2*(x.1:Int))=((2*x.1:Nat):Int):=by rw[iL (by omega) (by omega)];omega
 have w2:IntKind.i64.wrap (((2*x.1:Nat):Int)+1)=((2*x.1+1:Nat):Int):=by rw[iL (by omega) (by omega)];omega
 have e48:((x.2.toNat:Int)==48)=(x.2==48):=Xe x.2 48;unfold mg;refine ak Tryz.func262 rfl (by simp[nts]) (vm ?_);simp only[wq.1,↓reduceIte,Nat.reduceEqDiff,Nat.reduceLT,Nat.reduceLeDiff,Nat.reduceAdd,Int.reduceToNat,Int.reduceLE,Nat.reduceMul,Tryz.results262,w1,e48];cases h:x.2==48 with
 |true =>
  have h':x.2=48:=by simpa using h
  rw[if_pos h'];simp only[wq.1,↓reduceIte,Nat.reduceEqDiff,Nat.reduceLT,Nat.reduceLeDiff,Nat.reduceAdd,Nat.reduceSub,Int.reduceToNat,Nat.reduceDiv,Int.reduceLT,Int.reduceLE,Int.reduceNeg,Int.reduceBEq,Int.reduceBNe,Int.reduceAdd,Int.reduceSub,Nat.reduceBEq,reduceCtorEq,Nat.reduceMul,au,Tryz.results262,w2];exact⟨by decide,by decide,aG.dat rfl⟩
 |false =>
  have h':¬x.2=48:=by simpa using h
  rw[if_neg h'];simp only[wq.1,↓reduceIte,Nat.reduceEqDiff,Nat.reduceLT,Nat.reduceAdd,reduceCtorEq];exact⟨by decide,by decide,aG.dat rfl⟩
theorem ug[MO](row:S):Ev TE 211 [.str row] (.fn (.func 261) [] [.ip (.str row)]):=by refine ak Tryz.func211 rfl (by simp[nts]) (vm ?_);simp only[wq.1,seval,Tryz.results211];exact aG.fn ay.nil (ay.cons (aG.lp rfl (ay.dat rfl) rfl rfl (by simp[V.vc]) rfl) ay.nil)
theorem VF[MO](h:H)(c:UInt8):ja P h 5 3 (.int .u8 c.toNat)=(True,vi c.toNat):=by have hc:=c.toNat_lt;have hw:IntKind.i64.wrap (c.toNat:Int)=(c.toNat:Int):=iL (by omega) (by omega);unfold ja;simp only[wq.1,hw]
theorem C9:∀(a b:S)(k:Nat),bV k (a++b)=bV k a++bV (k+a.length) b
 |[],b,k=>rfl
 |c::a,b,k=>by
  rw[List.cons_append,bV,bV,C9 a b (k+1),zrt,show k+1+a.length=k+(a.length+1) by omega];split
  ·rfl
  ·rfl
theorem VG{row:S}{i:Nat}(h:i<row.length):bD row=bD (row.take i)++bV i (row[i]::row.drop (i+1)):=by
 have e:row=row.take i++(row[i]::row.drop (i+1)):=by rw[<-List.drop_eq_getElem_cons h,List.take_append_drop]
 unfold bD
 conv=>lhs;rw[e]
 rw[C9,zrl,Nat.min_eq_left (by omega),Nat.zero_add]
theorem O1{row:S}{i:Nat}(h:i<row.length):bD (row.take (i+1))=bD (row.take i)++(if row[i]=45 then []else [(i,row[i])]):=by unfold bD;rw[List.take_succ_eq_append_getElem h,C9,zrl,Nat.min_eq_left (by omega),Nat.zero_add];rw[bV,bV]
theorem yN[MO](row:S)(hr:row.length<=1000000000):YG TE 261 [] [.ip (.str row)] ((bD row).map fun x=>[liV x]):=by
 have hM:=mLx;intro id h I Stop h0 step;refine aj Tryz.func261 rfl (by simp[nts]) (vm ?_);simp only[wq.1,seval,Tryz.results261];refine aC (fun m f h=>∃i,m+i=row.length/\f.t 0= .yd id/\f.t 1= .ip (.str row)/\f.t 5=vi row.length/\f.t 6=vi i/\f.d=[]/\f.k id=false/\I (bD (row.take i)).length h f.k) row.length ⟨0,by omega,rfl,rfl,rfl,rfl,rfl,rfl,h0⟩ ?_;rintro m f h ⟨i,hm,t0,t1,t5,t6,hd,hk,hI⟩;have hw:=aB (show i<maxLen by omega);refine vm ?_;simp only[wq.1,seval,t5,t6];refine vcB.mk (fun hc=> ?_) (fun hc=> ?_)
 ·have hlt:i<row.length:=by have:=zqs hc;omega
  obtain⟨c,ec⟩:∃c,c=row[i]:=⟨_,rfl⟩;have hgc:=QQ hlt;rw[<-ec]at hgc;have e45:((c.toNat:Int) != 45)=(c != 45):=Xd c 45;have hat:=VG hlt;have hsu:=O1 hlt;rw[<-ec]at hat hsu;by_cases h45:c=45
  ·have hb:(c != 45)=false:=by rw[h45];rfl
   rw[if_pos h45,zqp]at hsu;simp only[wq.1,seval,t0,t1,t6,hgc,e45,hb];refine⟨⟨by omega,by omega⟩,.bool true,?_⟩;simp only[wq.1,seval,t6,hw];refine .inl ⟨m-1,by omega,i+1,by omega,by simp only[wq.1,seval,t0],by simp only[wq.1,seval,t1],by simp only[wq.1,seval,t5],by simp only[wq.1,↓reduceIte],by simp only[wq.1,hd],by simp only[wq.1,hk],?_⟩;rw[hsu];exact hI
  ·have hb:(c != 45)=true:=by simpa using h45
   rw[if_neg h45]at hsu;rw[bV,if_neg h45]at hat;have hj:(bD (row.take i)).length<(bD row).length:=by rw[hat];simp
   have hget:((bD row).map fun x=>[liV x])[(bD (row.take i)).length]'(by rw[zra];exact hj)=[liV (i,c)]:=by
    rw[List.getElem_map]
    congr 2
    have:(bD row)[(bD (row.take i)).length]? =some (i,c):=by rw[hat];simp
    rw[zqk hj]at this;injection this
   have hst:=step _ h f.k (by rw[zra];exact hj) hk hI;rw[hget]at hst;obtain⟨t,n',ps,asg,body,pend,hL,hsz,hps,hw2⟩:=hst;simp only[wq.1,seval,t0,t1,t6,hgc,e45,hb,hL,VF];refine⟨⟨by omega,by omega⟩,⟨by omega,by omega⟩,⟨by simpa using hsz,hps⟩,oH hw2 ?_⟩;rintro j h' p hp hS;refine⟨by simp[rU,hd],?_⟩;cases j with
   |none=>simp only[wq.1,seval,t6,Option.isNone_none];refine .inl ⟨m-1,by omega,i+1,by omega,by simp only[wq.1,seval,t0,hp],by simp only[wq.1,seval,t1],by simp only[wq.1,seval,t5],by simp only[wq.1,↓reduceIte,hw],by simp only[wq.1,hd],by simp only[wq.1,hk,hp],?_⟩;rw[hsu,zqa];exact hS
   |some c'=>simp only[wq.1,seval,hd,hp,hk,Option.isNone_some];exact .inr ⟨c',hS⟩
 ·have hi:i=row.length:=by have:=of_decide_eq_false hc;omega
  rw[hi,zrx]at hI;simp only[wq.1,hd,hk];refine .inl ?_;exact hI
theorem Jl[MO](x:Li):Ev TE 217 [liV x] (.fn (.func 264) [] [.ip (liV x)]):=by refine ak Tryz.func217 rfl (by simp[nts]) (vm ?_);simp only[wq.1,seval,Tryz.results217];exact aG.fn ay.nil (ay.cons (aG.lp rfl (ay.dat rfl) rfl rfl (by simp[V.vc]) rfl) ay.nil)
theorem Yj:Ik P 279 [.i64,.i64]:=by
 refine⟨by kernel_rfl,fun w xs ys hx hy=> ?_⟩
 match xs,hx with
 |[a,b],_ =>
 match ys,hy with
 |[a',b'],_ =>
 have hs:(sizeOf 3).run P w= .ok 1 w:=by
  have hi:∃i,P.info? 3=some i:=info_of_underlying Tryz.underlying3;obtain⟨i,hi⟩:=hi;rw[run_sizeOf w hi];have:P.cellsOf 3=1:=by kernel_rfl
  rw[this]
 show(Op.equalIn 10000 279 (.agg #[.int .i64 a,.int .i64 b]) (.agg #[.int .i64 a',.int .i64 b'])).run P w= .ok ([a,b]==[a',b']) w;rw[zJ Tryz.underlying279 Tryz.underlying3 9998 a b a' b' hs]
 congr 1
 rw[Bool.eq_iff_iff];simp
theorem Xy(x y:Li):([(x.1:Int),((x.2.toNat:Nat):Int)]==[(y.1:Int),((y.2.toNat:Nat):Int)])=(x==y):=by rcases x with⟨a,c⟩;rcases y with⟨b,d⟩;rw[Bool.eq_iff_iff,beq_iff_eq,beq_iff_eq];simp only[List.cons.injEq,Int.ofNat_inj,and_true,Prod.mk.injEq,UInt8.toNat_inj]
theorem yO[MO](x:Li)(row:S)(hr:row.length<=1000000000):Ev TE 264 [.str row,.ip (liV x)] (.bool (lI x row)):=by
 refine ak Tryz.func264 rfl (by simp [nts]) ?_;refine vn ?_;simp only [wq.1,Nat.reduceLT,Tryz.results264];refine vn ?_;simp only [wq.1,seval];refine ag.ev (ug row) rfl ?_;simp only [wq.1];refine jc (n := 11) (q := 261) (first := []) (captured := [.ip (.str row)]) (by simp only [wq.1,↓reduceIte]) (by simp only [wq.1,↓reduceIte]) rfl (by decide) ?_;intro L hLd gets;refine ag.mono (yN row hr 2 _
  (fun j h k=>(∀i<3,k i=false)/\(∀y∈(bD row).take j,y≠x)/\∃t X,t 3= .lp 0 0/\t 1= .ip (liV x)/\h=[.cells [.bool false],.misc .dfd,L t .ready none]++X)
  (fun c h k=>x∈bD row/\(∀i<3,k i=false)/\c=some .ret/\∃t X,h=[.cells [.bool true],.misc .dfd,L t .done (some .ret)]++X) ?_ ?_) ?_
 ·exact⟨fun i _=>rfl,fun y hy=>by simp at hy,_,[],rfl,rfl,by rw[zqp];rfl⟩
 ·rintro i h k hi hk ⟨h1,h2,t,X,t3,t1,rfl⟩;rw[zra]at hi;obtain⟨y,hy⟩:∃y,y=(bD row)[i]:=⟨_,rfl⟩;have hym:y∈bD row:=hy▸zqu hi;have hit:((bD row).map fun x=>[liV x])[i]'(by rw[zra];exact hi)=[liV y]:=by rw[List.getElem_map,<-hy]
  rw[hit];refine gets _ _ _ t rfl rfl (fun lb=> ?_);have hb:=Xy y x;have k0:=h1 0 (by decide);have k1:=h1 1 (by decide);have gE:∀o:O,(X++[o])[X.length]? =some o:=fun o=>by simp
  have gS:∀o o':O,(X++[o]).set X.length o'=X++[o']:=fun o o'=>by simp
  refine vm ?_;simp only[wq.1,seval,rZ,gE,gS];refine⟨t,rfl,?_⟩;refine aA ?_;refine vn ?_;simp only[wq.1,seval,t1,gE];refine⟨Yj,?_⟩;rw[hb];cases hxy:y==x with
  |true =>
   have hxy:y=x:=by simpa using hxy
   refine vm ?_;simp only[wq.1,seval,t3,nR,XE.jump];exact⟨t,_,rfl,hxy▸hym,h1,t,_,rfl⟩
  |false =>
   have hxy:y≠x:=by simpa using hxy
   refine vm ?_;simp only[wq.1,↓reduceIte,nR,XE.jump];refine⟨t,_,rfl,h1,fun z hz=> ?_,t,_,t3,t1,rfl⟩;rw[List.take_succ_eq_append_getElem hi,<-hy]at hz;rcases zrf.1 hz with hz|hz
   ·exact h2 z hz
   ·rw[zrc.1 hz];exact hxy
 ·rintro ae h' p ⟨hp,hr⟩;cases ae with
  |pan v=>exact hr.elim
  |ret v =>
   rcases hr with⟨h1,h2,t,X,t3,t1,rfl⟩|⟨c,hx,h1,hc,t,X,rfl⟩
   ·have hf:lI x row=false:=by
     cases hh:lI x row with
     |false=>rfl
     |true=>exact absurd rfl (h2 x (by rw[zqh (by rw[zra];exact zrb _)];exact uQ hh))
    have k0:=h1 0 (by decide);have k1:=h1 1 (by decide);have k2:=h1 2 (by decide);refine⟨fun i hi=> ?_,hp,t,_,none,(by decide),rfl,?_⟩
    ·have hi:i=1:=by simpa [rU,rV]using hi
     subst hi;exact k1
    ·simp only[wq.1,Nat.reduceAdd,zl];refine vm ?_;simp only[wq.1,seval,k0];rw[hf];exact aG.dat rfl
   ·have hf:lI x row=true:=List.contains_iff_mem.2 hx;have k0:=h1 0 (by decide);have k1:=h1 1 (by decide);have k2:=h1 2 (by decide);refine⟨fun i hi=> ?_,hp,t,_,some .ret,(by decide),rfl,?_⟩
    ·have hi:i=1:=by simpa [rU,rV]using hi
     subst hi;exact k1
    ·simp only[wq.1,seval,zl,k0];rw[hf];exact aG.dat rfl
theorem AA[MO](rows:List S)(x:Li)(hl:rows.length<=1000000000)(hr:∀r∈rows,r.length<=1000000000):Ev TE 212 [aN rows,liV x] (vi (iU rows x)):=by
 have hM:=mLx;refine ak Tryz.func212 rfl (by simp[nts]) (vm ?_);simp only[wq.1,seval,Tryz.results212];refine aC (fun m f h=>∃i,m+i=rows.length/\f.t 0=aN rows/\f.t 3= .lp 0 0/\f.t 5=vi (iU (rows.take i) x)/\f.t 8=aN rows/\f.t 9=vi rows.length/\f.t 10=vi i/\f.d=[]/\h[0]? =some (.cells [vi x.1,vi x.2.toNat])) rows.length ⟨0,by omega,rfl,rfl,rfl,rfl,by rfl,rfl,rfl,rfl⟩ ?_;rintro m f h ⟨i,hm,t0,t3,t5,t8,t9,t10,hd,h0⟩;have hw:=aB (show i<maxLen by omega);refine vm ?_;simp only[wq.1,seval,t9,t10];refine vcB.mk (fun hc=> ?_) (fun hc=> ?_)
 ·have hlt:i<rows.length:=by have:=zqs hc;omega
  have hsu:iU (rows.take (i+1)) x=iU (rows.take i) x+if lI x rows[i]=true then 1 else 0:=by unfold iU;rw[List.take_succ_eq_append_getElem hlt,List.countP_append,List.countP_singleton]
  have hcl:iU (rows.take i) x<=i:=Nat.le_trans List.countP_le_length (by rw[zrl];omega);have hh:=yO x rows[i] (hr _ (zqu hlt));simp only[wq.1,seval,t3,t8,t10,h0,zW hlt];refine⟨⟨by omega,by omega⟩,ag.ev (Jl x) rfl ?_⟩;simp only[wq.1,seval];refine ag.ev hh rfl ?_;cases hb:lI x rows[i]with
  |true=>rw[hb,if_pos rfl]at hsu;simp only[wq.1,seval,t5,t10,aB (show iU (rows.take i) x<maxLen by omega)];exact .inl ⟨m-1,by omega,i+1,by omega,by simp only[wq.1,seval,t0],by simp only[wq.1,seval,t3],by simp only[wq.1,seval,hsu],by simp only[wq.1,seval,t8],by simp only[wq.1,seval,t9],by simp only[wq.1,↓reduceIte,hw],by simp only[wq.1,hd],h0⟩
  |false=>rw[hb,if_neg (by decide),Nat.add_zero]at hsu;simp only[wq.1,seval,t10];exact .inl ⟨m-1,by omega,i+1,by omega,by simp only[wq.1,seval,t0],by simp only[wq.1,seval,t3],by simp only[wq.1,seval,hsu,t5],by simp only[wq.1,seval,t8],by simp only[wq.1,seval,t9],by simp only[wq.1,↓reduceIte,hw],by simp only[wq.1,hd],h0⟩
 ·have hi:i=rows.length:=by have:=of_decide_eq_false hc;omega
  rw[hi,zrx]at t5;simp only[wq.1,seval,t5,hd];exact aG.dat rfl
end Go.Proofs.YthaijohbpdabfaaGreatDoor
