/- Lemmas for this claim, part F14: each holds under what it names. -/
import Derived.Test.YtokppohljajhjaaGreatDoorRF13
import Derived.Test.YtokppohljajhjaaGreatDoorRF06
import Derived.Test.YtokppohljajhjaaGreatDoorRF11
import Derived.Test.YtokppohljajhjaaGreatDoorRF04
import Derived.Test.YtokppohljajhjaaGreatDoorRF01
set_option linter.all false
set_option maxRecDepth 20000
set_option maxHeartbeats 4000000
namespace Go.Proofs.YtokppohljajhjaaGreatDoor
open Go Go.Proofs Go.Abs
theorem Ec{c:Ci}(h:(mO c).1=0):kR (kw c)= .tup [(gG c).v,.agg [vi 0,vi 0,vi 0]]:=by unfold kR;rw[EW h]
open Go.RowKit
abbrev V9:Sh:= .struct [.str,.str,.int .i64]
abbrev shCi:Sh:= .struct [uu,uu,.slice V9,.slice V7]
theorem We{R:Nat}{v:V}(h:Sh.Sz R V9 v):∃g:La,v=g.v:=by unfold V9 at h;rw[Sh.Sz]at h;obtain⟨vs,rfl,h⟩:=h;simp only[Sh.Szs]at h;obtain⟨u0,us,rfl,h0,u1,us,rfl,h1,u2,us,rfl,h2,rfl⟩:=h;obtain⟨n,rfl⟩:=Eb h0;obtain⟨o,rfl⟩:=Eb h1;obtain⟨i,rfl⟩:=RH h2;exact⟨⟨n,o,i⟩,rfl⟩
theorem QU{R:Nat}{v:V}(h:Sh.Sz R uu v):∃c:List S,v=aV c/\c.length<=R:=by unfold uu at h;rw[Sh.Sz]at h;obtain⟨es,rfl,hl,h⟩:=h;obtain⟨l,rfl⟩:=tK (F:=V.str) (fun v hv=>Eb hv) es h;exact⟨l,rfl,by simpa using hl⟩
theorem sz_ci{R:Nat}(hR:R<=200000000000000){v:V}(h:Sh.Sz R shCi v):∃c:Ci,v=c.v/\Sum c:=by unfold shCi at h;rw[Sh.Sz]at h;obtain⟨vs,rfl,h⟩:=h;simp only[Sh.Szs]at h;obtain⟨u0,us,rfl,h0,u1,us,rfl,h1,u2,us,rfl,h2,u3,us,rfl,h3,rfl⟩:=h;obtain⟨a,rfl,ha⟩:=QU h0;obtain⟨b,rfl⟩:=FO h1;rw[Sh.Sz]at h2 h3;obtain⟨es,rfl,hl,h2⟩:=h2;obtain⟨l,rfl⟩:=tK (F:=La.v) (fun v hv=>We hv) es h2;obtain⟨es,rfl,hl3,h3⟩:=h3;obtain⟨g,rfl⟩:=tK (F:=Ga.v) (fun v hv=>V8 hv) es h3;rw[zra]at hl hl3;exact⟨⟨a,b,l,g⟩,rfl,by show a.length+l.length+g.length<=_;omega⟩
theorem Hq(a:Nat):∀(l:List Nat)(N:List (List Nat))(Q:List Nat)(x:Nat),x∈(uJ a l (N,Q)).2->x∈Q\/x∈l
 |[],_,_,_,h=> .inl h
 |i::l,N,Q,x,h=>by
  rw[uJ]at h;rcases Hq a l _ _ x h with h|h
  ·split at h
   ·rcases zrf.1 ((nU Q i).mem_iff.1 h)with h|h
    ·exact .inl h
    ·exact .inr (by rw[zrc.1 h];simp)
   ·exact .inl h
  ·exact .inr (List.mem_cons_of_mem _ h)
theorem Hr{B:List (List Nat)}{n:Nat}(hB:∀k j,j∈B.getD k []->j<n):∀(f:Nat)(N:List (List Nat))(Q:List Nat),(∀x∈Q,x<n)->∀x∈qP B f N Q,x<n
 |0,_,_,_,x,h=>by rw[qP]at h;cases h
 |f+1,N,Q,hQ,x,h=>by
  rw[qP]at h;split at h
  ·cases h
  ·rename_i he;have hne:Q≠[]:=fun e=>he (by rw[e];rfl);have hp:=yR hne;rcases zrj.1 h with rfl|h
   ·exact hQ _ (hp.mem_iff.2 (by simp))
   ·refine Hr hB f _ _ (fun y hy=> ?_) x h;rcases Hq _ _ _ _ y hy with hy|hy
    ·exact hQ y (hp.mem_iff.2 (List.mem_append_left _ hy))
    ·exact hB _ _ hy
theorem Ht(c:Ci):∀x∈(mi c).1,x<c.gates.length:=by
 intro x hx;unfold mi at hx;split at hx
 ·have w:=G6 (names:=c.gates.map (·.name)) (ins:=c.gates.map (·.ins)) (by simp);have hb:=qY (uH (c.gates.map (·.name)) (c.gates.map (·.ins))).1 (List.range (c.gates.map (·.ins)).length) [];have:=Hr (n:=(c.gates.map (·.ins)).length) (fun k j hj=>(w.lt j k ((w.iff j k).2 hj)).1) _ _ _ (fun y hy=>by
   have:=hb.mem_iff.1 hy;rw[List.nil_append,List.mem_filter,List.mem_range]at this;exact this.1) x hx
  simpa using this
 ·cases hx
abbrev Env:=List S×List Bool
def lkE(m:Env)(s:S):Bool:=match at? m.1 s with
 |some n=>m.2.getD n false
 |none=>false
def ptE(m:Env)(s:S)(b:Bool):Env:=match at? m.1 s with
 |some n=>(m.1.set n s,m.2.set n b)
 |none=>(m.1++[s],m.2++[b])
def okE(m:Env):Prop:=m.1.length=m.2.length
abbrev QV(m:Env):O:= .map (m.1.map V.str) (m.2.map V.bool)
theorem NV{m:Env}(h:okE m)(s:S)(b:Bool):okE (ptE m s b):=by
 unfold okE at h ⊢;unfold ptE;split
 ·simp only[zrn];exact h
 ·simp only[zqa,zrt,List.length_nil,h]
theorem AB{m:Env}(h:okE m)(s:S):oQ .str (.str s) (m.1.map V.str) (m.2.map V.bool) (.bool false) false=(True,.bool (lkE m s)):=by
 unfold oQ;rw[bW];unfold lkE;cases ha:at? m.1 s with
 |none=>rfl
 |some n =>
  obtain⟨h1,_⟩:=qV ha;unfold okE at h;have h2:n<m.2.length:=by omega
  show(True,(m.2.map V.bool).getD n .any)=_;rw[zqg,zqo,zqk h2];show(True,V.bool m.2[n])=(True,V.bool (m.2.getD n false));rw[zqg,zqk h2];rfl
theorem Hu(m:Env)(s:S)(b:Bool):Oo .str (.str s) (.bool b) (m.1.map V.str) (m.2.map V.bool)=some ((ptE m s b).1.map V.str,(ptE m s b).2.map V.bool):=by
 unfold Oo;rw[bW];unfold ptE;cases ha:at? m.1 s with
 |none=>simp
 |some n=>simp[List.map_set]
def yh(ns:List S)(l:List Bool):Env:=(ns.zip l).foldl (fun m p=>ptE m p.1 p.2) ([],[])
theorem Hw(ns:List S)(l:List Bool):okE (yh ns l):=by
 have:∀(z:List (S×Bool))(m:Env),okE m->okE (z.foldl (fun m p=>ptE m p.1 p.2) m):=fun z=>by
  induction z with
  |nil=>exact fun m h=>h
  |cons p z ih=>exact fun m h=>ih _ (NV h _ _)
 exact this _ _ rfl
theorem Jt{ns:List S}{l:List Bool}{i:Nat}(h1:i<ns.length)(h2:i<l.length):yh (ns.take (i+1)) (l.take (i+1))=ptE (yh (ns.take i) (l.take i)) ns[i] l[i]:=by unfold yh;rw[List.take_succ_eq_append_getElem h1,List.take_succ_eq_append_getElem h2,List.zip_append (by rw[zrl,zrl];omega),List.foldl_append];rfl
def ga0:Ga:=⟨[],0,[],[],false⟩
def yj(gs:List Ga)(m:Env)(a:Nat):Env:=ptE m (gs.getD a ga0).name (ry (gs.getD a ga0) ((gs.getD a ga0).ins.map (lkE m))).1
theorem AC{gs:List Ga}:∀(l:List Nat) {m:Env},okE m->okE (l.foldl (yj gs) m)
 |[],_,h=>h
 |a::l,_,h=>AC l (NV h _ _)
def AL(c:Ci)(st ins:List Bool):Env:=(mi c).1.foldl (yj c.gates) (yh ((di c).take (ins++st).length) (ins++st))
def oq(c:Ci)(st ins:List Bool):List Bool×List Bool×Int :=
 if(mO c).1≠0 then([],[],1)
 else if st.length≠c.lat.length\/ins.length≠c.ins.length then([],[],11)
 else(c.outs.map (lkE (AL c st ins)),c.lat.map (fun q=>lkE (AL c st ins) q.next),0)
theorem yZ{α:Type}{f g:α->Nat->α}:∀(l:List Nat)(a:α),(∀a x,x∈l->f a x=g a x)->l.foldl f a=l.foldl g a
 |[],_,_=>rfl
 |x::l,a,h=>by rw[List.foldl_cons,List.foldl_cons,h a x (by simp)];exact yZ l _ fun a y hy=>h a y (by simp[hy])
theorem FP{c:Ci}(h:(mO c).1=0)(st ins:List Bool):oq (gG c) st ins=oq c st ins:=by
 have hn:=qf h;obtain⟨m1,_,_,_⟩:=wL hn.gates;have n1:di (gG c)=di c:=by unfold di gG;rw[m1]
 have hv:AL (gG c) st ins=AL c st ins:=by
  unfold AL;rw[yG hn,n1];refine yZ _ _ fun m a ha=> ?_;have hlt:=Ht c a ha;obtain⟨g,hg⟩:∃g,g=c.gates[a]:=⟨_,rfl⟩;have e1:c.gates.getD a ga0=g:=by rw[zqg,zqk hlt,hg];rfl
  have e2:(gG c).gates.getD a ga0=aK g:=by show(c.gates.map aK).getD a ga0=_;rw[zqg,zqo,zqk hlt,hg];rfl
  have hgb:=hn.gates g (hg▸zqu hlt);obtain⟨_,p2,p3,_⟩:=gy (dV hgb).1;unfold yj;rw[e1,e2,p2,p3,Jh];unfold ry;rw[hgb,zra,beq_self_eq_true];rfl
 unfold oq;rw[hv,(CG h).1,h];rfl
theorem tN{e:E}{g:FuncId}{args:List V}{h:H}{R:AEnd->H->(Nat->Bool)->Prop}(hc:ag e g args h fun ae h' p=>(∀i,i<h.length->p i=false)/\R ae h' (fun _=>false)):ag e g args h R:=by intro ok pl w vs hs hl;refine(hc ok pl w vs hs hl).mono ?_;rintro en w' ⟨p,pl',h',ae,h1,h2,h3,h4,h5⟩;exact⟨fun _=>false,pl',h',ae,h1,⟨h2.os,h2.tape,h2.output,h2.size,h2.same,h2.loc,fun i b _ hi=>h2.keep i b (h4 i (hs.pl_lt hi)) hi,h2.row⟩,h3,h5⟩
theorem QW{h0:H}(hcl:∀p:Nat->Bool,(∀j,j<h0.length->p j=false)->h0.map (O.drop p)=h0)(X:H):((rW (fun j=>j==h0.length) 0 (h0++X)).map (O.drop fun j=>decide (h0.length<=j))).take h0.length=h0:=by
 refine List.ext_getElem? fun j=> ?_;rw[List.getElem?_take];by_cases hj:j<h0.length
 ·have b:(j==h0.length)=false:=by rw[beq_eq_false_iff_ne];omega
  rw[if_pos hj,zqo,je,zqj hj];have e1:=hcl (fun j=>j==h0.length) fun i hi=>by rw[beq_eq_false_iff_ne];omega
  have e2:=hcl (fun j=>decide (h0.length<=j)) fun i hi=>by rw[zqd];omega
  have e1:(h0.map (O.drop fun j=>j==h0.length))[j]? =h0[j]? :=by rw[e1]
  have e2:(h0.map (O.drop fun j=>decide (h0.length<=j)))[j]? =h0[j]? :=by rw[e2]
  rw[zqo]at e1 e2;cases hx:h0[j]? with
  |none=>rfl
  |some o =>
   rw[hx]at e1 e2;have e1:O.drop (fun j=>j==h0.length) o=o:=by injection e1
   have e2:O.drop (fun j=>decide (h0.length<=j)) o=o:=by injection e2
   show some (O.drop _ (if(0+j==h0.length)=true then .dead else _))=_;rw[if_neg (by rw[Nat.zero_add,b];decide),e1,e2]
 ·rw[if_neg hj,zsj (by omega)]
theorem y5[MO]{m:Env}(hm:okE m){id:Nat}{h0:H}(hid:h0[id]? =some (QV m))(hcl:∀p:Nat->Bool,(∀j,j<h0.length->p j=false)->h0.map (O.drop p)=h0)(l:List S)(hl:l.length<=1000000){R:AEnd->H->(Nat->Bool)->Prop}
 (hr:R (.ret (dh (l.map (lkE m)))) h0 (fun _=>false)) :
 ag TE 88 [.lm id,aV l] h0 R:=by
 refine tN ?_;have hM:=mLx;have hidl:=(zqe hid).1;have hgE:∀x:O,(h0++[x])[h0.length]? =some x:=fun x=>by simp
 have hgS:∀x y:O,(h0++[x]).set h0.length y=h0++[y]:=fun x y=>by simp
 have hid2:∀x:O,(h0++[x])[id]? =some (QV m):=fun x=>by rw[zqj hidl];exact hid
 have hcl1:=hcl (fun j=>j==h0.length) fun j hj=>by rw[beq_eq_false_iff_ne];omega
 have bI:(id==h0.length)=false:=by rw[beq_eq_false_iff_ne];omega
 refine ax Tryz.func88 rfl (by simp[nts]) ?_;refine vn ?_;simp only[wq.1,Nat.reduceLT,Tryz.results88];refine vn ?_;simp only[wq.1,Nat.reduceLT];refine vn ?_;simp only[wq.1,seval];refine aF (fun k f h=>∃i:Nat,k+i=l.length/\i<=l.length/\f.t 0= .lm id/\f.t 8=aV l/\f.t 9=vi l.length/\f.t 10=vi i/\f.d=[]/\(∀j,j<h0.length->f.k j=false)/\(i=0/\f.t 5= .nils/\h=h0\/0<i/\f.t 5= .ls h0.length 1 0 i i/\h=h0++[.cells (((l.take i).map (lkE m)).map V.bool)])) l.length ⟨0,by omega,by omega,by simp only[wq.1,seval],by simp only[wq.1,seval],by simp only[wq.1,seval],by simp only[wq.1,↓reduceIte];rfl,by simp only[wq.1],fun j _=>(by simp only[wq.1]),.inl ⟨rfl,by simp only[wq.1,seval],rfl⟩⟩ ?_;rintro k f h ⟨i,hk,hil,t0,t8,t9,t10,hd,hkk,hh⟩;refine vn ?_;simp only[wq.1,Nat.reduceLT,t10,t9];refine vn ?_;simp only[wq.1,↓reduceIte];have hw:=az (show i<maxLen by omega);refine vcB.mk (fun hc=> ?_) (fun hc=> ?_)
 ·have hc1:i<l.length:=by have:=zqs hc;omega
  simp only[wq.1];have hgl:=Jv hc1 .any;obtain⟨X3,hX3⟩:∃X3,X3=((l.take (i+1)).map (lkE m)).map V.bool:=⟨_,rfl⟩;have hnx:((l.take i).map (lkE m)).map V.bool++[.bool (lkE m l[i])]=X3:=by
   rw[hX3,List.take_succ_eq_append_getElem hc1,zql,zql];rfl
  have hds:V.drops (fun j=>j==h0.length) (((l.take i).map (lkE m)).map V.bool)=((l.take i).map (lkE m)).map V.bool:=cu _;have hll:(l.take i).length=i*1:=by rw[zrl];omega
  refine aj (aB ?_);rcases hh with⟨rfl,t5,rfl⟩|⟨hi,t5,rfl⟩
  ·refine vn ?_;simp only[wq.1,↓reduceIte,Nat.reduceEqDiff,Nat.reduceLT,Nat.reduceLeDiff,Nat.reduceAdd,Nat.reduceSub,Int.reduceToNat,Nat.reduceDiv,Int.reduceLT,Int.reduceLE,Int.reduceNeg,Int.reduceBEq,Int.reduceBNe,Int.reduceAdd,Int.reduceSub,Nat.reduceBEq,reduceCtorEq,Nat.reduceMul,ak,Tryz.results88,t0,t8,t10,t9,hd,hgl];refine⟨⟨by omega,by omega⟩,?_⟩;refine vm ?_;simp only[wq.1,↓reduceIte,Nat.reduceEqDiff,Nat.reduceLT,Nat.reduceLeDiff,reduceCtorEq,Nat.reduceMul,t0,t5,hid,AB hm,K.keyOk];refine⟨⟨rfl,by decide⟩,by omega,?_⟩;refine vm ?_;simp only[wq.1,seval,t10,hw];exact .inl ⟨k-1,by omega,1,by omega,by omega,t0,t8,t9,rfl,hd,hkk,.inr ⟨by omega,rfl,by rw[List.take_succ_eq_append_getElem hc1];rfl⟩⟩
  ·refine vn ?_;simp only[wq.1,↓reduceIte,Nat.reduceEqDiff,Nat.reduceLT,t8,t10,hgl];refine⟨⟨by omega,by omega⟩,?_⟩;refine vm ?_;simp only[wq.1,↓reduceIte,Nat.reduceEqDiff,Nat.reduceLT,reduceCtorEq,Nat.reduceMul,t0,t5,hd,hid2,AB hm,K.keyOk,hgE,hgS,hcl1,hds,hnx];refine⟨⟨rfl,by decide⟩,⟨hll,by omega,by omega⟩,?_⟩;refine vm ?_;simp only[wq.1,seval,t10,hw];refine .inl ⟨k-1,by omega,i+1,by omega,by omega,(by simp only[wq.1,seval,t0,bI]),(by simp only[wq.1,seval,t8]),(by simp only[wq.1,seval,t9]),rfl,hd,fun j hj=> ?_,.inr ⟨by omega,rfl,by rw[hX3,cu]⟩⟩;show(f.k j||j==h0.length)=false;rw[hkk j hj,Bool.false_or,beq_eq_false_iff_ne];omega
 ·have hi:i=l.length:=by have:=of_decide_eq_false hc;omega
  subst hi;simp only[wq.1];obtain⟨X,hX,hre⟩:∃X,h=h0++X/\((f.t 5).drop (fun j=> !(j==h0.length))=f.t 5/\aA TE (vZ (fun j=>j==h0.length) 0 h) (f.t 5) (dh (l.map (lkE m)))):=by
   rcases hh with⟨hl0,t5,rfl⟩|⟨hi,t5,rfl⟩
   ·refine⟨[],by simp,by rw[t5];rfl,?_⟩;rw[t5,zse hl0];exact aA.nils
   ·refine⟨_,rfl,?_,?_⟩
    ·rw[t5];simp[V.drop]
    ·rw[t5];refine sJ (by rw[iK,hgE];show some (if _ then O.cells (V.drops _ _)else _)=_;rw[cu,if_pos (by simp),zrx]) (by simp)
  clear hh;subst hX;obtain⟨F,hF⟩:∃F,F=f.put (some 11) (V.bool (decide ((l.length:Int)<l.length))):=⟨_,rfl⟩;have F5:F.t 5=f.t 5:=by rw[hF];simp only[wq.1,seval]
  have Fd:F.d=[]:=by rw[hF];exact hd
  have Fk:∀j,j<h0.length->F.k j=false:=by rw[hF];exact hkk
  rw[<-F5]at hre;have hre1:=hre.1;have hre2:=hre.2;show awp _ _ _ _ _ _ _;rw[<-hF];clear hre hF F5 t0 t8 t9 t10 hkk hd;refine Gi (fun j=>j==h0.length) (fun i=>if i=5 then dh (l.map (lkE m))else(F.t i).drop (fun j=>j==h0.length)) (fun i=> ?_) (fun i hi=>by rw[Fd]at hi;cases hi) ?_
  ·by_cases h5:i=5
   ·subst h5;exact .inr ⟨hre1,hre2⟩
   ·exact .inl (if_neg h5)
  have hdd:∀i∈F.d,i<h0.length:=fun i hi=>by rw[Fd]at hi;cases hi
  refine Kr (.inr ⟨h0.length,hdd,?_⟩);rw[QW hcl];obtain⟨G,hG⟩:∃G,G=({F with t:=fun i=>if i=5 then dh (l.map (lkE m))else(F.t i).drop (fun j=>j==h0.length),k:=fun i=>F.k i||i==h0.length}:Fr).drop fun i=>decide (h0.length<=i):=⟨_,rfl⟩;have G5:G.t 5=dh (l.map (lkE m)):=by rw[hG];show V.drop (fun i=>decide (h0.length<=i)) (dh _)=_;simp only[V.drop]
  have Gd:G.d=[]:=by rw[hG];exact Fd
  have Gk:∀j,j<h0.length->G.k j=false:=fun j hj=>by
   rw[hG];have q1:(j==h0.length)=false:=by rw[beq_eq_false_iff_ne];omega
   have q2:decide (h0.length<=j)=false:=by rw[zqd];omega
   simp only[Fr.drop,Fk j hj,q1,q2,Bool.or_self]
  rw[<-hG];clear hG;refine vn ?_;simp only[wq.1,seval,G5];refine vm ?_;simp only[wq.1,↓reduceIte,Gd];exact⟨Gk,hr⟩
theorem xK(c:Ci):V.dats [c.v]=true:=by simp only[V.dats,V.dat,aG,qh,mr,zre]
theorem Ju[MO](c:Ci)(hs:Sum c):Ev TE 86 [c.v] (.bool ((mO c).1==0)):=by have e3:=rq c hs;refine ah Tryz.func86 rfl (by simp[nts]) ?_;refine vn ?_;simp only[wq.1,Nat.reduceLT,Tryz.results86];refine vn ?_;simp only[wq.1,seval];refine ag.ev e3 (xK c) ?_;simp only[wq.1,seval];refine vn ?_;simp only[wq.1,seval];refine vm ?_;simp only[wq.1,↓reduceIte];exact aA.dat rfl
def RI:Plan:= .take 3<| .alt 0 (onZ [1,2,4,5]<| .take 6<| .take 7<| .fin) (.one 1 (.alt 0 (onZ [2,4,5]<| .take 6<| .take 7<| .fin) (.one 2 (onZ [0,4,5]<| .take 6<| .take 7<| .fin))))
def jC(c:Ci):O:= .cells [aV c.ins,aV c.outs,oK c.lat,iZ c.gates,aV (di c),.is false 1 (cO (mi c).1)]
theorem FQ[MO](c:Ci)(hs:Sum c){C0:O}(hC0:C0= .cells [aV c.ins,aV c.outs,oK c.lat,iZ c.gates]){R:AEnd->H->(Nat->Bool)->Prop}
 (hok:(mO c).1=0->R (.ret (.tup [.lp 2 0,vi 0])) [C0,C0,jC c] (fun _=>false)) (hbad:(mO c).1≠0->R (.ret (.tup [.nilp,vi 1])) [C0,C0] (fun _=>false)) :
 ag TE 47 [c.v] [C0] R:=by
 have e1:=Ju c hs;have e2:=Np c hs;refine ax Tryz.func47 rfl (by simp[nts]) ?_;refine vn ?_;simp only[wq.1,Nat.reduceLT,Tryz.results47];rw[<-hC0];by_cases ho:(mO c).1=0
 ·have e3:=MK c (TA (qf ho).lim);have hq:((mO c).1==0)=true:=by rw[ho];rfl
  rw[hq]at e1;refine vn ?_;simp only[wq.1,seval,hC0];refine ag.ev e1 (xK c) ?_;simp only[wq.1,seval];refine vm ?_;simp only[wq.1,seval];refine ag.ev e2 (xK c) ?_;simp only[wq.1,seval];refine gQ mixed RI (fun f' h'=>f'.t 2= .lp 2 0/\f'.t 3=vi 0/\f'.d=[]/\f'.k=(fun _=>false)/\h'=[C0,C0,jC c]) (by rw[TEP];decide +kernel) (by decide +kernel) ?_ ?_
  ·simp only[wq.1,seval,RI]
   and_intros
   all_goals (refine ag.ev e3 (xK c) ?_)
   all_goals (simp only[wq.1,seval,hC0,jC])
   done
  ·rintro f' h' ⟨t2,t3,hd,hk,rfl⟩;simp only[wq.1,t2,t3,hd,hk];exact hok ho
 ·have hq:((mO c).1==0)=false:=by simpa using ho
  rw[hq]at e1;refine vn ?_;simp only[wq.1,seval,hC0];refine ag.ev e1 (xK c) ?_;simp only[wq.1,seval];rw[<-hC0];exact hbad ho
abbrev rE(c:Ci):O:= .cells [aV c.ins,aV c.outs,oK c.lat,iZ c.gates]
abbrev kS(c:Ci)(m:Env):H:=[rE c,rE c,jC c,QV m]
theorem xM(c:Ci)(m:Env)(p:Nat->Bool):(kS c m).map (O.drop p)=kS c m:=by
 have h1:O.drop p (rE c)=rE c:=by show O.cells (V.drops _ _)=_;rw[oG.dats_drops _ (by simp only[V.dats,V.dat,aG,qh,mr,zre])]
 have h2:O.drop p (jC c)=jC c:=by show O.cells (V.drops _ _)=_;rw[oG.dats_drops _ (by simp only[V.dats,V.dat,aG,qh,mr,jS,zre])];rfl
 have h3:O.drop p (QV m)=QV m:=by show O.map (V.drops _ _) (V.drops _ _)=_;rw[aC,cu]
 simp only[zrd,List.map_nil,h1,h2,h3]
theorem Hy{B:List (List Nat)}:∀(f:Nat)(N:List (List Nat))(Q:List Nat),(qP B f N Q).length<=f
 |0,_,_=>zrb _
 |f+1,N,Q=>by
  rw[qP];split
  ·exact Nat.zero_le _
  ·rw[zrt];exact Nat.succ_le_succ (Hy f _ _)
theorem NW(c:Ci):(mi c).1.length<=c.gates.length:=by
 unfold mi;split
 ·have:=Hy (B:=(uH (c.gates.map (·.name)) (c.gates.map (·.ins))).2) (c.gates.map (·.ins)).length (uH (c.gates.map (·.name)) (c.gates.map (·.ins))).1 (uI (uH (c.gates.map (·.name)) (c.gates.map (·.ins))).1 (List.range (c.gates.map (·.ins)).length) []);have e:(c.gates.map (·.ins)).length=c.gates.length:=by simp
  rw[<-e];exact this
 ·exact Nat.zero_le _
def NY:Plan:=tkZ [0,1,4,5]<| .alt 2 (.alt 3 (onZ [6,7,8]<| .take 9<| .alt 10 (.alt 11 (.one 12<| .fin) (.one 12 (.one 11<| .fin))) (.one 11 (.one 10<| .one 12<| .fin))) (.one 6 (.alt 3 (.one 7<| .one 8<| .take 9<| .alt 10 (.alt 11 (.one 12<| .fin) (.one 12 (.one 11<| .fin))) (.one 11 (.one 10<| .one 12<| .fin))) (.one 7 (.one 3<| .one 8<| .take 9<| .alt 10 (.alt 11 (.one 12<| .fin) (.one 12 (.one 11<| .fin))) (.one 11 (.one 10<| .one 12<| .fin))))))) (.alt 3 (.alt 2 (onZ [6,7,8]<| .take 9<| .alt 10 (.alt 11 (.one 12<| .fin) (.one 12 (.one 11<| .fin))) (.one 11 (.one 10<| .one 12<| .fin))) (.one 6 (.alt 2 (.one 7<| .one 8<| .take 9<| .alt 10 (.alt 11 (.one 12<| .fin) (.one 12 (.one 11<| .fin))) (.one 11 (.one 10<| .one 12<| .fin))) (.one 7 (.alt 2 (.one 8<| .take 9<| .alt 10 (.alt 11 (.one 12<| .fin) (.one 12 (.one 11<| .fin))) (.one 11 (.one 10<| .one 12<| .fin))) (.one 8 (.take 9<| .alt 2 (.alt 10 (.alt 11 (.one 12<| .fin) (.one 12 (.one 11<| .fin))) (.one 11 (.one 10<| .one 12<| .fin))) (.alt 10 (.alt 2 (.alt 11 (.one 12<| .fin) (.one 12 (.one 11<| .fin))) (.one 11 (.one 2<| .one 12<| .fin))) (.one 11 (.alt 2 (.one 10<| .one 12<| .fin) (.one 10 (.one 2<| .one 12<| .fin)))))))))))) (.one 6 (.alt 2 (.alt 3 (.one 7<| .one 8<| .take 9<| .alt 10 (.alt 11 (.one 12<| .fin) (.one 12 (.one 11<| .fin))) (.one 11 (.one 10<| .one 12<| .fin))) (.one 7 (.one 3<| .one 8<| .take 9<| .alt 10 (.alt 11 (.one 12<| .fin) (.one 12 (.one 11<| .fin))) (.one 11 (.one 10<| .one 12<| .fin))))) (.alt 3 (.alt 2 (.one 7<| .one 8<| .take 9<| .alt 10 (.alt 11 (.one 12<| .fin) (.one 12 (.one 11<| .fin))) (.one 11 (.one 10<| .one 12<| .fin))) (.one 7 (.alt 2 (.one 8<| .take 9<| .alt 10 (.alt 11 (.one 12<| .fin) (.one 12 (.one 11<| .fin))) (.one 11 (.one 10<| .one 12<| .fin))) (.one 8 (.take 9<| .alt 2 (.alt 10 (.alt 11 (.one 12<| .fin) (.one 12 (.one 11<| .fin))) (.one 11 (.one 10<| .one 12<| .fin))) (.alt 10 (.alt 2 (.alt 11 (.one 12<| .fin) (.one 12 (.one 11<| .fin))) (.one 11 (.one 2<| .one 12<| .fin))) (.one 11 (.alt 2 (.one 10<| .one 12<| .fin) (.one 10 (.one 2<| .one 12<| .fin)))))))))) (.one 7 (.alt 2 (.one 3<| .one 8<| .take 9<| .alt 10 (.alt 11 (.one 12<| .fin) (.one 12 (.one 11<| .fin))) (.one 11 (.one 10<| .one 12<| .fin))) (.one 3 (.alt 2 (.one 8<| .take 9<| .alt 10 (.alt 11 (.one 12<| .fin) (.one 12 (.one 11<| .fin))) (.one 11 (.one 10<| .one 12<| .fin))) (.one 8 (.take 9<| .alt 2 (.alt 10 (.alt 11 (.one 12<| .fin) (.one 12 (.one 11<| .fin))) (.one 11 (.one 10<| .one 12<| .fin))) (.alt 10 (.alt 2 (.alt 11 (.one 12<| .fin) (.one 12 (.one 11<| .fin))) (.one 11 (.one 2<| .one 12<| .fin))) (.one 11 (.alt 2 (.one 10<| .one 12<| .fin) (.one 10 (.one 2<| .one 12<| .fin)))))))))))))))
theorem Ed[MO](c:Ci)(st ins:List Bool)(hst:st.length<=1000000)(hins:ins.length<=1000000)(hn:NetOk c){R:AEnd->H->(Nat->Bool)->Prop}
 (hbad:st.length≠c.lat.length\/ins.length≠c.ins.length->R (.ret (.tup [.nilm,vi 11])) [rE c,rE c,jC c] (fun _=>false))
 (hok:st.length=c.lat.length->ins.length=c.ins.length->R (.ret (.tup [.lm 3,vi 0])) (kS c (AL c st ins)) (fun _=>false)) :
 ag TE 87 [.lp 2 0,dh st,dh ins] [rE c,rE c,jC c] R:=by
 have hM:=mLx;have e1:=EQ [ins,st] (by simp;omega) (by simp);have hfl:[ins,st].flatten=ins++st:=by simp
 rw[hfl]at e1;refine tN ?_;refine ax Tryz.func87 rfl (by simp[nts]) ?_;refine vn ?_;simp only[wq.1,seval,Tryz.results87];refine vn ?_;simp only[wq.1,seval,jC];rw[show O.cells [aV c.ins,aV c.outs,oK c.lat,iZ c.gates,aV (di c),V.is false 1 (cO (mi c).1)]=jC c from rfl];refine vcB.mk (fun hc=> ?_) (fun hc=> ?_)
 ·have hc:st.length≠c.lat.length\/ins.length≠c.ins.length:=by simp only[bne,Bool.or_eq_true,Bool.not_eq_true',beq_eq_false_iff_ne]at hc;omega
  simp only[wq.1,seval];exact hbad hc
 ·have hc:st.length=c.lat.length/\ins.length=c.ins.length:=by simp only[bne,zsf,Bool.not_eq_false',beq_iff_eq]at hc;omega
  obtain⟨hc1,hc2⟩:=hc;have hnl:(ins++st).length<=(di c).length:=by unfold di;simp only[zqa,zra];omega
  obtain⟨L,hL⟩:∃L,L=ins++st:=⟨_,rfl⟩;rw[<-hL]at e1 hnl;have hLl:L.length<=2000000:=by rw[hL,zqa];omega
  have hnn:yh ((di c).take L.length) L=yh ((di c).take L.length) (L.take L.length):=by rw[zrx]
  have hm2:∀m:Env,(kS c m)[2]? =some (jC c):=fun m=>rfl;simp only[wq.1];refine vn ?_;simp only[wq.1,↓reduceIte,Nat.reduceLT,Nat.reduceAdd];refine vn ?_;simp only[wq.1,↓reduceIte,Nat.reduceEqDiff,Nat.reduceLT,reduceCtorEq,Nat.reduceMul];refine⟨⟨rfl,by decide⟩,ag.ev e1 (by simp only[V.dats,V.dat,zrd,List.map_nil,jL,zre]) ?_⟩;simp only[wq.1,seval];refine aF (fun k f h=>∃i:Nat,k+i=L.length/\i<=L.length/\f.t 0= .lp 2 0/\f.t 8= .lm 3/\f.t 38=dh L/\f.t 39=vi L.length/\f.t 40=vi i/\f.d=[]/\(∀j,j<3->f.k j=false)/\h=kS c (yh ((di c).take i) (L.take i))) L.length ⟨0,by omega,by omega,by simp only[wq.1,seval],by simp only[wq.1,seval],by simp only[wq.1,seval],by simp only[wq.1,seval],by simp only[wq.1,↓reduceIte];rfl,by simp only[wq.1],fun j _=>(by simp only[wq.1]),by rw[List.take_zero,List.take_zero];rfl⟩ ?_;rintro k f h ⟨i,hk,hil,t0,t8,t38,t39,t40,hd,hkk,rfl⟩;have hw:=az (show i<maxLen by omega);refine vn ?_;simp only[wq.1,Nat.reduceLT,t39,t40];refine vn ?_;simp only[wq.1,↓reduceIte];refine vcB.mk (fun hlt=> ?_) (fun hlt=> ?_)
  ·have hlt:i<L.length:=by have:=zqs hlt;omega
   have hlt2:i<(di c).length:=by omega
   have ga:=QL hlt .any;have gb:=Jv hlt2 .any;have hmp:=Hu (yh ((di c).take i) (L.take i)) (di c)[i] L[i];rw[<-Jt hlt2 hlt]at hmp;simp only[wq.1];refine aj (aB ?_);refine vn ?_;simp only[wq.1,seval,t38,t40,ga];refine⟨⟨by omega,by omega⟩,?_⟩;refine vm ?_;simp only[wq.1,seval,t0,t8,jC,gb,K.keyOk,hmp];refine⟨⟨by omega,by omega⟩,?_⟩;refine vm ?_;simp only[wq.1,seval,t40,hw];exact .inl ⟨k-1,by omega,i+1,by omega,by omega,t0,t8,t38,t39,rfl,hd,hkk,rfl⟩
  ·have hi:i=L.length:=by have:=of_decide_eq_false hlt;omega
   subst hi;rw[<-hnn];simp only[wq.1];refine aj ?_;show awp _ _ _ _ _ _ _;obtain⟨m0,hm0⟩:∃m0,m0=yh ((di c).take L.length) L:=⟨_,rfl⟩;have ok0:okE m0:=by rw[hm0];exact Hw _ _
   obtain⟨od,hod⟩:∃od,od=(mi c).1:=⟨_,rfl⟩;have hodl:od.length<=100000:=by have:=NW c;have:=(TA hn.lim);obtain⟨l1,l2,l3,l4,l5⟩:=this;rw[hod];omega
   have hV:AL c st ins=od.foldl (yj c.gates) m0:=by rw[hm0,hod,hL];rfl
   have hlt:∀x∈od,x<c.gates.length:=fun x hx=>Ht c x (hod▸hx);rw[<-hm0];clear e1 t38 t39 t40 hk hw hm0 hnn hnl;refine vn ?_;simp only[wq.1,seval,t0,jC,<-hod];refine aB ?_;refine aF (fun k f h=>∃(i:Nat)(X:H),k+i=od.length/\i<=od.length/\f.t 0= .lp 2 0/\f.t 8= .lm 3/\f.t 58= .is false 1 (cO od)/\f.t 59=vi od.length/\f.t 60=vi i/\f.d=[]/\(∀j,j<3->f.k j=false)/\h=kS c ((od.take i).foldl (yj c.gates) m0)++X) od.length ⟨0,[],by omega,by omega,by simp only[wq.1,seval,t0],by simp only[wq.1,seval,t8],by simp only[wq.1,seval],by simp only[wq.1,seval],by simp only[wq.1,↓reduceIte];rfl,by simp only[wq.1,hd],fun j hj=>(by simp only[wq.1,hkk j hj]),rfl⟩ ?_;clear t0 t8 hd hkk f;rintro k f h ⟨i,X,hk,hil,t0,t8,t58,t59,t60,hd,hkk,rfl⟩;obtain⟨m,hm⟩:∃m,m=(od.take i).foldl (yj c.gates) m0:=⟨_,rfl⟩;have okm:okE m:=by rw[hm];exact AC _ ok0
   rw[<-hm];refine dK (h0:=kS c m) (by rw[hd];simp) ?_;rw[xM];obtain⟨f',hf'⟩:∃f',f'=f.drop (Abs.eF (kS c m).length):=⟨_,rfl⟩;have u0:f'.t 0= .lp 2 0:=by rw[hf'];show(f.t 0).drop _=_;rw[t0];rfl
   have u8:f'.t 8= .lm 3:=by rw[hf'];show(f.t 8).drop _=_;rw[t8];rfl
   have u58:f'.t 58= .is false 1 (cO od):=by rw[hf'];show(f.t 58).drop _=_;rw[t58];rfl
   have u59:f'.t 59=vi od.length:=by rw[hf'];show(f.t 59).drop _=_;rw[t59];rfl
   have u60:f'.t 60=vi i:=by rw[hf'];show(f.t 60).drop _=_;rw[t60];rfl
   have ud:f'.d=[]:=by rw[hf'];exact hd
   have uk:∀j,j<3->f'.k j=false:=fun j hj=>by
    have q:Abs.eF (kS c m).length j=false:=by show decide (4<=j)=false;rw[zqd];omega
    rw[hf'];simp only[Fr.drop,hkk j hj,q,Bool.or_self]
   rw[<-hf'];clear hf' hd t0 t8 t58 t59 t60 hkk X f;have hw:=az (show i<maxLen by omega);refine vn ?_;simp only[wq.1,Nat.reduceLT,u59,u60];refine vn ?_;simp only[wq.1,↓reduceIte];refine vcB.mk (fun hlt2=> ?_) (fun hlt2=> ?_)
   ·have hlt2:i<od.length:=by have:=zqs hlt2;omega
    have gN:=Va hlt2 .any;obtain⟨a,ha⟩:∃a,a=od.getD i 0:=⟨_,rfl⟩;rw[<-ha]at gN;have hae:od[i]=a:=by rw[ha,zqg,zqk hlt2];rfl
    have hal:a<c.gates.length:=hlt a (hae▸zqu hlt2);have hgg:=uM hal .any;obtain⟨g,hg⟩:∃g,g=c.gates[a]:=⟨_,rfl⟩;rw[<-hg]at hgg;have hgd:c.gates.getD a ga0=g:=by rw[zqg,zqk hal,hg];rfl
    have hil2:g.ins.length<=1000000:=by have:=(TA hn.lim);obtain⟨l1,l2,l3,l4,l5⟩:=this;have:=l5 g (hg▸zqu hal);omega
    have hst:(od.take (i+1)).foldl (yj c.gates) m0=ptE m g.name (ry g (g.ins.map (lkE m))).1:=by rw[List.take_succ_eq_append_getElem hlt2,List.foldl_append,<-hm,hae];show yj c.gates m a=_;unfold yj;rw[hgd]
    have hmp:=Hu m g.name (ry g (g.ins.map (lkE m))).1;rw[<-hst]at hmp;have hev:=QM g (g.ins.map (lkE m));simp only[wq.1];refine aj (aB ?_);refine vn ?_;simp only[wq.1,seval,u58,u60,gN];refine⟨⟨by omega,by omega⟩,?_⟩;refine vn ?_;simp only[wq.1,seval,u0,jC,hgg];refine⟨⟨by omega,by omega⟩,?_⟩;rw[show O.cells [aV c.ins,aV c.outs,oK c.lat,iZ c.gates,aV (di c),V.is false 1 (cO (mi c).1)]=jC c from rfl];obtain⟨HG,hHG⟩:∃HG:H,HG=[rE c,rE c,jC c,QV m,.cells [.str g.name,vi g.op,aV g.ins,aV g.rows,.bool g.off]]:=⟨_,rfl⟩;have hcl:∀p:Nat->Bool,(∀j,j<HG.length->p j=false)->HG.map (O.drop p)=HG:=fun p _=>by
     rw[hHG];have:=xM c m p;have h5:O.drop p (.cells [.str g.name,vi g.op,aV g.ins,aV g.rows,.bool g.off])= .cells [.str g.name,vi g.op,aV g.ins,aV g.rows,.bool g.off]:=by
      show O.cells (V.drops _ _)=_;rw[oG.dats_drops _ (by simp only[V.dats,V.dat,aG,zre])]
     show(kS c m++[_]).map _=_;rw[zql,this,zrd,List.map_nil,h5];rfl
    have g3:HG[3]? =some (QV m):=by rw[hHG];rfl
    have g4:HG[4]? =some (.cells [.str g.name,vi g.op,aV g.ins,aV g.rows,.bool g.off]):=by rw[hHG];rfl
    have gs3:∀x:O,HG.set 3 x=[rE c,rE c,jC c,x,.cells [.str g.name,vi g.op,aV g.ins,aV g.rows,.bool g.off]]:=fun x=>by rw[hHG];rfl
    rw[<-hHG];refine mG (fun F=>F.t 0= .lp 2 0/\F.t 8= .lm 3/\F.t 13= .lp 4 0/\F.t 58= .is false 1 (cO od)/\F.t 59=vi od.length/\F.t 60=vi i/\F.d=[]/\∀j,j<3->F.k j=false) ⟨by simp only[wq.1,seval,u0],by simp only[wq.1,seval,u8],by simp only[wq.1,↓reduceIte],by simp only[wq.1,seval,u58],by simp only[wq.1,seval,u59],by simp only[wq.1,seval,u60],by simp only[wq.1,ud],fun j hj=>(by simp only[wq.1,uk j hj])⟩ ?_;clear u0 u8 u58 u59 u60 ud uk f';rintro F ⟨u0,u8,u13,u58,u59,u60,ud,uk⟩;refine gQ mixed NY (fun F h'=>F.t 0= .lp 2 0/\F.t 8= .lm 3/\F.t 58= .is false 1 (cO od)/\F.t 59=vi od.length/\F.t 60=vi i/\F.d=[]/\(∀j,j<3->F.k j=false)/\h'=HG.set 3 (QV ((od.take (i+1)).foldl (yj c.gates) m0))) (by rw[TEP];decide +kernel) (by decide +kernel) ?_ ?_
    ·have hgd2:V.dats [.agg [.str g.name,vi g.op,aV g.ins,aV g.rows,.bool g.off],dh (g.ins.map (lkE m))]=true:=by simp only[V.dats,V.dat,aG,jL,zre]
     simp only[wq.1,seval,NY,u8,u13,g4]
     and_intros
     all_goals (refine y5 okm g3 hcl _ hil2 ?_)
     all_goals (simp only[wq.1,seval,u13,g4])
     all_goals and_intros
     all_goals (refine ag.ev hev hgd2 ?_)
     all_goals (simp only[wq.1,seval,u0,u8,u58,u59,u60,ud,g3,g4,K.keyOk,hmp])
     all_goals exact uk
    ·rintro F h' ⟨u0,u8,u58,u59,u60,ud,uk,rfl⟩;rw[gs3];simp only[wq.1];refine vm ?_;simp only[wq.1,seval,u60,hw];exact .inl ⟨k-1,by omega,i+1,[_],by omega,by omega,u0,u8,u58,u59,rfl,ud,uk,rfl⟩
   ·have hi:i=od.length:=by have:=of_decide_eq_false hlt2;omega
    subst hi;rw[zrx]at hm;have hmV:m=AL c st ins:=by rw[hm,hV]
    simp only[wq.1];refine vn ?_;simp only[wq.1,seval,u8];refine vm ?_;simp only[wq.1,seval,ud];rw[hmV];exact⟨uk,hok hc1 hc2⟩
abbrev laO(g:La):O:= .cells [.str g.name,.str g.next,vi g.init]
abbrev yl(l:List Bool):O:= .cells (l.map V.bool)
abbrev o7(c:Ci)(m:Env)(i:Nat):List Bool:=(c.lat.take i).map fun q=>lkE m q.next
theorem Hz(c:Ci)(m:Env)(g:La)(l:List Bool)(p:Nat->Bool):(kS c m++[laO g,yl l]).map (O.drop p)=kS c m++[laO g,yl l]:=by
 have h1:O.drop p (yl l)=yl l:=by show O.cells (V.drops _ _)=_;rw[cu]
 rw[zql,xM];show _++[laO g,O.drop p (yl l)]=_;rw[h1]
def dS(c:Ci)(m:Env)(i:Nat)(f:Fr)(h:H):Prop:=i=0/\f.t 11= .nils/\h=kS c m\/0<i/\f.t 11= .ls 5 1 0 i i/\∃g,h=kS c m++[laO g,yl (o7 c m i)]
def dSX(c:Ci)(m:Env)(i:Nat)(f:Fr)(h:H):Prop:=i=0/\f.t 11= .nils/\h=kS c m\/0<i/\f.t 11= .ls 5 1 0 i i/\∃g X,h=kS c m++[laO g,yl (o7 c m i)]++X
theorem FT[MO](c:Ci)(st ins:List Bool)(hst:st.length<=1000000)(hins:ins.length<=1000000)(ho:(mO c).1=0){R:AEnd->H->(Nat->Bool)->Prop}
 (hr:∀(h:H)(v w:V),aA TE h v (dh (oq c st ins).1)->aA TE h w (dh (oq c st ins).2.1)->R (.ret (.tup [v,w,vi (oq c st ins).2.2])) h (fun _=>false)) :
 ag TE 48 [.lp 2 0,dh st,dh ins] [rE c,rE c,jC c] R:=by
 have hM:=mLx;have hn:=qf ho;have hlim:=TA hn.lim;obtain⟨l1,l2,l3,l4,l5⟩:=hlim;refine tN ?_;refine ax Tryz.func48 rfl (by simp[nts]) ?_;refine vn ?_;simp only[wq.1,seval,Tryz.results48];refine vn ?_;simp only[wq.1,seval];refine Ed c st ins hst hins hn (fun hc=> ?_) (fun h1 h2=> ?_)
 ·have hq:oq c st ins=([],[],11):=by unfold oq;rw[if_neg (fun h=>h ho),if_pos hc]
  rw[hq]at hr;simp only[wq.1,seval];refine vn ?_;simp only[wq.1,seval];exact hr _ _ _ aA.nils aA.nils
 ·obtain⟨m,hm⟩:∃m,m=AL c st ins:=⟨_,rfl⟩;have okm:okE m:=by rw[hm];exact AC _ (Hw _ _)
  have hq:oq c st ins=(c.outs.map (lkE m),c.lat.map (fun q=>lkE m q.next),0):=by unfold oq;rw[if_neg (fun h=>h ho),if_neg (by omega),hm]
  rw[hq]at hr;rw[<-hm];simp only[wq.1,seval];refine vn ?_;simp only[wq.1,seval];have hm2:(kS c m)[2]? =some (jC c):=rfl;refine vn ?_;simp only[wq.1,Nat.reduceLT];refine aj ?_;refine vn ?_;simp only[wq.1,seval,jC];refine aB ?_;refine aF (fun k f h=>∃i:Nat,k+i=c.lat.length/\i<=c.lat.length/\f.t 0= .lp 2 0/\f.t 9= .lm 3/\f.t 28=oK c.lat/\f.t 29=vi c.lat.length/\f.t 30=vi i/\f.d=[]/\(∀j,j<3->f.k j=false)/\dSX c m i f h) c.lat.length ⟨0,by omega,by omega,by simp only[wq.1,seval],by simp only[wq.1,seval],by simp only[wq.1,seval],by simp only[wq.1,seval],by simp only[wq.1,↓reduceIte];rfl,by simp only[wq.1],fun j _=>(by simp only[wq.1]),.inl ⟨rfl,by simp only[wq.1,seval],rfl⟩⟩ ?_;rintro k f h ⟨i,hk,hil,t0,t9,t28,t29,t30,hd,hkk,hX⟩;obtain⟨Y,h',f',hcut,u0,u9,u28,u29,u30,ud,uk,hh⟩:∃(Y h':H)(f':Fr),(∀Q:XE->Fr->H->Prop,∀cd,awp TE 50 none cd Q f' h'->awp TE 50 none cd Q f h)/\f'.t 0= .lp 2 0/\f'.t 9= .lm 3/\f'.t 28=oK c.lat/\f'.t 29=vi c.lat.length/\f'.t 30=vi i/\f'.d=[]/\(∀j,j<3->f'.k j=false)/\dS c m i f' h':=by
   rcases hX with⟨h0,t11,rfl⟩|⟨hi,t11,g,X,rfl⟩
   ·exact⟨[],_,f,fun _ _ hh=>hh,t0,t9,t28,t29,t30,hd,hkk,.inl ⟨h0,t11,rfl⟩⟩
   ·refine⟨X,kS c m++[laO g,yl (o7 c m i)],f.drop (Abs.eF (kS c m++[laO g,yl (o7 c m i)]).length),fun Q cd hh=> ?_,?_,?_,?_,?_,?_,hd,fun j hj=> ?_,.inr ⟨hi,?_,g,rfl⟩⟩
    ·refine dK (by rw[hd];simp) ?_;rw[Hz];exact hh
    ·show(f.t 0).drop _=_;rw[t0];rfl
    ·show(f.t 9).drop _=_;rw[t9];rfl
    ·show(f.t 28).drop _=_;rw[t28];rfl
    ·show(f.t 29).drop _=_;rw[t29];rfl
    ·show(f.t 30).drop _=_;rw[t30];rfl
    ·have q:Abs.eF (kS c m++[laO g,yl (o7 c m i)]).length j=false:=by show decide (6<=j)=false;rw[zqd];omega
     simp only[Fr.drop,hkk j hj,q,Bool.or_self]
    ·show(f.t 11).drop _=_;rw[t11];rfl
  refine hcut _ _ ?_;clear hcut t0 t9 t28 t29 t30 hd hkk hX f h Y;have hw:=az (show i<maxLen by omega);refine vn ?_;simp only[wq.1,Nat.reduceLT,u29,u30];refine vn ?_;simp only[wq.1,↓reduceIte];refine vcB.mk (fun hlt=> ?_) (fun hlt=> ?_)
  ·have hlt:i<c.lat.length:=by have:=zqs hlt;omega
   have hgg:=Fa hlt .any;obtain⟨g,hg⟩:∃g,g=c.lat[i]:=⟨_,rfl⟩;rw[<-hg]at hgg;obtain⟨X3,hX3⟩:∃X3,X3=(o7 c m (i+1)).map V.bool:=⟨_,rfl⟩;have hnx:(o7 c m i).map V.bool++[.bool (lkE m g.next)]=X3:=by rw[hX3,o7,o7,List.take_succ_eq_append_getElem hlt,zql,zql,hg];rfl
   have hd3:V.drops (fun j=>j==5) ((o7 c m i).map V.bool)=(o7 c m i).map V.bool:=cu _;have hll:(o7 c m i).length=i:=by rw[zra,zrl];omega
   have hmg:=AB okm g.next
   have hmb:V.drops (fun x=>x==5) (m.2.map V.bool)=m.2.map V.bool:=cu _;have hmc:O.drop (fun x=>x==5) (jC c)=jC c:=by have:=xM c m (fun x=>x==5);simp only[kS,zrd,List.cons.injEq]at this;exact this.2.2.1
   simp only[wq.1];refine aj (aB ?_);rcases hh with⟨rfl,u11,rfl⟩|⟨hi,u11,g0,rfl⟩
   ·refine vn ?_;simp only[wq.1,↓reduceIte,Nat.reduceEqDiff,Nat.reduceLT,Nat.reduceLeDiff,Nat.reduceAdd,Nat.reduceSub,Int.reduceToNat,Nat.reduceDiv,Int.reduceLT,Int.reduceLE,Int.reduceNeg,Int.reduceBEq,Int.reduceBNe,Int.reduceAdd,Int.reduceSub,Nat.reduceBEq,reduceCtorEq,Nat.reduceMul,ak,Tryz.results48,u28,u30,hgg];refine⟨⟨by omega,by omega⟩,?_⟩;refine vm ?_;simp only[wq.1,↓reduceIte,Nat.reduceEqDiff,Nat.reduceLT,Nat.reduceLeDiff,Nat.reduceAdd,reduceCtorEq,Nat.reduceMul,u9,u11,hmg,K.keyOk];refine⟨⟨rfl,by decide⟩,by omega,?_⟩;refine vm ?_;simp only[wq.1,seval,u30,hw];exact .inl ⟨k-1,by omega,1,by omega,by omega,u0,u9,u28,u29,rfl,ud,uk,.inr ⟨by omega,rfl,g,[],by rw[o7,List.take_succ_eq_append_getElem hlt,<-hg];rfl⟩⟩
   ·refine vn ?_;simp only[wq.1,↓reduceIte,Nat.reduceEqDiff,Nat.reduceLT,Nat.reduceAdd,u28,u30,hgg];refine⟨⟨by omega,by omega⟩,?_⟩;refine vm ?_;simp only[wq.1,↓reduceIte,Nat.reduceEqDiff,Nat.reduceLT,Nat.reduceLeDiff,Nat.reduceAdd,reduceCtorEq,Nat.reduceMul,u9,u11,ud,hmg,K.keyOk,hd3,hmc,hmb,hnx];refine⟨⟨rfl,by decide⟩,⟨by rw[zrl];omega,by omega,by omega⟩,?_⟩;refine vm ?_;simp only[wq.1,seval,u30,hw];refine .inl ⟨k-1,by omega,i+1,by omega,by omega,by simp only[wq.1,seval,u0],by simp only[wq.1,seval,u9],by simp only[wq.1,seval,u28],by simp only[wq.1,seval,u29],by simp only[wq.1,↓reduceIte],ud,fun j hj=> ?_,.inr ⟨by omega,by simp only[wq.1,seval],g0,[laO g],by rw[hX3,cu];rfl⟩⟩;have q:(j==5)=false:=by rw[beq_eq_false_iff_ne];omega
    simp only[wq.1,uk j hj,q]
  ·have hi:i=c.lat.length:=by have:=of_decide_eq_false hlt;omega
   subst hi;clear hlt hk hil hw;obtain⟨hid,h2m,hcl,hre⟩:h'[3]? =some (QV m)/\h'[2]? =some (jC c)/\(∀p:Nat->Bool,(∀j,j<h'.length->p j=false)->h'.map (O.drop p)=h')/\aA TE h' (f'.t 11) (dh (o7 c m c.lat.length)):=by
    rcases hh with⟨hl0,u11,rfl⟩|⟨hi,u11,g,rfl⟩
    ·refine⟨rfl,rfl,fun p _=>xM c m p,?_⟩;rw[u11,o7,hl0];exact aA.nils
    ·refine⟨rfl,rfl,fun p _=>Hz c m g _ p,?_⟩;rw[u11];exact sJ rfl (by simp)
   rw[o7,zrx]at hre;clear hh;simp only[wq.1];refine vn ?_;simp only[wq.1,seval,u0,u9,h2m,jC];refine y5 okm hid hcl c.outs (by omega) ?_;simp only[wq.1,seval];refine vm ?_;simp only[wq.1,seval,ud];exact⟨uk,hr _ _ _ (aA.dat (by simp only[V.dat,jL])) hre⟩
theorem NZ[MO](c:Ci)(hs:Sum c)(st ins:List Bool)(hst:st.length<=1000000)(hins:ins.length<=1000000):Ev TE 16 [c.v,dh st,dh ins] (.tup [dh (oq c st ins).1,dh (oq c st ins).2.1,vi (oq c st ins).2.2]):=by
 refine ah Tryz.func16 rfl (by simp[nts]) ?_;refine vn ?_;simp only[wq.1,Nat.reduceLT,Tryz.results16];refine vn ?_;simp only[wq.1,seval];refine FQ c hs rfl (fun ho=> ?_) (fun ho=> ?_)
 ·simp only[wq.1,seval];refine vn ?_;simp only[wq.1,seval];refine vn ?_;simp only[wq.1,seval];refine FT c st ins hst hins ho fun h v w hv hw=> ?_;simp only[wq.1,seval];refine vm ?_;simp only[wq.1,seval];exact aA.tup (au.cons hv (au.cons hw (au.cons (aA.dat rfl) au.nil)))
 ·have hq:oq c st ins=([],[],1):=by unfold oq;rw[if_pos ho]
  rw[hq];simp only[wq.1,seval];refine vn ?_;simp only[wq.1,seval];exact aA.tup (au.cons aA.nils (au.cons aA.nils (au.cons (aA.dat rfl) au.nil)))
theorem Ee[MO](a:List Bool):Ev TE 18 [dh a,dh a] (.bool true):=by
 have hM:=mLx;refine Ev.bnd fun hb=> ?_;have hlen:a.length<=maxLen:=by simp only[V.bnds,V.bnd,zra]at hb;exact hb.1.1
 have e1:((a.length:Int) != (a.length:Int))=false:=by simp
 refine ah Tryz.func18 rfl (by simp[nts]) (vm ?_);simp only[wq.1,seval,Tryz.results18,e1];refine aF (fun m f h=>∃i,m+i=a.length/\f.t 0=dh a/\f.t 1=dh a/\f.t 5= .int .i64 (i:Int)/\f.d=[]) a.length ⟨0,by simp,rfl,rfl,rfl,rfl⟩ ?_;rintro m f h ⟨i,hm,h0,h1,h5,hd⟩;refine vm ?_;simp only[wq.1,seval,h0,h5];refine vcB.mk (fun hc=> ?_) (fun hc=> ?_)
 ·simp only[zqb,zqi]at hc;have ga:=QL hc .any;have e2:(a[i] != a[i])=false:=by simp
  simp only[wq.1,seval,h0,h1,h5,ga];refine⟨by decide +kernel,⟨by omega,by omega⟩,⟨by omega,by omega⟩,?_⟩;simp only[wq.1,az (show i<maxLen by omega)];exact .inl ⟨m-1,by omega,i+1,by omega,h0,h1,rfl,hd⟩
 ·simp only[wq.1,seval,hd];exact aA.dat rfl
theorem xN(a:List Bool):V.dats [dh a,dh a]=true:=by simp only[V.dats,V.dat,jL,zre]
theorem HY(c:Ci)(a b:List Bool):V.dats [c.v,dh a,dh b]=true:=by simp only[V.dats,V.dat,aG,jL,qh,mr,zre]
theorem ev_blifRuns[MO](c:Ci)(hs:Sum c)(st ins:List Bool):Ev TE 5 [c.v,dh st,dh ins] (.bool true):=by
 have hM:=mLx;have e1:=NM c;have e2:=G9 c hs;refine ah Tryz.func5 rfl (by simp[nts]) ?_;refine vn ?_;simp only[wq.1,Nat.reduceLT,Tryz.results5];refine vn ?_;simp only[wq.1,Nat.reduceLT];refine ag.ev Jq rfl ?_;simp only[wq.1,seval];refine vn ?_;simp only[wq.1,seval];refine vn ?_;simp only[wq.1,seval];refine ag.ev e1 (pJ c) ?_;simp only[wq.1,seval];refine vn ?_;simp only[wq.1,seval];refine ag.ev e2 (pJ c) ?_;simp only[wq.1,seval];refine vn ?_;simp only[wq.1,seval];by_cases hb:(oN c=true/\(mO c).1=0)/\st.length<=60/\ins.length<=60
 ·obtain⟨⟨hf,ho⟩,h1,h2⟩:=hb;have hp:qQ c=(kw c,0):=by unfold qQ;rw[if_pos ho]
  have e4:=rD (kw c) (Js ho hf);rw[Ec ho]at e4;have hs2:Sum (gG c):=by show c.ins.length+c.lat.length+(c.gates.map aK).length<=_;rw[zra];exact hs
  have e5:=NZ c hs st ins (by omega) (by omega);have e6:=NZ (gG c) hs2 st ins (by omega) (by omega);rw[FP ho]at e6;have q1:decide ((60:Int)<(st.length:Int))=false:=by rw[zqd];omega
  have q2:decide ((60:Int)<(ins.length:Int))=false:=by rw[zqd];omega
  have e7:=Ee (oq c st ins).1;have e8:=Ee (oq c st ins).2.1;have e9:=BN c.ins c.ins;have e10:=BN c.outs c.outs;rw[beq_self_eq_true]at e9 e10;simp only[wq.1,Int.reduceBNe,hf,hp,q1,q2];refine vn ?_;simp only[wq.1,seval];refine ag.ev e4 rfl ?_;simp only[wq.1,seval];refine vn ?_;simp only[wq.1,seval];refine ag.ev e5 (HY _ _ _) ?_;simp only[wq.1,seval];refine vn ?_;simp only[wq.1,seval];refine ag.ev e6 (HY (gG c) _ _) ?_;simp only[wq.1,seval];refine vn ?_;simp only[wq.1,seval];refine ag.ev e9 (yY _) ?_;simp only[wq.1,seval];refine ag.ev e10 (yY _) ?_;simp only[wq.1,seval];refine vn ?_;simp only[wq.1,seval,vM];refine⟨Am,ag.ev e7 (xN _) ?_⟩;simp only[wq.1,seval];refine ag.ev e8 (xN _) ?_;simp only[wq.1,seval];refine vm ?_;simp only[wq.1,↓reduceIte];exact aA.dat rfl
 ·have hc:(!oN c||(qQ c).2 != 0||decide ((60:Int)<(st.length:Int))||decide ((60:Int)<(ins.length:Int)))=true:=by
   cases hx:(!oN c||(qQ c).2 != 0||decide ((60:Int)<(st.length:Int))||decide ((60:Int)<(ins.length:Int)))with
   |true=>rfl
   |false =>
    exfalso;simp only[zsf,Bool.not_eq_false',zqd,bne_eq_false_iff_eq]at hx;refine hb ⟨⟨hx.1.1.1,?_⟩,by omega,by omega⟩;have h2:=hx.1.1.2;unfold qQ at h2;split at h2
    ·assumption
    ·exact absurd h2 (by decide)
  refine vcB.mk (fun _=> ?_) (fun h=>absurd hc (by rw[h];decide));simp only[wq.1,seval];exact aA.dat rfl
end Go.Proofs.YtokppohljajhjaaGreatDoor
