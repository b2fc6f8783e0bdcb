/- Lemmas for this claim, part F12: each holds under what it names. -/
import Derived.Test.YthaijohbpdabfaaGreatDoorNF11
import Derived.Test.YthaijohbpdabfaaGreatDoorNF09
import Derived.Test.YthaijohbpdabfaaGreatDoorNF07
import Derived.Test.YthaijohbpdabfaaGreatDoorNF02
import Derived.Test.YthaijohbpdabfaaGreatDoorNA9
set_option linter.all false
set_option maxRecDepth 20000
set_option maxHeartbeats 8000000
namespace Go.Proofs.YthaijohbpdabfaaGreatDoor
open Go Go.Proofs Go.Abs
abbrev x25:Nat->Bool:=fun i=>i==2||i==5
theorem qm{p:Nat->Bool}:∀ {h:H} {k:Nat},(jk p k h).length=h.length
 |[],k=>rfl
 |o::h,k=>by rw[jk,zrt,zrt,qm]
theorem VN{e:E}{n:Nat}{r:Option Nat}{c:Code}{Q:XE->Fr->H->Prop}{f:Fr}{h:H}(P:Fr->H->Prop)(h1:P f h\/∃f' h',P f' h'/\(awp e n r c Q f' h'->awp e n r c Q f h))(h2:∀f h,P f h->awp e n r c Q f h):awp e n r c Q f h:=by
 rcases h1 with h|⟨f',h',h,t⟩
 ·exact h2 _ _ h
 ·exact t (h2 _ _ h)
theorem pz:x25 0=false/\x25 1=false/\x25 3=false/\x25 4=false:=⟨rfl,rfl,rfl,rfl⟩
theorem k25{f:Fr}{n:Nat}(hk:∀j,j<n->f.k j=true->j=2\/j=5)(j:Nat)(hj:j<n)(h:(f.k j||x25 j)=true):j=2\/j=5:=by
 rcases(Bool.or_eq_true _ _).mp h with h|h
 ·exact hk j hj h
 ·rcases(Bool.or_eq_true _ _).mp h with h|h
  ·exact .inl (by simpa using h)
  ·exact .inr (by simpa using h)
theorem jf{e:E}{g:FuncId}{args:List V}{h:H}{R:AEnd->H->(Nat->Bool)->Prop}(hc:ag e g args h fun ae h' p=>(∀i,i<h.length->p i=true->i=2\/i=5)/\R ae h' x25):ag e g args h R:=by
 intro ok pl w vs hs hl;refine(hc ok pl w vs hs hl).mono ?_;rintro en w' ⟨p,pl',h',ae,h1,h2,h3,h4,h5⟩;refine⟨x25,pl',h',ae,h1,⟨h2.os,h2.tape,h2.output,h2.size,h2.same,h2.loc,fun i b hp hi=>h2.keep i b ?_ hi,h2.row⟩,h3,h5⟩;cases hpi:p i with
 |false=>rfl
 |true =>
  rcases h4 i (hs.pl_lt hi) hpi with rfl|rfl
  ·cases hp
  ·cases hp
theorem XB[MO]{x:Xs}{h:H}(k:XH x h)(g:Ga)(hb:xsz x<=100000000){R:AEnd->H->(Nat->Bool)->Prop}
 (hr:∀h',XH (jA x g).1 h'->XK h h'->h.length<=h'.length->R (.ret (.str (jA x g).2)) h' x25):ag TE 47 [.lp 4 0,g.v] h R :=
 jf (FI k g hb fun h' p a b d c=>⟨fun i _=>c i,hr h' a b d⟩)
theorem SI[MO]{x:Xs}{h:H}(k:XH x h)(hnl:x.nots.1.length=x.nots.2.length)(s:S)(hb:xsz x<=100000000){R:AEnd->H->(Nat->Bool)->Prop}
 (hr:∀h',XH (gY x s).1 h'->XK h h'->h.length<=h'.length->R (.ret (.str (gY x s).2)) h' x25):ag TE 221 [.lp 4 0,.str s] h R :=
 jf (FM k hnl s hb fun h' p a b d c=>⟨fun i _=>c i,hr h' a b d⟩)
theorem FN[MO]{x:Xs}{h:H}(k:XH x h)(g:Ga){i r:V}(hi:VLe i (aN g.ins))(hrr:VLe r (aN g.rows))(hb:xsz x<=100000000){R:AEnd->H->(Nat->Bool)->Prop}
 (hr:∀h',XH (jA x g).1 h'->XK h h'->h.length<=h'.length->R (.ret (.str (jA x g).2)) h' x25):ag TE 47 [.lp 4 0,.agg [.str g.name,vi g.op,i,r,.bool g.off]] h R :=
 gG (bW.cons (VLe.refl _) (bW.cons (Dh g hi hrr) bW.nil)) (HLe.refl _) (XB k g hb hr)
theorem XH.dropD{x:Xs}{h:H}(k:XH x h){K:Nat}(hK:5<K):XH x (jk (fun j=>j==K) 0 h):=by
 have ne:∀ {j:Nat},j<=5->(j==K)=false:=fun hj=>by rw[beq_eq_false_iff_ne];omega
 have old:∀ {j:Nat} {y:O},j<=5->h[j]? =some y->y.drop (fun j=>j==K)=y->(jk (fun j=>j==K) 0 h)[j]? =some y:=fun {j y} hj hy hd=>by rw[iy,hy];simp only[Nat.zero_add,ne hj,if_neg (show ¬false=true by decide),zrw,hd,zrm,if_false]
 refine⟨old (by omega) k.a ?_,old (by omega) k.u ?_,old (by omega) k.n ?_,old (by omega) k.g ?_⟩
 ·simp only[O.drop,V.drops,V.drop,ne (show 5<=5 by omega),ne (show 2<=5 by omega),ne (show 3<=5 by omega),zrm,if_false]
 ·show O.cells (V.drops _ _)=_;rw[aJ]
 ·exact jH _ _
 ·show O.cells (V.drops _ _)=_;rw[jK]
theorem XK.dropD{h0 h:H}(k:XK h0 h){K:Nat}(hK:h0.length<=K):XK h0 (jk (fun j=>j==K) 0 h):=fun j cs hj hc hd=>by
 have hl:=(zqe hc).1;have ne:(j==K)=false:=by rw[beq_eq_false_iff_ne];omega
 rw[iy,k j cs hj hc hd];simp only[Nat.zero_add,ne,zrm,if_false,zrw,O.drop,jE.dats_drops _ hd]
theorem uY[MO](c:List S)(hc:c.length<=1000000):Ev TE 48 [aN c] (aN c):=(pX c hc).ev (fun _ he=>by rw[show aN c= .is false 1 [] by rw[List.map_eq_nil_iff.1 he];rfl];exact VLe.nils) (fun h' id cap _ hid=>aV hid rfl) (fun _ he _=>by rw[List.map_eq_nil_iff.1 he];exact aG.nils)
theorem AB[MO]{x:Xs}{h0:H}(k0:XH x h0)(name:S)(op last:Int)(l0:List S)(h1l:1<=l0.length)(hll:l0.length<=1000000)(hb0:xsz x+2*l0.length<=100000000){R:AEnd->H->(Nat->Bool)->Prop}
 (hr:∀h',XH (jG l0.length x name op last l0).1 h'->XK h0 h'->h0.length<=h'.length->R (.ret (.str (jG l0.length x name op last l0).2)) h' x25):ag TE 92 [.lp 4 0,.str name,vi op,vi last,aN l0] h0 R:=by
 have hM:=mLx;have hl5:5<h0.length:=(zqe k0.g).1;obtain⟨Z,eZ⟩:∃Z,Z=jG l0.length x name op last l0:=⟨_,rfl⟩;rw[<-eZ]at hr;refine jf ?_;refine aj Tryz.func92 rfl (by simp[nts]) ?_;refine vn ?_;simp only[wq.1,seval,Tryz.results92];refine ai ?_;refine aA ?_;refine aC (fun m f h=>∃y l F,m=l.length/\l.length<=F/\1<=l.length/\l.length<=1000000/\xsz y+2*l.length<=100000000/\jG F y name op last l=Z/\XH y h/\XK h0 h/\h0.length<=h.length/\f.t 0= .lp 4 0/\f.t 1= .str name/\f.t 2=vi op/\f.t 3=vi last/\(f.t 4=aN l\/∃K,h0.length<=K/\f.t 4= .ls K 1 0 l.length l.length/\h[K]? =some (.cells (l.map V.str)))/\f.d=[]/\(∀j,j<h0.length->f.k j=true->j=2\/j=5)) l0.length ⟨x,l0,l0.length,rfl,zrb _,h1l,hll,hb0,eZ.symm,k0,XK.refl _,zrb _,rfl,rfl,rfl,rfl,.inl rfl,rfl,fun j _ hj=>by cases hj⟩ ?_;rintro m f h ⟨y,l,F,rfl,hlF,hl1,hl2,hb,hZ,k,kk,hle,t0,t1,t2,t3,hst,hd,hk⟩;refine VN (fun f h=>XH y h/\XK h0 h/\h0.length<=h.length/\f.t 0= .lp 4 0/\f.t 1= .str name/\f.t 2=vi op/\f.t 3=vi last/\f.t 4=aN l/\f.d=[]/\(∀j,j<h0.length->f.k j=true->j=2\/j=5)) ?_ ?_
 ·rcases hst with t4|⟨K,hK,t4,hKc⟩
  ·exact .inl ⟨k,kk,hle,t0,t1,t2,t3,t4,hd,hk⟩
  ·have n4:(4==K)=false:=by rw[beq_eq_false_iff_ne];omega
   refine .inr ⟨_,_,?_,xP K 4 (aN l) ?_ ?_ hd⟩
   rotate_left
   ·rw[t4];simp[V.drop]
   ·rw[t4];refine aV ?_ rfl;rw[gz,hKc];simp only[Nat.zero_add,beq_self_eq_true,if_true,zrw,O.drop,aJ]
   refine⟨k.dropD (K:=K) (by omega),kk.dropD hK,?_,?_,?_,?_,?_,?_,hd,fun j hj hp=> ?_⟩
   ·rw[qm];exact hle
   ·show(if 0=4 then aN l else(f.t 0).drop _)=_;rw[if_neg (by decide),t0];simp only[V.drop,n4,zrm,if_false]
   ·show(if 1=4 then aN l else(f.t 1).drop _)=_;rw[if_neg (by decide),t1];rfl
   ·show(if 2=4 then aN l else(f.t 2).drop _)=_;rw[if_neg (by decide),t2];rfl
   ·show(if 3=4 then aN l else(f.t 3).drop _)=_;rw[if_neg (by decide),t3];rfl
   ·rfl
   ·have hp':(f.k j||(j==K))=true:=hp;rcases(Bool.or_eq_true _ _).mp hp' with h|h
    ·exact hk j hj h
    ·have:j=K:=by simpa using h
     omega
 clear hst hd hk t0 t1 t2 t3 k kk hle f h;rintro f h ⟨k,kk,hle,t0,t1,t2,t3,t4,hd,hk⟩;refine vn ?_;simp only[wq.1,seval,t4];refine vcB.mk (fun hc=> ?_) (fun hc=> ?_)
 ·have h8:8<l.length:=by have:=zqs hc;omega
  obtain⟨n,hn⟩:∃n,F=n+1:=⟨F-1,by omega⟩;obtain⟨Y,eY⟩:∃Y,Y=jA y ⟨[],op,l.take 8,[],false⟩:=⟨_,rfl⟩;have hYs:=vS y ⟨[],op,l.take 8,[],false⟩;rw[<-eY]at hYs;rw[hn,jG,if_pos h8,<-eY]at hZ;have htk:(l.map V.str).take 8=(l.take 8).map V.str:=by rw[List.map_take]
  have hdr:(l.map V.str).drop 8=(l.drop 8).map V.str:=by rw[List.map_drop]
  have hcl:=uY (l.take 8) (by rw[zrl];omega);have hdl:(l.drop 8).length=l.length-8:=List.length_drop ..;simp only[wq.1];show awp _ _ _ _ _ _ _;refine aA ?_;refine vn ?_;simp only[wq.1,seval,t0,t2,t4,htk];refine⟨by omega,ag.ev hcl (by simp only[V.dats,V.dat,ax,zre]) ?_⟩;simp only[wq.1,seval];refine FN k ⟨[],op,l.take 8,[],false⟩ (VLe.refl _) dJ (by omega) fun h2 k2 kk2 hle2=> ?_;rw[<-eY]at k2 ⊢;simp only[wq.1,seval,bu,hd];obtain⟨K,eK⟩:∃K,K=h2.length:=⟨_,rfl⟩;have hK5:5<K:=by omega
  refine fM (fun f=>f.t 0= .lp 4 0/\f.t 1= .str name/\f.t 2=vi op/\f.t 3=vi last/\f.t 4=aN l/\f.t 11= .str Y.2/\f.d=[]/\(∀j,j<h0.length->f.k j=true->j=2\/j=5)) ⟨by simp only[wq.1,seval,t0,pz],by simp only[wq.1,seval,t1],by simp only[wq.1,seval,t2],by simp only[wq.1,seval,t3],by simp only[wq.1,seval,t4],by simp only[wq.1,↓reduceIte],by simp only[wq.1,hd],fun j hj h=>k25 hk j hj h⟩ ?_;clear t0 t1 t2 t3 t4 hd hk f;rintro f ⟨t0,t1,t2,t3,t4,t11,hd,hk⟩;refine vm ?_;simp only[wq.1,↓reduceIte,Nat.reduceEqDiff,Nat.reduceLT,Int.reduceToNat,Int.reduceLE,reduceCtorEq,Nat.reduceMul,t4,t11,hdr];refine⟨⟨rfl,by decide⟩,by omega,mZ _,⟨.inr (by omega),by omega,by omega⟩,.inl ⟨(Y.2::l.drop 8).length,by simp only[zrt];omega,Y.1,Y.2::l.drop 8,n,rfl,by simp only[zrt];omega,by simp,by simp only[zrt];omega,by simp only[zrt];omega,hZ,k2.app _,(kk.trans kk2).trans (XK.app _ _),by rw[zqa];omega,by simp only[wq.1,↓reduceIte,Nat.reduceEqDiff,Nat.reduceLT,Nat.reduceLeDiff,Nat.reduceAdd,Nat.reduceSub,Int.reduceToNat,Nat.reduceDiv,Int.reduceLT,Int.reduceLE,Int.reduceNeg,Int.reduceBEq,Int.reduceBNe,Int.reduceAdd,Int.reduceSub,Nat.reduceBEq,reduceCtorEq,Nat.reduceMul,au,Tryz.results92,t0],by simp only[wq.1,↓reduceIte,Nat.reduceEqDiff,Nat.reduceLT,Nat.reduceLeDiff,Nat.reduceAdd,Nat.reduceSub,Int.reduceToNat,Nat.reduceDiv,Int.reduceLT,Int.reduceLE,Int.reduceNeg,Int.reduceBEq,Int.reduceBNe,Int.reduceAdd,Int.reduceSub,Nat.reduceBEq,reduceCtorEq,Nat.reduceMul,au,Tryz.results92,t1],by simp only[wq.1,↓reduceIte,Nat.reduceEqDiff,Nat.reduceLT,Nat.reduceLeDiff,Nat.reduceAdd,Nat.reduceSub,Int.reduceToNat,Nat.reduceDiv,Int.reduceLT,Int.reduceLE,Int.reduceNeg,Int.reduceBEq,Int.reduceBNe,Int.reduceAdd,Int.reduceSub,Nat.reduceBEq,reduceCtorEq,Nat.reduceMul,au,Tryz.results92,t2],by simp only[wq.1,↓reduceIte,Nat.reduceEqDiff,Nat.reduceLT,Nat.reduceLeDiff,Nat.reduceAdd,Nat.reduceSub,Int.reduceToNat,Nat.reduceDiv,Int.reduceLT,Int.reduceLE,Int.reduceNeg,Int.reduceBEq,Int.reduceBNe,Int.reduceAdd,Int.reduceSub,Nat.reduceBEq,reduceCtorEq,Nat.reduceMul,au,Tryz.results92,t3],.inr ⟨h2.length,by omega,by simp only[wq.1,↓reduceIte,Nat.reduceEqDiff,Nat.reduceLT,Nat.reduceLeDiff,Nat.reduceAdd,Nat.reduceSub,Int.reduceToNat,Nat.reduceDiv,Int.reduceLT,Int.reduceLE,Int.reduceNeg,Int.reduceBEq,Int.reduceBNe,Int.reduceAdd,Int.reduceSub,Nat.reduceBEq,reduceCtorEq,Nat.reduceMul,au,Tryz.results92,Nat.add_comm,zrt],by simp⟩,by simp only[wq.1,↓reduceIte,Nat.reduceEqDiff,Nat.reduceLT,Nat.reduceLeDiff,Nat.reduceAdd,Nat.reduceSub,Int.reduceToNat,Nat.reduceDiv,Int.reduceLT,Int.reduceLE,Int.reduceNeg,Int.reduceBEq,Int.reduceBNe,Int.reduceAdd,Int.reduceSub,Nat.reduceBEq,reduceCtorEq,Nat.reduceMul,au,Tryz.results92,hd],fun j hj h=>hk j hj h⟩⟩
 ·have h8:¬8<l.length:=by have:=of_decide_eq_false hc;omega
  obtain⟨n,hn⟩:∃n,F=n+1:=⟨F-1,by omega⟩;rw[hn,jG,if_neg h8]at hZ;simp only[wq.1];show awp _ _ _ _ _ _ _;refine vn ?_;simp only[wq.1,seval,t0,t1,t3,t4];refine FN k ⟨name,last,l,[],false⟩ (VLe.refl _) dJ (by omega) fun h' a b c=> ?_;rw[hZ]at a ⊢;simp only[wq.1,seval,bu,hd];refine vm ?_;simp only[wq.1,↓reduceIte,hd];exact⟨fun j hj hp=>k25 hk j hj hp,hr _ a (kk.trans b) (by omega)⟩
def Uf[MO](ins:List S)(l:List Fo):Prop :=
 ∀(x:Xs)(h:H)(fo:Fo)(j:Nat),XH x h->nlX x->WF ins.length (fo.kids+j) l->xsz x+5*l.length<=90000000->∀(R:AEnd->H->(Nat->Bool)->Prop),
  (∀h',XH (aP ins (l.length+1) fo.kids x l).1 h'->XK h h'->h.length<=h'.length->R (.ret (.tup [aN (aP ins (l.length+1) fo.kids x l).2.1,nI (aP ins (l.length+1) fo.kids x l).2.2])) h' x25) ->
  ag TE 91 [.lp 4 0,nI (fo::l),aN ins] h R
theorem Pv{j:Nat}(h:x25 j=true):j=2\/j=5:=by
 rcases(Bool.or_eq_true _ _).mp h with h|h
 ·exact .inl (by simpa using h)
 ·exact .inr (by simpa using h)
theorem Px:∀n:Nat,n<16->((n:Nat):Int).fdiv (2^(min 1 IntKind.i64.bits))=((n/2:Nat):Int):=by decide +kernel
theorem Py:∀n:Nat,n<16->(IntKind.i64.wrap ((BitVec.ofInt IntKind.i64.bits (n:Int) &&& BitVec.ofInt IntKind.i64.bits 1).toNat:Int)==1)=decide (n%2=1):=by decide +kernel
theorem VO[MO]{ins:List S}(hil:ins.length<=8){l:List Fo}(hll:l.length<=1000000)(hK:Uf ins l){x:Xs}{h:H}{fo:Fo}{j:Nat}(k:XH x h)(hnl:nlX x)(hw:WF ins.length (1+j) (fo::l))(hb:xsz x+5*(l.length+1)<=90000000)
 {R:AEnd->H->(Nat->Bool)->Prop} (hr:∀h',XH (mi ins x fo l).1 h'->XK h h'->h.length<=h'.length->R (.ret (.tup [.str (mi ins x fo l).2.1,nI (mi ins x fo l).2.2])) h' x25) :
 ag TE 158 [.lp 4 0,nI (fo::l),aN ins] h R:=by
 have hM:=mLx;have hg0:((fo::l).map foV).getD 0 .any=foV fo:=rfl;have hl5:5<h.length:=(zqe k.g).1;obtain⟨B,hB⟩:∃B,B=h.length:=⟨_,rfl⟩;have hgE:∀x:O,(h++[x])[B]? =some x:=fun x=>by rw[hB];simp
 have hgS:∀x y:O,(h++[x]).set B y=h++[y]:=fun x y=>by rw[hB];simp
 have ek2:((fo.kind:Int)==2)=decide (fo.kind=2):=by rw[Bool.eq_iff_iff,beq_iff_eq,zqb];omega
 have hdrop:((fo::l).map foV).drop 1=l.map foV:=rfl;rw[Nat.add_comm]at hw;unfold WF at hw;refine jf ?_;refine aj Tryz.func158 rfl (by simp[nts]) ?_;refine vn ?_;simp only[wq.1,seval,Tryz.results158];refine ai ?_;refine vn ?_;simp only[wq.1,seval,<-hB,hgE,hgS];refine⟨by omega,?_⟩;rcases hw with⟨w1,w2,w3⟩|⟨w1,w2,w3⟩
 ·rw[decide_eq_true w1]at ek2;have hi:fo.lit/2<ins.length:=by omega
  have hgi:=zW hi .any;unfold mi Aq at hr;rw[if_pos w1]at hr;have es:=Px fo.lit (by omega);have ea:=Py fo.lit (by omega);obtain⟨s,hs⟩:∃s,s=ins.getD (fo.lit/2) []:=⟨_,rfl⟩;have hgs:(ins.map V.str).getD (fo.lit/2) .any= .str s:=by rw[hgi,hs,zqg,zqk hi];rfl
  rw[<-hs]at hr;by_cases ho:fo.lit%2=1
  ·rw[if_pos ho]at hr;rw[decide_eq_true ho]at ea;refine vm ?_;simp only[wq.1,seval,hgE,ek2,es,ea,hgs];refine⟨⟨by omega,by omega⟩,?_⟩;refine SI (k.app _) hnl s (by omega) fun h2 k2 kk2 hle2=> ?_;simp only[wq.1,seval,bu];refine⟨by decide +kernel,by omega,fun j _ hj=> ?_,hr _ k2 ((XK.app _ _).trans kk2) (by rw[zqa]at hle2;omega)⟩;exact Pv hj
  ·rw[if_neg ho]at hr;rw[decide_eq_false ho]at ea;refine vm ?_;simp only[wq.1,seval,hgE,ek2,es,ea,hgs];exact⟨⟨by omega,by omega⟩,by decide +kernel,by omega,hr _ (k.app _) (XK.app _ _) (by simp)⟩
 ·have hn:¬fo.kind=2:=by rcases w1 with h|h<;>rw[h]<;>decide
  rw[decide_eq_false hn]at ek2;unfold mi at hr;rw[if_neg hn]at hr;refine vm ?_;simp only[wq.1,seval,hgE,ek2];show awp _ _ _ _ _ _ _;have ek3:((fo.kind:Int)==3)=decide (fo.kind=3):=by rw[Bool.eq_iff_iff,beq_iff_eq,zqb];omega
  obtain⟨a1,a2,a3⟩:=jg (n:=ins.length) (ins:=ins) (l.length+1) fo.kids (0+j) x l (by rw[Nat.zero_add];exact w3) (by omega);have a4:=nH (n:=ins.length) (ins:=ins) (l.length+1) fo.kids (0+j) x l (by rw[Nat.zero_add];exact w3) (by omega);obtain⟨q,hq⟩:∃q,q=aP ins (l.length+1) fo.kids x l:=⟨_,rfl⟩;rw[<-hq]at a1 a2 a3 a4 hr;refine vn ?_;simp only[wq.1,Nat.reduceLT];refine ai (aX (Q:=fun xe f h'=>xe= .normal/\h'=h++[O.cells [vi fo.kind,vi fo.lit,vi fo.kids]]/\f.t 0= .lp 4 0/\f.t 1=nI (fo::l)/\f.t 2=aN ins/\f.t 10=vi (opF fo)/\f.d=[]/\f.k=fun _=>false) ?_ ?_)
  ·rintro xe f h' ⟨rfl,rfl,t0,t1,t2,t10,hd,hk⟩;show awp _ _ _ _ _ _ _;refine vn ?_;simp only[wq.1,seval,t0,t1,t2];refine hK x _ fo j (k.app _) hnl (by rw[Nat.zero_add]at a2;exact w3) (by omega) _ fun h2 k2 kk2 hle2=> ?_;rw[<-hq]at k2 ⊢;simp only[wq.1,seval,bu,hd];refine vn ?_;simp only[wq.1,seval,t0,t10,pz];refine AB k2 [] (opF fo) (opF fo) q.2.1 (by omega) (by omega) (by omega) fun h3 k3 kk3 hle3=> ?_;simp only[wq.1,seval,bu,hd];refine vm ?_;simp only[wq.1,seval,hd];refine⟨fun j hj hp=>(by have hp':(f.k j||x25 j||x25 j)=true:=hp;rw[hk,Bool.false_or,Bool.or_self]at hp';exact Pv hp'),hr _ k3 (((XK.app _ _).trans kk2).trans kk3) (by rw[zqa]at hle2;omega)⟩
  ·refine vm ?_;simp only[wq.1,seval,ek3];refine⟨by omega,vcB.mk (fun h3=> ?_) (fun h3=> ?_)⟩
   ·have ho:opF fo=4:=by unfold opF;rw[if_pos (zqs h3)]
    simp only[wq.1,seval,ho]
   ·have ho:opF fo=6:=by unfold opF;rw[if_neg (of_decide_eq_false h3)]
    simp only[wq.1,seval,ho]
theorem XH.mapD{x:Xs}{h:H}(k:XH x h){K:Nat}(hK:5<K)(o:O):XH x ((h.map (O.drop fun j=>j==K)).set K o):=by
 have ne:∀ {j:Nat},j<=5->(j==K)=false:=fun hj=>by rw[beq_eq_false_iff_ne];omega
 have old:∀ {j:Nat} {y:O},j<=5->h[j]? =some y->y.drop (fun j=>j==K)=y->((h.map (O.drop fun j=>j==K)).set K o)[j]? =some y:=fun {j y} hj hy hd=>by rw[zqn (by omega),zqo,hy,zrw,hd]
 refine⟨old (by omega) k.a ?_,old (by omega) k.u ?_,old (by omega) k.n ?_,old (by omega) k.g ?_⟩
 ·simp only[O.drop,V.drops,V.drop,ne (show 5<=5 by omega),ne (show 2<=5 by omega),ne (show 3<=5 by omega),zrm,if_false]
 ·show O.cells (V.drops _ _)=_;rw[aJ]
 ·exact jH _ _
 ·show O.cells (V.drops _ _)=_;rw[jK]
theorem XK.mapD{h0 h:H}(k:XK h0 h){K:Nat}(hK:h0.length<=K)(o:O):XK h0 ((h.map (O.drop fun j=>j==K)).set K o):=fun j cs hj hc hd=>by have hl:=(zqe hc).1;exact(by rw[zqn (by omega)];exact XK.drop h _ j cs hj (k j cs hj hc hd) hd)
theorem Pz{n k:Nat}:∀ {l:List Fo},WF n (k+1) l->∃fo r,l=fo::r
 |[],h=>(Jh h).elim
 |fo::r,_=>⟨fo,r,rfl⟩
theorem PD[MO]{ins:List S}(hil:ins.length<=8):∀(N:Nat)(l:List Fo),l.length<N->l.length<=1000000->Uf ins l
 |0,_,h,_=>by omega
 |N+1,l,hlN,hll=>by
  intro x h0 fo j k0 hnl0 hw0 hb0 R hr;have hM:=mLx;have hl5:5<h0.length:=(zqe k0.g).1;obtain⟨F,eF⟩:∃F,F=l.length+1:=⟨_,rfl⟩;have hkl:fo.kids<=l.length:=by
   have:=(jg (n:=ins.length) (ins:=ins) (l.length+1) fo.kids j x l hw0 (by omega)).2.2;omega
  rw[<-eF]at hr;obtain⟨Z,eZ⟩:∃Z,Z=aP ins F fo.kids x l:=⟨_,rfl⟩;rw[<-eZ]at hr;obtain⟨B,hB⟩:∃B,B=h0.length:=⟨_,rfl⟩;have hg0:((fo::l).map foV).getD 0 .any=foV fo:=rfl;have hdrop:((fo::l).map foV).drop 1=l.map foV:=rfl;refine jf ?_;refine aj Tryz.func91 rfl (by simp[nts]) ?_;refine vn ?_;simp only[wq.1,Nat.reduceLT,Tryz.results91];refine vn ?_;simp only[wq.1,seval];refine⟨by decide +kernel,by omega,by omega,?_⟩;refine vn ?_;simp only[wq.1,seval];refine vn ?_;simp only[wq.1,Nat.reduceLT];refine gV 11 1 (by simp only[wq.1,↓reduceIte]) ?_;refine vn ?_;simp only[wq.1,seval];refine aC (fun m f h=>∃i y rest out,m+i=fo.kids/\i<=fo.kids/\WF ins.length (fo.kids-i+j) rest/\rest.length<=l.length/\nlX y/\xsz y+5*rest.length<=xsz x+5*l.length/\out.length=i/\Z=((aP ins F (fo.kids-i) y rest).1,out++(aP ins F (fo.kids-i) y rest).2.1,(aP ins F (fo.kids-i) y rest).2.2)/\XH y h/\XK h0 h/\B<h.length/\h[B]? =some (.cells (out.map V.str))/\f.t 0= .lp 4 0/\f.t 2=aN ins/\f.t 9=nI rest/\f.t 10= .fn (.func 158) [.lp 4 0] []/\f.t 11= .ls B 1 0 i i/\f.t 21=vi fo.kids/\f.t 22=vi i/\f.d=[]/\(∀j,j<h0.length->f.k j=true->j=2\/j=5)) fo.kids ⟨0,x,l,[],by omega,by omega,hw0,zrb _,hnl0,zrb _,rfl,by rw[eZ];rfl,k0.app _,XK.app _ _,by rw[hB];simp,by rw[hB];simp,by simp only[wq.1,seval],by simp only[wq.1,seval],by simp only[wq.1,seval],by simp only[wq.1,seval],by simp only[wq.1,seval,hB],by simp only[wq.1,seval],by rfl,by simp only[wq.1],fun j _ hj=>by cases hj⟩ ?_;rintro m f h ⟨i,y,rest,out,hm,hik,hw,hrl,hnl,hsz,hol,hZ,k,kk,hBl,hBo,t0,t2,t9,t10,t11,t21,t22,hd,hk⟩;have hwi:=aB (show i<maxLen by omega);refine vn ?_;simp only[wq.1,Nat.reduceLT,t21,t22];refine vn ?_;simp only[wq.1,↓reduceIte];refine vcB.mk (fun hlt=> ?_) (fun hlt=> ?_)
  ·have hlt:i<fo.kids:=by have:=zqs hlt;omega
   obtain⟨q,hq⟩:∃q,fo.kids-i=q+1:=⟨fo.kids-i-1,by omega⟩;have hq1:fo.kids-(i+1)=q:=by omega
   rw[hq]at hw hZ;obtain⟨f1,r1,rfl⟩:=Pz (n:=ins.length) (k:=q+j) (l:=rest) (by rw[show q+j+1=q+1+j by omega];exact hw);rw[zrt]at hrl hsz;obtain⟨s1,s2,s3⟩:=Az (ins:=ins) (F:=F) (x:=y) (k:=q) (j:=j) hw (by omega);have hsz2:=Vz (ins:=ins) (x:=y) (fo:=f1) (l:=r1) (j:=q+j) (n:=ins.length) (by rw[show 1+(q+j)=q+1+j by omega];exact hw);have hnl2:=VA (ins:=ins) f1 r1 hnl;have hkn:=fun R=>VO (R:=R) hil (by omega) (PD hil N r1 (by omega) (by omega)) (fo:=f1) (j:=q+j) k hnl (by rw[show 1+(q+j)=q+1+j by omega];exact hw) (by omega);obtain⟨A,eA⟩:∃A,A=mi ins y f1 r1:=⟨_,rfl⟩;rw[<-eA]at s1 s2 s3 hsz2 hnl2 hkn;rw[s1]at hZ;have dO:∀p,V.drops p (out.map V.str)=out.map V.str:=fun p=>aJ;simp only[wq.1];refine ai ?_;refine aA ?_;refine vn ?_;simp only[wq.1,seval];refine vn ?_;simp only[wq.1,seval,t2,t9,t10];refine hkn _ fun h2 k2 kk2 hle2=> ?_;have hBo2:=kk2 B _ (.inr (by omega)) hBo ax;simp only[wq.1,seval,bu,hd];refine fM (fun f=>f.t 0= .lp 4 0/\f.t 2=aN ins/\f.t 9=nI A.2.2/\f.t 12= .str A.2.1/\f.t 10= .fn (.func 158) [.lp 4 0] []/\f.t 11= .ls B 1 0 i i/\f.t 21=vi fo.kids/\f.t 22=vi i/\f.d=[]/\(∀j,j<h0.length->f.k j=true->j=2\/j=5)) ⟨by simp only[wq.1,seval,t0,pz],by simp only[wq.1,seval,t2],by simp only[wq.1,↓reduceIte],by simp only[wq.1,seval],by simp only[wq.1,seval,t10,pz],?_,by simp only[wq.1,seval,t21],by simp only[wq.1,seval,t22],by simp only[wq.1,hd],fun j hj h=>k25 hk j hj h⟩ ?_
   ·have hxB:x25 B=false:=by
     cases hx:x25 B with
     |false=>rfl
     |true=>rcases Pv hx with h|h<;>omega
    simp only[wq.1,↓reduceIte,Nat.reduceEqDiff,t11,hxB]
   clear t0 t2 t9 t10 t11 t21 t22 hd hk f;rintro f ⟨t0,t2,t9,t12,t10,t11,t21,t22,hd,hk⟩;refine vm ?_;simp only[wq.1,↓reduceIte,Nat.reduceEqDiff,Nat.reduceLT,reduceCtorEq,Nat.reduceMul,t11,t12,hd,hBo2];have n4:(4==B)=false:=by rw[beq_eq_false_iff_ne];omega
   have hoA:(out++[A.2.1]).map V.str=out.map V.str++[V.str A.2.1]:=by rw[zql];rfl
   refine⟨⟨rfl,by decide⟩,⟨by omega,by omega,by omega⟩,?_⟩;refine vm ?_;simp only[wq.1,seval,t22,hwi];refine .inl ⟨m-1,by omega,i+1,A.1,A.2.2,out++[A.2.1],by omega,by omega,by rw[hq1];exact s2,by omega,hnl2,by omega,by rw[zqa,hol];rfl,?_,k2.mapD (by omega) _,(kk.trans kk2).mapD (by omega) _,by simp;omega,?_,by simp only[wq.1,seval,t0,n4],by simp only[wq.1,seval,t2],by simp only[wq.1,seval,t9],by simp only[wq.1,seval,t10,n4],by simp only[wq.1,seval],by simp only[wq.1,seval,t21],by simp only[wq.1,↓reduceIte],by simp only[wq.1,hd],fun j hj h=> ?_⟩
   ·rw[hq1,hZ,zqc];rfl
   ·rw[zqt (by simp;omega),hoA]
   ·have hp':(f.k j||(j==B))=true:=h;rcases(Bool.or_eq_true _ _).mp hp' with h|h
    ·exact hk j hj h
    ·have:j=B:=by simpa using h
     omega
  ·have hi:i=fo.kids:=by have:=of_decide_eq_false hlt;omega
   subst hi;have hZ2:Z=(y,out,rest):=by
    rw[hZ,Nat.sub_self,eF,aP];simp
   subst hZ2;have nB:(4==B)=false:=by rw[beq_eq_false_iff_ne];omega
   simp only[wq.1];show awp _ _ _ _ _ _ _;refine fM (fun f=>f.t 9=nI rest/\f.t 11= .ls B 1 0 out.length out.length/\f.d=[]/\(∀j,j<h0.length->f.k j=true->j=2\/j=5)) ⟨by simp only[wq.1,seval,t9],by simp only[wq.1,seval,t11,hol],by simp only[wq.1,hd],fun j hj h=>hk j hj h⟩ ?_;clear t0 t2 t9 t10 t11 t21 t22 hd hk f;rintro f ⟨t9,t11,hd,hk⟩;refine xP B 11 (aN out) (by rw[t11];simp[V.drop]) ?_ hd ?_
   ·rw[t11];refine aV ?_ rfl;rw[gz,hBo];simp only[Nat.zero_add,beq_self_eq_true,if_true,zrw,O.drop,aJ]
   refine fM (fun f=>f.t 9=nI rest/\f.t 11=aN out/\f.d=[]/\(∀j,j<h0.length->f.k j=true->j=2\/j=5)) ⟨?_,rfl,hd,fun j hj h=> ?_⟩ ?_
   ·show(if 9=11 then aN out else(f.t 9).drop _)=_;rw[if_neg (by decide),t9];rfl
   ·have hp':(f.k j||(j==B))=true:=h;rcases(Bool.or_eq_true _ _).mp hp' with h|h
    ·exact hk j hj h
    ·have:j=B:=by simpa using h
     omega
   clear t9 t11 hd hk f;rintro f ⟨t9,t11,hd,hk⟩;refine vm ?_;simp only[wq.1,seval,t9,t11,hd];exact⟨fun j hj h=>hk j hj h,hr _ (k.dropD (by omega)) (kk.dropD (by omega)) (by rw[qm];omega)⟩
theorem Di[MO](g:Ga)(op:Int):Ev TE 89 [vi op,.ip g.v] (vi (iE g.off op)):=by
 have ho:=MO.other op (vi 0);refine ak Tryz.func89 rfl (by simp[nts]) (vm ?_);cases hoff:g.off with
 |true =>
  simp only[wq.1,seval,Tryz.results89,hoff,gl4,iQ,ho];have e:(if op=0 then V.int .i64 1 else if op=1 then V.int .i64 0 else if op=2 then V.int .i64 3 else if op=3 then V.int .i64 2 else if op=4 then V.int .i64 5 else if op=6 then V.int .i64 7 else vi 0)=vi (iE true op):=by
   unfold iE TY;rw[if_pos rfl];by_cases a0:op=0
   ·simp only[a0,if_true]
   by_cases a1:op=1
   ·simp only[a1,if_true];rfl
   by_cases a2:op=2
   ·simp only[a2,if_true];rfl
   by_cases a3:op=3
   ·simp only[a3,if_true];rfl
   by_cases a4:op=4
   ·simp only[a4,if_true];rfl
   by_cases a6:op=6
   ·simp only[a6,if_true];rfl
   simp only[a0,a1,a2,a3,a4,a6,if_false]
  rw[e];exact aG.dat rfl
 |false=>simp only[wq.1,seval,Tryz.results89,hoff];exact aG.dat rfl
theorem H5[MO]{x:Xs}{h0:H}(k0:XH x h0)(hnl:nlX x)(g:Ga)(hil:g.ins.length<=8)(hrl:g.rows.length<=128)(hro:∀r∈g.rows,ng g.ins.length r=true)(hb:xsz x<=80000000){R:AEnd->H->(Nat->Bool)->Prop}
 (hr:∀h',XH (tV x g) h'->XK h0 h'->h0.length<=h'.length->R (.ret (.tup [])) h' x25):ag TE 46 [.lp 4 0,g.v] h0 R:=by
 have hM:=mLx;have hl5:5<h0.length:=(zqe k0.g).1;obtain⟨B,hB⟩:∃B,B=h0.length:=⟨_,rfl⟩;have hrn:∀r∈g.rows,r.length=g.ins.length:=fun r h=>by have:=hro r h;unfold ng at this;simp only[zqf,beq_iff_eq]at this;exact this.1
 have hfl:=Jj (rows:=g.rows) hrl fun r hr=>by rw[hrn r hr];exact hil
 have hwf:=Ap (n:=g.ins.length) (cZ (dQ g.rows)+1) (dQ g.rows) (fun r hr=>by
  rcases qg g.rows [] r hr with h|h
  ·cases h
  ·exact hrn r h) (by omega)
 have hfac:=Pm g.rows g.ins.length hil hrl hro;have hne:∃fo l,TW (dQ g.rows)=fo::l:=by
  have e:TW (dQ g.rows)=yB (cZ (dQ g.rows)+1) (dQ g.rows):=rfl;rw[e];rcases hwf with⟨_,h⟩|⟨_,fo',h,h'⟩|⟨_,_,h⟩
  ·exact⟨_,_,h⟩
  ·exact⟨_,_,h'⟩
  ·exact Pz (k:=0) h
 obtain⟨fo,l,hfo⟩:=hne;have hk2:fo.kind≠0->fo.kind≠1->WF g.ins.length 1 (fo::l):=fun h0 h1=>by
  have e:yB (cZ (dQ g.rows)+1) (dQ g.rows)=fo::l:=hfo;rw[e]at hwf;rcases hwf with⟨_,h⟩|⟨_,fo',h,h'⟩|⟨_,_,h⟩
  ·injection h with h _;rw[h]at h0;exact absurd rfl h0
  ·injection h' with h' _;rw[h']at h1;exact absurd h h1
  ·exact h
 clear hwf;unfold tV at hr;rw[hfo]at hr hfac hfl;rw[zrt]at hfl;dsimp only at hr;refine jf ?_;refine aj Tryz.func46 rfl (by simp[nts]) ?_;refine vn ?_;simp only[wq.1,Nat.reduceLT,Tryz.results46,<-hB];refine vn ?_;simp only[wq.1,seval];refine fM (fun f=>f.t 0= .lp 4 0/\f.t 3= .lp B 0/\f.t 4= .fn (.func 89) [] [.lp B 0]/\f.d=[]/\f.k=fun _=>false) ⟨rfl,rfl,rfl,rfl,rfl⟩ ?_;rintro f ⟨t0,t3,t4,hd,hk⟩;have hgB:(h0++[O.cells [V.str g.name,vi g.op,aN g.ins,aN g.rows,V.bool g.off]])[B]? =some (.cells (gaX g)):=by rw[hB];simp[gaX]
 have nB:(4==B)=false:=by rw[beq_eq_false_iff_ne];omega
 have hgd:V.dat g.v=true:=by simp only[V.dat,V.dats,ax,zre]
 refine BI (fun j=>j==B) (fun i=>if i=3 then .ip g.v else if i=4 then .fn (.func 89) [] [.ip g.v]else(f.t i).drop (fun j=>j==B)) (fun i=> ?_) (by rw[hd];simp) ?_
 ·have hlp:aG TE (su (fun j=>j==B) 0 (h0++[O.cells [V.str g.name,vi g.op,aN g.ins,aN g.rows,V.bool g.off]])) (.lp B 0) (.ip g.v):=by
   refine aG.lp (cs:=gaX g) ?_ (ay.dat (by show(V.dat _&&(V.dat _&&(V.dat (aN g.ins)&&(V.dat (aN g.rows)&&(V.dat _&&true)))))=true;simp only[V.dat,ax,zre])) ?_ ?_ ?_ ?_
   rotate_left
   ·rfl
   ·exact hgd
   ·show 0<5;decide
   ·rfl
   ·rw[gz,hgB];simp only[Nat.zero_add,beq_self_eq_true,if_true,zrw,O.drop,FH]
  by_cases h3:i=3
  ·subst h3;refine .inr ⟨?_,?_⟩
   ·rw[t3];simp[V.drop]
   ·rw[t3];exact hlp
  ·rw[if_neg h3];by_cases h4:i=4
   ·subst h4;refine .inr ⟨?_,?_⟩
    ·rw[t4];simp[V.drop,V.drops]
    ·rw[t4];exact aG.fn ay.nil (ay.cons hlp ay.nil)
   ·rw[if_neg h4];exact .inl rfl
 have k1:=(k0.app [O.cells [V.str g.name,vi g.op,aN g.ins,aN g.rows,V.bool g.off]]).dropD (K:=B) (by omega);have kk1:=(XK.app h0 [O.cells [V.str g.name,vi g.op,aN g.ins,aN g.rows,V.bool g.off]]).dropD (K:=B) (by omega);have hle1:h0.length<=(jk (fun j=>j==B) 0 (h0++[O.cells [V.str g.name,vi g.op,aN g.ins,aN g.rows,V.bool g.off]])).length:=by rw[qm];simp
 refine fM (fun f=>f.t 0= .lp 4 0/\f.t 3= .ip g.v/\f.t 4= .fn (.func 89) [] [.ip g.v]/\f.d=[]/\(∀j,j<h0.length->f.k j=true->j=2\/j=5)) ⟨?_,rfl,rfl,hd,fun j hj h=> ?_⟩ ?_
 ·show(f.t 0).drop _=_;rw[t0];simp only[V.drop,nB,zrm,if_false]
 ·have h':(f.k j||(j==B))=true:=h;rw[hk,Bool.false_or]at h';have:j=B:=by simpa using h'
  omega
 obtain⟨h1,eh1⟩:∃h1,h1=jk (fun j=>j==B) 0 (h0++[O.cells [V.str g.name,vi g.op,aN g.ins,aN g.rows,V.bool g.off]]):=⟨_,rfl⟩;rw[<-eh1]at k1 kk1 hle1 ⊢;clear eh1 hgB t0 t3 t4 hd hk f;rintro f ⟨t0,t3,t4,hd,hk⟩;obtain⟨C,hC⟩:∃C,C=h1.length:=⟨_,rfl⟩;have hg0:((fo::l).map foV).getD 0 .any=foV fo:=rfl;have hgE:∀x:O,(h1++[x])[C]? =some x:=fun x=>by rw[hC];simp
 have hgS:∀x y:O,(h1++[x]).set C y=h1++[y]:=fun x y=>by rw[hC];simp
 refine vn ?_;simp only[wq.1,seval,t3];refine ag.ev hfac (by simp only[V.dats,V.dat,ax,zre]) ?_;simp only[wq.1,seval];refine vn ?_;simp only[wq.1,seval,<-hC,hgE,hgS];refine⟨by omega,?_⟩;refine vn ?_;simp only[wq.1,seval,hgE];refine fM (fun f=>f.t 0= .lp 4 0/\f.t 3= .ip g.v/\f.t 4= .fn (.func 89) [] [.ip g.v]/\f.t 5=nI (fo::l)/\f.t 7= .lp C 0/\f.t 26=vi fo.kind/\f.d=[]/\(∀j,j<h0.length->f.k j=true->j=2\/j=5)) ⟨by simp only[wq.1,seval,t0],by simp only[wq.1,seval,t3],by simp only[wq.1,seval,t4],by simp only[wq.1,seval],by simp only[wq.1,seval],by simp only[wq.1,↓reduceIte],by simp only[wq.1,hd],fun j hj h=>hk j hj h⟩ ?_;clear t0 t3 t4 hd hk f;rintro f ⟨t0,t3,t4,t5,t7,t26,hd,hk⟩;refine aA ?_;have e0:((fo.kind:Int)==0)=decide (fo.kind=0):=by rw[Bool.eq_iff_iff,beq_iff_eq,zqb];omega
 have e1:((fo.kind:Int)==1)=decide (fo.kind=1):=by rw[Bool.eq_iff_iff,beq_iff_eq,zqb];omega
 have e2:((fo.kind:Int)==2)=decide (fo.kind=2):=by rw[Bool.eq_iff_iff,beq_iff_eq,zqb];omega
 have e3:((fo.kind:Int)==3)=decide (fo.kind=3):=by rw[Bool.eq_iff_iff,beq_iff_eq,zqb];omega
 have kC:=k1.app [O.cells (foF fo)];have kkC:=kk1.trans (XK.app h1 [O.cells (foF fo)]);have hCgE:(h1++[O.cells [vi fo.kind,vi fo.lit,vi fo.kids]])[C]? =some (.cells [vi fo.kind,vi fo.lit,vi fo.kids]):=hgE _;obtain⟨h2,eh2⟩:∃h2,h2=h1++[O.cells [vi fo.kind,vi fo.lit,vi fo.kids]]:=⟨_,rfl⟩;have hle2:h0.length<=h2.length:=by rw[eh2,zqa];omega
 rw[<-eh2]at hCgE ⊢;rw[show h1++[O.cells (foF fo)]=h2 from eh2.symm]at kC kkC;have hC5:5<C:=by omega
 refine vn ?_;simp only[wq.1,seval,t26,e0];refine bF (b:=decide (fo.kind=0)) (by simp only[wq.1,↓reduceIte]) (by simp only[wq.1,↓reduceIte]) (fun h=> ?_) (fun hf0=> ?_)
 ·rw[if_pos (zqs h)]at hr;refine kN mixed (by decide +kernel) ?_;simp only[nts,List.size_toArray,zrt,List.length_nil,Nat.reduceAdd,Nat.reduceSub,List.take_succ_cons,List.take_zero];simp only[wq.1,seval,bC,bI,t0,t3,t4];refine uw.mk (Di g 0) rfl (by simp only[V.dats,V.dat,zre]) ?_;simp only[wq.1,seval];refine FN kC ⟨g.name,iE g.off 0,[],[],false⟩ dJ dJ (by omega) fun h' a b c=> ?_;simp only[wq.1,bu,hd];exact⟨fun j hj hp=>k25 hk j (by omega) hp,hr _ a (kkC.trans b) (by omega)⟩
 rw[if_neg (of_decide_eq_false hf0)]at hr;have hf0':=of_decide_eq_false hf0;refine vn ?_;simp only[wq.1,seval,t26,e1];refine bF (b:=decide (fo.kind=1)) (by simp only[wq.1,↓reduceIte]) (by simp only[wq.1,↓reduceIte]) (fun h=> ?_) (fun hf1=> ?_)
 ·rw[if_pos (zqs h)]at hr;refine kN mixed (by decide +kernel) ?_;simp only[nts,List.size_toArray,zrt,List.length_nil,Nat.reduceAdd,Nat.reduceSub,List.take_succ_cons,List.take_zero];simp only[wq.1,seval,bC,bI,t0,t3,t4];refine uw.mk (Di g 1) rfl (by simp only[V.dats,V.dat,zre]) ?_;simp only[wq.1,seval];refine FN kC ⟨g.name,iE g.off 1,[],[],false⟩ dJ dJ (by omega) fun h' a b c=> ?_;simp only[wq.1,bu,hd];exact⟨fun j hj hp=>k25 hk j (by omega) hp,hr _ a (kkC.trans b) (by omega)⟩
 rw[if_neg (of_decide_eq_false hf1)]at hr;have hw:=hk2 hf0' (of_decide_eq_false hf1);refine vn ?_;simp only[wq.1,seval,t26,e2];refine bF (b:=decide (fo.kind=2)) (by simp only[wq.1,↓reduceIte]) (by simp only[wq.1,↓reduceIte]) (fun h=> ?_) (fun hf2=> ?_)
 ·rw[if_pos (zqs h)]at hr;have hlit:fo.lit<2*g.ins.length:=by
   unfold WF at hw;rcases hw with⟨_,w2,_⟩|⟨w1,_⟩
   ·exact w2
   ·have:=zqs h;omega
  have es:=Px fo.lit (by omega);have ea:=Py fo.lit (by omega);have hi:fo.lit/2<g.ins.length:=by omega
  have hgs:(g.ins.map V.str).getD (fo.lit/2) .any= .str (g.ins.getD (fo.lit/2) []):=by rw[zW hi .any,zqg,zqk hi];rfl
  obtain⟨s,hs⟩:∃s,s=g.ins.getD (fo.lit/2) []:=⟨_,rfl⟩;rw[<-hs]at hgs hr;obtain⟨op,hop⟩:∃op:Int,op=if fo.lit%2=1 then 3 else 2:=⟨_,rfl⟩
  rw[<-hop]at hr;refine vn ?_;simp only[wq.1,Nat.reduceLT];refine ai (aX (Q:=fun xe f' h'=>xe= .normal/\h'=h2/\f'.t 0= .lp 4 0/\f'.t 3= .ip g.v/\f'.t 4= .fn (.func 89) [] [.ip g.v]/\f'.t 7= .lp C 0/\f'.t 8=vi op/\f'.d=[]/\(∀j,j<h0.length->f'.k j=true->j=2\/j=5)) ?_ ?_)
  ·clear t0 t3 t4 t5 t7 t26 hd hk;rintro xe f h' ⟨rfl,rfl,t0,t3,t4,t7,t8,hd,hk⟩;show awp _ _ _ _ _ _ _;refine kN mixed (by decide +kernel) ?_;simp only[nts,List.size_toArray,zrt,List.length_nil,Nat.reduceAdd,Nat.reduceSub,List.take_succ_cons,List.take_zero];simp only[wq.1,↓reduceIte,Nat.reduceEqDiff,Nat.reduceLT,Nat.reduceLeDiff,Nat.reduceAdd,reduceCtorEq,Nat.reduceMul,bC,bI,t0,t3,t4,t8];refine uw.mk (Di g op) rfl (by simp only[V.dats,V.dat,zre]) ?_;simp only[wq.1,↓reduceIte,Nat.reduceEqDiff,Nat.reduceLT,Nat.reduceLeDiff,Nat.reduceAdd,Int.reduceToNat,Int.reduceLE,t3,t7,hCgE,es,hgs];refine⟨⟨by omega,by omega⟩,⟨rfl,by decide⟩,?_⟩;refine FN kC ⟨g.name,iE g.off op,[s],[],false⟩ cO dJ (by omega) fun h' a b c=> ?_;simp only[wq.1,bu,hd];exact⟨fun j hj hp=>k25 hk j (by omega) hp,hr _ a (kkC.trans b) (by omega)⟩
  ·refine vm ?_;simp only[wq.1,seval,t7,hCgE,ea];refine vcB.mk (fun h3=> ?_) (fun h3=> ?_)
   ·have hop3:op=3:=by rw[hop,if_pos (zqs h3)]
    simp only[wq.1,seval,t0,t3,t4,t7,hd,hop3];exact fun j hj hp=>hk j hj hp
   ·have hop2:op=2:=by rw[hop,if_neg (of_decide_eq_false h3)]
    simp only[wq.1,seval,t0,t3,t4,t7,hd,hop2];exact fun j hj hp=>hk j hj hp
 rw[if_neg (of_decide_eq_false hf2)]at hr;have hn2:=of_decide_eq_false hf2;have hw':=hw;unfold WF at hw';rcases hw' with⟨w1,_⟩|⟨w1,w2,w3⟩
 ·exact absurd w1 hn2
 obtain⟨a1,a2,a3⟩:=jg (n:=g.ins.length) (ins:=g.ins) (l.length+1) fo.kids 0 x l w3 (by omega);have a4:=nH (n:=g.ins.length) (ins:=g.ins) (l.length+1) fo.kids 0 x l w3 (by omega);have a5:=qj (ins:=g.ins) (l.length+1) fo.kids l hnl;have hkk:=PD hil (l.length+1) l (by omega) (by omega);obtain⟨q,hq⟩:∃q,q=aP g.ins (l.length+1) fo.kids x l:=⟨_,rfl⟩;rw[<-hq]at a1 a2 a3 a4 a5 hr;refine vn ?_;simp only[wq.1,Nat.reduceLT];refine ai (aX (Q:=fun xe f' h'=>xe= .normal/\h'=h2/\f'.t 0= .lp 4 0/\f'.t 3= .ip g.v/\f'.t 4= .fn (.func 89) [] [.ip g.v]/\f'.t 5=nI (fo::l)/\f'.t 9=vi (opF fo)/\f'.d=[]/\(∀j,j<h0.length->f'.k j=true->j=2\/j=5)) ?_ ?_)
 ·clear t0 t3 t4 t5 t7 t26 hd hk;rintro xe f h' ⟨rfl,rfl,t0,t3,t4,t5,t9,hd,hk⟩;show awp _ _ _ _ _ _ _;refine vn ?_;simp only[wq.1,seval,t0,t3,t5];refine hkk x _ fo 0 kC hnl w3 (by omega) _ fun h3 k3 kk3 hle3=> ?_;rw[<-hq]at k3 ⊢;simp only[wq.1,seval,bu,hd];refine fM (fun f=>f.t 0= .lp 4 0/\f.t 3= .ip g.v/\f.t 4= .fn (.func 89) [] [.ip g.v]/\f.t 9=vi (opF fo)/\f.t 10=aN q.2.1/\f.d=[]/\(∀j,j<h0.length->f.k j=true->j=2\/j=5)) ⟨by simp only[wq.1,seval,t0,pz],by simp only[wq.1,seval,t3],by simp only[wq.1,seval,t4],by simp only[wq.1,seval,t9],by simp only[wq.1,seval],by simp only[wq.1,hd],fun j hj h=>k25 hk j hj h⟩ ?_;clear t0 t3 t4 t5 t9 hd hk f;rintro f ⟨t0,t3,t4,t9,t10,hd,hk⟩;refine kN mixed (by decide +kernel) ?_;simp only[nts,List.size_toArray,zrt,List.length_nil,Nat.reduceAdd,Nat.reduceSub,List.take_succ_cons,List.take_zero];simp only[wq.1,seval,bC,bI,t0,t3,t4,t9];refine uw.mk (Di g (opF fo)) rfl (by simp only[V.dats,V.dat,zre]) ?_;simp only[wq.1,seval,t10];refine AB k3 g.name (opF fo) (iE g.off (opF fo)) q.2.1 (by omega) (by omega) (by omega) fun h4 k4 kk4 hle4=> ?_;simp only[wq.1,bu,hd];exact⟨fun j hj hp=>k25 hk j (by omega) hp,hr _ k4 ((kkC.trans kk3).trans kk4) (by omega)⟩
 ·refine vm ?_;simp only[wq.1,seval,t7,hCgE,e3];refine vcB.mk (fun h3=> ?_) (fun h3=> ?_)
  ·have ho:opF fo=4:=by unfold opF;rw[if_pos (zqs h3)]
   simp only[wq.1,seval,t0,t3,t4,t5,hd,ho];exact fun j hj hp=>hk j hj hp
  ·have ho:opF fo=6:=by unfold opF;rw[if_neg (of_decide_eq_false h3)]
   simp only[wq.1,seval,t0,t3,t4,t5,hd,ho];exact fun j hj hp=>hk j hj hp
theorem Js:∀l:List La,jO (l.map La.v)=true
 |[]=>rfl
 |t::l=>by show(_&&jO (l.map La.v))=true;rw[Js l];rfl
theorem PE:∀l:List La,dA (laC l)=true
 |[]=>rfl
 |t::l=>by show(true&&(true&&(true&&dA (laC l))))=true;rw[PE l];rfl
theorem H6[MO](c:List La)(hc:c.length<=1000000):EvF TE 49 [kG c] 3 c.length (laC c):=by
 have hM:=mLx;have ho:=PE c;have hv:=UZ c;have hf:=Js c;unfold EvF;refine aj Tryz.func49 rfl (by simp[nts]) (vm ?_);simp only[wq.1,seval,Tryz.results49];intro b hb;cases b with
 |true =>
  have:c=[]:=by simpa using hb rfl
  subst this;simp only[wq.1,↓reduceIte,Nat.reduceLT,reduceCtorEq];exact .inl rfl
 |false=>simp only[wq.1,↓reduceIte,Nat.reduceEqDiff,Nat.reduceLT,Nat.reduceAdd,reduceCtorEq,Nat.reduceMul,hv,hf];exact⟨⟨rfl,by decide⟩,⟨rfl,by omega,by omega⟩,.inr ⟨0,_,rfl,zrb _,rfl⟩⟩
theorem PG{c:List La}(h:laC c=[]):c=[]:=by
 cases c with
 |nil=>rfl
 |cons a c=>cases h
theorem KL[MO](c:List La)(hc:c.length<=1000000):Ev TE 49 [kG c] (kG c):=(H6 c hc).ev (fun _ he=>by rw[PG he];exact VLe.nils) (fun h' id cap _ hid=>x9 hid rfl) (fun _ he _=>by rw[PG he];exact aG.nils)
theorem AC{g:Ga}(h:jo g=true)(ho:(aZ g).op=10):aZ g=g:=by
 have hk:=sQ h;unfold aZ at ho ⊢;rw[CB hk.1]at ho ⊢;split
 ·rfl
 ·rename_i h1;rw[if_neg h1]at ho;cases hf:jY g.ins.length g.rows g.off with
  |none=>rfl
  |some op=>rw[hf]at ho;exfalso;have:=(xW hf).1;have ho:(op:Int)=10:=ho;omega
theorem Jt{g:Ga}(h:jo g=true):g.ins.length<=8:=by unfold jo at h;simp only[zqf]at h;have h8:=h.2.1;unfold uJ at h8;simp only[zqf]at h8;exact TZ h8.2.2
theorem SK{x:Xs}(g:Ga)(h:nlX x):nlX (tV x g):=by
 unfold tV;split
 ·exact h
 ·split
  ·exact yK _ h
  ·split
   ·exact yK _ h
   ·split
    ·exact yK _ h
    ·exact CZ _ _ _ _ _ (qj _ _ _ h)
theorem VP{x:Xs}{g:Ga}(hg:jo g=true)(h:nlX x):nlX (zD x g)/\xsz (zD x g)<=xsz x+60000:=by
 obtain⟨h1,h2,h3⟩:=sQ hg;unfold zD;by_cases ho:(aZ g).op=10
 ·rw[if_pos ho,AC hg ho];refine⟨SK g h,Sr h2 (fun r hr=> ?_) (Jt hg)⟩;have:=h3 r hr;unfold ng at this;simp only[zqf,beq_iff_eq]at this;exact this.1
 ·rw[if_neg ho];have:=(vS x (aZ g)).1;exact⟨yK _ h,by omega⟩
theorem yS:∀(gs:List Ga)(x:Xs),(∀g∈gs,jo g=true)->nlX x->nlX (gs.foldl zD x)/\xsz (gs.foldl zD x)<=xsz x+60000*gs.length
 |[],x,_,h=>⟨h,by simp⟩
 |g::gs,x,hg,h=>by obtain⟨a1,a2⟩:=VP (x:=x) (hg g (by simp)) h;obtain⟨b1,b2⟩:=yS gs (zD x g) (fun q hq=>hg q (by simp[hq])) a1;refine⟨b1,?_⟩;rw[List.foldl_cons,zrt];omega
theorem PH(c:Ci):V.dats [aN c.ins,aN c.outs,kG c.lat,iG c.gates]=true:=by simp only[V.dats,V.dat,ax,lD,lC,zre]
theorem iW(c:Ci):V.dats [c.v]=true:=by simp only[V.dats,V.dat,ax,lD,lC,zre]
theorem ui[MO](c:Ci)(hs:Sum c):Ev TE 15 [c.v] (.tup [(Dw c).1.v,vi (Dw c).2]):=by
 have hM:=mLx;have hchk:=EW c hs;unfold Dw;obtain⟨oc,eoc⟩:∃oc,oc=sV c:=⟨_,rfl⟩;rw[<-eoc]at hchk ⊢;refine ak Tryz.func15 rfl (by simp[nts]) ?_;refine vn ?_;simp only[wq.1,Nat.reduceLT,Tryz.results15];refine ai ?_;refine vn ?_;simp only[wq.1,seval];refine ag.ev hchk (iW c) ?_;simp only[wq.1,seval];by_cases he:oc.1=0
 ·have e0:(oc.1 != 0)=false:=by rw[he];rfl
  rw[if_neg (by simpa using he)];have hn:NetOk c:=ny (by rw[<-eoc];exact he);have hlc:=Vb hn.lim;have hl:=hn.lim;unfold Lj at hl;simp only[zqf,zqb]at hl;obtain⟨hl1,hl2,_⟩:=hl;have hnl:(bf c).length<=200:=by
   unfold bf;simp only[zqa,zra];omega
  refine vm ?_;simp only[wq.1,seval,e0];show awp _ _ _ _ _ _ _;refine vn ?_;simp only[wq.1,seval];refine jI (IY c hlc) (iW c) ax ?_;simp only[wq.1,seval];refine fQ ?_;refine lg (h':=[.cells [aN c.ins,aN c.outs,kG c.lat,iG c.gates],.cells [.nils,.nils,.nils,.nils],.cells ((bf c).map V.str),.map [] [],.cells [.ls 5 5 0 0 0,.ls 2 1 0 (bf c).length (bf c).length,.lm 3],.cells []]) (HLe.set (i:=4) (o':= .cells [.ls 5 5 0 0 0,.ls 2 1 0 (bf c).length (bf c).length,.lm 3]) rfl (OLe.cells (zrb _) (bW.cons dE (bW.cons (VLe.refl _) (bW.cons (VLe.refl _) bW.nil))))) ?_;have hx0:XH ⟨[],bf c,([],[])⟩ ([.cells [aN c.ins,aN c.outs,kG c.lat,iG c.gates],.cells [.nils,.nils,.nils,.nils],.cells ((bf c).map V.str),.map [] [],.cells [.ls 5 5 0 0 0,.ls 2 1 0 (bf c).length (bf c).length,.lm 3],.cells []]):=⟨rfl,rfl,rfl,rfl⟩;obtain⟨X0,eX0⟩:∃X0:Xs,X0=⟨[],bf c,([],[])⟩:=⟨_,rfl⟩;have hEX:Dv c=c.gates.foldl zD X0:=by rw[eX0];rfl
  have hsz0:xsz X0<=200:=by rw[eX0];unfold xsz;simpa using hnl
  have hnl0:nlX X0:=by rw[eX0];rfl
  rw[<-eX0]at hx0;obtain⟨hh0,ehh⟩:∃hh0:H,hh0=[.cells [aN c.ins,aN c.outs,kG c.lat,iG c.gates],.cells [.nils,.nils,.nils,.nils],.cells ((bf c).map V.str),.map [] [],.cells [.ls 5 5 0 0 0,.ls 2 1 0 (bf c).length (bf c).length,.lm 3],.cells []]:=⟨_,rfl⟩;have hb0:hh0[0]? =some (.cells [aN c.ins,aN c.outs,kG c.lat,iG c.gates]):=by rw[ehh];rfl
  have hb1:hh0[1]? =some (.cells [.nils,.nils,.nils,.nils]):=by rw[ehh];rfl
  rw[<-ehh]at hx0 ⊢;refine vn ?_;simp only[wq.1,seval,hb0];refine aC (fun m f h=>∃i,m+i=c.gates.length/\i<=c.gates.length/\XH ((c.gates.take i).foldl zD X0) h/\h[0]? =some (.cells [aN c.ins,aN c.outs,kG c.lat,iG c.gates])/\h[1]? =some (.cells [.nils,.nils,.nils,.nils])/\f.t 1= .lp 0 0/\f.t 2= .lp 1 0/\f.t 6= .lp 4 0/\f.t 23=iG c.gates/\f.t 24=vi c.gates.length/\f.t 25=vi i/\f.d=[]) c.gates.length ⟨0,by omega,by omega,hx0,hb0,hb1,by simp only[wq.1,seval],by simp only[wq.1,seval],by simp only[wq.1,seval],by simp only[wq.1,seval],by simp only[wq.1,seval],by rfl,by simp only[wq.1]⟩ ?_;clear hx0 hb0 hb1 ehh hh0;rintro m f h ⟨i,hm,hil,k,hb0,hb1,t1,t2,t6,t23,t24,t25,hd⟩;have hwi:=aB (show i<maxLen by omega);obtain⟨y,ey⟩:∃y,y=(c.gates.take i).foldl zD X0:=⟨_,rfl⟩;have hys:=yS (c.gates.take i) X0 (fun g hg=>hn.gates g (zsh hg)) hnl0;rw[<-ey]at k hys;have htl:(c.gates.take i).length<=200:=by rw[zrl];omega
  refine vn ?_;simp only[wq.1,Nat.reduceLT,t24,t25];refine vn ?_;simp only[wq.1,↓reduceIte];refine vcB.mk (fun hlt=> ?_) (fun hlt=> ?_)
  ·have hlt:i<c.gates.length:=by have:=zqs hlt;omega
   obtain⟨g,eg⟩:∃g,g=c.gates[i]:=⟨_,rfl⟩;have hgg:=sZ hlt .any;rw[<-eg]at hgg;have hgB:=hn.gates g (eg▸zqu hlt);have hfs:(c.gates.take (i+1)).foldl zD X0=zD y g:=by rw[List.take_succ_eq_append_getElem hlt,List.foldl_append,<-ey,<-eg];rfl
   obtain⟨B,hB⟩:∃B,B=h.length:=⟨_,rfl⟩;have hl5:5<h.length:=(zqe k.g).1;have hgE:∀x:O,(h++[x])[B]? =some x:=fun x=>by rw[hB];simp
   have hgS:∀x y:O,(h++[x]).set B y=h++[y]:=fun x y=>by rw[hB];simp
   have hcan:=IW g;have hop:(((aZ g).op:Int)==10)=decide ((aZ g).op=10):=by rw[Bool.eq_iff_iff,beq_iff_eq,zqb]
   simp only[wq.1];refine ai ?_;refine aA ?_;refine vn ?_;simp only[wq.1,seval,t23,t25,hgg,<-hB,hgE,hgS];refine⟨⟨by omega,by omega⟩,?_⟩;refine vn ?_;simp only[wq.1,seval,hgE];refine ag.ev hcan (by simp only[V.dats,V.dat,ax,zre]) ?_;simp only[wq.1,seval,hgE,hgS];obtain⟨K,eK⟩:∃K,K=h++[O.cells [.str (aZ g).name,vi (aZ g).op,aN (aZ g).ins,aN (aZ g).rows,.bool (aZ g).off]]:=⟨_,rfl⟩;have kK:=k.app [O.cells [.str (aZ g).name,vi (aZ g).op,aN (aZ g).ins,aN (aZ g).rows,.bool (aZ g).off]];have hKB:=hgE (O.cells [.str (aZ g).name,vi (aZ g).op,aN (aZ g).ins,aN (aZ g).rows,.bool (aZ g).off]);have hK0:K[0]? =some (.cells [aN c.ins,aN c.outs,kG c.lat,iG c.gates]):=by rw[eK,zqj (by omega)];exact hb0
   have hK1:K[1]? =some (.cells [.nils,.nils,.nils,.nils]):=by rw[eK,zqj (by omega)];exact hb1
   rw[<-eK]at kK hKB ⊢;refine fM (fun f=>f.t 1= .lp 0 0/\f.t 2= .lp 1 0/\f.t 6= .lp 4 0/\f.t 8= .lp B 0/\f.t 23=iG c.gates/\f.t 24=vi c.gates.length/\f.t 25=vi i/\f.d=[]) ⟨by simp only[wq.1,seval,t1],by simp only[wq.1,seval,t2],by simp only[wq.1,seval,t6],by simp only[wq.1,seval],by simp only[wq.1,seval,t23],by simp only[wq.1,seval,t24],by simp only[wq.1,seval,t25],by simp only[wq.1,hd]⟩ ?_;clear t1 t2 t6 t23 t24 t25 hd f;rintro f ⟨t1,t2,t6,t8,t23,t24,t25,hd⟩;have hfin:∀(h':H),XH (zD y g) h'->XK K h'->∀f:Fr,f.t 1= .lp 0 0->f.t 2= .lp 1 0->f.t 6= .lp 4 0->f.t 23=iG c.gates->f.t 24=vi c.gates.length->f.t 25=vi (i+1:Nat)->f.d=[]->∃m',m'<m/\∃i,m'+i=c.gates.length/\i<=c.gates.length/\XH ((c.gates.take i).foldl zD X0) h'/\h'[0]? =some (.cells [aN c.ins,aN c.outs,kG c.lat,iG c.gates])/\h'[1]? =some (.cells [.nils,.nils,.nils,.nils])/\f.t 1= .lp 0 0/\f.t 2= .lp 1 0/\f.t 6= .lp 4 0/\f.t 23=iG c.gates/\f.t 24=vi c.gates.length/\f.t 25=vi i/\f.d=[] :=
    fun h' a b f' u1 u2 u6 u23 u24 u25 ud=>⟨m-1,by omega,i+1,by omega,by omega,by rw[hfs];exact a,b 0 _ (.inl (by decide)) hK0 (PH c),b 1 _ (.inl (by decide)) hK1 rfl,u1,u2,u6,u23,u24,u25,ud⟩
   unfold zD at hfin;refine vn ?_;simp only[wq.1,seval,t8,hKB,hop];refine bF (b:=decide ((aZ g).op=10)) (by simp only[wq.1,↓reduceIte]) (by simp only[wq.1,↓reduceIte]) (fun ho=> ?_) (fun ho=> ?_)
   ·have ho:=zqs ho;obtain⟨g1,g2,g3⟩:=sQ hgB;rw[if_pos ho]at hfin;have hcv:=AC hgB ho;rw[hcv]at hKB hfin;refine vm ?_;simp only[wq.1,seval,t6,t8,hKB];refine H5 kK hys.1 g (Jt hgB) g2 g3 (by omega) fun h' a b c2=> ?_;simp only[wq.1,bu,hd];refine vm ?_;simp only[wq.1,seval,t25,hwi];exact .inl (hfin h' a b _ (by simp only[wq.1,seval,t1,pz]) (by simp only[wq.1,seval,t2,pz]) (by simp only[wq.1,seval,t6,pz]) (by simp only[wq.1,seval,t23]) (by simp only[wq.1,seval,t24]) (by simp only[wq.1,↓reduceIte]) (by simp only[wq.1,hd]))
   ·have ho:=of_decide_eq_false ho;rw[if_neg ho]at hfin;refine vm ?_;simp only[wq.1,seval,t6,t8,hKB];refine XB kK (aZ g) (by omega) fun h' a b c2=> ?_;simp only[wq.1,bu,hd];refine vm ?_;simp only[wq.1,seval,t25,hwi];exact .inl (hfin h' a b _ (by simp only[wq.1,seval,t1,pz]) (by simp only[wq.1,seval,t2,pz]) (by simp only[wq.1,seval,t6,pz]) (by simp only[wq.1,seval,t23]) (by simp only[wq.1,seval,t24]) (by simp only[wq.1,↓reduceIte]) (by simp only[wq.1,hd]))
  ·have hi:i=c.gates.length:=by have:=of_decide_eq_false hlt;omega
   subst hi;rw[zrx,<-hEX]at ey;subst ey;simp only[wq.1];show awp _ _ _ _ _ _ _;have k4:=k.a;have k5:=k.g;obtain⟨G,eG⟩:∃G,G=(Dv c).gates:=⟨_,rfl⟩;have hGl:G.length<=50000000:=by
    have h1:=hys.2;have h2:xsz (Dv c)<=200+60000*200:=by rw[zrx]at h1;omega
    have h3:G.length<=xsz (Dv c):=by rw[eG];unfold xsz;omega
    omega
   rw[<-eG]at k4 k5 ⊢;have w1:IntKind.i64.wrap ((c.ins.length:Int)+c.lat.length)=((c.ins.length+c.lat.length:Nat):Int):=by rw[iL (by omega) (by omega)];omega
   have w2:IntKind.i64.wrap (((c.ins.length+c.lat.length:Nat):Int)+G.length)=((c.ins.length+c.lat.length+G.length:Nat):Int):=by rw[iL (by omega) (by omega)];omega
   have hdd:decide ((200:Int)<((c.ins.length+c.lat.length+G.length:Nat):Int))=decide (200<c.ins.length+c.lat.length+G.length):=decide_eq_decide.2 (by omega);refine ai ?_;refine vn ?_;simp only[wq.1,seval,t1,t6,hb0,k4,w1,w2,hdd];refine⟨by decide +kernel,?_⟩;refine bF (b:=decide (200<c.ins.length+c.lat.length+G.length)) (by simp only[wq.1,↓reduceIte]) (by simp only[wq.1,↓reduceIte]) (fun hb=> ?_) (fun hb=> ?_)
   ·rw[if_pos (zqs hb)];have hs1:∀x:O,(h.set 1 x)[1]? =some x:=fun x=>zqt (zqe hb1).1;refine vm ?_;simp only[wq.1,seval,t2,hd,hb1,hs1];exact aG.tup (ay.cons (aG.agg (ay.cons aG.nils (ay.cons aG.nils (ay.cons aG.nils (ay.cons aG.nils ay.nil))))) (ay.cons (aG.dat rfl) ay.nil))
   ·rw[if_neg (of_decide_eq_false hb)];refine vm ?_;simp only[wq.1];show awp _ _ _ _ _ _ _;have c1:=uY c.ins (by omega);have c2:=uY c.outs (by omega);have c3:=KL c.lat (by omega);have hs1:∀x:O,(h.set 1 x)[1]? =some x:=fun x=>zqt (zqe hb1).1;refine ai (Ef mixed 14 (.one 14<| .take 15<| .fin) (fun f' h'=>f'.t 2= .lp 1 0/\f'.t 3=vi 0/\f'.d=[]/\h'=h.set 1 (.cells [aN c.ins,aN c.outs,kG c.lat,.ls 5 5 0 G.length G.length])) (by rw[TEP];decide +kernel) ?_ ?_)
    ·intro K hK;simp only[List.take_succ_cons,List.take_zero];simp only[wq.1,seval,t1,hb0];refine uw.mk c1 rfl (by simp only[V.dats,V.dat,ax,zre]) ?_;simp only[wq.1,seval,t1,hb0];refine uw.mk c2 rfl (by simp only[V.dats,V.dat,ax,zre]) ?_;simp only[wq.1,seval,t1,hb0];refine uw.mk c3 rfl (by simp only[V.dats,V.dat,lD,zre]) ?_;simp only[wq.1,seval,t6,k4];refine hK _ ?_;have hs5:=hb1;simp only[wq.1,seval,t2,hd,hb1]
     trace_state
    ·clear t1 t2 t6 t23 t24 t25 hd;rintro f h' ⟨t2,t3,hd,rfl⟩;show awp _ _ _ _ _ _ _;refine vm ?_;simp only[wq.1,seval,t2,t3,hd,hs1];have h5:(h.set 1 (.cells [aN c.ins,aN c.outs,kG c.lat,.ls 5 5 0 G.length G.length]))[5]? =some (.cells (gaC G)):=by
      rw[zqn (by decide),k5];rfl
     exact aG.tup (ay.cons (aG.agg (ay.cons (aG.dat (by simp only[V.dat,ax])) (ay.cons (aG.dat (by simp only[V.dat,ax])) (ay.cons (aG.dat (by simp only[V.dat,lD])) (ay.cons (yc h5 rfl) ay.nil))))) (ay.cons (aG.dat rfl) ay.nil))
 ·have e0:(oc.1 != 0)=true:=by simpa using he
  rw[if_pos (by simpa using he)];refine vm ?_;simp only[wq.1,seval,e0];exact aG.tup (ay.cons (aG.agg (ay.cons aG.nils (ay.cons aG.nils (ay.cons aG.nils (ay.cons aG.nils ay.nil))))) (ay.cons (aG.dat rfl) ay.nil))
def uo(s:S):S:=if aS s=true then aO s else []
def AL(t:Tk):S×Int:=if t.k=0 then uS t.t else([],4)
def VQ(s:S)(t:Tk):Bool:=(AL t).2==0&&(AL t).1==s
def nZ(l:List Tk)(s:S):Nat:=match l.findIdx? (VQ s)with
 |some i=>(l.getD i ⟨0,[],0⟩).at'
 |none=>0
theorem yT[MO]:Ev TE 146 [vi 3] (.bool true):=by refine ak Tryz.func146 rfl (by simp[nts]) (vm ?_);simp only[wq.1,seval,Tryz.results146];exact aG.dat rfl
theorem PI[MO](s:S)(h:aS s=true):Ev TE 188 [.str s] (.bool (jq s)):=by
 obtain⟨h1,h2⟩:=zZ h;have hl:=IU h;have ha:=Q5 s [61,40,41,44,35] (by omega) (by decide) (fun b hb=>by
  have:=h2 b hb;unfold iC at this;simp only[zqf,zqb]at this;omega) (by decide)
 rw[Ac]at ha;refine ak Tryz.func188 rfl (by simp[nts]) (vm ?_);simp only[wq.1,seval,Tryz.results188];refine ag.ev ha rfl ?_;simp only[wq.1,seval];refine aG.eq rfl ?_;unfold jq
 congr 2
 refine congrArg _ (funext fun c=> ?_);unfold ru;simp only[List.contains_cons,List.contains_nil,Bool.or_false,Bool.or_assoc]
theorem FO[MO](s:S):Ev TE 123 [vi 3,.str s] (.bool (aS s&&jq s)):=by
 have hn:=wP s;refine ak Tryz.func123 rfl (by simp[nts]) (vm ?_);simp only[wq.1,seval,Tryz.results123];refine ag.ev yT rfl ?_;simp only[wq.1,seval];refine ag.ev hn rfl ?_;cases hok:aS s with
 |false=>simp only[wq.1,↓reduceIte,Nat.reduceEqDiff,Nat.reduceLT];exact aG.dat rfl
 |true=>simp only[wq.1,↓reduceIte,Nat.reduceEqDiff,Nat.reduceLT,Nat.reduceLeDiff,Nat.reduceAdd,Nat.reduceSub,Int.reduceToNat,Nat.reduceDiv,Int.reduceLT,Int.reduceLE,Int.reduceNeg,Int.reduceBEq,Int.reduceBNe,Int.reduceAdd,Int.reduceSub,Nat.reduceBEq,reduceCtorEq,Nat.reduceMul,au,Tryz.results123,bu];refine⟨by decide,ag.ev (PI s hok) rfl ?_⟩;simp only[wq.1,↓reduceIte,Nat.reduceLT];exact aG.eq rfl (by simp)
theorem FP[MO](s:S):Ev TE 85 [vi 3,.str s] (.tup [.str (uo s),vi (if aS s then 0 else 4)]):=by
 have hn:=wP s;have hL:=FO s;have hm:=UV s qA;refine ak Tryz.func85 rfl (by simp[nts]) (vm ?_);simp only[wq.1,seval,Tryz.results85];refine ag.ev hn rfl ?_;unfold uo;cases hok:aS s with
 |false=>simp only[wq.1,seval];exact aG.dat rfl
 |true =>
  have hl:=IU hok;have hsp:=Ky s (by omega);rw[hok]at hL;simp only[wq.1,seval];refine ag.ev yT rfl ?_;simp only[wq.1,seval];refine⟨.bool true,?_⟩;simp only[wq.1,seval];refine ag.ev hm rfl ?_;have e:aO s=if(qA.isPrefixOf s|| !jq s)=true then bg s else s:=rfl
  cases hmm:qA.isPrefixOf s with
  |true=>rw[hmm,Bool.true_or,if_pos rfl]at e;simp only[wq.1,seval];refine⟨.bool true,?_⟩;simp only[wq.1,seval];refine ag.ev hsp rfl ?_;simp only[wq.1,seval];rw[e];exact aG.dat rfl
  |false =>
   simp only[wq.1,seval];refine ag.ev hL rfl ?_;cases hll:jq s with
   |true=>rw[hmm,hll]at e;simp only[wq.1,seval];have e:aO s=s:=e;rw[e];exact aG.dat rfl
   |false=>rw[hmm,hll]at e;have e:aO s=bg s:=e;simp only[wq.1,seval];refine ag.ev hsp rfl ?_;simp only[wq.1,seval];rw[e];exact aG.dat rfl
theorem SL[MO](s:S)(hs:s.length<=1000000):Ev TE 124 [vi 3,.str s] (.tup [.str (uS s).1,vi (uS s).2]):=by
 have hu:=EJ s hs;have hn:=wP s;have hL:=FO s;obtain⟨u,eu⟩:∃u,u=bH s:=⟨_,rfl⟩;have hsp:=FP u;unfold uS;rw[<-eu]at hu ⊢;have tail:∀(R:S×Int),R=(if(aS s&&jq s)=true then(s,0)else([],4))->R=R:=fun _ _=>rfl;obtain⟨T,hT⟩:∃T:S×Int,T=(if(aS s&&jq s)=true then(s,0)else([],4)):=⟨_,rfl⟩;rw[<-hT];refine ak Tryz.func124 rfl (by simp[nts]) (vm ?_);simp only[wq.1,seval,Tryz.results124];refine ag.ev yT rfl ?_;simp only[wq.1,seval];refine ag.ev hu rfl ?_;simp only[wq.1,seval];by_cases h0:u=[]
 ·have e0:(u==[])=true:=by rw[h0];rfl
  rw[if_neg (fun h=>h.1 h0)];simp only[wq.1,seval,e0];refine ag.ev hL rfl ?_;cases hok:aS s with
  |false=>rw[hok]at hT hL;have hT:T=([],4):=hT;rw[hT];simp only[wq.1,seval];exact aG.dat rfl
  |true =>
   rw[hok]at hT hn;cases hll:jq s with
   |false=>rw[hll]at hT;have hT:T=([],4):=hT;rw[hT];simp only[wq.1,seval];exact aG.dat rfl
   |true=>rw[hll]at hT;have hT:T=(s,0):=hT;rw[hT];simp only[wq.1,seval];refine ag.ev hn rfl ?_;simp only[wq.1,seval];exact aG.dat rfl
 ·have e0:(u==[])=false:=by simpa using h0
  unfold uo at hsp;simp only[wq.1,seval,e0];refine ag.ev hsp rfl ?_;cases hku:aS u with
  |false =>
   rw[if_neg (fun h=>absurd h.2.1 (by decide))];simp only[wq.1,seval];refine ag.ev hL rfl ?_;cases hok:aS s with
   |false=>rw[hok]at hT hL;have hT:T=([],4):=hT;rw[hT];simp only[wq.1,seval];exact aG.dat rfl
   |true =>
    rw[hok]at hT hn;cases hll:jq s with
    |false=>rw[hll]at hT;have hT:T=([],4):=hT;rw[hT];simp only[wq.1,seval];exact aG.dat rfl
    |true=>rw[hll]at hT;have hT:T=(s,0):=hT;rw[hT];simp only[wq.1,seval];refine ag.ev hn rfl ?_;simp only[wq.1,seval];exact aG.dat rfl
  |true =>
   by_cases hsu:aO u=s
   ·rw[if_pos ⟨h0,rfl,hsu⟩];have e1:(aO u==s)=true:=by simpa using hsu
    simp only[wq.1,seval,e1];exact aG.dat rfl
   ·rw[if_neg (fun h=>hsu h.2.2)];have e1:(aO u==s)=false:=by simpa using hsu
    simp only[wq.1,seval,e1];refine ag.ev hL rfl ?_;cases hok:aS s with
    |false=>rw[hok]at hT hL;have hT:T=([],4):=hT;rw[hT];simp only[wq.1,seval];exact aG.dat rfl
    |true =>
     rw[hok]at hT hn;cases hll:jq s with
     |false=>rw[hll]at hT;have hT:T=([],4):=hT;rw[hT];simp only[wq.1,seval];exact aG.dat rfl
     |true=>rw[hll]at hT;have hT:T=(s,0):=hT;rw[hT];simp only[wq.1,seval];refine ag.ev hn rfl ?_;simp only[wq.1,seval];exact aG.dat rfl
theorem Ju[MO](t:Tk)(hs:t.t.length<=1000000):Ev TE 72 [vi 3,t.v] (.tup [.str (AL t).1,vi (AL t).2]):=by
 have hr:=SL t.t hs;unfold AL;refine ak Tryz.func72 rfl (by simp[nts]) (vm ?_);simp only[wq.1,seval,Tryz.results72];by_cases hk:t.k=0
 ·have e0:((t.k:Int) != 0)=false:=by rw[hk];rfl
  have e2:((t.k:Int)==2)=false:=by rw[hk];rfl
  rw[if_pos hk];simp only[wq.1,seval,e0,e2];refine⟨.bool true,?_⟩;simp only[wq.1,seval];refine ag.ev hr rfl ?_;simp only[wq.1,seval];exact aG.dat rfl
 ·have e0:((t.k:Int) != 0)=true:=by simp;omega
  rw[if_neg hk];cases e2:((t.k:Int)==2)with
  |true=>simp only[wq.1,seval,e0];exact aG.dat rfl
  |false=>simp only[wq.1,seval,e0];exact aG.dat rfl
theorem PK[MO](t:Tk)(s:S)(hs:t.t.length<=1000000):Ev TE 71 [t.v,.ip (vi 3),.ip (.str s)] (.bool (VQ s t)):=by have hw:=Ju t hs;unfold VQ;refine ak Tryz.func71 rfl (by simp[nts]) (vm ?_);simp only[wq.1,seval,Tryz.results71];refine ag.ev hw rfl ?_;simp only[wq.1,seval];exact aG.eq rfl rfl
theorem SN[MO](l:List Tk)(s:S)(hl:∀t∈l,t.t.length<=1000000):Ev TE 31 [vi 3,qZ l,.str s] (vi (nZ l s)):=by
 have hix:=U2 l 71 [.ip (vi 3),.ip (.str s)] (VQ s) rfl rfl fun t ht=>PK t s (hl t ht);have hidx:idx l (VQ s)=match l.findIdx? (VQ s)with|some i=>(i:Int)|none=>-1:=rfl
 have hlen:l.length<=l.length:=zrb _;unfold nZ;refine ak Tryz.func31 rfl (by simp[nts]) (vm ?_);simp only[wq.1,seval,Tryz.results31];refine ag.lend hix (ay.cons (aG.dat (by simp only[V.dat,GU])) (ay.cons (aG.fn ay.nil (ay.cons (aG.lp rfl (ay.dat rfl) rfl rfl (by simp[V.vc]) rfl) (ay.cons (aG.lp rfl (ay.dat rfl) rfl rfl (by simp[V.vc]) rfl) ay.nil))) ay.nil)) rfl ?_;rw[hidx];cases hfi:l.findIdx? (VQ s)with
 |none=>simp only[wq.1,seval];exact aG.dat rfl
 |some i =>
  have hi:i<l.length:=(List.findIdx?_eq_some_iff_getElem.1 hfi).1;have hge:decide ((i:Int)<0)=false:=by simp
  have hgd:l.getD i ⟨0,[],0⟩=l[i]:=by rw[zqg,zqk hi];rfl
  simp only[wq.1,seval,hge,Xh hi];rw[hgd];exact⟨⟨by omega,by omega⟩,aG.dat rfl⟩
end Go.Proofs.YthaijohbpdabfaaGreatDoor
