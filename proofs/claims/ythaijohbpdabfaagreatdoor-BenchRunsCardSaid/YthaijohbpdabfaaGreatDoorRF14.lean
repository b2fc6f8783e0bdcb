/- Lemmas for this claim, part F14: each holds under what it names. -/
import Derived.Test.YthaijohbpdabfaaGreatDoorRF13
import Derived.Test.YthaijohbpdabfaaGreatDoorRF12
import Derived.Test.YthaijohbpdabfaaGreatDoorRF02
import Derived.Test.YthaijohbpdabfaaGreatDoorRF01
import Derived.Test.YthaijohbpdabfaaGreatDoorRF11
import Derived.Test.YthaijohbpdabfaaGreatDoorRF04
import Derived.Test.YthaijohbpdabfaaGreatDoorRA9
import Derived.Test.YthaijohbpdabfaaGreatDoorRF09
import Derived.Test.YthaijohbpdabfaaGreatDoorRA8
set_option linter.all false
set_option maxRecDepth 20000
set_option maxHeartbeats 16000000
namespace Go.Proofs.YthaijohbpdabfaaGreatDoor
open Go Go.Proofs Go.Abs
open List renaming length → aa, replicate → ao
open Bool renaming true → ab, false → ac
open Option renaming some → al, none → aq
open Decidable renaming decide → ar
open Go.IntKind renaming wrap → aD
open Go.Result renaming andThen → aM
open Go.Abs.O renaming cells → am
open Go.Abs.V renaming drops → ap, dat → aE, dats → aL
def laX(q:La):List V:=[.str q.name,.str q.next,vi q.init]
theorem Sv{p:Nat->Bool}(q:La):ap p (laX q)=laX q:=rfl
theorem Cj{p:Nat->Bool}(l:List La):ap p (l.flatMap laX)=l.flatMap laX:=nO Sv l
theorem Vy(l:List La):aa (l.flatMap laX)=aa l*3:=by
 induction l with
 |nil=>rfl
 |cons g l ih=>rw[List.flatMap_cons,zqa,ih,zrt];show 3+_=_;omega
theorem Hy:∀l:List La,aL (l.flatMap laX)=ab
 |[]=>rfl
 |q::l=>by show(aE (.str q.name)&&(aE (.str q.next)&&(aE (vi q.init)&&aL (l.flatMap laX))))=ab;rw[Hy l];rfl
theorem Hz:∀l:List Ga,aL (l.flatMap gaX)=ab
 |[]=>rfl
 |q::l=>by show(aE (.str q.name)&&(aE (vi q.op)&&(aE (aJ q.ins)&&(aE (aJ q.rows)&&(aE (.bool q.off)&&aL (l.flatMap gaX))))))=ab;rw[Hz l];simp only[aE,ax,zre]
structure PC(c:Ci)(e:Nat)(l:List Tk)(h:H):Prop where
 p:h[3]? =al (am [.ls 4 1 0 (aa c.ins) (aa c.ins),.ls 5 1 0 (aa c.outs) (aa c.outs),.ls 6 3 0 (aa c.lat) (aa c.lat),.ls 7 5 0 (aa c.gates) (aa c.gates),sU l,vi e])
 i:h[4]? =al (am (c.ins.map V.str))
 u:h[5]? =al (am (c.outs.map V.str))
 a:h[6]? =al (am (c.lat.flatMap laX))
 g:h[7]? =al (am (c.gates.flatMap gaX))
def K3(h h':H):Prop:=∀j cs,j<3->h[j]? =al (am cs)->aL cs=ab->h'[j]? =al (am cs)
theorem K3.trans{h h1 h2:H}(a:K3 h h1)(b:K3 h1 h2):K3 h h2:=λj cs hj hc hd=>b j cs hj (a j cs hj hc hd) hd
abbrev PWc(c:Ci)(e:Nat)(h0:H)(l:List Tk)(h:H):Prop:=PW (.ls 4 1 0 (aa c.ins) (aa c.ins)) (.ls 5 1 0 (aa c.outs) (aa c.outs)) (.ls 6 3 0 (aa c.lat) (aa c.lat)) (.ls 7 5 0 (aa c.gates) (aa c.gates)) e h0 l h
theorem PC.pw{c:Ci}{e:Nat}{l:List Tk}{h:H}(k:PC c e l h):PWc c e h l h:=by
 have l7:=(zqe k.g).1;refine⟨k.p,λ_ _ _ _ hc _=>hc,zrb _,by omega,λK hK=> ?_⟩;have n4:(4==K)=ac:=by rw[beq_eq_false_iff_ne];omega
 have n5:(5==K)=ac:=by rw[beq_eq_false_iff_ne];omega
 have n6:(6==K)=ac:=by rw[beq_eq_false_iff_ne];omega
 have n7:(7==K)=ac:=by rw[beq_eq_false_iff_ne];omega
 simp only[V.drop,n4,n5,n6,n7,zrm,if_false,and_self]
theorem PC.of{c:Ci}{e:Nat}{l l':List Tk}{h h':H}(k:PC c e l h)(w:PWc c e h l' h'):PC c e l' h'/\K3 h h':=by have l7:=(zqe k.g).1;exact⟨⟨w.p,w.k 4 _ (by omega) (by decide) k.i ax,w.k 5 _ (by omega) (by decide) k.u ax,w.k 6 _ (by omega) (by decide) k.a (Hy _),w.k 7 _ (by omega) (by decide) k.g (Hz _)⟩,λj cs hj hc hd=>w.k j cs (by omega) (by omega) hc hd⟩
abbrev x47:Nat->Bool:=λi=>i==4||i==5||i==6||i==7
theorem Cm:x47 0=ac/\x47 1=ac/\x47 2=ac/\x47 3=ac:=⟨rfl,rfl,rfl,rfl⟩
theorem tN{e:E}{g:FuncId}{args:List V}{h:H}{R:AEnd->H->(Nat->Bool)->Prop}(hc:ag e g args h λae h' p=>(∀i,i<aa h->p i=ab->x47 i=ab)/\R ae h' x47):ag e g args h R:=by
 intro ok pl w vs hs hl;refine(hc ok pl w vs hs hl).mono ?_;rintro en w' ⟨p,pl',h',ae,h1,h2,h3,h4,h5⟩;refine⟨x47,pl',h',ae,h1,⟨h2.os,h2.tape,h2.output,h2.size,h2.same,h2.loc,λi b hp hi=>h2.keep i b ?_ hi,h2.row⟩,h3,h5⟩;cases hpi:p i with
 |false=>rfl
 |true=>rw[h4 i (hs.pl_lt hi) hpi]at hp;cases hp
theorem PC.drop4{c:Ci}{e:Nat}{l:List Tk}{h:H}(k:PC c e l h)(J:Nat):(h.map (O.drop λj=>j==J))[4]? =al (am (c.ins.map V.str))/\(h.map (O.drop λj=>j==J))[5]? =al (am (c.outs.map V.str))/\(h.map (O.drop λj=>j==J))[6]? =al (am (c.lat.flatMap laX))/\(h.map (O.drop λj=>j==J))[7]? =al (am (c.gates.flatMap gaX)):=by
 refine⟨?_,?_,?_,?_⟩
 ·rw[zqo,k.i];show al (am (ap _ _))=_;rw[aN]
 ·rw[zqo,k.u];show al (am (ap _ _))=_;rw[aN]
 ·rw[zqo,k.a];show al (am (ap _ _))=_;rw[Cj]
 ·rw[zqo,k.g];show al (am (ap _ _))=_;rw[kE]
abbrev p4(c:Ci)(l:List Tk)(e n1 n2 n3 n4:Nat):O:=am [.ls 4 1 0 n1 n1,.ls 5 1 0 n2 n2,.ls 6 3 0 n3 n3,.ls 7 5 0 n4 n4,sU l,vi e]
theorem PC.addIn{c:Ci}{e:Nat}{l:List Tk}{h:H}(k:PC c e l h)(s:S):PC {c with ins:=c.ins++[s]} e l (((h.map (O.drop λj=>j==4)).set 4 (am (c.ins.map V.str++[.str s]))).set 3 (p4 c l e (aa c.ins+1) (aa c.outs) (aa c.lat) (aa c.gates))):=by
 obtain⟨a,b,d,g⟩:=k.drop4 4;have l7:=(zqe k.g).1;refine⟨?_,?_,?_,?_,?_⟩
 ·rw[zqt (by simp;omega),zqa];rfl
 ·rw[zqn (by decide),zqt (by simp;omega),zql];rfl
 ·rw[zqn (by decide),zqn (by decide)];exact b
 ·rw[zqn (by decide),zqn (by decide)];exact d
 ·rw[zqn (by decide),zqn (by decide)];exact g
theorem PC.addOut{c:Ci}{e:Nat}{l:List Tk}{h:H}(k:PC c e l h)(s:S):PC {c with outs:=c.outs++[s]} e l (((h.map (O.drop λj=>j==5)).set 5 (am (c.outs.map V.str++[.str s]))).set 3 (p4 c l e (aa c.ins) (aa c.outs+1) (aa c.lat) (aa c.gates))):=by
 obtain⟨a,b,d,g⟩:=k.drop4 5;have l7:=(zqe k.g).1;refine⟨?_,?_,?_,?_,?_⟩
 ·rw[zqt (by simp;omega),zqa];rfl
 ·rw[zqn (by decide),zqn (by decide)];exact a
 ·rw[zqn (by decide),zqt (by simp;omega),zql];rfl
 ·rw[zqn (by decide),zqn (by decide)];exact d
 ·rw[zqn (by decide),zqn (by decide)];exact g
theorem PC.addLa{c:Ci}{e:Nat}{l:List Tk}{h:H}(k:PC c e l h)(q:La):PC {c with lat:=c.lat++[q]} e l (((h.map (O.drop λj=>j==6)).set 6 (am (c.lat.flatMap laX++laX q))).set 3 (p4 c l e (aa c.ins) (aa c.outs) (aa c.lat+1) (aa c.gates))):=by
 obtain⟨a,b,d,g⟩:=k.drop4 6;have l7:=(zqe k.g).1;refine⟨?_,?_,?_,?_,?_⟩
 ·rw[zqt (by simp;omega),zqa];rfl
 ·rw[zqn (by decide),zqn (by decide)];exact a
 ·rw[zqn (by decide),zqn (by decide)];exact b
 ·rw[zqn (by decide),zqt (by simp;omega),List.flatMap_append];simp
 ·rw[zqn (by decide),zqn (by decide)];exact g
theorem PC.addGa{c:Ci}{e:Nat}{l:List Tk}{h:H}(k:PC c e l h)(q:Ga):PC {c with gates:=c.gates++[q]} e l (((h.map (O.drop λj=>j==7)).set 7 (am (c.gates.flatMap gaX++gaX q))).set 3 (p4 c l e (aa c.ins) (aa c.outs) (aa c.lat) (aa c.gates+1))):=by
 obtain⟨a,b,d,g⟩:=k.drop4 7;have l7:=(zqe k.g).1;refine⟨?_,?_,?_,?_,?_⟩
 ·rw[zqt (by simp;omega),zqa];rfl
 ·rw[zqn (by decide),zqn (by decide)];exact a
 ·rw[zqn (by decide),zqn (by decide)];exact b
 ·rw[zqn (by decide),zqn (by decide)];exact d
 ·rw[zqn (by decide),zqt (by simp;omega),List.flatMap_append];simp
theorem K3.add{h h3:H}(k:K3 h h3)(J:Nat)(hJ:3<=J)(o o':O):K3 h (((h3.map (O.drop λj=>j==J)).set J o).set 3 o'):=λj cs hj hc hd=>by rw[zqn (by omega),zqn (by omega),zqo,k j cs hj hc hd];show al (am (ap _ cs))=_;rw[iT.dats_drops _ hd]
theorem NJ[MO]{c:Ci}{e:Nat}{t:Tk}{r:List Tk}{h:H}(k:PC c e (t::r) h)(hl:tY (t::r))(hci:aa c.ins<=1000000)(hco:aa c.outs<=1000000)(w:S)(out:Bool)(hw:(w==jc)= !out){R:AEnd->H->(Nat->Bool)->Prop}
 (hok:∀c' l' h',A7 e c out r= .ok (c',l')->PC c' e l' h'->K3 h h'->R (.ret (.tup [])) h' x47) (hbad:∀x h',A7 e c out r= .error x->K3 h h'->R (.pan (wQ x.1 x.2)) h' x47):ag TE 68 [.lp 3 0,.str w] h R:=by
 have hM:=mLx;unfold A7 at hok hbad;have w0:=k.pw;have hl':=hl.tail;refine tN ?_;refine aj Tryz.func68 rfl (by simp[nts]) ?_;refine vn ?_;simp only[wq.1,seval,Tryz.results68,k.p];refine⟨by omega,?_⟩;obtain⟨P1,eP1⟩:∃P1:AEnd->H->(Nat->Bool)->Prop,P1=λae h' p=>(∀i,i<aa h->p i=ab->x47 i=ab)/\R ae h' x47:=⟨_,rfl⟩;have hpan:∀(x:Nat×Int) l' h',A7 e c out r= .error x->PWc c e h l' h'->P1 (.pan (wQ x.1 x.2)) h' (λ_=>ac):=λx l' h' he hw=>by rw[eP1];exact⟨λi _ h=>(by cases h),hbad _ _ he (k.of hw).2⟩
 unfold A7 at hpan;have w1:=w0.set r;rw[<-eP1];refine vn ?_;simp only[wq.1,seval];refine nP w1 hl'.1 40 (λl1 h1 hm k1=> ?_) (λx l1 h1 hm k1=> ?_)
 rotate_left
 ·rw[hm]at hpan;simp only[wq.1,fO];simp only[XE.seq];exact cZ (R:=P1) rfl (hpan _ _ _ rfl k1)
 rw[hm]at hok hpan;dsimp only at hok hpan;obtain⟨o1,o2⟩:=l9 hl' hm;simp only[wq.1];refine vn ?_;simp only[wq.1,seval];refine oL k1 o1 (λs l2 h2 hn k2=> ?_) (λx l2 h2 hn k2=> ?_)
 rotate_left
 ·rw[hn]at hpan;simp only[wq.1,fO];simp only[XE.seq];exact cZ (R:=P1) rfl (hpan _ _ _ rfl k2)
 rw[hn]at hok hpan;dsimp only at hok hpan;obtain⟨q1,q2⟩:=mf o1 hn;simp only[wq.1,seval];refine vn ?_;simp only[wq.1,seval];refine nP k2 q1.1 41 (λl3 h3 hm3 k3=> ?_) (λx l3 h3 hm3 k3=> ?_)
 rotate_left
 ·rw[hm3]at hpan;simp only[wq.1,fO];simp only[XE.seq];exact cZ (R:=P1) rfl (hpan _ _ _ rfl k3)
 rw[hm3]at hok;dsimp only at hok;obtain⟨kc,kk⟩:=k.of k3;rw[eP1];have lt7:=(zqe kc.g).1;cases out with
 |false =>
  rw[if_neg (by decide)]at hok;have kn:=kc.addIn s;have hw:(w==jc)=ab:=hw;have hw':(w==[73,78,80,85,84])=ab:=hw;have kp:=kc.p;have ki:=kc.i;have s3:∀X:O,((h3.map (O.drop λx=>x==4)).set 4 X)[3]? =al (am [.any,.ls 5 1 0 (aa c.outs) (aa c.outs),.ls 6 3 0 (aa c.lat) (aa c.lat),.ls 7 5 0 (aa c.gates) (aa c.gates),sU l3,vi e]):=λX=>by
   rw[zqn (by decide),zqo,kp];rfl
  simp only[wq.1];refine vn ?_;simp only[wq.1,↓reduceIte,Nat.reduceEqDiff,Nat.reduceLT,Nat.reduceLeDiff,Nat.reduceAdd,hw'];refine vm ?_;simp only[wq.1,↓reduceIte,Nat.reduceEqDiff,Nat.reduceLT,Nat.reduceLeDiff,Nat.reduceAdd,Nat.reduceBEq,reduceCtorEq,Nat.reduceMul,kp,ki,s3];refine⟨⟨rfl,by decide⟩,⟨by omega,by omega,by omega⟩,λi _ hi=> ?_,hok _ _ _ rfl kn (kk.add 4 (by decide) _ _)⟩;have:i=4:=by simpa using hi
  subst this;rfl
 |true =>
  rw[if_pos rfl]at hok;have kn:=kc.addOut s;have hw:(w==jc)=ac:=hw;have hw':(w==[73,78,80,85,84])=ac:=hw;have kp:=kc.p;have ki:=kc.u;have s3:∀X:O,((h3.map (O.drop λx=>x==5)).set 5 X)[3]? =al (am [.ls 4 1 0 (aa c.ins) (aa c.ins),.any,.ls 6 3 0 (aa c.lat) (aa c.lat),.ls 7 5 0 (aa c.gates) (aa c.gates),sU l3,vi e]):=λX=>by
   rw[zqn (by decide),zqo,kp];rfl
  simp only[wq.1];refine vn ?_;simp only[wq.1,↓reduceIte,Nat.reduceEqDiff,Nat.reduceLT,Nat.reduceLeDiff,Nat.reduceAdd,hw'];refine vm ?_;simp only[wq.1,↓reduceIte,Nat.reduceEqDiff,Nat.reduceLT,Nat.reduceLeDiff,Nat.reduceAdd,Nat.reduceBEq,reduceCtorEq,Nat.reduceMul,kp,ki,s3];refine⟨⟨rfl,by decide⟩,⟨by omega,by omega,by omega⟩,λi _ hi=> ?_,hok _ _ _ rfl kn (kk.add 5 (by decide) _ _)⟩;have:i=5:=by simpa using hi
  subst this;rfl
theorem Ah(s:ByteArray)(c:Int):∀k:Nat,-1<=Lib.lastIdx s c k/\Lib.lastIdx s c k<k
 |0=>by simp[Lib.lastIdx]
 |k+1=>by have:=Ah s c k;unfold Lib.lastIdx;split<;>omega
def HY(a b:Int)(s:S):Int×Int:=if s.count 10=0 then(a,b+aa s)else(a+(s.count 10:Nat),aa s-Lib.lastIndexByte ⟨s.toArray⟩ 10)
def Wx:Plan:=tkZ [0,2,4,6]<| .alt 1 (.alt 3 (.alt 5 (onZ [7,8,9,10]<| .fin) (.one 7 (onZ [5,8,9,10]<| .fin))) (.alt 5 (.alt 3 (onZ [7,8,9,10]<| .fin) (.one 7 (.alt 3 (onZ [8,9,10]<| .fin) (.one 8 (onZ [3,9,10]<| .fin))))) (.one 7 (.alt 3 (onZ [5,8,9,10]<| .fin) (.one 5 (.alt 3 (onZ [8,9,10]<| .fin) (.one 8 (onZ [3,9,10]<| .fin)))))))) (.alt 5 (.alt 1 (.alt 3 (onZ [7,8,9,10]<| .fin) (.one 7 (.alt 3 (onZ [8,9,10]<| .fin) (.one 8 (onZ [3,9,10]<| .fin))))) (.one 7 (.alt 1 (.alt 3 (onZ [8,9,10]<| .fin) (.one 8 (onZ [3,9,10]<| .fin))) (.one 8 (onZ [1,3,9,10]<| .fin))))) (.one 7 (.alt 1 (.alt 3 (onZ [5,8,9,10]<| .fin) (.one 5 (.alt 3 (onZ [8,9,10]<| .fin) (.one 8 (onZ [3,9,10]<| .fin))))) (.one 5 (.alt 1 (.alt 3 (onZ [8,9,10]<| .fin) (.one 8 (onZ [3,9,10]<| .fin))) (.one 8 (onZ [1,3,9,10]<| .fin)))))))
theorem Vz[MO](a b:Int)(s:S)(ha:0<=a/\a<=1000000000)(hb:0<=b/\b<=1000000000)(hs:aa s<=1000000000):Ev TE 117 [.agg [vi a,vi b],.str s] (.agg [vi (HY a b s).1,vi (HY a b s).2]):=by
 have hc:s.count 10<=aa s:=List.count_le_length;have hl:=Ah ⟨s.toArray⟩ 10 (aa s);have hl':Lib.lastIndexByte ⟨s.toArray⟩ 10=Lib.lastIdx ⟨s.toArray⟩ 10 (aa s):=rfl;refine ai Tryz.func117 rfl (by simp[nts]) ?_;refine vn ?_;simp only[wq.1,Nat.reduceLT,Tryz.results117];refine vn ?_;simp only[wq.1,seval];refine ag.ev (PP s 10) rfl ?_;simp only[wq.1,seval];refine vn ?_;simp only[wq.1,↓reduceIte,Nat.reduceLT];refine vcB.mk (λh0=> ?_) (λh0=> ?_)
 ·have h0:s.count 10=0:=by simpa using h0
  have w1:aD .i64 (b+(aa s:Int))=b+aa s:=iW (by omega) (by omega);simp only[wq.1,↓reduceIte,Nat.reduceEqDiff,Nat.reduceLT,Nat.reduceLeDiff,Nat.reduceAdd,Int.reduceToNat,Int.reduceLE,reduceCtorEq,Nat.reduceMul,w1];unfold HY;rw[if_pos h0];exact⟨by decide,by decide,aC.dat rfl⟩
 ·have h0:s.count 10≠0:=by simpa using h0
  have w1:aD .i64 (a+((s.count 10:Nat):Int))=a+(s.count 10:Nat):=iW (by omega) (by omega);have w2:aD .i64 ((aa s:Int)-Lib.lastIndexByte ⟨s.toArray⟩ 10)=aa s-Lib.lastIndexByte ⟨s.toArray⟩ 10:=iW (by omega) (by omega);simp only[wq.1];refine ak ?_;refine dJ mixed Wx (λf' h'=>f'.t 4= .lp 1 0/\f'.d=[]/\h'=[am [vi a,vi b],am [vi (a+(s.count 10:Nat)),vi (aa s-Lib.lastIndexByte ⟨s.toArray⟩ 10)]]) (by rw[TEP];decide +kernel) (by decide +kernel) ?_ ?_
  ·have hten:((10:UInt8).toNat:Int)=10:=rfl;simp only[wq.1,seval,Wx]
   repeat' apply zsa
   all_goals try(first|decide|rfl)
   all_goals (refine ag.ev (Uu s 10 hs) rfl ?_)
   all_goals (simp only[wq.1,seval,w1,w2,hten])
   all_goals trace_state
  ·rintro f h ⟨h4,hd,rfl⟩;simp only[wq.1];refine vm ?_;simp only[wq.1,seval,h4,hd];unfold HY;rw[if_neg h0];exact aC.dat rfl
theorem mx(a b:Int):Oh [vi a,vi b]=(True,vi (max a b)):=by simp only[Oh,Int.max_def];split<;>split<;>first|rfl|(congr 2;omega)
theorem mn(a b:Int):LY [vi a,vi b]=(True,vi (min a b)):=by simp only[LY,Int.min_def];split<;>split<;>first|rfl|(congr 2;omega)
def qF(s:S)(a:Int):Int×Int:=HY 1 1 (s.take (min (max a 0) (aa s:Int)).toNat)
def SA:Plan:= .take 0<| .take 2<| .alt 1 (.take 4<| .one 3<| .take 5<| .fin) (.one 3 (.one 1<| .take 4<| .take 5<| .fin))
def Wy:Plan:=tkZ [1,2,4]<| .alt 0 (.alt 3 (.alt 5 (.alt 6 (.take 7<| .alt 8 (.one 9<| .one 10<| .fin) (.one 9 (.one 8<| .one 10<| .fin))) (.one 9 (.one 6<| .take 7<| .one 8<| .one 10<| .fin))) (.one 9 (.one 5<| .one 6<| .take 7<| .one 8<| .one 10<| .fin))) (.alt 5 (.alt 3 (.alt 6 (.take 7<| .alt 8 (.one 9<| .one 10<| .fin) (.one 9 (.one 8<| .one 10<| .fin))) (.one 9 (.one 6<| .take 7<| .one 8<| .one 10<| .fin))) (.one 9 (.one 3<| .one 6<| .take 7<| .one 8<| .one 10<| .fin))) (.one 9 (.alt 3 (.one 5<| .one 6<| .take 7<| .one 8<| .one 10<| .fin) (.one 5 (.one 3<| .one 6<| .take 7<| .one 8<| .one 10<| .fin)))))) (.alt 3 (.alt 0 (.alt 5 (.alt 6 (.take 7<| .alt 8 (.one 9<| .one 10<| .fin) (.one 9 (.one 8<| .one 10<| .fin))) (.one 9 (.one 6<| .take 7<| .one 8<| .one 10<| .fin))) (.one 9 (.one 5<| .one 6<| .take 7<| .one 8<| .one 10<| .fin))) (.alt 5 (.alt 0 (.alt 6 (.take 7<| .alt 8 (.one 9<| .one 10<| .fin) (.one 9 (.one 8<| .one 10<| .fin))) (.one 9 (.one 6<| .take 7<| .one 8<| .one 10<| .fin))) (.alt 6 (.take 7<| .alt 0 (.alt 8 (.one 9<| .one 10<| .fin) (.one 9 (.one 8<| .one 10<| .fin))) (.one 9 (onZ [0,8,10]<| .fin))) (.one 9 (.alt 0 (.one 6<| .take 7<| .one 8<| .one 10<| .fin) (.one 6 (.take 7<|onZ [0,8,10]<| .fin)))))) (.one 9 (.alt 0 (.one 5<| .one 6<| .take 7<| .one 8<| .one 10<| .fin) (.one 5 (.alt 0 (.one 6<| .take 7<| .one 8<| .one 10<| .fin) (.one 6 (.take 7<|onZ [0,8,10]<| .fin)))))))) (.alt 5 (.alt 0 (.alt 3 (.alt 6 (.take 7<| .alt 8 (.one 9<| .one 10<| .fin) (.one 9 (.one 8<| .one 10<| .fin))) (.one 9 (.one 6<| .take 7<| .one 8<| .one 10<| .fin))) (.one 9 (.one 3<| .one 6<| .take 7<| .one 8<| .one 10<| .fin))) (.alt 3 (.alt 0 (.alt 6 (.take 7<| .alt 8 (.one 9<| .one 10<| .fin) (.one 9 (.one 8<| .one 10<| .fin))) (.one 9 (.one 6<| .take 7<| .one 8<| .one 10<| .fin))) (.alt 6 (.take 7<| .alt 0 (.alt 8 (.one 9<| .one 10<| .fin) (.one 9 (.one 8<| .one 10<| .fin))) (.one 9 (onZ [0,8,10]<| .fin))) (.one 9 (.alt 0 (.one 6<| .take 7<| .one 8<| .one 10<| .fin) (.one 6 (.take 7<|onZ [0,8,10]<| .fin)))))) (.one 9 (.alt 0 (.one 3<| .one 6<| .take 7<| .one 8<| .one 10<| .fin) (.one 3 (.alt 0 (.one 6<| .take 7<| .one 8<| .one 10<| .fin) (.one 6 (.take 7<|onZ [0,8,10]<| .fin)))))))) (.one 9 (.alt 0 (.alt 3 (.one 5<| .one 6<| .take 7<| .one 8<| .one 10<| .fin) (.one 5 (.one 3<| .one 6<| .take 7<| .one 8<| .one 10<| .fin))) (.alt 3 (.alt 0 (.one 5<| .one 6<| .take 7<| .one 8<| .one 10<| .fin) (.one 5 (.alt 0 (.one 6<| .take 7<| .one 8<| .one 10<| .fin) (.one 6 (.take 7<|onZ [0,8,10]<| .fin))))) (.one 5 (.alt 0 (.one 3<| .one 6<| .take 7<| .one 8<| .one 10<| .fin) (.one 3 (.alt 0 (.one 6<| .take 7<| .one 8<| .one 10<| .fin) (.one 6 (.take 7<|onZ [0,8,10]<| .fin)))))))))))
theorem SB[MO](s:S)(a:Int)(hs:aa s<=1000000000):Ev TE 66 [.str s,vi a] (.tup [vi (qF s a).1,vi (qF s a).2]):=by
 refine ai Tryz.func66 rfl (by simp[nts]) ?_;refine vn ?_;simp only[wq.1,Nat.reduceLT,Tryz.results66];refine vn ?_;refine dJ mixed Wy (λf' h'=>f'.t 6= .lp 0 0/\f'.d=[]/\h'=[am [vi (qF s a).1,vi (qF s a).2]]) (by rw[TEP];decide +kernel) (by decide +kernel) ?_ ?_
 ·have hm:0<=min (max a 0) (aa s:Int)/\min (max a 0) (aa s:Int)<=aa s:=by omega
  have hov:=Vz 1 1 (s.take (min (max a 0) (aa s:Int)).toNat) (by decide) (by decide) (by rw[zrl];omega);simp only[wq.1,seval,Wy,gl0,jh,mx,mn]
  repeat' apply zsa
  all_goals try omega
  all_goals (refine ag.ev hov rfl ?_)
  all_goals (simp only[wq.1,↓reduceIte,Nat.reduceEqDiff,Nat.reduceLT,Nat.reduceAdd])
  all_goals rfl
 ·rintro f h ⟨h6,hd,rfl⟩;refine ak ?_;refine dJ mixed SA (λf' h'=>f'.t 4=vi (qF s a).1/\f'.t 5=vi (qF s a).2/\f'.d=[]) (by rw[TEP];decide +kernel) (by decide +kernel) ?_ ?_
  ·simp only[wq.1,↓reduceIte,Nat.reduceEqDiff,Nat.reduceLT,Nat.reduceLeDiff,Nat.reduceAdd,Int.reduceToNat,Int.reduceLE,Nat.reduceMul,SA,h6,hd];exact⟨by decide,by decide⟩
  ·rintro f h ⟨h4,h5,hd⟩;simp only[wq.1];refine vm ?_;simp only[wq.1,h4,h5,hd];exact aC.dat rfl
def lH(s:S)(a e:Int):V:=if e=0 then .agg [vi 0,vi 0,vi 0]else .agg [vi e,vi (qF s a).1,vi (qF s a).2]
theorem VA[MO](s:S)(a e:Int)(hs:aa s<=1000000000):Ev TE 27 [.str s,vi a,vi e] (lH s a e):=by
 unfold lH;refine ai Tryz.func27 rfl (by simp[nts]) (vm ?_);simp only[wq.1,seval,Tryz.results27];refine vcB.mk (λhc=> ?_) (λhc=> ?_)
 ·have hc:e=0:=by simpa using hc
  simp only[wq.1,seval];rw[if_pos hc];exact aC.dat rfl
 ·have hc:e≠0:=by simpa using hc
  simp only[wq.1,seval];refine ag.ev (SB s a hs) rfl ?_;simp only[wq.1,seval];rw[if_neg hc];exact aC.dat rfl
theorem Eu:JF P 30 [.i64,.i64,.i64]:=by
 refine⟨by kernel_rfl,λw xs ys hx hy=> ?_⟩
 match xs,hx with
 |[a,b,c],_ =>
 match ys,hy with
 |[a',b',c'],_ =>
 have p0:∀(x y z:Value),(part 28 #[x,y,z] 0).run P w= .ok x w:=λx y z=>jU Tryz.underlying28 (by simp);have p1:∀(x y z:Value),(part 3 #[x,y,z] 1).run P w= .ok y w:=λx y z=>jU Tryz.underlying3 (by simp);have p2:∀(x y z:Value),(part 3 #[x,y,z] 2).run P w= .ok z w:=λx y z=>jU Tryz.underlying3 (by simp);have hso:P.stoodInHeld 30=ac:=by kernel_rfl
 show(Op.equalIn 10000 30 (.agg #[.int .i64 a,.int .i64 b,.int .i64 c]) (.agg #[.int .i64 a',.int .i64 b',.int .i64 c'])).run P w= .ok ([a,b,c]==[a',b',c']) w;rw[Op.equalIn];have e31:=pg (P:=P) (w:=w) Tryz.underlying28 9998;have e3:=pg (P:=P) (w:=w) Tryz.underlying3 9998;simp only[Sem.run_bind,run_underlying Tryz.underlying30,aM];by_cases ha:a=a'
 ·subst ha;by_cases hb:b=b'
  ·subst hb;by_cases hc:c=c'
   ·subst hc;simp[hso,p0,p1,p2,e31,e3,Sem.run_bind,aM]
   ·have hc':(c==c')=ac:=by simpa using hc
    simp[hso,p0,p1,p2,e31,e3,Sem.run_bind,aM,hc',hc]
  ·have hb':(b==b')=ac:=by simpa using hb
   simp[hso,p0,p1,p2,e31,e3,Sem.run_bind,aM,hb',hb]
 ·have ha':(a==a')=ac:=by simpa using ha
  simp[hso,p0,p1,p2,e31,e3,Sem.run_bind,aM,ha',ha]
def SC:Plan:=tkZ [0,1,4,5]<| .alt 2 (.alt 3 (.one 6<| .one 7<| .take 8<| .take 9<| .fin) (.one 6 (.one 3<| .one 7<| .take 8<| .take 9<| .fin))) (.one 6 (onZ [2,3,7]<| .take 8<| .take 9<| .fin))
theorem awp_late4{e:E}{n:Nat}{r:Option Nat}{ops:Array Oper}{Q:XE->Fr->H->Prop}{h:H}(hm:e.P.follows .mixedOrders=ab){id:Nat}{f:Fr}(tk pre:List Nat)(last:Nat)(p:Plan)(R:Fr->H->Prop)(hB:pV e.P ops tk pre last p=ab)
 (hv:∀K:Fr->H->Prop,(∀f1 h1,gY e n ops (ry R) p f1 h1->K f1 h1)->pU e n ops (ry R) (λf h=>bJ e n ops h (λf1=>K f1 h) (yX ops pre) f) tk f h) (hk:∀f h,R f h->Q .normal f h):awp e n r (.region id ops ab) Q f h :=
 yZ hm tk pre last p R hB (hv (λf1 h1=>gY e n ops (ry R) p f1 h1) (λ_ _ h=>h)) hk
def Yr(l:List S)(s:S):Int:=match l.findIdx? (·==s)with|some i=>(i:Int)|none=>-1
theorem Yt(l:List S)(s:S):idx l (·==s)=Yr l s:=rfl
theorem NK[MO]{c:Ci}{e:Nat}{l:List Tk}{h:H}(k:PC c e l h)(hl:tY l)(hcl:aa c.lat<=1000000)(hcg:aa c.gates<=1000000){R:AEnd->H->(Nat->Bool)->Prop}
 (hok:∀c' l' h',AZ e c l= .ok (c',l')->PC c' e l' h'->K3 h h'->R (.ret (.tup [])) h' x47) (hbad:∀x h',AZ e c l= .error x->K3 h h'->R (.pan (wQ x.1 x.2)) h' x47):ag TE 69 [.lp 3 0] h R:=by
 have hM:=mLx;obtain⟨P1,eP1⟩:∃P1:AEnd->H->(Nat->Bool)->Prop,P1=λae h' p=>(∀i,i<aa h->p i=ab->x47 i=ab)/\R ae h' x47:=⟨_,rfl⟩;have hpan:∀(x:Nat×Int) l' h',AZ e c l= .error x->PWc c e h l' h'->P1 (.pan (wQ x.1 x.2)) h' (λ_=>ac):=λx l' h' he hw=>by rw[eP1];exact⟨λi _ h=>(by cases h),hbad _ _ he (k.of hw).2⟩
 unfold AZ at hok hpan;have w0:=k.pw;refine tN ?_;rw[<-eP1];refine aj Tryz.func69 rfl (by simp[nts]) ?_;refine vn ?_;simp only[wq.1,seval,Tryz.results69];refine oL w0 hl (λs l1 h1 hn k1=> ?_) (λx l1 h1 hn k1=> ?_)
 rotate_left
 ·rw[hn]at hpan;simp only[wq.1,fO];simp only[XE.seq];exact cZ (R:=P1) rfl (hpan _ _ _ rfl k1)
 rw[hn]at hok hpan;dsimp only at hok hpan;obtain⟨o1,o2⟩:=mf hl hn;simp only[wq.1,seval];refine vn ?_;simp only[wq.1,seval];refine nP k1 o1.1 61 (λl2 h2 hm k2=> ?_) (λx l2 h2 hm k2=> ?_)
 rotate_left
 ·rw[hm]at hpan;simp only[wq.1,fO];simp only[XE.seq];exact cZ (R:=P1) rfl (hpan _ _ _ rfl k2)
 rw[hm]at hok hpan;dsimp only at hok hpan;obtain⟨q1,q2⟩:=l9 o1 hm;simp only[wq.1];refine vn ?_;simp only[wq.1,seval];refine Cf k2 q1.1 (λw l3 h3 hw k3'=> ?_) (λx l3 h3 hw k3=> ?_)
 rotate_left
 ·rw[hw]at hpan;simp only[wq.1,fO];simp only[XE.seq];exact cZ (R:=P1) rfl (hpan _ _ _ rfl k3)
 rw[hw]at hok hpan;dsimp only at hok hpan;obtain⟨r1,r2,r3,r4⟩:=vC q1 hw;obtain⟨B,hB⟩:∃B,B=aa h3:=⟨_,rfl⟩;have hgE:∀x:O,(h3++[x])[B]? =al x:=λx=>by rw[hB];simp
 have hgS:∀x y:O,(h3++[x]).set B y=h3++[y]:=λx y=>by rw[hB];simp
 have hB0:aa h<=B:=by rw[hB];exact k3'.lt
 simp only[wq.1,seval,<-hB,hgE,hgS];have k3:=k3'.app [am (tkF w)];have hBw:=hgE (am (tkF w));obtain⟨H3,eH3⟩:∃H3,H3=h3++[am (tkF w)]:=⟨_,rfl⟩;rw[<-eH3]at k3 hBw;rw[show h3++[am [vi w.k,.str w.t,vi w.at']]=H3 from eH3.symm];have hBw:H3[B]? =al (am [vi w.k,.str w.t,vi w.at']):=hBw;clear hgE hgS;have hla:=wO bW w.t;have hwo:=wO dZ w.t;rw[Yt]at hla hwo;refine ak (dJ mixed SC (λf h=>f.t 0= .lp 3 0/\f.t 2= .str s/\f.t 3= .lp B 0/\f.t 4=vi (Yr bW w.t)/\f.t 5=vi (Yr dZ w.t)/\f.d=[]/\f.k=(λ_=>ac)/\h=H3) (by rw[TEP];decide +kernel) (by decide +kernel) ?_ ?_)
 ·simp only[wq.1,seval,SC,jh,gl5,gl6,hBw];have hw3:List.length bW=3/\3<=maxLen/\(List.map V.str bW).all V.one=ab:=⟨rfl,by omega,rfl⟩;have hw10:List.length dZ=10/\10<=maxLen/\(List.map V.str dZ).all V.one=ab:=⟨rfl,by omega,rfl⟩;refine⟨hw3,hw10,⟨?_,?_⟩,?_⟩
  ·refine ag.ev hla (by simp only[aL,aE,ax,zre]) ?_;simp only[wq.1,seval,hBw];refine ag.ev hwo (by simp only[aL,aE,ax,zre]) ?_;simp only[wq.1,seval]
  ·refine ag.ev hla (by simp only[aL,aE,ax,zre]) ?_;simp only[wq.1,seval];refine ag.ev hwo (by simp only[aL,aE,ax,zre]) ?_;simp only[wq.1,seval]
  ·refine ag.ev hla (by simp only[aL,aE,ax,zre]) ?_;simp only[wq.1,seval];refine ag.ev hwo (by simp only[aL,aE,ax,zre]) ?_;simp only[wq.1,seval]
 rintro f h' ⟨t0,t2,t3,t4,t5,hd,hk,hH⟩;rw[hH];clear hH h';show awp _ _ _ _ _ _ _
 -- the other words
 obtain⟨opI,eopI⟩:∃opI:Int,opI=match opW w.t with|some k=>(k:Int)|none=>-1:=⟨_,rfl⟩
 have hmo:=MO.more w.t (vi 0);refine ak (bf (Q:=λxe f h=>xe= .normal/\f.t 0= .lp 3 0/\f.t 2= .str s/\f.t 3= .lp B 0/\f.t 4=vi (Yr bW w.t)/\f.t 5=vi opI/\f.d=[]/\f.k=(λ_=>ac)/\h=H3) ?_ ?_)
 rotate_left
 ·by_cases hbw:w.t=zaM
  ·rw[if_pos (show w.t=[66,85,70]from hbw)]at hmo;have ho:opI=2:=by rw[eopI];unfold opW;rw[if_pos hbw];rfl
   rw[ho];refine vn ?_;simp only[wq.1,seval,t3,hBw,jh,gl2,hmo];refine vm ?_;simp only[wq.1,seval,t0,t2,t3,t4,hd,hk]
  ·rw[if_neg (show ¬w.t=[66,85,70]from hbw)]at hmo;have ho:opI=Yr dZ w.t:=by rw[eopI];unfold opW;rw[if_neg hbw];rfl
   rw[ho];refine vn ?_;simp only[wq.1,seval,t3,hBw,jh,gl2,hmo];refine vm ?_;simp only[wq.1,seval,t0,t2,t3,t4,t5,hd,hk]
 clear t0 t2 t3 t4 t5 hd hk hmo f;rintro xe f h' ⟨rfl,t0,t2,t3,t4,t5,hd,hk,hH⟩;rw[hH];clear hH h';show awp _ _ _ _ _ _ _;have hlatI:Yr bW w.t=match bW.findIdx? (·==w.t)with|some i=>(i:Int)|none=>-1:=rfl
 obtain⟨latI,elat⟩:∃latI,latI=Yr bW w.t:=⟨_,rfl⟩;rw[<-elat]at t4 hlatI;cases hlt:bW.findIdx? (·==w.t)with
 |none =>
  rw[hlt]at hlatI;have hlatI:latI=-1:=hlatI;rw[hlatI]at t4;cases hopw:opW w.t with
  |none =>
   rw[hopw]at eopI;have eopI:opI=-1:=eopI;rw[eopI]at t5;rw[hlt,hopw]at hpan;refine vn ?_;simp only[wq.1,seval,t3,t4,t5,hBw];refine gz _ _ _ (λhb=>by cases hb) (λ_=> ?_);simp only[wq.1,Int.reduceNeg,fO,hd];simp only[XE.seq];refine cZ (R:=P1) (by simp only[wq.1,Int.reduceNeg,hd]) ?_;have hkf:(((((((((f.put (al 32) (vi (-1))).put (al 33) (V.bool ac)).put (al 34) (V.bool ac)).put (al 35) (vi (-1))).put (al 36) (V.bool ac)).put (al 37) (V.bool ac)).put (al 38) (V.lp B 2)).put (al 39) (vi ↑w.at')).drop λx=>ac).k=λ_=>ac:=by simp only[wq.1,Int.reduceNeg,hk]
   rw[hkf];exact hpan _ _ _ rfl k3
  |some op =>
   rw[hopw]at eopI;have eopI:opI=(op:Int):=eopI;rw[eopI]at t5;rw[hlt,hopw]at hpan hok;dsimp only at hpan hok;have hge:ar ((0:Int)<=(op:Int))=ab:=by simp
   refine vn ?_;simp only[wq.1,seval,t3,t4,t5,hBw,hge];refine gz _ _ _ (λ_=> ?_) (λhb=>by cases hb);simp only[wq.1,Int.reduceNeg];refine vn ?_;simp only[wq.1,seval,t0];refine xC k3 r1 (λns l4 h4 hnm k4=> ?_) (λx l4 h4 hnm k4=> ?_)
   rotate_left
   ·rw[hnm]at hpan;simp only[wq.1,Int.reduceNeg,fO,hd];simp only[XE.seq];refine cZ (R:=P1) (by simp only[wq.1,Int.reduceNeg,hd]) ?_;refine Eq.mp (congrArg (P1 _ _) ?_) (hpan _ _ _ rfl k4);simp only[wq.1,Int.reduceNeg,hk]
   rw[hnm]at hok;dsimp only at hok;obtain⟨kc,kk⟩:=k.of k4;simp only[wq.1,seval];refine fU (λf=>f.t 0= .lp 3 0/\f.t 2= .str s/\f.t 4=vi (-1)/\f.t 5=vi op/\f.t 8=aJ ns/\f.d=[]/\f.k=(λ_=>ac)) ⟨by simp only[wq.1,seval,t0],by simp only[wq.1,seval,t2],by simp only[wq.1,seval,t4],by simp only[wq.1,seval,t5],by simp only[wq.1,seval],by simp only[wq.1,Int.reduceNeg,hd],by simp only[wq.1,Int.reduceNeg,hk]⟩ ?_;clear t0 t2 t3 t4 t5 hd hk f;rintro f ⟨t0,t2,t4,t5,t8,hd,hk⟩;obtain⟨g,eg⟩:∃g:Ga,g=aZ ⟨s,(op:Nat),ns,[],ac⟩:=⟨_,rfl⟩;have hcan:=Ev.le (dm.cons (Es ⟨s,(op:Nat),ns,[],ac⟩ (VLe.refl _) dG) dm.nil) (Kq ⟨s,(op:Nat),ns,[],ac⟩);rw[<-eg]at hcan;have hok:∀h',PC {c with gates:=c.gates++[g]} e l4 h'->K3 h h'->R (.ret (.tup [])) h' x47:=λh' a b=>by
    rw[eg]at a;exact hok _ _ h' rfl a b
   have kp:=kc.p;have kg:=kc.g;have kn:=kc.addGa g;have hgl:=RD c.gates;refine ak ?_;refine vn ?_;simp only[wq.1,seval,t4];refine bH (b:=ab) (by simp only[wq.1,seval];try rfl) (by simp only[wq.1,seval];try trivial) (λ_=> ?_) (λh=>by cases h);refine ak (yZ mixed [0] [1,2,3,4,5,6,7,8,9,10,11] 12 (.one 12<| .take 13<| .take 14<| .take 15<| .one 16<| .fin) (λf' h'=>f'.d=[]/\(f'.k=λi=>i==7)/\h'=(((h4.map (O.drop λj=>j==7)).set 7 (am (c.gates.flatMap gaX++gaX g))).set 3 (p4 c l4 e (aa c.ins) (aa c.outs) (aa c.lat) (aa c.gates+1)))) (by rw[TEP];decide +kernel) ?_ ?_)
   ·simp only[wq.1,↓reduceIte,Nat.reduceEqDiff,Nat.reduceLT,Nat.reduceLeDiff,Nat.reduceAdd,Int.reduceNeg,reduceCtorEq,Nat.reduceMul,pU,yX,bJ,bT,List.filterMap_cons,List.filterMap_nil,t0,t2,t5,t8,kp];refine uh.mk hcan rfl (by simp only[aL,aE,ax,zre]) ?_;have s3:∀X:O,((h4.map (O.drop λx=>x==7)).set 7 X)[3]? =al (am [.ls 4 1 0 (aa c.ins) (aa c.ins),.ls 5 1 0 (aa c.outs) (aa c.outs),.ls 6 3 0 (aa c.lat) (aa c.lat),.any,sU l4,vi e]):=λX=>by
     rw[zqn (by decide),zqo,kp];rfl
    simp only[wq.1,↓reduceIte,Nat.reduceEqDiff,Nat.reduceLeDiff,Nat.reduceAdd,Int.reduceNeg,Nat.reduceBEq,hd,kg,hgl,kE,s3];refine⟨⟨rfl,by decide⟩,rfl,⟨rfl,by omega,by omega⟩,?_,rfl⟩
    funext i
    rw[hk];show(ac||i==7)=(i==7);exact Bool.false_or _
   ·rintro f' h' ⟨hd,hk,rfl⟩;show awp _ _ _ _ _ _ _;refine vm ?_;simp only[wq.1,hd,hk];rw[eP1];refine⟨λi _ hi=> ?_,hok _ kn (kk.add 7 (by decide) _ _)⟩;have:i=7:=by simpa using hi
    subst this;rfl
 |some lat =>
  rw[hlt]at hlatI;have hlatI:latI=(lat:Int):=hlatI;rw[hlatI]at t4;rw[hlt]at hpan hok;dsimp only at hpan hok;have hge:ar ((0:Int)<=(lat:Int))=ab:=by simp
  have hlt0:ar ((lat:Int)<0)=ac:=by simp
  refine vn ?_;simp only[wq.1,seval,t3,t4,t5,hBw,hge];refine gz _ _ _ (λ_=> ?_) (λhb=>by cases hb);simp only[wq.1];refine vn ?_;simp only[wq.1,seval,t0];refine xC k3.self r1 (λns l4 h4 hnm k4'=> ?_) (λx l4 h4 hnm k4'=> ?_)
  rotate_left
  ·have k4:=k3.trans k4';rw[hnm]at hpan;simp only[wq.1,fO,hd];simp only[XE.seq];refine cZ (R:=P1) (by simp only[wq.1,hd]) ?_;refine Eq.mp (congrArg (P1 _ _) ?_) (hpan _ _ _ rfl k4);simp only[wq.1,hk]
  rw[hnm]at hok hpan;dsimp only at hok hpan;have hB3:B<aa H3:=(zqe hBw).1;have k4:=k3.trans k4';have l7:=(zqe k.g).1;have hB4:h4[B]? =al (am [vi w.k,.str w.t,vi w.at']):=k4'.k B _ hB3 (by omega) hBw rfl;obtain⟨n1,n2,n3⟩:=Ag r1 hnm;have e1:(((aa ns:Nat):Int)==1)=ar (aa ns=1):=by rw[Bool.eq_iff_iff,beq_iff_eq,zqb];omega
  simp only[wq.1,seval];refine ak ?_;refine vn ?_;simp only[wq.1,seval,t4,hlt0];refine bH (b:=ac) (by simp only[wq.1,↓reduceIte];try rfl) (by simp only[wq.1,↓reduceIte];try trivial) (λh=>by cases h) (λ_=> ?_);refine vm ?_;simp only[wq.1];show awp _ _ _ _ _ _ _;refine vn ?_;simp only[wq.1,seval,t3,hB4,e1];refine gz _ _ _ (λhb=> ?_) (λhb=> ?_)
  rotate_left
  ·have hb:¬aa ns=1:=of_decide_eq_false hb;rw[if_neg hb]at hpan;simp only[wq.1,fO,hd];simp only[XE.seq];refine cZ (R:=P1) (by simp only[wq.1,hd]) ?_;refine Eq.mp (congrArg (P1 _ _) ?_) (hpan _ _ _ rfl k4);simp only[wq.1,hk]
  have hb:aa ns=1:=zqs hb;rw[if_pos hb]at hok;obtain⟨kc,kk⟩:=k.of k4;simp only[wq.1];refine fU (λf=>f.t 0= .lp 3 0/\f.t 2= .str s/\f.t 4=vi lat/\f.t 8=aJ ns/\f.d=[]/\f.k=(λ_=>ac)) ⟨by simp only[wq.1,seval,t0],by simp only[wq.1,seval,t2],by simp only[wq.1,seval,t4],by simp only[wq.1,seval],by simp only[wq.1,hd],by simp only[wq.1,hk]⟩ ?_;clear t0 t2 t3 t4 t5 hd hk f;rintro f ⟨t0,t2,t4,t8,hd,hk⟩;obtain⟨x,rfl⟩:∃x,ns=[x]:=by
   match ns,hb with
   |[x],_=>exact⟨x,rfl⟩
  obtain⟨q,eq⟩:∃q:La,q=⟨s,x,(lat:Nat)⟩:=⟨_,rfl⟩;have hok:∀h',PC {c with lat:=c.lat++[q]} e l4 h'->K3 h h'->R (.ret (.tup [])) h' x47:=λh' a b=>by rw[eq]at a;exact hok _ _ h' rfl a b
  have kp:=kc.p;have kg:=kc.a;have kn:=kc.addLa q;have hgl:=Vy c.lat;have g0:([x].map V.str).getD 0 .any= .str x:=rfl;refine awp_late4 mixed [0] [1,2,3,4,5,6,7,8,9,10,11,12] 13 (.one 13<| .take 14<| .take 15<| .take 16<| .one 17<| .fin) (λf' h'=>f'.d=[]/\(f'.k=λi=>i==6)/\h'=(((h4.map (O.drop λj=>j==6)).set 6 (am (c.lat.flatMap laX++laX q))).set 3 (p4 c l4 e (aa c.ins) (aa c.outs) (aa c.lat+1) (aa c.gates)))) (by rw[TEP];decide +kernel) ?_ ?_
  ·have s3:∀X:O,((h4.map (O.drop λx=>x==6)).set 6 X)[3]? =al (am [.ls 4 1 0 (aa c.ins) (aa c.ins),.ls 5 1 0 (aa c.outs) (aa c.outs),.any,.ls 7 5 0 (aa c.gates) (aa c.gates),sU l4,vi e]):=λX=>by rw[zqn (by decide),zqo,kp];rfl
   intro K hK;simp only[wq.1,↓reduceIte,Nat.reduceEqDiff,Nat.reduceLT,Nat.reduceLeDiff,Nat.reduceAdd,Nat.reduceSub,Int.reduceToNat,Nat.reduceDiv,Int.reduceLT,Int.reduceLE,Int.reduceNeg,Int.reduceBEq,Int.reduceBNe,Int.reduceAdd,Int.reduceSub,Nat.reduceBEq,reduceCtorEq,Nat.reduceMul,ay,Tryz.results69,pU,yX,List.filterMap_cons,List.filterMap_nil,bJ,bT,t0,t2,t4,t8,hd,kp,g0];refine⟨by decide,⟨rfl,by decide⟩,hK _ _ ?_⟩;simp only[wq.1,↓reduceIte,Nat.reduceEqDiff,Nat.reduceLT,Nat.reduceLeDiff,Nat.reduceAdd,Nat.reduceBEq,hd,kg,hgl,Cj,s3];refine⟨rfl,⟨rfl,by omega,by omega⟩,?_,by rw[eq];rfl⟩
   funext i
   rw[hk];show(ac||i==6)=(i==6);exact Bool.false_or _
  ·rintro f' h' ⟨hd,hk,rfl⟩;show Bj P [] P1 XE.normal f' _;simp only[wq.1,hd,hk];rw[eP1];refine⟨λi _ hi=> ?_,hok _ kn (kk.add 6 (by decide) _ _)⟩;have:i=6:=by simpa using hi
   subst this;rfl
theorem PC.app{c:Ci}{e:Nat}{l:List Tk}{h:H}(k:PC c e l h)(X:H):PC c e l (h++X):=by
 have old:∀ {j:Nat} {y:O},h[j]? =al y->(h++X)[j]? =al y:=λhy=>by rw[zqj (zqe hy).1];exact hy
 exact⟨old k.p,old k.i,old k.u,old k.a,old k.g⟩
theorem K3.app(h X:H):K3 h (h++X):=λj cs hj hc _=>by rw[zqj (zqe hc).1];exact hc
def ciB(c:Ci)(n:Nat):Prop:=aa c.ins+aa c.outs+aa c.lat+aa c.gates<=n
def Ai(r:List Tk):Bool:=(qp 61 r).1
theorem NL[MO]{c:Ci}{e:Nat}{t:Tk}{r:List Tk}{h:H}(k:PC c e (t::r) h)(hl:tY (t::r))(hc:ciB c 1000000){R:AEnd->H->(Nat->Bool)->Prop}
 (hok:∀c' l' h',Jj e c (t::r)= .ok (c',l')->PC c' e l' h'->K3 h h'->R (.ret (.tup [])) h' x47) (hbad:∀x h',Jj e c (t::r)= .error x->K3 h h'->R (.pan (wQ x.1 x.2)) h' x47):ag TE 30 [.lp 3 0] h R:=by
 have hM:=mLx;unfold ciB at hc;obtain⟨B,hB⟩:∃B,B=aa h:=⟨_,rfl⟩;have hgE:∀x:O,(h++[x])[B]? =al x:=λx=>by rw[hB];simp
 have hgS:∀x y:O,(h++[x]).set B y=h++[y]:=λx y=>by rw[hB];simp
 have hk0:∀x:O,(h++[x])[3]? =al (am [.ls 4 1 0 (aa c.ins) (aa c.ins),.ls 5 1 0 (aa c.outs) (aa c.outs),.ls 6 3 0 (aa c.lat) (aa c.lat),.ls 7 5 0 (aa c.gates) (aa c.gates),sU (t::r),vi e]):=λx=>(k.app [x]).p;have kp:=k.p;have g0:((t::r).map Tk.v).getD 0 .any=t.v:=rfl;have e0:((t.k:Int)==0)=ar (t.k=0):=by rw[Bool.eq_iff_iff,beq_iff_eq,zqb];omega
 refine tN ?_;obtain⟨P1,eP1⟩:∃P1:AEnd->H->(Nat->Bool)->Prop,P1=λae h' p=>(∀i,i<aa h->p i=ab->x47 i=ab)/\R ae h' x47:=⟨_,rfl⟩;rw[<-eP1];refine aj Tryz.func30 rfl (by simp[nts]) ?_;refine vn ?_;simp only[wq.1,seval,Tryz.results30,<-hB,kp,hgE,hgS];refine⟨by omega,?_⟩;have k1:=k.app [am [vi t.k,.str t.t,vi t.at']];have hB1:=hgE (am [vi t.k,.str t.t,vi t.at']);have kk1:=K3.app h [am [vi t.k,.str t.t,vi t.at']];obtain⟨h1,eh1⟩:∃h1,h1=h++[am [vi t.k,.str t.t,vi t.at']]:=⟨_,rfl⟩;rw[<-eh1]at k1 hB1 kk1 ⊢;have kp1:=k1.p;refine ak (bf (Q:=λxe f h=>xe= .normal/\f.t 0= .lp 3 0/\f.t 2= .lp B 0/\f.t 3= .bool (Ai r)/\f.d=[]/\f.k=(λ_=>ac)/\h=h1) ?_ ?_)
 rotate_left
 ·cases r with
  |nil=>have hl0:ar ((1:Int)<((1:Nat):Int))=ac:=rfl;have hn:Ai []=ac:=rfl;rw[hn];refine vm ?_;have gn:([]:List V).getD 0 V.any= .any:=rfl;have na:V.any.nil? =aq:=rfl;simp only[wq.1,seval,kp1,hl0,gn,na]
  |cons u r =>
   have e1:((u.k:Int)==1)=(u.k==1):=by rw[Bool.eq_iff_iff,beq_iff_eq,beq_iff_eq];omega
   have g1:((t::u::r).map Tk.v).getD 1 .any=u.v:=rfl;have hn:Ai (u::r)=(u.k==1&&u.t==[61]):=by
    cases hb:isM 61 u with
    |true=>rw[show Ai (u::r)=(qp 61 (u::r)).1 from rfl,show qp 61 (u::r)=(ab,r)from if_pos hb];exact hb.symm
    |false=>rw[show Ai (u::r)=(qp 61 (u::r)).1 from rfl,show qp 61 (u::r)=(ac,u::r)from if_neg (by rw[hb];decide)];exact hb.symm
   rw[hn];have hlt:ar ((1:Int)<((aa r+1+1:Nat):Int))=ab:=by rw[zqb];omega
   have hlt2:ar ((1:Int)<((aa r+2:Nat):Int))=ab:=hlt;cases hk1:(u.k==1)with
   |false=>refine vm ?_;simp only[wq.1,seval,kp1,e1,hk1,hlt];omega
   |true=>refine vm ?_;simp only[wq.1,seval,kp1,e1,hk1,hlt];omega
 rintro xe f h' ⟨rfl,t0,t2,t3,hd,hk,hH⟩;rw[hH];clear hH h';show awp _ _ _ _ _ _ _;have hbi:∀w:S,ar (t.t=w)=(t.t==w):=λw=>by rw[Bool.eq_iff_iff,zqb,beq_iff_eq]
 have hst:=qB e c t r;have hB0:=hB1
 -- a gate
 obtain⟨b,hb⟩:∃b,b=(ar (t.k=0)&&(t.t==jc||t.t==fE)&& !Ai r):=⟨_,rfl⟩;refine ak ?_;refine ak (bf (Q:=λxe f h=>xe= .normal/\f.t 0= .lp 3 0/\f.t 2= .lp B 0/\f.t 52= .bool b/\f.d=[]/\f.k=(λ_=>ac)/\h=h1) ?_ ?_)
 rotate_left
 ·cases hk0:ar (t.k=0)with
  |false=>rw[hk0]at hb;have hb:b=ac:=hb;subst hb;refine vm ?_;simp only[wq.1,seval,t0,t2,t3,hd,hk,hB1,e0,hk0]
  |true=>rw[hk0]at hb;obtain⟨bi,ebi⟩:∃bi,bi=(t.t==jc):=⟨_,rfl⟩;obtain⟨bo,ebo⟩:∃bo,bo=(t.t==fE):=⟨_,rfl⟩;obtain⟨nm,enm⟩:∃nm,nm=Ai r:=⟨_,rfl⟩;rw[<-ebi,<-ebo,<-enm]at hb;rw[<-enm]at t3;have ebi':(t.t==[73,78,80,85,84])=bi:=ebi.symm;have ebo':(t.t==[79,85,84,80,85,84])=bo:=ebo.symm;clear ebi ebo enm hbi hst;cases bi<;>cases bo<;>cases nm<;>(subst hb;refine fU (λf'=>f'=f) rfl ?_;rintro _ rfl)<;>(refine vm ?_)<;>simp only[wq.1,seval,t0,t2,t3,hd,hk,hB1,e0,hk0,ebi',ebo']
 rintro xe f' h' ⟨rfl,t0,t2,t52,hd,hk,hH⟩;rw[hH];clear hH h';have hbd:b=ab↔(t.k=0/\(t.t=jc\/t.t=fE)/\(qp 61 r).1=ac):=by
  rw[hb];show(ar (t.k=0)&&(t.t==jc||t.t==fE)&& !(qp 61 r).1)=ab↔_;simp only[zqf,Bool.or_eq_true,zqb,beq_iff_eq,Bool.not_eq_true',and_assoc]
 refine bH (b:=b) (by simp only[wq.1,t52]) (by simp only[wq.1,t52]) (λhbt=> ?_) (λhbf=> ?_)
 ·have hbb:=hbd.1 hbt;rw[if_pos hbb]at hst;rw[hst]at hok hbad;have hw:(t.t==jc)= !(t.t==fE):=by rcases hbb.2.1 with h1|h1<;>rw[h1]<;>decide
  refine vn ?_;simp only[wq.1,seval,t0,t2,hB1];refine NJ k1 hl (by omega) (by omega) t.t (t.t==fE) hw (λc' l' h' hp k' kk'=> ?_) (λx h' hp kk'=> ?_)
  ·simp only[wq.1,bC,hd];refine vm ?_;simp only[wq.1,hd,hk];rw[eP1];exact⟨λi _ hi=>hi,hok _ _ _ hp k' (kk1.trans kk')⟩
  ·simp only[wq.1,fO,hd];simp only[XE.seq];refine cZ (R:=P1) (by simp only[wq.1,hd]) ?_;rw[eP1];refine⟨λi _ hi=> ?_,hbad _ _ hp (kk1.trans kk')⟩;have hi:(f'.k i||x47 i)=ab:=hi;rw[hk]at hi;exact hi
 ·have hbb:¬(t.k=0/\(t.t=jc\/t.t=fE)/\(qp 61 r).1=ac):=λh=>by rw[hbd.2 h]at hbf;cases hbf
  rw[if_neg hbb]at hst;rw[hst]at hok hbad;refine vm ?_;simp only[wq.1];show awp _ _ _ _ _ _ _;refine vm ?_;simp only[wq.1,seval,t0];refine NK k1 hl (by omega) (by omega) (λc' l' h' hp k' kk'=> ?_) (λx h' hp kk'=> ?_)
  ·simp only[wq.1,bC,hd];rw[eP1];refine⟨λi _ hi=> ?_,hok _ _ _ hp k' (kk1.trans kk')⟩;have hi:(f'.k i||x47 i)=ab:=hi;rw[hk]at hi;exact hi
  ·simp only[wq.1,fO,hd];rw[eP1];refine⟨λi _ hi=> ?_,hbad _ _ hp (kk1.trans kk')⟩;have hi:(f'.k i||x47 i)=ab:=hi;rw[hk]at hi;exact hi
theorem H5[MO]{h:H}{K:H->(Nat->Bool)->Prop}(hK:∀X,K (h++[X]) (λ_=>ac)):jM TE 26 [.lp 0 0,.lp 1 0,.lp 2 0] h K:=by
 have hgE:∀x:O,(h++[x])[aa h]? =al x:=λx=>by simp
 have hgS:∀x y:O,(h++[x]).set (aa h) y=h++[y]:=λx y=>by simp
 refine mP rfl Tryz.func26 rfl rfl (by simp[nts]) rfl (λev w=>rfl) rfl (by decide) ?_;simp only[nts];refine dM rfl rfl ?_;refine kS (x:= .tmp 6) (t:=58) (q:=⟨.struct [(0,3),(1,28)],2,16,.agg [vi 0,vi 0]⟩) rfl (by simp only[wq.1]) (by simp only[wq.1,↓reduceIte]) (by simp only[wq.1,↓reduceIte]) ?_;refine az rfl rfl ?_;simp only[wq.1,↓reduceIte];refine az rfl rfl ?_;simp only[wq.1,seval];refine az rfl rfl ?_;simp only[wq.1,seval];refine az rfl rfl ?_;simp only[wq.1];refine az rfl rfl ?_;simp only[wq.1,seval,hgE,hgS];refine az rfl rfl ?_;simp only[wq.1,seval];refine dL ?_;show awp _ _ _ _ _ _ _;refine vm ?_;simp only[wq.1,seval];exact hK _
theorem H6[MO]{s:S}{h:H}{d1 d2 d3 d4 d5 d6 d7:V}{K:H->(Nat->Bool)->Prop}(a:Nat)(e:Int)(hs:aa s<=1000000000)(g0:h[0]? =al (am [.str s]))(g1:h[1]? =al (am [d1,d2,d3,d4]))(g2:h[2]? =al (am [d5,d6,d7]))
 (hK:∀X,K ((h.set 1 (am [.nils,.nils,.nils,.nils])).set 2 (am (lH s a e).vc)++[X]) (λ_=>ac)) :
 jL TE 26 [.lp 0 0,.lp 1 0,.lp 2 0] (wQ a e) h K:=by
 have hgE:∀x:O,(h++[x])[aa h]? =al x:=λx=>by simp
 have hgS:∀x y:O,(h++[x]).set (aa h) y=h++[y]:=λx y=>by simp
 have l0:=(zqe g0).1;have l1:=(zqe g1).1;have l2:=(zqe g2).1;have k0:∀x:O,(h++[x])[0]? =al (am [.str s]):=λx=>by rw[zqj l0];exact g0
 have k1:∀x:O,(h++[x])[1]? =al (am [d1,d2,d3,d4]):=λx=>by rw[zqj l1];exact g1
 have k2:∀x y:O,((h++[x]).set 1 y)[2]? =al (am [d5,d6,d7]):=λx y=>by rw[zqn (by decide),zqj l2];exact g2
 have hss:∀x y z:O,((h++[x]).set 1 y).set 2 z=(h.set 1 y).set 2 z++[x]:=λx y z=>by rw[List.set_append_left _ _ l1,List.set_append_left _ _ (by rw[zrn];exact l2)]
 refine mG rfl Tryz.func26 rfl rfl (by simp[nts]) rfl (λev w=>rfl) rfl (by decide) ?_;simp only[nts];refine az rfl rfl ?_;simp only[wq.1,↓reduceIte];refine⟨by decide,?_⟩;refine az rfl rfl ?_;simp only[wq.1,↓reduceIte];refine az rfl rfl ?_;simp only[wq.1,seval];refine az rfl rfl ?_;simp only[wq.1,seval];refine az rfl rfl ?_;simp only[wq.1];refine az rfl rfl ?_;simp only[wq.1,seval,hgE,hgS];refine az rfl rfl ?_;simp only[wq.1,seval];refine dL ?_;show awp _ _ _ _ _ _ _;have hf:∃x y z,lH s a e= .agg [vi x,vi y,vi z]:=by unfold lH;split<;>exact⟨_,_,_,rfl⟩
 obtain⟨x,y,z,hf⟩:=hf;rw[hf]at hK;have hsf:=VA s a e hs;rw[hf]at hsf;refine vn ?_;simp only[wq.1,seval];refine vm ?_;simp only[wq.1,seval,hgE,k0];refine ag.ev hsf rfl ?_;simp only[wq.1,seval,k1,k2,hss];exact hK _
theorem VB{e:Nat}{c c':Ci}{out:Bool}{l l':List Tk}{n:Nat}(h:tY l)(hc:ciB c n)(hm:A7 e c out l= .ok (c',l')):tY l'/\aa l'<=aa l/\ciB c' (n+1):=by
 unfold A7 at hm;cases h1:qx e 40 l with
 |error x=>rw[h1]at hm;cases hm
 |ok l1 =>
  rw[h1]at hm;dsimp only at hm;obtain⟨a1,a2⟩:=l9 h h1;cases h2:tH e l1 with
  |error x=>rw[h2]at hm;cases hm
  |ok p =>
   obtain⟨s,l2⟩:=p;rw[h2]at hm;dsimp only at hm;obtain⟨b1,b2⟩:=mf a1 h2;cases h3:qx e 41 l2 with
   |error x=>rw[h3]at hm;cases hm
   |ok l3=>rw[h3]at hm;dsimp only at hm;obtain⟨d1,d2⟩:=l9 b1 h3;injection hm with hm;injection hm with e1 e2;subst e2;refine⟨d1,by omega,?_⟩;rw[<-e1];unfold ciB at hc ⊢;split<;>simp only[zqa,zrk]<;>omega
theorem VC{e:Nat}{c c':Ci}{l l':List Tk}{n:Nat}(h:tY l)(hc:ciB c n)(hm:AZ e c l= .ok (c',l')):tY l'/\aa l'<aa l/\ciB c' (n+1):=by
 unfold AZ at hm;cases h1:tH e l with
 |error x=>rw[h1]at hm;cases hm
 |ok p =>
  obtain⟨s,l1⟩:=p;rw[h1]at hm;dsimp only at hm;obtain⟨a1,a2⟩:=mf h h1;cases h2:qx e 61 l1 with
  |error x=>rw[h2]at hm;cases hm
  |ok l2 =>
   rw[h2]at hm;dsimp only at hm;obtain⟨b1,b2⟩:=l9 a1 h2;cases h3:xR e l2 with
   |error x=>rw[h3]at hm;cases hm
   |ok p =>
    obtain⟨w,l3⟩:=p;rw[h3]at hm;dsimp only at hm;obtain⟨d1,d2,_,_⟩:=vC b1 h3;unfold ciB at hc ⊢;cases h4:bW.findIdx? (·==w.t)with
    |none =>
     cases h5:opW w.t with
     |none=>rw[h4,h5]at hm;cases hm
     |some op =>
      rw[h4,h5]at hm;dsimp only at hm;cases h6:oW e l3 with
      |error x=>rw[h6]at hm;cases hm
      |ok p=>obtain⟨ns,l4⟩:=p;rw[h6]at hm;dsimp only at hm;obtain⟨f1,f2,_⟩:=Ag d1 h6;injection hm with hm;injection hm with e1 e2;subst e2;refine⟨f1,by omega,?_⟩;rw[<-e1];simp only[zqa,zrk];omega
    |some k =>
     rw[h4]at hm;dsimp only at hm;cases h6:oW e l3 with
     |error x=>rw[h6]at hm;cases hm
     |ok p =>
      obtain⟨ns,l4⟩:=p;rw[h6]at hm;dsimp only at hm;obtain⟨f1,f2,_⟩:=Ag d1 h6;split at hm
      ·injection hm with hm;injection hm with e1 e2;subst e2;refine⟨f1,by omega,?_⟩;rw[<-e1];simp only[zqa,zrk];omega
      ·cases hm
theorem VD{e:Nat}{c c':Ci}{t:Tk}{r l':List Tk}{n:Nat}(h:tY (t::r))(hc:ciB c n)(hm:Jj e c (t::r)= .ok (c',l')):tY l'/\aa l'<aa (t::r)/\ciB c' (n+1):=by
 rw[qB]at hm;split at hm
 ·obtain⟨a,b,d⟩:=VB h.tail hc hm;exact⟨a,by simp only[zrt];omega,d⟩
 ·exact VC h hc hm
theorem WA:∀(n p:Nat)(s:S),∀t∈(tkN n p s).1,aa t.t<=aa s
 |0,p,s,t,h=>by simp[tkN]at h
 |n+1,p,[],t,h=>by simp[tkN]at h
 |n+1,p,c::r,t,h=>by
  have hdw:∀q:UInt8->Bool,aa ((c::r).dropWhile q)<=aa (c::r):=λq=>(List.dropWhile_sublist _).length_le;have ih:=λp s=>WA n p s t;rw[tkN]at h;split at h
  ·exact Nat.le_trans (ih _ _ h) (hdw _)
  ·split at h
   ·exact Nat.le_trans (ih _ _ h) (by simp)
   ·split at h
    ·rcases zrj.1 h with rfl|h
     ·simp
     ·exact Nat.le_trans (ih _ _ h) (by simp)
    ·split at h
     ·rcases zrj.1 h with rfl|h
      ·exact(List.takeWhile_sublist _).length_le
      ·exact Nat.le_trans (ih _ _ h) (hdw _)
     ·simp at h
theorem NM{e F:Nat}{c:Ci}{t:Tk}{r:List Tk}:uV e (F+1) c (t::r)=match Jj e c (t::r)with
 | .error x=> .error x
 | .ok (c',l')=>uV e F c' l':=rfl
theorem NP{f:List Tk->S->Nat}{s:S}{L:List Tk}{a:Nat}(h:tkN (aa s) 0 s=(L,al a)):o6 f s= .error (a,2):=by unfold o6;rw[h]
theorem Jt{f:List Tk->S->Nat}{s:S}{L:List Tk}(h:tkN (aa s) 0 s=(L,aq)):o6 f s=match uV (aa s) (aa L) ⟨[],[],[],[]⟩ L with
 | .error x=> .error x
 | .ok c=>if(kW c).1=0 then .ok c else .error (if(kW c).2=[]then 0 else f L (kW c).2,(kW c).1):=by unfold o6;rw[h];rfl
def oM(s:S):V:=match o6 o7 s with
 | .ok c=> .tup [c.v,.agg [vi 0,vi 0,vi 0]]
 | .error x=> .tup [(⟨[],[],[],[]⟩:Ci).v,lH s x.1 x.2]
abbrev ciN:O:=am [.nils,.nils,.nils,.nils]
abbrev faN:O:=am [vi 0,vi 0,vi 0]
structure H3(s:S)(h:H):Prop where
 a:h[0]? =al (am [.str s])
 b:h[1]? =al ciN
 c:h[2]? =al faN
theorem H3.k{s:S}{h h':H}(k:H3 s h)(hk:K3 h h'):H3 s h':=⟨hk 0 _ (by decide) k.a rfl,hk 1 _ (by decide) k.b rfl,hk 2 _ (by decide) k.c rfl⟩
theorem WB{j:Nat}(hj:j<4):x47 j=ac:=by
 have:j=0\/j=1\/j=2\/j=3:=by omega
 rcases this with rfl|rfl|rfl|rfl<;>rfl
theorem vF[MO](s:S)(hs:aa s<=900000):Ev TE 9 [.str s] (oM s):=by
 have hM:=mLx;refine kN ?_;refine mJ rfl Tryz.func9 rfl (by simp[nts]) λok pl0 w0=> ?_;simp only[nts];refine Du (Q:=λ_ _ _=>False) ?_ (λ_ _ _ h=>by obtain⟨_,_,_,_,_,_,h⟩:=h;exact h.elim);refine vm ?_;simp only[wq.1,seval];refine sK rfl (fn:=Tryz.f9) (q:=26) (caps:=[.lp 0 0,.lp 1 0,.lp 2 0]) (fx:= .tmp 9) rfl rfl (by simp only[wq.1,seval]) rfl rfl rfl rfl (by simp only[wq.1,seval]) (by simp only[wq.1,seval]) (by simp only[wq.1]) rfl λdd=> ?_;simp only[nts];obtain⟨ee,hee⟩:∃ee:E,ee={TE with tl:=[dd]}:=⟨_,rfl⟩;have hP:ee.P=P:=by rw[hee];rfl
 have hmix:ee.P.follows .mixedOrders=ab:=by rw[hP];exact mixed
 have hT:∀ {g:FuncId} {args:List V} {h:H} {R:AEnd->H->(Nat->Bool)->Prop},ag TE g args h R->ag ee g args h R:=λhc=>by rw[hee];exact hc.tl _
 rw[<-hee];obtain⟨QP,eQP⟩:∃QP:XE->Fr->H->Prop,QP=λxe f' h'=>f'.d=[]/\ap f'.k [V.lp 0 0,V.lp 1 0,V.lp 2 0]=[V.lp 0 0,V.lp 1 0,V.lp 2 0]/\(match xe with
  | .pan v=>jL TE 26 [V.lp 0 0,V.lp 1 0,V.lp 2 0] v h' λh'' p=>su TE.P Tryz.f9.results.toList (λv h k=>aC TE h v (oM s)) (f'.drop p) h''
  | .ret=>jM TE 26 [V.lp 0 0,V.lp 1 0,V.lp 2 0] h' λh'' p=>su TE.P Tryz.f9.results.toList (λv h k=>aC TE h v (oM s)) (f'.drop p) h''
  |_=>False):=⟨_,rfl⟩
 refine bf (Q:=QP) (λxe f' h' hq=>by rw[eQP]at hq;exact hq) ?_;have hkd:∀ {k:Nat->Bool},(∀j,j<3->k j=ac)->ap k [V.lp 0 0,V.lp 1 0,V.lp 2 0]=[V.lp 0 0,V.lp 1 0,V.lp 2 0]:=λ{k} h=>by
  have z0:=h 0 (by decide);have z1:=h 1 (by decide);have z2:=h 2 (by decide);simp only[ap,V.drop,z0,z1,z2,if_false,zrm]
 have hpan:∀ {x:Nat×Int} {f':Fr} {h:H},o6 o7 s= .error x->f'.d=[]->(∀j,j<3->f'.k j=ac)->f'.t 2= .lp 1 0->f'.t 3= .lp 2 0->H3 s h->QP (.pan (wQ x.1 x.2)) f' h:=by
  intro x f' h2 hp hd hk t2 t3 h3;rw[eQP];refine⟨hd,hkd hk,?_⟩;obtain⟨e0,e1,e2⟩:=h3;refine H6 x.1 x.2 (by omega) e0 e1 e2 λX=> ?_;have l1:=(zqe e1).1;have l2:=(zqe e2).1;have r1:((h2.set 1 (am [.nils,.nils,.nils,.nils])).set 2 (am (lH s x.1 x.2).vc)++[X])[1]? =al ciN:=by
   rw[zqj (by simp;omega),zqn (by decide),zqt l1]
  have r2:((h2.set 1 (am [.nils,.nils,.nils,.nils])).set 2 (am (lH s x.1 x.2).vc)++[X])[2]? =al (am (lH s x.1 x.2).vc):=by rw[zqj (by simp;omega),zqt (by simp;omega)]
  generalize (h2.set 1 (am [.nils,.nils,.nils,.nils])).set 2 (am (lH s x.1 x.2).vc)++[X]=h3 at r1 r2 ⊢;have hv:oM s= .tup [(⟨[],[],[],[]⟩:Ci).v,lH s x.1 x.2]:=by unfold oM;rw[hp]
  have hf:∃a b c,lH s x.1 x.2= .agg [vi a,vi b,vi c]:=by unfold lH;split<;>exact⟨_,_,_,rfl⟩
  obtain⟨a,b,c,hf⟩:=hf;rw[hv];rw[hf]at r2 ⊢;simp only[Tryz.results9,nts];simp only[wq.1,seval,hd,t2,t3,r1,r2];exact aC.tup (au.cons (aC.agg (au.cons aC.nils (au.cons aC.nils (au.cons aC.nils (au.cons aC.nils au.nil))))) (au.cons (aC.dat rfl) au.nil))
 have hret:∀ {c:Ci} {l:List Tk} {f':Fr} {h:H},o6 o7 s= .ok c->f'.d=[]->(∀j,j<3->f'.k j=ac)->f'.t 2= .lp 1 0->f'.t 3= .lp 2 0->h[1]? =al (am [.ls 4 1 0 (aa c.ins) (aa c.ins),.ls 5 1 0 (aa c.outs) (aa c.outs),.ls 6 3 0 (aa c.lat) (aa c.lat),.ls 7 5 0 (aa c.gates) (aa c.gates)])->h[2]? =al faN->PC c (aa s) l h->QP .ret f' h:=by
  intro c l f' h hp hd hk t2 t3 g1 g2 kc;rw[eQP];refine⟨hd,hkd hk,?_⟩;refine H5 λX=> ?_;have old:∀ {j:Nat} {x:O},h[j]? =al x->(h++[X])[j]? =al x:=λ{j x} hx=>by
   have:=(zqe hx).1;rw[zqj (by omega)];exact hx
  have r1:=old g1;have r2:=old g2;have r4:=old kc.i;have r5:=old kc.u;have r6:=old kc.a;have r7:=old kc.g;generalize h++[X]=h3 at r1 r2 r4 r5 r6 r7 ⊢;have hv:oM s= .tup [c.v,.agg [vi 0,vi 0,vi 0]]:=by unfold oM;rw[hp]
  rw[hv];simp only[Tryz.results9,nts];simp only[wq.1,seval,hd,t2,t3,r1,r2];exact aC.tup (au.cons (aC.agg (au.cons (aX r4 rfl) (au.cons (aX r5 rfl) (au.cons (zo r6 rfl) (au.cons (zq r7 rfl) au.nil))))) (au.cons (aC.dat rfl) au.nil))
 have hbn:=Vx s (by omega);obtain⟨L,hLo⟩:∃L,tkN (aa s) 0 s=L:=⟨_,rfl⟩;obtain⟨L,o⟩:=L;have hLl:=Sl (aa s) 0 s;have hLt:=WA (aa s) 0 s;unfold Sr at hbn;rw[hLo]at hbn hLl hLt;dsimp only at hLl hLt;refine ak (bU hmix _ _ _ _ ?_);simp only[wq.1,seval,hP];cases o with
 |some a=>dsimp only at hbn;have hpn:=NP (f:=o7) hLo;refine hT (ag.ev hbn rfl ?_);simp only[wq.1,seval,hP];refine ak (bU hmix _ _ _ _ ?_);simp only[wq.1,seval,hP];refine hT (gz _ _ _ (λhb=>by cases hb) (λ_=> ?_));simp only[wq.1,fO];simp only[XE.seq];exact hpan (x:=(a,2)) hpn (by simp only[wq.1]) (λj hj=>by simp only[wq.1]) (by simp only[wq.1,seval]) (by simp only[wq.1,seval]) ⟨rfl,rfl,rfl⟩
 |none =>
  dsimp only at hbn;have hpn:=Jt (f:=o7) hLo;refine hT (ag.ev hbn rfl ?_);simp only[wq.1,seval,hP];refine ak (bU hmix _ _ _ _ ?_);simp only[wq.1,seval,hP];refine hT (gz _ _ _ (λ_=> ?_) (λhb=>by cases hb));simp only[wq.1];refine ak (bU hmix _ _ _ _ ?_);simp only[wq.1,seval,hP];refine gI (gI (gI (gI ?_)));have hTk:tY L:=⟨by omega,λt ht=>Nat.le_trans (hLt t ht) (by omega)⟩;obtain⟨hA,ehA⟩:∃hA:H,hA=[am [.str s],ciN,faN,am [.ls 4 1 0 0 0,.ls 5 1 0 0 0,.ls 6 3 0 0 0,.ls 7 5 0 0 0,sU L,vi (aa s)],am [],am [],am [],am []]:=⟨_,rfl⟩;have hpc:PC ⟨[],[],[],[]⟩ (aa s) L hA:=by rw[ehA];exact⟨rfl,rfl,rfl,rfl,rfl⟩
  have hh3:H3 s hA:=by rw[ehA];exact⟨rfl,rfl,rfl⟩
  refine mF (h':=hA) (by rw[ehA];exact HLe.set (i:=3) (o':=am [.ls 4 1 0 0 0,.ls 5 1 0 0 0,.ls 6 3 0 0 0,.ls 7 5 0 0 0,sU L,vi (aa s)]) rfl (OLe.cells (zrb _) (dm.cons dV (dm.cons dV (dm.cons dV (dm.cons dV (dm.refl _))))))) ?_;clear ehA;obtain⟨Z,eZ⟩:∃Z,Z=uV (aa s) (aa L) ⟨[],[],[],[]⟩ L:=⟨_,rfl⟩;rw[<-eZ]at hpn;refine ak ?_;refine aB ?_;refine aF (λm f h=>∃c' l' F,m=aa l'/\aa l'<=F/\aa l'<=aa L/\uV (aa s) F c' l'=Z/\tY l'/\ciB c' (aa L-aa l')/\PC c' (aa s) l' h/\H3 s h/\f.t 1= .lp 0 0/\f.t 2= .lp 1 0/\f.t 3= .lp 2 0/\f.t 4=sU L/\f.t 7= .lp 3 0/\f.d=[]/\(∀j,j<4->f.k j=ac)) (aa L) ⟨⟨[],[],[],[]⟩,L,aa L,rfl,zrb _,zrb _,eZ.symm,hTk,by simp[ciB],hpc,hh3,by simp only[wq.1,seval],by simp only[wq.1,seval],by simp only[wq.1,seval],by simp only[wq.1,seval],by simp only[wq.1,↓reduceIte],by simp only[wq.1],λj hj=>by simp only[wq.1]⟩ ?_;clear hpc hh3 hA;rintro m f h ⟨c,l,F,hm,hF,hlL,hZ,hl,hci,k,k3,t1,t2,t3,t4,t7,hd,hk⟩;have kp:=k.p;refine ak (ak (bU hmix _ _ _ _ ?_));simp only[wq.1,seval,hP,t7,kp];cases l with
  |nil =>
   have e0:ar ((0:Int)<((0:Nat):Int))=ac:=rfl;have hZc:Z= .ok c:=by rw[<-hZ];cases F<;>rfl
   rw[hZc]at hpn;dsimp only at hpn;refine bU hmix _ _ _ _ ?_;simp only[wq.1,↓reduceIte,e0];show awp _ _ _ _ _ _ _;have hsm:Sum c:=by
    unfold ciB at hci;show aa c.ins+aa c.lat+aa c.gates<=_;omega
   have ki:=k.i;have ku:=k.u;have ka:=k.a;have kg:=k.g;refine ak (bU hmix _ _ _ _ ?_);simp only[wq.1,seval,hP,t7,kp];refine hT (ag.lend (zH c hsm) (au.cons (aC.agg (au.cons (aX ki rfl) (au.cons (aX ku rfl) (au.cons (zo ka rfl) (au.cons (zq kg rfl) au.nil))))) au.nil) rfl ?_);simp only[wq.1,seval,hP];obtain⟨oc,hoc⟩:∃oc,oc=kW c:=⟨_,rfl⟩;rw[<-hoc]at hpn ⊢;refine fU (λf=>f.t 2= .lp 1 0/\f.t 3= .lp 2 0/\f.t 4=sU L/\f.t 6=vi oc.1/\f.t 7= .lp 3 0/\f.t 8= .str oc.2/\f.d=[]/\(∀j,j<4->f.k j=ac)) ⟨by simp only[wq.1,seval,t2],by simp only[wq.1,seval,t3],by simp only[wq.1,seval,t4],by simp only[wq.1,seval],by simp only[wq.1,seval,t7],by simp only[wq.1,↓reduceIte],by simp only[wq.1,hd],λj hj=>by simp only[wq.1,hk j hj]⟩ ?_;clear t1 t2 t3 t4 t7 hd hk f;rintro f ⟨t2,t3,t4,t6,t7,t8,hd,hk⟩;obtain⟨at',hat⟩:∃at':Nat,at'=if oc.2=[]then 0 else o7 L oc.2:=⟨_,rfl⟩
   rw[<-hat]at hpn;refine ak (bU hmix _ _ _ _ ?_);simp only[wq.1,Nat.reduceLT,hP];refine ak (bf (Q:=λxe f h'=>xe= .normal/\h'=h/\f.t 2= .lp 1 0/\f.t 3= .lp 2 0/\f.t 5=vi at'/\f.t 6=vi oc.1/\f.t 7= .lp 3 0/\f.d=[]/\(∀j,j<4->f.k j=ac)) ?_ ?_)
   rotate_left
   ·by_cases ho:oc.2=[]
    ·rw[if_pos ho]at hat;have e0:(!(oc.2==[]))=ac:=by rw[ho];rfl
     refine ak (bU hmix _ _ _ _ ?_);simp only[wq.1,seval,hP,t8,e0];refine bU hmix _ _ _ _ ?_;simp only[wq.1,seval];refine⟨by simp only[wq.1,t2],by simp only[wq.1,t3],by simp only[wq.1,hat];try rfl,by simp only[wq.1,t6],by simp only[wq.1,t7],by simp only[wq.1,hd],λj hj=>by simp only[wq.1,hk j hj]⟩
    ·rw[if_neg ho]at hat;have e0:(!(oc.2==[]))=ab:=by simpa using ho
     refine ak (bU hmix _ _ _ _ ?_);simp only[wq.1,seval,hP,t8,e0];refine bU hmix _ _ _ _ ?_;simp only[wq.1,seval,hP,t4,t8];refine hT (ag.ev (Vu L oc.2 (λx hx=>hTk.2 x hx)) (by simp only[aL,aE,IX,zre]) ?_);simp only[wq.1,seval,hP,hd];refine⟨by simp only[wq.1,t2],by simp only[wq.1,t3],by simp only[wq.1,hat];try rfl,by simp only[wq.1,t6],by simp only[wq.1,t7],λj hj=>by simp only[wq.1,hk j hj]⟩
   clear t2 t3 t4 t6 t7 t8 hd hk f;rintro xe f h' ⟨rfl,rfl,t2,t3,t5,t6,t7,hd,hk⟩;show awp _ _ _ _ _ _ _;refine ak (bU hmix _ _ _ _ ?_);simp only[wq.1,seval,hP,t5,t6];refine hT (gz (oc.1==0) at' oc.1 (λho=> ?_) (λho=> ?_))
   ·have ho:oc.1=0:=by simpa using ho
    rw[if_pos ho]at hpn;simp only[wq.1];have kb:=k3.b;have kc:=k3.c;have l1:=(zqe kb).1;have l2:=(zqe kc).1;refine ak (bU hmix _ _ _ _ ?_);have k2:∀x:O,(h'.set 1 x)[2]? =al faN:=λx=>by rw[zqn (by decide)];exact kc
    simp only[wq.1,seval,hP,t2,t3,t7,kp,kb,k2];refine bU hmix _ _ _ _ ?_;simp only[wq.1];have old:∀ {j:Nat} {x:O},h'[j]? =al x->j≠1->j≠2->∀y z:O,((h'.set 1 y).set 2 z)[j]? =al x:=λ{j x} hx h1 h2 y z=>by rw[zqn (Ne.symm h2),zqn (Ne.symm h1)];exact hx
    refine hret (l:=[]) hpn (by simp only[wq.1,hd]) (λj hj=>by simp only[wq.1,hk j (by omega)]) (by simp only[wq.1,seval,t2]) (by simp only[wq.1,seval,t3]) ?_ ?_ ⟨old kp (by decide) (by decide) _ _,old ki (by decide) (by decide) _ _,old ku (by decide) (by decide) _ _,old ka (by decide) (by decide) _ _,old kg (by decide) (by decide) _ _⟩
    ·rw[zqn (by decide),zqt l1]
    ·rw[zqt (by simp;omega)]
   ·have ho:oc.1≠0:=by simpa using ho
    rw[if_neg ho]at hpn;simp only[wq.1,fO,hd];simp only[XE.seq];exact hpan (x:=(at',oc.1)) hpn (by simp only[wq.1,hd]) (λj hj=>by simp only[wq.1,hk j (by omega)]) (by simp only[wq.1,seval,t2]) (by simp only[wq.1,seval,t3]) k3
  |cons t r =>
   have e0:ar ((0:Int)<((aa r+1:Nat):Int))=ab:=by rw[zqb];omega
   obtain⟨F,rfl⟩:∃n,F=n+1:=⟨F-1,by simp only[zrt]at hF;omega⟩;rw[NM]at hZ;have hlc:aa (t::r)=aa r+1:=rfl;rw[hlc]at hm hF hlL hci;refine bU hmix _ _ _ _ ?_;simp only[wq.1,↓reduceIte,e0];refine aB ?_;refine bU hmix _ _ _ _ ?_;simp only[wq.1,seval,hP,t7];refine hT (NL k hl (by unfold ciB at hci ⊢;omega) (λc' l' h' hst k' kk'=> ?_) (λx h' hst kk'=> ?_))
   ·rw[hst]at hZ;dsimp only at hZ;obtain⟨o1,o2,o3⟩:=VD hl hci hst;rw[hlc]at o2;simp only[wq.1,bC,hd];refine .inl ⟨aa l',by omega,c',l',F,rfl,by omega,by omega,hZ,o1,?_,k',k3.k kk',by simp only[wq.1,seval,t1,Cm],by simp only[wq.1,seval,t2,Cm],by simp only[wq.1,seval,t3,Cm],by simp only[wq.1,seval,t4],by simp only[wq.1,seval,t7,Cm],by simp only[wq.1,hd],λj hj=> ?_⟩
    ·unfold ciB at o3 ⊢;omega
    ·simp only[wq.1,hk j hj];exact WB hj
   ·rw[hst]at hZ;dsimp only at hZ;subst hZ;simp only[wq.1,fO,hd];simp only[XE.seq,XE.block];refine hpan hpn (by simp only[wq.1,hd]) (λj hj=> ?_) (by simp only[wq.1,seval,t2,Cm]) (by simp only[wq.1,seval,t3,Cm]) (k3.k kk');show(f.k j||x47 j)=ac;rw[hk j (by omega),WB (by omega)];rfl
theorem Ew:∀(l:List S),(∀s∈l,aU s=ab)->Lib.join (l.map vM) [44,32]=Ea l
 |[],_=>rfl
 |[s],h=>by have h1:=h s (by simp);show Lib.join [vM s] [44,32]=aP s;unfold vM;rw[if_pos h1];simp[Lib.join,List.intercalate]
 |s::t::r,h=>by
  have h1:=h s (by simp);have ih:=Ew (t::r) λx hx=>h x (List.mem_cons_of_mem _ hx);show Lib.join (vM s::vM t::r.map vM) [44,32]=aP s++44::32::Ea (t::r);rw[<-ih];show Lib.join (vM s::vM t::r.map vM) [44,32]=aP s++44::32::Lib.join (vM t::r.map vM) [44,32];have e:vM s=aP s:=by unfold vM;rw[if_pos h1]
  rw[e];simp[Lib.join,List.intercalate]
theorem tV[MO](l:List S)(hl:aa l<=1000000):Ev TE 41 [aJ l] (aJ (l.map vM)):=by
 have hM:=mLx;refine ai Tryz.func41 rfl (by simp[nts]) ?_;refine vn ?_;simp only[wq.1,Nat.reduceLT,Tryz.results41];refine vn ?_;simp only[wq.1,Nat.reduceLT];refine iF 3 1 (by simp only[wq.1,↓reduceIte]) ?_;refine ak ?_;refine vn ?_;simp only[wq.1,seval];refine aB ?_;refine aF (λm f h=>∃i:Nat,m+i=aa l/\i<=aa l/\h[0]? =al (am (((l.take i).map vM).map V.str))/\f.t 3= .ls 0 1 0 i i/\f.t 8=aJ l/\f.t 9=vi (aa l)/\f.t 10=vi i/\f.d=[]) (aa l) ⟨0,by omega,by omega,rfl,by simp only[wq.1,seval],by simp only[wq.1,seval],by simp only[wq.1,seval],by simp only[wq.1,↓reduceIte];rfl,by simp only[wq.1]⟩ ?_;rintro m f h ⟨i,hm,hil,h0,t3,t8,t9,t10,hd⟩;have hw:=aA (show i<maxLen by omega);refine vn ?_;simp only[wq.1,Nat.reduceLT,t9,t10];refine vn ?_;simp only[wq.1,↓reduceIte];refine vcB.mk (λhlt=> ?_) (λhlt=> ?_)
 ·have hlt:i<aa l:=by have:=zqs hlt;omega
  obtain⟨s,es⟩:∃s,s=l[i]:=⟨_,rfl⟩;have hgs:=Bz hlt .any;rw[<-es]at hgs;have hS:=Ht s;have hnx:((l.take i).map vM).map V.str++[.str (vM s)]=((l.take (i+1)).map vM).map V.str:=by rw[List.take_succ_eq_append_getElem hlt,zql,zql,es];rfl
  have hln:aa (((l.take i).map vM).map V.str)=i:=by simp;omega
  obtain⟨C,eC⟩:∃C,C=((l.take i).map vM).map V.str:=⟨_,rfl⟩;have hCd:∀q,ap q C=C:=λq=>by rw[eC];exact aN
  rw[<-eC]at h0 hnx hln;have l0:=(zqe h0).1;simp only[wq.1];refine ak ?_;refine aB ?_;refine vn ?_;simp only[wq.1,seval,t8,t10,hgs];refine⟨⟨by omega,by omega⟩,?_⟩;refine vn ?_;simp only[wq.1,seval];refine ag.ev hS rfl ?_;simp only[wq.1,↓reduceIte,Nat.reduceEqDiff,Nat.reduceLT,Nat.reduceAdd];refine vm ?_;simp only[wq.1,↓reduceIte,Nat.reduceEqDiff,Nat.reduceLT,reduceCtorEq,Nat.reduceMul,t3,hd,h0,hCd,hln];refine⟨⟨rfl,by decide⟩,⟨by omega,by omega,by omega⟩,?_⟩;refine vm ?_;simp only[wq.1,seval,t10,hw];refine .inl ⟨m-1,by omega,i+1,by omega,by omega,?_,by simp only[wq.1,seval],by simp only[wq.1,seval,t8],by simp only[wq.1,seval,t9],by simp only[wq.1,↓reduceIte],by simp only[wq.1,hd]⟩;rw[zqt (by simpa using l0),hnx]
 ·have hi:i=aa l:=by have:=of_decide_eq_false hlt;omega
  subst hi;rw[zrx]at h0;simp only[wq.1];show awp _ _ _ _ _ _ _;refine vn ?_;simp only[wq.1,seval,t3];refine vm ?_;simp only[wq.1,↓reduceIte,hd];exact aX h0 (by simp)
def Wb(out:S)(h:H):Prop :=
 (out=[]/\h[1]? =al (.typed 81 [.nilp,.nils])) \/
 (out≠[]/\∃b,1<b/\h[1]? =al (.typed 81 [.lp 1 0,.ls b 1 0 (aa out) (aa out)])/\h[b]? =al (.typed 5 (out.map vb)))
def K0(h h':H):Prop:=∀cs,h[0]? =al (am cs)->aL cs=ab->h'[0]? =al (am cs)
theorem K0.trans{h h1 h2:H}(a:K0 h h1)(b:K0 h1 h2):K0 h h2:=λcs hc hd=>b cs (a cs hc hd) hd
theorem VE[MO]{out s:S}{h:H}{R:AEnd->H->(Nat->Bool)->Prop}(hw:Wb out h)(hs:s≠[])(hl:aa out+aa s<=20000000000000)
 (hr:∀v h' p,(∀j,p j=ab->1<j)->Wb (out++s) h'->K0 h h'->R (.ret v) h' p):ag TE 39 [.lp 1 0,.str s] h R:=by
 rcases hw with⟨rfl,h1⟩|⟨ho,b,hb1,h1,h2⟩
 ·have hlt:=(zqe h1).1;refine PI BA s (.inl rfl) h1 hs (by simpa using hl) ?_;refine hr _ _ _ (λj hj=>by cases hj) (.inr ⟨by simpa using hs,aa h,hlt,?_,?_⟩) (λcs hc hd=> ?_)
  ·rw[zqt (by simp;omega)];rfl
  ·rw[zqn (by omega),zsb (by omega),show aa h-aa h=0 by omega];rfl
  ·rw[zqn (by decide),zqj (by omega)];exact hc
 ·have hlt:=(zqe h1).1;have hlb:=(zqe h2).1;refine Uo BA out s (.inr rfl) (by omega) h1 h2 hl ?_;refine hr _ _ _ (λj hj=>by have:j=b:=(by simpa using hj);omega) (.inr ⟨by simp[ho],b,hb1,?_,?_⟩) (λcs hc hd=> ?_)
  ·rw[zqt (by simp;omega)]
  ·rw[zqn (by omega),zqt (by simp;omega)]
  ·rw[zqn (by decide),zqn (by omega),zqo,hc];show al (am (ap _ cs))=_;rw[iT.dats_drops _ hd]
theorem oN[MO]{out ahead word:S}{l:List S}{h:H}{R:AEnd->H->(Nat->Bool)->Prop}(hw:Wb out h)(hok:∀s∈l,aU s=ab)(hl:aa out+aa (gV ahead word l)<=10000000)
 (hll:aa l<=1000000) (hr:∀v h' p,(∀j,p j=ab->1<j)->Wb (out++gV ahead word l) h'->K0 h h'->R (.ret v) h' p):ag TE 38 [.str ahead,.str word,aJ l,.lp 1 0] h R:=by
 have hM:=mLx;have hsp:=tV l hll;have hcl:aa (gV ahead word l)=aa ahead+aa word+aa (Ea l)+3:=by unfold gV;simp;omega
 have hj:=Ux (l.map vM) [44,32] (by simp;omega) (by rw[Ew l hok];omega);rw[Ew l hok]at hj;refine aj Tryz.func38 rfl (by simp[nts]) ?_;refine vm ?_;simp only[wq.1,seval,Tryz.results38];refine⟨by omega,by omega,ag.ev hsp (by simp only[aL,aE,ax,zre]) ?_⟩;simp only[wq.1,seval];refine ag.ev hj (by simp only[aL,aE,ax,zre]) ?_;simp only[wq.1,seval];have hcN:ahead++word++[40]++Ea l++[41,10]=gV ahead word l:=by unfold gV;simp
 rw[hcN];refine⟨by omega,by omega,VE hw (by unfold gV;simp) (by omega) λv h' p a b c=> ?_⟩;simp only[wq.1,bC];exact hr _ _ _ a b c
end Go.Proofs.YthaijohbpdabfaaGreatDoor
