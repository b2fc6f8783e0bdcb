/- Lemmas for this claim, part F13: each holds under what it names. -/
import Derived.Test.YthaijohbpdabfaaGreatDoorRF12
import Derived.Test.YthaijohbpdabfaaGreatDoorRF07
import Derived.Test.YthaijohbpdabfaaGreatDoorRF10
import Derived.Test.YthaijohbpdabfaaGreatDoorRF02
import Derived.Test.YthaijohbpdabfaaGreatDoorRF09
import Derived.Test.YthaijohbpdabfaaGreatDoorRA9
import Derived.Test.YthaijohbpdabfaaGreatDoorRF08
set_option linter.all false
set_option maxRecDepth 20000
set_option maxHeartbeats 8000000
namespace Go.Proofs.YthaijohbpdabfaaGreatDoor
open Go Go.Proofs Go.Abs
open List renaming length → aa, replicate → ao
open Bool renaming true → ab, false → ac
open Option renaming some → al, none → aq
open Decidable renaming decide → ar
open Go.IntKind renaming wrap → aD
open Go.Result renaming andThen → aM
open Go.Abs.O renaming cells → am
open Go.Abs.V renaming drops → ap, dat → aE, dats → aL
theorem Lp:∀l:List La,kH (l.map La.v)=ab
 |[]=>rfl
 |t::l=>by show(_&&kH (l.map La.v))=ab;rw[Lp l];rfl
theorem RU:∀l:List La,dB (laC l)=ab
 |[]=>rfl
 |t::l=>by show(ab&&(ab&&(ab&&dB (laC l))))=ab;rw[RU l];rfl
theorem Jq[MO](c:List La)(hc:aa c<=1000000):EvF TE 49 [kY c] 3 (aa c) (laC c):=by
 have hM:=mLx;have ho:=RU c;have hv:=Xq c;have hf:=Lp c;unfold EvF;refine aj Tryz.func49 rfl (by simp[nts]) (vm ?_);simp only[wq.1,seval,Tryz.results49];intro b hb;cases b with
 |true =>
  have:c=[]:=by simpa using hb rfl
  subst this;simp only[wq.1,↓reduceIte,Nat.reduceLT,reduceCtorEq];exact .inl rfl
 |false=>simp only[wq.1,↓reduceIte,Nat.reduceEqDiff,Nat.reduceLT,Nat.reduceAdd,reduceCtorEq,Nat.reduceMul,hv,hf];exact⟨⟨rfl,by decide⟩,⟨rfl,by omega,by omega⟩,.inr ⟨0,_,rfl,zrb _,rfl⟩⟩
theorem RV{c:List La}(h:laC c=[]):c=[]:=by
 cases c with
 |nil=>rfl
 |cons a c=>cases h
theorem NH[MO](c:List La)(hc:aa c<=1000000):Ev TE 49 [kY c] (kY c):=(Jq c hc).ev (λ_ he=>by rw[RV he];exact VLe.nils) (λh' id cap _ hid=>zo hid rfl) (λ_ he _=>by rw[RV he];exact aC.nils)
theorem BZ{g:Ga}(h:gQ g=ab)(ho:(aZ g).op=10):aZ g=g:=by
 have hk:=jC h;unfold aZ at ho ⊢;rw[uQ hk.1]at ho ⊢;split
 ·rfl
 ·rename_i h1;rw[if_neg h1]at ho;cases hf:jI (aa g.ins) g.rows g.off with
  |none=>rfl
  |some op=>rw[hf]at ho;exfalso;have:=(qc hf).1;have ho:(op:Int)=10:=ho;omega
theorem Lr{g:Ga}(h:gQ g=ab):aa g.ins<=8:=by unfold gQ at h;simp only[zqf]at h;have h8:=h.2.1;unfold vJ at h8;simp only[zqf]at h8;exact Wh h8.2.2
theorem Vs{x:Xs}(g:Ga)(h:nlX x):nlX (jT x g):=by
 unfold jT;split
 ·exact h
 ·split
  ·exact zU _ h
  ·split
   ·exact zU _ h
   ·split
    ·exact zU _ h
    ·exact Em _ _ _ _ _ (qY _ _ _ h)
theorem Yp{x:Xs}{g:Ga}(hg:gQ g=ab)(h:nlX x):nlX (wG x g)/\xsz (wG x g)<=xsz x+60000:=by
 obtain⟨h1,h2,h3⟩:=jC hg;unfold wG;by_cases ho:(aZ g).op=10
 ·rw[if_pos ho,BZ hg ho];refine⟨Vs g h,Vg h2 (λr hr=> ?_) (Lr hg)⟩;have:=h3 r hr;unfold mQ at this;simp only[zqf,beq_iff_eq]at this;exact this.1
 ·rw[if_neg ho];have:=(xA x (aZ g)).1;exact⟨zU _ h,by omega⟩
theorem Ad:∀(gs:List Ga)(x:Xs),(∀g∈gs,gQ g=ab)->nlX x->nlX (gs.foldl wG x)/\xsz (gs.foldl wG x)<=xsz x+60000*aa gs
 |[],x,_,h=>⟨h,by simp⟩
 |g::gs,x,hg,h=>by obtain⟨a1,a2⟩:=Yp (x:=x) (hg g (by simp)) h;obtain⟨b1,b2⟩:=Ad gs (wG x g) (λq hq=>hg q (by simp[hq])) a1;refine⟨b1,?_⟩;rw[List.foldl_cons,zrt];omega
theorem RX(c:Ci):aL [aJ c.ins,aJ c.outs,kY c.lat,iU c.gates]=ab:=by simp only[aL,aE,ax,lg,kZ,zre]
theorem oK(c:Ci):aL [c.v]=ab:=by simp only[aL,aE,ax,lg,kZ,zre]
theorem Hq[MO](c:Ci)(hs:Sum c):Ev TE 15 [c.v] (.tup [(D6 c).1.v,vi (D6 c).2]):=by
 have hM:=mLx;have hchk:=zH c hs;unfold D6;obtain⟨oc,eoc⟩:∃oc,oc=kW c:=⟨_,rfl⟩;rw[<-eoc]at hchk ⊢;refine ai Tryz.func15 rfl (by simp[nts]) ?_;refine vn ?_;simp only[wq.1,Nat.reduceLT,Tryz.results15];refine ak ?_;refine vn ?_;simp only[wq.1,seval];refine ag.ev hchk (oK c) ?_;simp only[wq.1,seval];by_cases he:oc.1=0
 ·have e0:(oc.1 != 0)=ac:=by rw[he];rfl
  rw[if_neg (by simpa using he)];have hn:NetOk c:=iJ (by rw[<-eoc];exact he);have hlc:=P9 hn.lim;have hl:=hn.lim;unfold PL at hl;simp only[zqf,zqb]at hl;obtain⟨hl1,hl2,_⟩:=hl;have hnl:aa (aT c)<=200:=by
   unfold aT;simp only[zqa,zra];omega
  refine vm ?_;simp only[wq.1,seval,e0];show awp _ _ _ _ _ _ _;refine vn ?_;simp only[wq.1,seval];refine kw (Kt c hlc) (oK c) ax ?_;simp only[wq.1,seval];refine gI ?_;refine mF (h':=[am [aJ c.ins,aJ c.outs,kY c.lat,iU c.gates],am [.nils,.nils,.nils,.nils],am ((aT c).map V.str),.map [] [],am [.ls 5 5 0 0 0,.ls 2 1 0 (aa (aT c)) (aa (aT c)),.lm 3],am []]) (HLe.set (i:=4) (o':=am [.ls 5 5 0 0 0,.ls 2 1 0 (aa (aT c)) (aa (aT c)),.lm 3]) rfl (OLe.cells (zrb _) (dm.cons dV (dm.cons (VLe.refl _) (dm.cons (VLe.refl _) dm.nil))))) ?_;have hx0:XH ⟨[],aT c,([],[])⟩ ([am [aJ c.ins,aJ c.outs,kY c.lat,iU c.gates],am [.nils,.nils,.nils,.nils],am ((aT c).map V.str),.map [] [],am [.ls 5 5 0 0 0,.ls 2 1 0 (aa (aT c)) (aa (aT c)),.lm 3],am []]):=⟨rfl,rfl,rfl,rfl⟩;obtain⟨X0,eX0⟩:∃X0:Xs,X0=⟨[],aT c,([],[])⟩:=⟨_,rfl⟩;have hEX:D5 c=c.gates.foldl wG X0:=by rw[eX0];rfl
  have hsz0:xsz X0<=200:=by rw[eX0];unfold xsz;simpa using hnl
  have hnl0:nlX X0:=by rw[eX0];rfl
  rw[<-eX0]at hx0;obtain⟨hh0,ehh⟩:∃hh0:H,hh0=[am [aJ c.ins,aJ c.outs,kY c.lat,iU c.gates],am [.nils,.nils,.nils,.nils],am ((aT c).map V.str),.map [] [],am [.ls 5 5 0 0 0,.ls 2 1 0 (aa (aT c)) (aa (aT c)),.lm 3],am []]:=⟨_,rfl⟩;have hb0:hh0[0]? =al (am [aJ c.ins,aJ c.outs,kY c.lat,iU c.gates]):=by rw[ehh];rfl
  have hb1:hh0[1]? =al (am [.nils,.nils,.nils,.nils]):=by rw[ehh];rfl
  rw[<-ehh]at hx0 ⊢;refine vn ?_;simp only[wq.1,seval,hb0];refine aF (λm f h=>∃i,m+i=aa c.gates/\i<=aa c.gates/\XH ((c.gates.take i).foldl wG X0) h/\h[0]? =al (am [aJ c.ins,aJ c.outs,kY c.lat,iU c.gates])/\h[1]? =al (am [.nils,.nils,.nils,.nils])/\f.t 1= .lp 0 0/\f.t 2= .lp 1 0/\f.t 6= .lp 4 0/\f.t 23=iU c.gates/\f.t 24=vi (aa c.gates)/\f.t 25=vi i/\f.d=[]) (aa c.gates) ⟨0,by omega,by omega,hx0,hb0,hb1,by simp only[wq.1,seval],by simp only[wq.1,seval],by simp only[wq.1,seval],by simp only[wq.1,seval],by simp only[wq.1,seval],by rfl,by simp only[wq.1]⟩ ?_;clear hx0 hb0 hb1 ehh hh0;rintro m f h ⟨i,hm,hil,k,hb0,hb1,t1,t2,t6,t23,t24,t25,hd⟩;have hwi:=aA (show i<maxLen by omega);obtain⟨y,ey⟩:∃y,y=(c.gates.take i).foldl wG X0:=⟨_,rfl⟩;have hys:=Ad (c.gates.take i) X0 (λg hg=>hn.gates g (zsh hg)) hnl0;rw[<-ey]at k hys;have htl:aa (c.gates.take i)<=200:=by rw[zrl];omega
  refine vn ?_;simp only[wq.1,Nat.reduceLT,t24,t25];refine vn ?_;simp only[wq.1,↓reduceIte];refine vcB.mk (λhlt=> ?_) (λhlt=> ?_)
  ·have hlt:i<aa c.gates:=by have:=zqs hlt;omega
   obtain⟨g,eg⟩:∃g,g=c.gates[i]:=⟨_,rfl⟩;have hgg:=uH hlt .any;rw[<-eg]at hgg;have hgB:=hn.gates g (eg▸zqu hlt);have hfs:(c.gates.take (i+1)).foldl wG X0=wG y g:=by rw[List.take_succ_eq_append_getElem hlt,List.foldl_append,<-ey,<-eg];rfl
   obtain⟨B,hB⟩:∃B,B=aa h:=⟨_,rfl⟩;have hl5:5<aa h:=(zqe k.g).1;have hgE:∀x:O,(h++[x])[B]? =al x:=λx=>by rw[hB];simp
   have hgS:∀x y:O,(h++[x]).set B y=h++[y]:=λx y=>by rw[hB];simp
   have hcan:=Kq g;have hop:(((aZ g).op:Int)==10)=ar ((aZ g).op=10):=by rw[Bool.eq_iff_iff,beq_iff_eq,zqb]
   simp only[wq.1];refine ak ?_;refine aB ?_;refine vn ?_;simp only[wq.1,seval,t23,t25,hgg,<-hB,hgE,hgS];refine⟨⟨by omega,by omega⟩,?_⟩;refine vn ?_;simp only[wq.1,seval,hgE];refine ag.ev hcan (by simp only[aL,aE,ax,zre]) ?_;simp only[wq.1,seval,hgE,hgS];obtain⟨K,eK⟩:∃K,K=h++[am [.str (aZ g).name,vi (aZ g).op,aJ (aZ g).ins,aJ (aZ g).rows,.bool (aZ g).off]]:=⟨_,rfl⟩;have kK:=k.app [am [.str (aZ g).name,vi (aZ g).op,aJ (aZ g).ins,aJ (aZ g).rows,.bool (aZ g).off]];have hKB:=hgE (am [.str (aZ g).name,vi (aZ g).op,aJ (aZ g).ins,aJ (aZ g).rows,.bool (aZ g).off]);have hK0:K[0]? =al (am [aJ c.ins,aJ c.outs,kY c.lat,iU c.gates]):=by rw[eK,zqj (by omega)];exact hb0
   have hK1:K[1]? =al (am [.nils,.nils,.nils,.nils]):=by rw[eK,zqj (by omega)];exact hb1
   rw[<-eK]at kK hKB ⊢;refine fU (λf=>f.t 1= .lp 0 0/\f.t 2= .lp 1 0/\f.t 6= .lp 4 0/\f.t 8= .lp B 0/\f.t 23=iU c.gates/\f.t 24=vi (aa c.gates)/\f.t 25=vi i/\f.d=[]) ⟨by simp only[wq.1,seval,t1],by simp only[wq.1,seval,t2],by simp only[wq.1,seval,t6],by simp only[wq.1,seval],by simp only[wq.1,seval,t23],by simp only[wq.1,seval,t24],by simp only[wq.1,seval,t25],by simp only[wq.1,hd]⟩ ?_;clear t1 t2 t6 t23 t24 t25 hd f;rintro f ⟨t1,t2,t6,t8,t23,t24,t25,hd⟩;have hfin:∀(h':H),XH (wG y g) h'->XK K h'->∀f:Fr,f.t 1= .lp 0 0->f.t 2= .lp 1 0->f.t 6= .lp 4 0->f.t 23=iU c.gates->f.t 24=vi (aa c.gates)->f.t 25=vi (i+1:Nat)->f.d=[]->∃m',m'<m/\∃i,m'+i=aa c.gates/\i<=aa c.gates/\XH ((c.gates.take i).foldl wG X0) h'/\h'[0]? =al (am [aJ c.ins,aJ c.outs,kY c.lat,iU c.gates])/\h'[1]? =al (am [.nils,.nils,.nils,.nils])/\f.t 1= .lp 0 0/\f.t 2= .lp 1 0/\f.t 6= .lp 4 0/\f.t 23=iU c.gates/\f.t 24=vi (aa c.gates)/\f.t 25=vi i/\f.d=[] :=
    λh' a b f' u1 u2 u6 u23 u24 u25 ud=>⟨m-1,by omega,i+1,by omega,by omega,by rw[hfs];exact a,b 0 _ (.inl (by decide)) hK0 (RX c),b 1 _ (.inl (by decide)) hK1 rfl,u1,u2,u6,u23,u24,u25,ud⟩
   unfold wG at hfin;refine vn ?_;simp only[wq.1,seval,t8,hKB,hop];refine bH (b:=ar ((aZ g).op=10)) (by simp only[wq.1,↓reduceIte]) (by simp only[wq.1,↓reduceIte]) (λho=> ?_) (λho=> ?_)
   ·have ho:=zqs ho;obtain⟨g1,g2,g3⟩:=jC hgB;rw[if_pos ho]at hfin;have hcv:=BZ hgB ho;rw[hcv]at hKB hfin;refine vm ?_;simp only[wq.1,seval,t6,t8,hKB];refine Jp kK hys.1 g (Lr hgB) g2 g3 (by omega) λh' a b c2=> ?_;simp only[wq.1,bC,hd];refine vm ?_;simp only[wq.1,seval,t25,hwi];exact .inl (hfin h' a b _ (by simp only[wq.1,seval,t1,qE]) (by simp only[wq.1,seval,t2,qE]) (by simp only[wq.1,seval,t6,qE]) (by simp only[wq.1,seval,t23]) (by simp only[wq.1,seval,t24]) (by simp only[wq.1,↓reduceIte]) (by simp only[wq.1,hd]))
   ·have ho:=of_decide_eq_false ho;rw[if_neg ho]at hfin;refine vm ?_;simp only[wq.1,seval,t6,t8,hKB];refine ZM kK (aZ g) (by omega) λh' a b c2=> ?_;simp only[wq.1,bC,hd];refine vm ?_;simp only[wq.1,seval,t25,hwi];exact .inl (hfin h' a b _ (by simp only[wq.1,seval,t1,qE]) (by simp only[wq.1,seval,t2,qE]) (by simp only[wq.1,seval,t6,qE]) (by simp only[wq.1,seval,t23]) (by simp only[wq.1,seval,t24]) (by simp only[wq.1,↓reduceIte]) (by simp only[wq.1,hd]))
  ·have hi:i=aa c.gates:=by have:=of_decide_eq_false hlt;omega
   subst hi;rw[zrx,<-hEX]at ey;subst ey;simp only[wq.1];show awp _ _ _ _ _ _ _;have k4:=k.a;have k5:=k.g;obtain⟨G,eG⟩:∃G,G=(D5 c).gates:=⟨_,rfl⟩;have hGl:aa G<=50000000:=by
    have h1:=hys.2;have h2:xsz (D5 c)<=200+60000*200:=by rw[zrx]at h1;omega
    have h3:aa G<=xsz (D5 c):=by rw[eG];unfold xsz;omega
    omega
   rw[<-eG]at k4 k5 ⊢;have w1:aD .i64 ((aa c.ins:Int)+aa c.lat)=((aa c.ins+aa c.lat:Nat):Int):=by rw[iW (by omega) (by omega)];omega
   have w2:aD .i64 (((aa c.ins+aa c.lat:Nat):Int)+aa G)=((aa c.ins+aa c.lat+aa G:Nat):Int):=by rw[iW (by omega) (by omega)];omega
   have hdd:ar ((200:Int)<((aa c.ins+aa c.lat+aa G:Nat):Int))=ar (200<aa c.ins+aa c.lat+aa G):=decide_eq_decide.2 (by omega);refine ak ?_;refine vn ?_;simp only[wq.1,seval,t1,t6,hb0,k4,w1,w2,hdd];refine⟨by decide +kernel,?_⟩;refine bH (b:=ar (200<aa c.ins+aa c.lat+aa G)) (by simp only[wq.1,↓reduceIte]) (by simp only[wq.1,↓reduceIte]) (λhb=> ?_) (λhb=> ?_)
   ·rw[if_pos (zqs hb)];have hs1:∀x:O,(h.set 1 x)[1]? =al x:=λx=>zqt (zqe hb1).1;refine vm ?_;simp only[wq.1,seval,t2,hd,hb1,hs1];exact aC.tup (au.cons (aC.agg (au.cons aC.nils (au.cons aC.nils (au.cons aC.nils (au.cons aC.nils au.nil))))) (au.cons (aC.dat rfl) au.nil))
   ·rw[if_neg (of_decide_eq_false hb)];refine vm ?_;simp only[wq.1];show awp _ _ _ _ _ _ _;have c1:=wP c.ins (by omega);have c2:=wP c.outs (by omega);have c3:=NH c.lat (by omega);have hs1:∀x:O,(h.set 1 x)[1]? =al x:=λx=>zqt (zqe hb1).1;refine ak (Fp mixed 14 (.one 14<| .take 15<| .fin) (λf' h'=>f'.t 2= .lp 1 0/\f'.t 3=vi 0/\f'.d=[]/\h'=h.set 1 (am [aJ c.ins,aJ c.outs,kY c.lat,.ls 5 5 0 (aa G) (aa G)])) (by rw[TEP];decide +kernel) ?_ ?_)
    ·intro K hK;simp only[List.take_succ_cons,List.take_zero];simp only[wq.1,seval,t1,hb0];refine uh.mk c1 rfl (by simp only[aL,aE,ax,zre]) ?_;simp only[wq.1,seval,t1,hb0];refine uh.mk c2 rfl (by simp only[aL,aE,ax,zre]) ?_;simp only[wq.1,seval,t1,hb0];refine uh.mk c3 rfl (by simp only[aL,aE,lg,zre]) ?_;simp only[wq.1,seval,t6,k4];refine hK _ ?_;have hs5:=hb1;simp only[wq.1,seval,t2,hd,hb1]
     trace_state
    ·clear t1 t2 t6 t23 t24 t25 hd;rintro f h' ⟨t2,t3,hd,rfl⟩;show awp _ _ _ _ _ _ _;refine vm ?_;simp only[wq.1,seval,t2,t3,hd,hs1];have h5:(h.set 1 (am [aJ c.ins,aJ c.outs,kY c.lat,.ls 5 5 0 (aa G) (aa G)]))[5]? =al (am (gaC G)):=by
      rw[zqn (by decide),k5];rfl
     exact aC.tup (au.cons (aC.agg (au.cons (aC.dat (by simp only[aE,ax])) (au.cons (aC.dat (by simp only[aE,ax])) (au.cons (aC.dat (by simp only[aE,lg])) (au.cons (zq h5 rfl) au.nil))))) (au.cons (aC.dat rfl) au.nil))
 ·have e0:(oc.1 != 0)=ab:=by simpa using he
  rw[if_pos (by simpa using he)];refine vm ?_;simp only[wq.1,seval,e0];exact aC.tup (au.cons (aC.agg (au.cons aC.nils (au.cons aC.nils (au.cons aC.nils (au.cons aC.nils au.nil))))) (au.cons (aC.dat rfl) au.nil))
def vM(s:S):S:=if aU s=ab then aP s else []
def Cb(t:Tk):S×Int:=if t.k=0 then wH t.t else([],4)
def Yq(s:S)(t:Tk):Bool:=(Cb t).2==0&&(Cb t).1==s
def o7(l:List Tk)(s:S):Nat:=match l.findIdx? (Yq s)with
 |some i=>(l.getD i ⟨0,[],0⟩).at'
 |none=>0
theorem Ae[MO]:Ev TE 146 [vi 3] (.bool ab):=by refine ai Tryz.func146 rfl (by simp[nts]) (vm ?_);simp only[wq.1,seval,Tryz.results146];exact aC.dat rfl
theorem RY[MO](s:S)(h:aU s=ab):Ev TE 188 [.str s] (.bool (jK s)):=by
 obtain⟨h1,h2⟩:=BC h;have hl:=J8 h;have ha:=Uw s [61,40,41,44,35] (by omega) (by decide) (λb hb=>by
  have:=h2 b hb;unfold iP at this;simp only[zqf,zqb]at this;omega) (by decide)
 rw[BF]at ha;refine ai Tryz.func188 rfl (by simp[nts]) (vm ?_);simp only[wq.1,seval,Tryz.results188];refine ag.ev ha rfl ?_;simp only[wq.1,seval];refine aC.eq rfl ?_;unfold jK
 congr 2
 refine congrArg _ (funext λc=> ?_);unfold tq;simp only[List.contains_cons,List.contains_nil,Bool.or_false,Bool.or_assoc]
theorem Hr[MO](s:S):Ev TE 123 [vi 3,.str s] (.bool (aU s&&jK s)):=by
 have hn:=yf s;refine ai Tryz.func123 rfl (by simp[nts]) (vm ?_);simp only[wq.1,seval,Tryz.results123];refine ag.ev Ae rfl ?_;simp only[wq.1,seval];refine ag.ev hn rfl ?_;cases hok:aU s with
 |false=>simp only[wq.1,↓reduceIte,Nat.reduceEqDiff,Nat.reduceLT];exact aC.dat rfl
 |true=>simp only[wq.1,↓reduceIte,Nat.reduceEqDiff,Nat.reduceLT,Nat.reduceLeDiff,Nat.reduceAdd,Nat.reduceSub,Int.reduceToNat,Nat.reduceDiv,Int.reduceLT,Int.reduceLE,Int.reduceNeg,Int.reduceBEq,Int.reduceBNe,Int.reduceAdd,Int.reduceSub,Nat.reduceBEq,reduceCtorEq,Nat.reduceMul,ay,Tryz.results123,bC];refine⟨by decide,ag.ev (RY s hok) rfl ?_⟩;simp only[wq.1,↓reduceIte,Nat.reduceLT];exact aC.eq rfl (by simp)
theorem Ht[MO](s:S):Ev TE 85 [vi 3,.str s] (.tup [.str (vM s),vi (if aU s then 0 else 4)]):=by
 have hn:=yf s;have hL:=Hr s;have hm:=Xk s rC;refine ai Tryz.func85 rfl (by simp[nts]) (vm ?_);simp only[wq.1,seval,Tryz.results85];refine ag.ev hn rfl ?_;unfold vM;cases hok:aU s with
 |false=>simp only[wq.1,seval];exact aC.dat rfl
 |true =>
  have hl:=J8 hok;have hsp:=Nl s (by omega);rw[hok]at hL;simp only[wq.1,seval];refine ag.ev Ae rfl ?_;simp only[wq.1,seval];refine⟨.bool ab,?_⟩;simp only[wq.1,seval];refine ag.ev hm rfl ?_;have e:aP s=if(rC.isPrefixOf s|| !jK s)=ab then bu s else s:=rfl
  cases hmm:rC.isPrefixOf s with
  |true=>rw[hmm,Bool.true_or,if_pos rfl]at e;simp only[wq.1,seval];refine⟨.bool ab,?_⟩;simp only[wq.1,seval];refine ag.ev hsp rfl ?_;simp only[wq.1,seval];rw[e];exact aC.dat rfl
  |false =>
   simp only[wq.1,seval];refine ag.ev hL rfl ?_;cases hll:jK s with
   |true=>rw[hmm,hll]at e;simp only[wq.1,seval];have e:aP s=s:=e;rw[e];exact aC.dat rfl
   |false=>rw[hmm,hll]at e;have e:aP s=bu s:=e;simp only[wq.1,seval];refine ag.ev hsp rfl ?_;simp only[wq.1,seval];rw[e];exact aC.dat rfl
theorem Vt[MO](s:S)(hs:aa s<=1000000):Ev TE 124 [vi 3,.str s] (.tup [.str (wH s).1,vi (wH s).2]):=by
 have hu:=F9 s hs;have hn:=yf s;have hL:=Hr s;obtain⟨u,eu⟩:∃u,u=bQ s:=⟨_,rfl⟩;have hsp:=Ht u;unfold wH;rw[<-eu]at hu ⊢;have tail:∀(R:S×Int),R=(if(aU s&&jK s)=ab then(s,0)else([],4))->R=R:=λ_ _=>rfl;obtain⟨T,hT⟩:∃T:S×Int,T=(if(aU s&&jK s)=ab then(s,0)else([],4)):=⟨_,rfl⟩;rw[<-hT];refine ai Tryz.func124 rfl (by simp[nts]) (vm ?_);simp only[wq.1,seval,Tryz.results124];refine ag.ev Ae rfl ?_;simp only[wq.1,seval];refine ag.ev hu rfl ?_;simp only[wq.1,seval];by_cases h0:u=[]
 ·have e0:(u==[])=ab:=by rw[h0];rfl
  rw[if_neg (λh=>h.1 h0)];simp only[wq.1,seval,e0];refine ag.ev hL rfl ?_;cases hok:aU s with
  |false=>rw[hok]at hT hL;have hT:T=([],4):=hT;rw[hT];simp only[wq.1,seval];exact aC.dat rfl
  |true =>
   rw[hok]at hT hn;cases hll:jK s with
   |false=>rw[hll]at hT;have hT:T=([],4):=hT;rw[hT];simp only[wq.1,seval];exact aC.dat rfl
   |true=>rw[hll]at hT;have hT:T=(s,0):=hT;rw[hT];simp only[wq.1,seval];refine ag.ev hn rfl ?_;simp only[wq.1,seval];exact aC.dat rfl
 ·have e0:(u==[])=ac:=by simpa using h0
  unfold vM at hsp;simp only[wq.1,seval,e0];refine ag.ev hsp rfl ?_;cases hku:aU u with
  |false =>
   rw[if_neg (λh=>absurd h.2.1 (by decide))];simp only[wq.1,seval];refine ag.ev hL rfl ?_;cases hok:aU s with
   |false=>rw[hok]at hT hL;have hT:T=([],4):=hT;rw[hT];simp only[wq.1,seval];exact aC.dat rfl
   |true =>
    rw[hok]at hT hn;cases hll:jK s with
    |false=>rw[hll]at hT;have hT:T=([],4):=hT;rw[hT];simp only[wq.1,seval];exact aC.dat rfl
    |true=>rw[hll]at hT;have hT:T=(s,0):=hT;rw[hT];simp only[wq.1,seval];refine ag.ev hn rfl ?_;simp only[wq.1,seval];exact aC.dat rfl
  |true =>
   by_cases hsu:aP u=s
   ·rw[if_pos ⟨h0,rfl,hsu⟩];have e1:(aP u==s)=ab:=by simpa using hsu
    simp only[wq.1,seval,e1];exact aC.dat rfl
   ·rw[if_neg (λh=>hsu h.2.2)];have e1:(aP u==s)=ac:=by simpa using hsu
    simp only[wq.1,seval,e1];refine ag.ev hL rfl ?_;cases hok:aU s with
    |false=>rw[hok]at hT hL;have hT:T=([],4):=hT;rw[hT];simp only[wq.1,seval];exact aC.dat rfl
    |true =>
     rw[hok]at hT hn;cases hll:jK s with
     |false=>rw[hll]at hT;have hT:T=([],4):=hT;rw[hT];simp only[wq.1,seval];exact aC.dat rfl
     |true=>rw[hll]at hT;have hT:T=(s,0):=hT;rw[hT];simp only[wq.1,seval];refine ag.ev hn rfl ?_;simp only[wq.1,seval];exact aC.dat rfl
theorem Lt[MO](t:Tk)(hs:aa t.t<=1000000):Ev TE 72 [vi 3,t.v] (.tup [.str (Cb t).1,vi (Cb t).2]):=by
 have hr:=Vt t.t hs;unfold Cb;refine ai Tryz.func72 rfl (by simp[nts]) (vm ?_);simp only[wq.1,seval,Tryz.results72];by_cases hk:t.k=0
 ·have e0:((t.k:Int) != 0)=ac:=by rw[hk];rfl
  have e2:((t.k:Int)==2)=ac:=by rw[hk];rfl
  rw[if_pos hk];simp only[wq.1,seval,e0,e2];refine⟨.bool ab,?_⟩;simp only[wq.1,seval];refine ag.ev hr rfl ?_;simp only[wq.1,seval];exact aC.dat rfl
 ·have e0:((t.k:Int) != 0)=ab:=by simp;omega
  rw[if_neg hk];cases e2:((t.k:Int)==2)with
  |true=>simp only[wq.1,seval,e0];exact aC.dat rfl
  |false=>simp only[wq.1,seval,e0];exact aC.dat rfl
theorem RZ[MO](t:Tk)(s:S)(hs:aa t.t<=1000000):Ev TE 71 [t.v,.ip (vi 3),.ip (.str s)] (.bool (Yq s t)):=by have hw:=Lt t hs;unfold Yq;refine ai Tryz.func71 rfl (by simp[nts]) (vm ?_);simp only[wq.1,seval,Tryz.results71];refine ag.ev hw rfl ?_;simp only[wq.1,seval];exact aC.eq rfl rfl
theorem Vu[MO](l:List Tk)(s:S)(hl:∀t∈l,aa t.t<=1000000):Ev TE 31 [vi 3,sU l,.str s] (vi (o7 l s)):=by
 have hix:=Xu l 71 [.ip (vi 3),.ip (.str s)] (Yq s) rfl rfl λt ht=>RZ t s (hl t ht);have hidx:idx l (Yq s)=match l.findIdx? (Yq s)with|some i=>(i:Int)|none=>-1:=rfl
 have hlen:aa l<=aa l:=zrb _;unfold o7;refine ai Tryz.func31 rfl (by simp[nts]) (vm ?_);simp only[wq.1,seval,Tryz.results31];refine ag.lend hix (au.cons (aC.dat (by simp only[aE,IX])) (au.cons (aC.fn au.nil (au.cons (aC.lp rfl (au.dat rfl) rfl rfl (by simp[V.vc]) rfl) (au.cons (aC.lp rfl (au.dat rfl) rfl rfl (by simp[V.vc]) rfl) au.nil))) au.nil)) rfl ?_;rw[hidx];cases hfi:l.findIdx? (Yq s)with
 |none=>simp only[wq.1,seval];exact aC.dat rfl
 |some i =>
  have hi:i<aa l:=(List.findIdx?_eq_some_iff_getElem.1 hfi).1;have hge:ar ((i:Int)<0)=ac:=by simp
  have hgd:l.getD i ⟨0,[],0⟩=l[i]:=by rw[zqg,zqk hi];rfl
  simp only[wq.1,seval,hge,Zo hi];rw[hgd];exact⟨⟨by omega,by omega⟩,aC.dat rfl⟩
theorem Hu [MO] {h : H} {d : List Deferred} : Y1 { TE with tl := d } h 126 (.agg []) "patchbay/token.read" 317 (.agg []) := by
 intro ok pl w x hs hx;have hx':=hx;simp only[VRel,VList]at hx;obtain⟨cs,rfl,hcs⟩:=hx;have:cs=#[]:=by cases cs;simp at hcs;rw[hcs]
 subst this;exact⟨_,by kernel_rfl,hx'⟩
theorem Vw[MO](s:S)(a:Nat)(c:UInt8)(r:S)(hr:s.drop a=c::r)(hs:aa s<=1000000000){o:Option Tk}{m:Nat}(ho:zV a (c::r)=al (o,m)):Ev TE 317 [.agg [],.str s,vi a] (.tup [tkO o,vi m]):=by refine kN ((zW s a c r hr hs).mono λae h p hq=> ?_);rw[ho]at hq;dsimp only at hq;subst hq;exact aC.dat (by cases o<;>rfl)
theorem Si[MO](s:S)(a:Nat)(c:UInt8)(r:S)(hr:s.drop a=c::r)(hs:aa s<=1000000000)(ho:zV a (c::r)=aq){h:H}{R:AEnd->H->(Nat->Bool)->Prop}(hR:∀X,R (.pan (Yd a)) (h++X) (λ_=>ac)):ag TE 317 [.agg [],.str s,vi a] h R:=by refine qN (zW s a c r hr hs) rfl λae h' p hq=> ?_;rw[ho]at hq;dsimp only at hq;subst hq;exact hR _
def Wv:Plan:= .take 0<| .alt 1 (onZ [2,3,4]<| .fin) (.one 2 (onZ [1,3,4]<| .fin))
theorem Sj[MO]{K:H->(Nat->Bool)->Prop}{d0 d1 d2:V}{G:H}(a:Nat)(hK:∀X,K (am [.nils]::am [vi a]::am [vi 2]::(G++[X])) (λ_=>ac)):jL TE 118 [.lp 0 0,.lp 1 0,.lp 2 0] (Yd a) (am [d0]::am [d1]::am [d2]::G) K:=by
 have hgE:∀x:O,(G++[x])[aa G]? =al x:=λx=>by simp
 have hgS:∀x y:O,(G++[x]).set (aa G) y=G++[y]:=λx y=>by simp
 refine mG rfl Tryz.func118 rfl rfl (by simp[nts]) rfl (λev w=>rfl) rfl (by decide) ?_;simp only[nts];refine az rfl rfl ?_;simp only[wq.1,↓reduceIte];refine⟨by decide,?_⟩;refine az rfl rfl ?_;simp only[wq.1,↓reduceIte];refine az rfl rfl ?_;simp only[wq.1,seval];refine az rfl rfl ?_;simp only[wq.1,seval];refine az rfl rfl ?_;simp only[wq.1];refine az rfl rfl ?_;simp only[wq.1,seval,hgE,hgS];refine az rfl rfl ?_;simp only[wq.1,seval];refine dL ?_;show awp _ _ _ _ _ _ _;refine vn ?_;simp only[wq.1,seval];refine vm ?_;simp only[wq.1,↓reduceIte];refine dJ mixed Wv (λf' h'=>f'.d=[]/\f'.k=(λ_=>ac)/\∃X,h'=am [.nils]::am [vi a]::am [vi 2]::(G++[X])) (by rw[TEP];decide +kernel) (by decide +kernel) ?_ ?_
 ·simp only[wq.1,seval,Wv,hgE];exact⟨_,rfl⟩
 ·rintro f h ⟨hd,hk,X,rfl⟩;exact⟨.inl rfl,hd,by rw[hk];exact hK X⟩
theorem Sl:∀(n p:Nat)(s:S),(tkN n p s).1.length<=n
 |0,_,_=>by simp[tkN]
 |n+1,p,[]=>by simp[tkN]
 |n+1,p,c::r=>by
  rw[KZ];cases hs:zV p (c::r)with
  |none=>simp
  |some x=>obtain⟨o,m⟩:=x;have:=Sl n (p+m) ((c::r).drop m);dsimp only;rw[zqa];cases o<;>simp only[Option.toList,List.length_nil,zrk]<;>omega
def Cc(s:S)(ae:AEnd)(h':H):Prop:=match tkN (aa s) 0 s with
 |(L,aq)=>ae= .ret (.tup [.ls 3 3 0 (aa L) (aa L),vi 0,vi 0])/\∃x0 X,h'=[x0,am [vi 0],am [vi 0],am (tkC L)]++X
 |(_,al a)=>ae= .ret (.tup [.nils,vi a,vi 2])
theorem Jr[MO](s:S)(hs:aa s<=1000000):ag TE 67 [.iface 126 (.agg []),.str s] [] (λae h' _=>Cc s ae h'):=by
 have hM:=mLx;refine mJ rfl Tryz.func67 rfl (by simp[nts]) λok pl0 w0=> ?_;simp only[nts];refine Du (Q:=λ_ _ _=>False) ?_ (λ_ _ _ h=>by obtain⟨_,_,_,_,_,_,h⟩:=h;exact h.elim);refine vm ?_;simp only[wq.1,seval];refine sK rfl (fn:=Tryz.f67) (q:=118) (caps:=[.lp 0 0,.lp 1 0,.lp 2 0]) (fx:= .tmp 10) rfl rfl (by simp only[wq.1,seval]) rfl rfl rfl rfl (by simp only[wq.1,seval]) (by simp only[wq.1,seval]) (by simp only[wq.1]) rfl λdd=> ?_;simp only[nts];obtain⟨ee,hee⟩:∃ee:E,ee={TE with tl:=[dd]}:=⟨_,rfl⟩;have hP:ee.P=P:=by rw[hee];rfl
 have hmix:ee.P.follows .mixedOrders=ab:=by rw[hP];exact mixed
 have hT:∀ {g:FuncId} {args:List V} {h:H} {R:AEnd->H->(Nat->Bool)->Prop},ag TE g args h R->ag ee g args h R:=λhc=>by rw[hee];exact hc.tl _
 rw[<-hee];obtain⟨QP,eQP⟩:∃QP:XE->Fr->H->Prop,QP=λxe f' h'=>f'.d=[]/\ap f'.k [V.lp 0 0,V.lp 1 0,V.lp 2 0]=[V.lp 0 0,V.lp 1 0,V.lp 2 0]/\(match xe with
  | .pan v=>jL TE 118 [V.lp 0 0,V.lp 1 0,V.lp 2 0] v h' λh'' p=>su TE.P Tryz.f67.results.toList (λv h k=>Cc s (AEnd.ret v) h) (f'.drop p) h''
  | .ret=>jM TE 118 [V.lp 0 0,V.lp 1 0,V.lp 2 0] h' λh'' p=>su TE.P Tryz.f67.results.toList (λv h k=>Cc s (AEnd.ret v) h) (f'.drop p) h''
  |_=>False):=⟨_,rfl⟩
 refine bf (Q:=QP) (λxe f' h' hq=>by rw[eQP]at hq;exact hq) ?_;have hkd:∀ {k:Nat->Bool},(∀j,j<3->k j=ac)->ap k [V.lp 0 0,V.lp 1 0,V.lp 2 0]=[V.lp 0 0,V.lp 1 0,V.lp 2 0]:=λ{k} h=>by
  have z0:=h 0 (by decide);have z1:=h 1 (by decide);have z2:=h 2 (by decide);simp only[ap,V.drop,z0,z1,z2,if_false,zrm]
 obtain⟨hA,ehA⟩:∃hA:List Tk->H,hA=λL=>[am [.ls 3 3 0 (aa L) (aa L)],am [vi 0],am [vi 0],am (tkC L)]:=⟨_,rfl⟩;have hret:∀ {f':Fr} {L:List Tk} {X:H},tkN (aa s) 0 s=(L,aq)->f'.d=[]->(∀j,j<3->f'.k j=ac)->f'.t 4= .lp 0 0->f'.t 5= .lp 1 0->f'.t 6= .lp 2 0->QP .ret f' (hA L++X):=by intro f' L X hp hd hk t4 t5 t6;rw[eQP,ehA];refine⟨hd,hkd hk,?_⟩;refine PT λY=> ?_;unfold Cc;rw[hp];simp only[Tryz.results67,nts];simp only[wq.1,↓reduceIte,hd,t4,t5,t6];exact⟨_,_,rfl⟩
 have hpan:∀ {f':Fr} {L:List Tk} {X:H} {a:Nat},(tkN (aa s) 0 s).2=al a->f'.d=[]->(∀j,j<3->f'.k j=ac)->f'.t 4= .lp 0 0->f'.t 5= .lp 1 0->f'.t 6= .lp 2 0->QP (.pan (Yd a)) f' (hA L++X):=by intro f' L X a hp hd hk t4 t5 t6;rw[eQP,ehA];refine⟨hd,hkd hk,?_⟩;refine Sj (G:=am (tkC L)::X) a λY=> ?_;obtain⟨L2,o2⟩:∃L2 o2,tkN (aa s) 0 s=(L2,o2):=⟨_,_,rfl⟩;obtain⟨o2,hL2⟩:=o2;rw[hL2]at hp;dsimp only at hp;subst hp;unfold Cc;rw[hL2];simp only[Tryz.results67,nts];simp only[wq.1,↓reduceIte,hd,t4,t5,t6]
 refine ak (bU hmix _ _ _ _ ?_);simp only[wq.1,seval,hP];refine gI ?_;refine mF (h':=hA []) (by rw[ehA];exact HLe.set (i:=0) (o':=am [.ls 3 3 0 0 0]) rfl (OLe.cells (by simp) (dm.cons dV dm.nil))) ?_;refine aF (λmm f h'=>∃(a n:Nat)(L:List Tk)(X:H),mm+a=aa s/\a<=aa s/\aa s-a<=n/\aa L<=a/\tkN (aa s) 0 s=(L++(tkN n a (s.drop a)).1,(tkN n a (s.drop a)).2)/\f.t 0= .iface 126 (.agg [])/\f.t 1= .str s/\f.t 4= .lp 0 0/\f.t 5= .lp 1 0/\f.t 6= .lp 2 0/\f.t 7=vi a/\f.d=[]/\(∀j,j<3->f.k j=ac)/\h'=hA L++X) (aa s) ⟨0,aa s,[],[],rfl,by omega,by omega,by simp,rfl,by simp only[wq.1,seval],by simp only[wq.1,seval],by simp only[wq.1,seval],by simp only[wq.1,seval],by simp only[wq.1,seval],by simp only[wq.1,↓reduceIte];rfl,rfl,λj hj=>rfl,by rw[zqp]⟩ ?_;rintro mm f h' ⟨a,n,L,X,hmm,hal,hn,hLa,htk,t0,t1,t4,t5,t6,t7,hd,hk,rfl⟩;have hAl:aa (hA L)=4:=by rw[ehA];rfl
 refine fB (by rw[hd];simp) ?_;rw[show(hA L).map (O.drop (Abs.fK (aa (hA L))))=hA L by
  rw[hAl,ehA];simp only[zrd,List.map_nil,O.drop,zl];rfl]
 rw[hAl];have hdk:∀v:V,v.drop (Abs.fK 4)=v->v.drop (Abs.fK 4)=v:=λ_ h=>h;obtain⟨f',hf'⟩:∃f',f'=f.drop (Abs.fK 4):=⟨_,rfl⟩;have u0:f'.t 0= .iface 126 (.agg []):=by rw[hf'];show(f.t 0).drop _=_;rw[t0];rfl
 have u1:f'.t 1= .str s:=by rw[hf'];show(f.t 1).drop _=_;rw[t1];rfl
 have u4:f'.t 4= .lp 0 0:=by rw[hf'];show(f.t 4).drop _=_;rw[t4];rfl
 have u5:f'.t 5= .lp 1 0:=by rw[hf'];show(f.t 5).drop _=_;rw[t5];rfl
 have u6:f'.t 6= .lp 2 0:=by rw[hf'];show(f.t 6).drop _=_;rw[t6];rfl
 have u7:f'.t 7=vi a:=by rw[hf'];show(f.t 7).drop _=_;rw[t7];rfl
 have ud:f'.d=[]:=by rw[hf'];exact hd
 have uk:∀j,j<3->f'.k j=ac:=λj hj=>by rw[hf'];show(f.k j||Abs.fK 4 j)=ac;rw[hk j hj];simp[Abs.fK];omega
 rw[<-hf'];clear hf' hd hk t0 t1 t4 t5 t6 t7 X;refine ak (bU hmix _ _ _ _ ?_);simp only[wq.1,seval,hP,u1,u7];refine vcB.mk (λhlt=> ?_) (λhlt=> ?_)
 ·have hlt:a<aa s:=by have:=zqs hlt;omega
  obtain⟨c,r,hcr⟩:∃c r,s.drop a=c::r:=by
   cases hd:s.drop a with
   |nil=>have:=congrArg List.length hd;simp at this;omega
   |cons c r=>exact⟨c,r,rfl⟩
  obtain⟨n,rfl⟩:∃m,n=m+1:=⟨n-1,by omega⟩;have hcl:aa (c::r)=aa s-a:=by rw[<-hcr,List.length_drop]
  have dF:∀q,ap q (tkC L)=tkC L:=λq=>zl L;have hfl:=Xp L;rw[hcr,KZ]at htk;cases hst:zV a (c::r)with
  |none =>
   rw[hst]at htk;have htk2:(tkN (aa s) 0 s).2=al a:=by rw[htk]
   have hrb:=λ{h:H} {R:AEnd->H->(Nat->Bool)->Prop} (hR:∀X,R (.pan (Yd a)) (h++X) (λ_=>ac))=>Si s a c r hcr (by omega) hst hR;rw[ehA];refine aB ?_;refine ak (bU hmix _ _ _ _ ?_);simp only[wq.1,seval,hP,u0,u1,u7];refine bP rfl (t:=126) (v:= .agg []) (v':= .agg []) (g:=317) (by simp only[wq.1,seval]) (by simp only[wq.1,seval,dX,jo]) (by rw[hee];exact Hu) (by simp only[wq.1,hP]) ?_;simp only[wq.1,seval];refine hT (hrb λX=> ?_);simp only[wq.1,fO];simp only[XE.seq,XE.block];subst ehA;have hp':=λ{f':Fr} {X:H}=>hpan (f':=f') (L:=L) (X:=X) htk2;exact hp' (by simp only[wq.1,ud]) (λj hj=>by simp only[wq.1,uk j hj]) (by simp only[wq.1,seval,u4]) (by simp only[wq.1,seval,u5]) (by simp only[wq.1,seval,u6])
  |some om =>
  obtain⟨o,m⟩:=om;have hrd:=Vw s a c r hcr (by omega) hst;obtain⟨l1,l2⟩:=Q7 hst;rw[hst]at htk;dsimp only at htk;have hdd:(c::r).drop m=s.drop (a+m):=by rw[<-hcr,List.drop_drop]
  rw[hdd]at htk;have w1:aD .i64 ((a:Int)+m)=((a+m:Nat):Int):=by rw[iW (by omega) (by omega)];omega
  rw[ehA];refine aB ?_;refine ak (bU hmix _ _ _ _ ?_);simp only[wq.1,seval,hP,u0,u1,u7];refine bP rfl (t:=126) (v:= .agg []) (v':= .agg []) (g:=317) (by simp only[wq.1,seval]) (by simp only[wq.1,seval,dX,jo]) (by rw[hee];exact Hu) (by simp only[wq.1,hP]) ?_;simp only[wq.1,seval];refine hT (ag.ev hrd rfl ?_);cases o with
  |none=>simp only[wq.1,seval,hP];refine bU hmix _ _ _ _ ?_;simp only[wq.1,seval,hP,u7,w1];exact .inl ⟨mm-m,by omega,a+m,n,L,[am [vi (-1),.str [],vi 0]],by omega,by omega,by omega,by omega,htk,by simp only[wq.1,seval,u0],by simp only[wq.1,seval,u1],by simp only[wq.1,seval,u4],by simp only[wq.1,seval,u5],by simp only[wq.1,seval,u6],by simp only[wq.1,seval],by simp only[wq.1,Int.reduceNeg,ud],λj hj=>by simp only[wq.1,Int.reduceNeg,uk j hj],rfl⟩
  |some t =>
   simp only[wq.1,seval,hP];have hk0:ar ((0:Int)<=(t.k:Int))=ab:=by simp
   refine bU hmix _ _ _ _ ?_;simp only[wq.1,↓reduceIte,Nat.reduceEqDiff,Nat.reduceLT,Nat.reduceLeDiff,Nat.reduceAdd,Nat.reduceBEq,reduceCtorEq,Nat.reduceMul,hP,u4,u7,ud,w1,hk0,dF,hfl];refine⟨⟨rfl,by decide⟩,rfl,⟨rfl,by omega,by omega⟩,.inl ⟨mm-m,by omega,a+m,n,L++[t],[am (tkF t)],by omega,by omega,by omega,by simp;omega,by rw[htk];simp,by simp only[wq.1,↓reduceIte,Nat.reduceEqDiff,Nat.reduceLT,Nat.reduceLeDiff,Nat.reduceAdd,Nat.reduceSub,Int.reduceToNat,Nat.reduceDiv,Int.reduceLT,Int.reduceLE,Int.reduceNeg,Int.reduceBEq,Int.reduceBNe,Int.reduceAdd,Int.reduceSub,Nat.reduceBEq,reduceCtorEq,Nat.reduceMul,ay,Tryz.results67,u0],by simp only[wq.1,↓reduceIte,Nat.reduceEqDiff,Nat.reduceLT,Nat.reduceLeDiff,Nat.reduceAdd,Nat.reduceSub,Int.reduceToNat,Nat.reduceDiv,Int.reduceLT,Int.reduceLE,Int.reduceNeg,Int.reduceBEq,Int.reduceBNe,Int.reduceAdd,Int.reduceSub,Nat.reduceBEq,reduceCtorEq,Nat.reduceMul,ay,Tryz.results67,u1],by simp only[wq.1,↓reduceIte,Nat.reduceEqDiff,Nat.reduceLT,Nat.reduceLeDiff,Nat.reduceAdd,Nat.reduceSub,Int.reduceToNat,Nat.reduceDiv,Int.reduceLT,Int.reduceLE,Int.reduceNeg,Int.reduceBEq,Int.reduceBNe,Int.reduceAdd,Int.reduceSub,Nat.reduceBEq,reduceCtorEq,Nat.reduceMul,ay,Tryz.results67,u4],by simp only[wq.1,↓reduceIte,Nat.reduceEqDiff,Nat.reduceLT,Nat.reduceLeDiff,Nat.reduceAdd,Nat.reduceSub,Int.reduceToNat,Nat.reduceDiv,Int.reduceLT,Int.reduceLE,Int.reduceNeg,Int.reduceBEq,Int.reduceBNe,Int.reduceAdd,Int.reduceSub,Nat.reduceBEq,reduceCtorEq,Nat.reduceMul,ay,Tryz.results67,u5],by simp only[wq.1,↓reduceIte,Nat.reduceEqDiff,Nat.reduceLT,Nat.reduceLeDiff,Nat.reduceAdd,Nat.reduceSub,Int.reduceToNat,Nat.reduceDiv,Int.reduceLT,Int.reduceLE,Int.reduceNeg,Int.reduceBEq,Int.reduceBNe,Int.reduceAdd,Int.reduceSub,Nat.reduceBEq,reduceCtorEq,Nat.reduceMul,ay,Tryz.results67,u6],by simp only[wq.1,↓reduceIte,Nat.reduceEqDiff,Nat.reduceLT,Nat.reduceLeDiff,Nat.reduceAdd,Nat.reduceSub,Int.reduceToNat,Nat.reduceDiv,Int.reduceLT,Int.reduceLE,Int.reduceNeg,Int.reduceBEq,Int.reduceBNe,Int.reduceAdd,Int.reduceSub,Nat.reduceBEq,reduceCtorEq,Nat.reduceMul,ay,Tryz.results67],by simp only[wq.1,↓reduceIte,Nat.reduceEqDiff,Nat.reduceLT,Nat.reduceLeDiff,Nat.reduceAdd,Nat.reduceSub,Int.reduceToNat,Nat.reduceDiv,Int.reduceLT,Int.reduceLE,Int.reduceNeg,Int.reduceBEq,Int.reduceBNe,Int.reduceAdd,Int.reduceSub,Nat.reduceBEq,reduceCtorEq,Nat.reduceMul,ay,Tryz.results67,ud],λj hj=> ?_,?_⟩⟩
   ·simp only[wq.1,uk j hj];simp;omega
   ·rw[Xo,zqa,zrk];rfl
 ·have hea:a=aa s:=by have:=of_decide_eq_false hlt;omega
  subst hea;rw[List.drop_length]at htk;have he:tkN (aa s) 0 s=(L,aq):=by
   rw[htk];cases n<;>simp[tkN]
  subst ehA;refine bU hmix _ _ _ _ ?_;simp only[wq.1,seval,hP,u4,u5,u6];exact hret (X:=[]) he (by simp only[wq.1,ud]) (λj hj=>by simp only[wq.1,uk j hj]) (by simp only[wq.1,seval,u4]) (by simp only[wq.1,seval,u5]) (by simp only[wq.1,seval,u6])
def Sr(s:S):V:=match tkN (aa s) 0 s with
 |(L,aq)=> .tup [sU L,vi 0,vi 0]
 |(_,al a)=> .tup [.nils,vi a,vi 2]
theorem Vx[MO](s:S)(hs:aa s<=1000000):Ev TE 28 [.str s] (Sr s):=by
 have hM:=mLx;refine ai Tryz.func28 rfl (by simp[nts]) ?_;have hall:=Jr s hs;refine vn ?_;simp only[wq.1,Nat.reduceLT,Tryz.results28];refine vn ?_;simp only[wq.1,seval];refine⟨by simp,hall.mono ?_⟩;rintro ae h' p hR;unfold Cc at hR;unfold Sr;obtain⟨L,o⟩:∃L o,tkN (aa s) 0 s=(L,o):=⟨_,_,rfl⟩;obtain⟨o,hL⟩:=o;rw[hL]at hR ⊢;cases o with
 |none=>dsimp only at hR ⊢;obtain⟨rfl,x0,X,rfl⟩:=hR;simp only[wq.1,seval,bC];refine vm ?_;simp only[wq.1,seval];exact aC.tup (au.cons (PS rfl rfl) (au.cons (aC.dat rfl) (au.cons (aC.dat rfl) au.nil)))
 |some a=>dsimp only at hR ⊢;subst hR;simp only[wq.1,seval,bC];refine vm ?_;simp only[wq.1,seval];exact aC.dat rfl
abbrev wQ(a e:Int):V:= .iface 58 (.agg [vi a,vi e])
theorem gz[MO](b:Bool)(a e:Int){h:H}{R:AEnd->H->(Nat->Bool)->Prop}(hok:b=ab->R (.ret (.tup [])) h (λ_=>ac))(hbad:b=ac->R (.pan (wQ a e)) h (λ_=>ac)):ag TE 29 [.bool b,vi a,vi e] h R:=by
 cases b with
 |true=>refine aj Tryz.func29 rfl (by simp[nts]) (vm ?_);simp only[wq.1,seval,Tryz.results29];exact hok rfl
 |false=>refine aj Tryz.func29 rfl (by simp[nts]) (vm ?_);simp only[wq.1,seval,Tryz.results29];exact⟨by simp,hbad rfl⟩
theorem NI[MO](c:UInt8)(k:Nat)(t:Tk){h:H}(hk:h[k]? =al (am [.str [c]])){R:AEnd->H->(Nat->Bool)->Prop}(hr:∀X,R (.ret (.bool (isM c t))) (h++X) (λ_=>ac)):ag TE 248 [t.v,.lp k 0] h R:=by
 have hgE:∀x:O,(h++[x])[aa h]? =al x:=λx=>by simp
 have hk':∀x:O,(h++[x])[k]? =al (am [.str [c]]):=λx=>by rw[zqj (zqe hk).1];exact hk
 have e1:((t.k:Int)==1)=(t.k==1):=by rw[Bool.eq_iff_iff,beq_iff_eq,beq_iff_eq];omega
 unfold isM at hr;refine aj Tryz.func248 rfl (by simp[nts]) (vm ?_);cases hk1:(t.k==1)with
 |false=>rw[hk1]at hr;simp only[wq.1,seval,Tryz.results248,hgE,hk',e1,hk1];exact hr _
 |true=>rw[hk1]at hr;simp only[wq.1,seval,Tryz.results248,hgE,hk',e1,hk1];exact hr _
theorem Js[MO](t:Tk){h:H}{R:AEnd->H->(Nat->Bool)->Prop}(hr:∀X,R (.ret (.bool (ar (t.k=0)))) (h++X) (λ_=>ac)):ag TE 186 [t.v] h R:=by
 have hgE:∀x:O,(h++[x])[aa h]? =al x:=λx=>by simp
 have e1:((t.k:Int)==0)=ar (t.k=0):=by rw[Bool.eq_iff_iff,beq_iff_eq,zqb];omega
 refine aj Tryz.func186 rfl (by simp[nts]) (vm ?_);simp only[wq.1,seval,Tryz.results186,hgE,e1];exact hr _
abbrev tk0:Tk:=⟨0,[],0⟩
def Ij(q:Tk->Bool):List Tk->Bool×Tk×List Tk
 |[]=>(ac,tk0,[])
 |t::r=>if q t=ab then(ab,t,r)else(ac,tk0,t::r)
def Su:Plan:=tkZ [0,1,3,4]<| .one 2<| .one 5<| .take 6<| .take 7<| .fin
theorem Ce[MO](l:List Tk)(hl:aa l<=1000000)(g:FuncId)(caps:List V)(q:Tk->Bool)(he:ah P g=ab){G:H->Prop}(hG:∀h X,G h->G (h++X))(hq:∀t h (R:AEnd->H->(Nat->Bool)->Prop),G h->(∀X,R (.ret (.bool (q t))) (h++X) (λ_=>ac))->ag TE g (Tk.v t::caps) h R){h:H}(hh:G h){R:AEnd->H->(Nat->Bool)->Prop}
 (hr:∀X,R (.ret (.tup [(Ij q l).2.1.v,sU (Ij q l).2.2,.bool (Ij q l).1])) (h++X) (λ_=>ac)):ag TE 185 [sU l,.fn (.func g) [] caps] h R:=by
 have hM:=mLx;obtain⟨B,hB⟩:∃B,B=aa h:=⟨_,rfl⟩;have hgE:∀(x:O) X,(h++(x::X))[B]? =al x:=λx X=>by rw[hB];simp
 have hgS:∀(x y:O) X,(h++(x::X)).set B y=h++(y::X):=λx y X=>by rw[hB];simp
 have hgE1:∀(x x1:O) X,(h++(x::x1::X))[B+1]? =al x1:=λx x1 X=>by rw[hB];simp
 have hap:∀(x:O) X,h++[x]++X=h++(x::X):=λx X=>by simp
 have hlen:∀X:H,aa (h++X)=B+aa X:=λX=>by rw[hB];simp
 cases l with
 |nil=>have e0:(((0:Nat):Int)==0)=ab:=rfl;refine aj Tryz.func185 rfl (by simp[nts]) (vm ?_);simp only[wq.1,seval,Tryz.results185,<-hB,hap,e0];refine⟨.bool ab,?_⟩;simp only[wq.1,seval,hgE,hgS,hgE1];exact hr _
 |cons t r =>
  have e0:(((aa r+1:Nat):Int)==0)=ac:=by rw[beq_eq_false_iff_ne];omega
  refine aj Tryz.func185 rfl (by simp[nts]) ?_;refine vn ?_;simp only[wq.1,Nat.reduceLT,Tryz.results185,<-hB];refine vn ?_;simp only[wq.1,Nat.reduceLT,hap];refine vn ?_;simp only[wq.1,seval,e0,he];refine⟨by omega,hq t _ _ (hG _ _ hh) λX=> ?_⟩;have hB1:aa h+1=B+1:=by rw[hB]
  have hap2:∀(x y:O),h++[x,y]++X=h++(x::y::X):=λx y=>by simp
  cases hqt:q t with
  |true =>
   rw[show Ij q (t::r)=(ab,t,r)from if_pos hqt]at hr;simp only[wq.1,seval,hap2];show awp _ _ _ _ _ _ _;refine ak (dJ mixed Su (λf' h'=>f'.t 4= .lp B 0/\f'.t 5=sU r/\f'.t 6= .bool ab/\f'.d=[]/\f'.k=(λ_=>ac)/\∃X,h'=h++am [vi t.k,.str t.t,vi t.at']::X) (by rw[TEP];decide +kernel) (by decide +kernel) ?_ ?_)
   ·simp only[wq.1,seval,Su,hgE,hgS];exact⟨by omega,by omega,_,rfl⟩
   ·rintro f' h' ⟨t4,t5,t6,hd,hk,X,rfl⟩;show awp _ _ _ _ _ _ _;refine vm ?_;simp only[wq.1,seval,t4,t5,t6,hd,hk,hgE];exact hr _
  |false=>rw[show Ij q (t::r)=(ac,tk0,t::r)from if_neg (by rw[hqt];decide)]at hr;simp only[wq.1,seval,hgE,hgS,hgE1,hB1,hap2];exact hr _
structure PW(c0 c1 c2 c3:V)(e:Nat)(h0:H)(l:List Tk)(h:H):Prop where
 p:h[3]? =al (am [c0,c1,c2,c3,sU l,vi e])
 k:∀j cs,j<aa h0->j≠3->h0[j]? =al (am cs)->aL cs=ab->h[j]? =al (am cs)
 lt:aa h0<=aa h
 l3:3<aa h0
 d:∀K,aa h0<=K->c0.drop (λj=>j==K)=c0/\c1.drop (λj=>j==K)=c1/\c2.drop (λj=>j==K)=c2/\c3.drop (λj=>j==K)=c3
theorem PW.app{c0 c1 c2 c3:V}{e:Nat}{h0:H}{l:List Tk}{h:H}(k:PW c0 c1 c2 c3 e h0 l h)(X:H):PW c0 c1 c2 c3 e h0 l (h++X):=by
 refine⟨?_,λj cs hj h3 hc hd=> ?_,?_,k.l3,k.d⟩
 ·rw[zqj (zqe k.p).1];exact k.p
 ·have:=k.lt;rw[zqj (by omega)];exact k.k j cs hj h3 hc hd
 ·have:=k.lt;rw[zqa];omega
theorem PW.set{c0 c1 c2 c3:V}{e:Nat}{h0:H}{l:List Tk}{h:H}(k:PW c0 c1 c2 c3 e h0 l h)(l':List Tk):PW c0 c1 c2 c3 e h0 l' (h.set 3 (am [c0,c1,c2,c3,sU l',vi e])):=by
 refine⟨?_,λj cs hj h3 hc hd=> ?_,?_,k.l3,k.d⟩
 ·rw[zqt (zqe k.p).1]
 ·rw[zqn (Ne.symm h3)];exact k.k j cs hj h3 hc hd
 ·rw[zrn];exact k.lt
theorem PW.other{c0 c1 c2 c3:V}{e:Nat}{h0:H}{l:List Tk}{h:H}(k:PW c0 c1 c2 c3 e h0 l h){B:Nat}(o:O)(hB:aa h0<=B):PW c0 c1 c2 c3 e h0 l (h.set B o):=by
 have:=k.l3;refine⟨?_,λj cs hj hj3 hc hd=> ?_,?_,k.l3,k.d⟩
 ·rw[zqn (by omega)];exact k.p
 ·rw[zqn (by omega)];exact k.k j cs hj hj3 hc hd
 ·rw[zrn];exact k.lt
theorem PW.cellsD{c0 c1 c2 c3:V}{e:Nat}{h0:H}{l:List Tk}{h:H}(k:PW c0 c1 c2 c3 e h0 l h){K:Nat}(hK:aa h0<=K):ap (λj=>j==K) [c0,c1,c2,c3,sU l,vi e]=[c0,c1,c2,c3,sU l,vi e]:=by obtain⟨d0,d1,d2,d3⟩:=k.d K hK;show V.drop _ c0::V.drop _ c1::V.drop _ c2::V.drop _ c3::V.drop _ (sU l)::V.drop _ (vi e)::[]=_;rw[d0,d1,d2,d3];rfl
theorem PW.drop{c0 c1 c2 c3:V}{e:Nat}{h0:H}{l:List Tk}{h:H}(k:PW c0 c1 c2 c3 e h0 l h){K:Nat}(hK:aa h0<=K):PW c0 c1 c2 c3 e h0 l (h.map (O.drop λj=>j==K)):=by
 refine⟨?_,λj cs hj hj3 hc hd=> ?_,?_,k.l3,k.d⟩
 ·rw[zqo,k.p,zrw];show al (am (ap _ _))=_;rw[k.cellsD hK]
 ·rw[zqo,k.k j cs hj hj3 hc hd,zrw];show al (am (ap _ cs))=_;rw[iT.dats_drops _ hd]
 ·rw[zra];exact k.lt
theorem PW.dropD{c0 c1 c2 c3:V}{e:Nat}{h0:H}{l:List Tk}{h:H}(k:PW c0 c1 c2 c3 e h0 l h){K:Nat}(hK:aa h0<=K):PW c0 c1 c2 c3 e h0 l (jv (λj=>j==K) 0 h):=by
 have l3:=k.l3;have ne:∀ {j:Nat},j<aa h0->(j==K)=ac:=λhj=>by rw[beq_eq_false_iff_ne];omega
 refine⟨?_,λj cs hj hj3 hc hd=> ?_,?_,k.l3,k.d⟩
 ·rw[gZ,k.p,zrw];simp only[Nat.zero_add,ne l3,zrm,if_false];show al (am (ap _ _))=_;rw[k.cellsD hK]
 ·rw[gZ,k.k j cs hj hj3 hc hd,zrw];simp only[Nat.zero_add,ne hj,zrm,if_false];show al (am (ap _ cs))=_;rw[iT.dats_drops _ hd]
 ·have:∀ {p:Nat->Bool} {h:H} {k:Nat},aa (jv p k h)=aa h:=λ{p h}=>by
   induction h with
   |nil=>intro k;rfl
   |cons o h ih=>intro k;rw[jv,zrt,zrt,ih]
  rw[this];exact k.lt
theorem PW.self{c0 c1 c2 c3:V}{e:Nat}{h0:H}{l:List Tk}{h:H}(k:PW c0 c1 c2 c3 e h0 l h):PW c0 c1 c2 c3 e h l h :=
 ⟨k.p,λ_ _ _ _ hc _=>hc,zrb _,by have:=k.l3;have:=k.lt;omega,λK hK=>k.d K (by have:=k.lt;omega)⟩
theorem PW.trans{c0 c1 c2 c3:V}{e:Nat}{h0:H}{l l':List Tk}{h h':H}(k:PW c0 c1 c2 c3 e h0 l h)(k':PW c0 c1 c2 c3 e h l' h'):PW c0 c1 c2 c3 e h0 l' h' :=
 ⟨k'.p,λj cs hj h3 hc hd=>k'.k j cs (by have:=k.lt;omega) h3 (k.k j cs hj h3 hc hd) hd,Nat.le_trans k.lt k'.lt,k.l3,k.d⟩
theorem Lu[MO]{c0 c1 c2 c3:V}{e:Nat}{l:List Tk}{h:H}(k:h[3]? =al (am [c0,c1,c2,c3,sU l,vi e])){R:AEnd->H->(Nat->Bool)->Prop}(hr:R (.ret (vi (atN e l))) h (λ_=>ac)):ag TE 183 [.lp 3 0] h R:=by
 have e00:(((0:Nat):Int)==0)=ab:=rfl;cases l with
 |nil=>refine aj Tryz.func183 rfl (by simp[nts]) (vm ?_);simp only[wq.1,seval,Tryz.results183,k,e00];exact hr
 |cons t r =>
  have e0:(((aa r+1:Nat):Int)==0)=ac:=by rw[beq_eq_false_iff_ne];omega
  refine aj Tryz.func183 rfl (by simp[nts]) (vm ?_);simp only[wq.1,seval,Tryz.results183,k,e0];exact⟨by omega,hr⟩
theorem Af[MO]{c0 c1 c2 c3:V}{e:Nat}{h0:H}{l:List Tk}{h:H}(k:PW c0 c1 c2 c3 e h0 l h)(hl:aa l<=1000000)(c:UInt8){R:AEnd->H->(Nat->Bool)->Prop}(hr:∀h',PW c0 c1 c2 c3 e h0 (qp c l).2 h'->R (.ret (.bool (qp c l).1)) h' (λ_=>ac)):ag TE 184 [.lp 3 0,.str [c]] h R:=by
 have kp:∀X,(h++X)[3]? =al (am [c0,c1,c2,c3,sU l,vi e]):=λX=>(k.app X).p;have hT:qp c l=((Ij (isM c) l).1,(Ij (isM c) l).2.2):=by
  cases l with
  |nil=>rfl
  |cons t r =>
   by_cases hb:isM c t=ab
   ·rw[show qp c (t::r)=(ab,r)from if_pos hb,show Ij (isM c) (t::r)=(ab,t,r)from if_pos hb]
   ·rw[show qp c (t::r)=(ac,t::r)from if_neg hb,show Ij (isM c) (t::r)=(ac,tk0,t::r)from if_neg hb]
 rw[hT]at hr;obtain⟨B,hB⟩:∃B,B=aa h:=⟨_,rfl⟩;have hgE:∀(x:O) X,(h++(x::X))[B]? =al x:=λx X=>by rw[hB];simp
 have hap:∀(x:O) X,h++[x]++X=h++(x::X):=λx X=>by simp
 refine aj Tryz.func184 rfl (by simp[nts]) ?_;refine vn ?_;simp only[wq.1,Nat.reduceLT,Tryz.results184,<-hB];refine vn ?_;simp only[wq.1,seval,kp];refine Ce l hl 248 [.lp B 0] (isM c) (by simp[ens]) (G:=λh=>h[B]? =al (am [.str [c]])) (λh X hh=>by rw[zqj (zqe hh).1];exact hh) (λt h R hh hr=>NI c B t hh hr) (hgE _ []) λX=> ?_;obtain⟨Q,eQ⟩:∃Q,Q=Ij (isM c) l:=⟨_,rfl⟩;rw[<-eQ]at hr ⊢;generalize hh1:h++[am [V.str [c]]]++X=h1;have k1:PW c0 c1 c2 c3 e h0 l h1:=by rw[<-hh1];exact(k.app _).app _
 have g1:∀x:O,(h1++[x])[aa h1]? =al x:=λx=>by simp
 have s1:∀x y:O,(h1++[x]).set (aa h1) y=h1++[y]:=λx y=>by simp
 have kp1:∀X,(h1++X)[3]? =al (am [c0,c1,c2,c3,sU l,vi e]):=λX=>(k1.app X).p;simp only[wq.1,seval,g1,s1];refine vn ?_;simp only[wq.1,seval,kp1];refine vm ?_;simp only[wq.1,seval];exact hr _ ((k1.app _).set _)
theorem nP[MO]{c0 c1 c2 c3:V}{e:Nat}{h0:H}{l:List Tk}{h:H}(k:PW c0 c1 c2 c3 e h0 l h)(hl:aa l<=1000000)(c:UInt8){R:AEnd->H->(Nat->Bool)->Prop}(hok:∀l' h',qx e c l= .ok l'->PW c0 c1 c2 c3 e h0 l' h'->R (.ret (.tup [])) h' (λ_=>ac))(hbad:∀x l' h',qx e c l= .error x->PW c0 c1 c2 c3 e h0 l' h'->R (.pan (wQ x.1 x.2)) h' (λ_=>ac)):ag TE 119 [.lp 3 0,.str [c]] h R:=by
 refine aj Tryz.func119 rfl (by simp[nts]) ?_;refine vn ?_;simp only[wq.1,seval,Tryz.results119];refine Lu k.p ?_;simp only[wq.1,seval];refine vm ?_;simp only[wq.1,seval];refine Af k hl c λh' k'=> ?_;unfold qx at hok hbad;simp only[wq.1,seval];refine gz _ _ _ (λhb=> ?_) (λhb=> ?_)
 ·simp only[wq.1];exact hok _ _ (if_pos hb) k'
 ·simp only[wq.1,fO];exact hbad _ _ _ (if_neg (by rw[hb];decide)) k'
theorem Cf[MO]{c0 c1 c2 c3:V}{e:Nat}{h0:H}{l:List Tk}{h:H}(k:PW c0 c1 c2 c3 e h0 l h)(hl:aa l<=1000000){R:AEnd->H->(Nat->Bool)->Prop}(hok:∀t l' h',xR e l= .ok (t,l')->PW c0 c1 c2 c3 e h0 l' h'->R (.ret t.v) h' (λ_=>ac))(hbad:∀x l' h',xR e l= .error x->PW c0 c1 c2 c3 e h0 l' h'->R (.pan (wQ x.1 x.2)) h' (λ_=>ac)):ag TE 121 [.lp 3 0] h R:=by
 have kp:∀X,(h++X)[3]? =al (am [c0,c1,c2,c3,sU l,vi e]):=λX=>(k.app X).p;have hW:xR e l=if(Ij (λt=>ar (t.k=0)) l).1=ab then .ok ((Ij (λt=>ar (t.k=0)) l).2.1,(Ij (λt=>ar (t.k=0)) l).2.2)else .error (atN e l,2):=by
  cases l with
  |nil=>rfl
  |cons t r =>
   by_cases hb:t.k=0
   ·rw[show Ij (λt=>ar (t.k=0)) (t::r)=(ab,t,r)from if_pos (decide_eq_true hb),if_pos rfl];exact if_pos hb
   ·rw[show Ij (λt=>ar (t.k=0)) (t::r)=(ac,tk0,t::r)from if_neg (by simpa using hb),if_neg (show ¬(ac=ab) by decide)];exact if_neg hb
 rw[hW]at hok hbad;obtain⟨Q,eQ⟩:∃Q,Q=Ij (λt=>ar (t.k=0)) l:=⟨_,rfl⟩;rw[<-eQ]at hok hbad;clear hW;obtain⟨B,hB⟩:∃B,B=aa h:=⟨_,rfl⟩;have hp:=k.p;refine aj Tryz.func121 rfl (by simp[nts]) ?_;refine vn ?_;simp only[wq.1,Nat.reduceLT,Tryz.results121,<-hB];refine vn ?_;simp only[wq.1,seval];refine Lu (kp _) ?_;simp only[wq.1,seval];refine vn ?_;simp only[wq.1,seval,kp];refine Ce l hl 186 [] (λt=>ar (t.k=0)) (by simp[ens]) (G:=λ_=>True) (λ_ _ _=>trivial) (λt h R hh hr=>Js t hr) trivial λX=> ?_;rw[<-eQ];have k1:PW c0 c1 c2 c3 e h0 l (h++[am [vi 0,V.str [],vi 0]]++X):=(k.app _).app _;have b1:(h++[am [vi 0,V.str [],vi 0]]++X)[B]? =al (am [vi 0,V.str [],vi 0]):=by rw[hB];simp
 obtain⟨h1,hh1⟩:∃h1,h1=h++[am [vi 0,V.str [],vi 0]]++X:=⟨_,rfl⟩;rw[<-hh1]at k1 b1;have hX:h++[am [vi 0,V.str [],vi 0]]++X=h1:=hh1.symm;rw[show h++[am [V.int IntKind.i64 0,V.str [],V.int IntKind.i64 0]]++X=h1 from hX];have g1:∀x:O,(h1++[x])[aa h1]? =al x:=λx=>by simp
 have s1:∀x y:O,(h1++[x]).set (aa h1) y=h1++[y]:=λx y=>by simp
 have kp1:∀X,(h1++X)[3]? =al (am [c0,c1,c2,c3,sU l,vi e]):=λX=>(k1.app X).p;simp only[wq.1,seval,g1,s1];refine vn ?_;simp only[wq.1,seval];refine gz _ _ _ (λhb=> ?_) (λhb=> ?_)
 ·obtain⟨q,r,eqr⟩:∃q r,Q.2=(q,r):=⟨_,_,rfl⟩;have hq1:Q.2.1=q:=by rw[eqr]
  have hq2:Q.2.2=r:=by rw[eqr]
  rw[hq1,hq2]at hok ⊢;simp only[wq.1];refine vn ?_;simp only[wq.1,seval,kp1];have k2:=(k1.app [am [vi q.k,.str q.t,vi q.at']]).set r;have hB1:B<aa h1:=(zqe b1).1;have hB3:3<B:=by rw[hB];exact(zqe k.p).1
  have g2:∀x y:O,((h1++[x]).set 3 y)[aa h1]? =al x:=λx y=>by rw[zqn (by omega)];exact g1 x
  have g3:∀x y:O,((h1++[x]).set 3 y)[B]? =al (am [vi 0,.str [],vi 0]):=λx y=>by rw[zqn (by omega),zqj hB1];exact b1
  have hlB:B<aa (((h1++[am [vi q.k,.str q.t,vi q.at']]).set 3 (am [c0,c1,c2,c3,sU r,vi e]))):=by simp;omega
  have g4:∀x y z:O,(((h1++[x]).set 3 y).set B z)[B]? =al z:=λx y z=>zqt (by simp;omega);refine vm ?_;simp only[wq.1,seval,g2,g3,g4];refine hok q r _ ?_ (k2.other _ (by rw[hB];exact k.lt));rw[if_pos hb]
 ·simp only[wq.1,fO];simp only[XE.seq];exact cZ (R:=R) rfl (hbad _ _ _ (if_neg (by rw[hb];decide)) (k1.app _))
def tY(l:List Tk):Prop:=aa l<=1000000/\∀t∈l,aa t.t<=1000000
theorem tY.tail{t:Tk}{r:List Tk}(h:tY (t::r)):tY r:=⟨by have:=h.1;simp only[zrt]at this;omega,λx hx=>h.2 x (by simp[hx])⟩
theorem wR{c:UInt8}{l:List Tk}(h:tY l):tY (qp c l).2/\(qp c l).2.length<=aa l/\((qp c l).1=ab->(qp c l).2.length<aa l)/\((qp c l).1=ac->(qp c l).2=l):=by
 cases l with
 |nil=>exact⟨h,zrb _,λh=>(by cases h),λ_=>rfl⟩
 |cons t r =>
  by_cases hb:isM c t=ab
  ·rw[show qp c (t::r)=(ab,r)from if_pos hb];exact⟨h.tail,by simp,λ_=>(by simp),λh=>(by cases h)⟩
  ·rw[show qp c (t::r)=(ac,t::r)from if_neg hb];exact⟨h,zrb _,λh=>(by cases h),λ_=>rfl⟩
theorem l9{e:Nat}{c:UInt8}{l l':List Tk}(h:tY l)(hm:qx e c l= .ok l'):tY l'/\aa l'<aa l:=by
 unfold qx at hm;split at hm
 ·rename_i hb;injection hm with hm;subst hm;exact⟨(wR h).1,(wR h).2.2.1 hb⟩
 ·cases hm
theorem vC{e:Nat}{l l':List Tk}{t:Tk}(h:tY l)(hm:xR e l= .ok (t,l')):tY l'/\aa l'<aa l/\t∈l/\t.k=0:=by
 cases l with
 |nil=>cases hm
 |cons u r =>
  simp only[xR]at hm;split at hm
  ·rename_i hb;injection hm with hm;injection hm with h1 h2;subst h1 h2;exact⟨h.tail,by simp,by simp,hb⟩
  ·cases hm
theorem mf{e:Nat}{l l':List Tk}{s:S}(h:tY l)(hm:tH e l= .ok (s,l')):tY l'/\aa l'<aa l:=by
 unfold tH at hm;cases hw:xR e l with
 |error x=>rw[hw]at hm;cases hm
 |ok p =>
  obtain⟨t,r⟩:=p;rw[hw]at hm;dsimp only at hm;split at hm
  ·injection hm with hm;injection hm with h1 h2;subst h1 h2;exact⟨(vC h hw).1,(vC h hw).2.1⟩
  ·cases hm
theorem oL[MO]{c0 c1 c2 c3:V}{e:Nat}{h0:H}{l:List Tk}{h:H}(k:PW c0 c1 c2 c3 e h0 l h)(hl:tY l){R:AEnd->H->(Nat->Bool)->Prop}(hok:∀s l' h',tH e l= .ok (s,l')->PW c0 c1 c2 c3 e h0 l' h'->R (.ret (.str s)) h' (λ_=>ac))(hbad:∀x l' h',tH e l= .error x->PW c0 c1 c2 c3 e h0 l' h'->R (.pan (wQ x.1 x.2)) h' (λ_=>ac)):ag TE 120 [.lp 3 0] h R:=by
 unfold tH at hok hbad;refine aj Tryz.func120 rfl (by simp[nts]) ?_;refine vn ?_;simp only[wq.1,seval,Tryz.results120];refine vn ?_;simp only[wq.1,seval];refine Cf k hl.1 (λt l' h' hw k'=> ?_) (λx l' h' hw k'=> ?_)
 ·rw[hw]at hok hbad;dsimp only at hok hbad;obtain⟨w1,w2,w3,w4⟩:=vC hl hw;have hW:=Lt t (hl.2 t w3);rw[show Cb t=wH t.t from if_pos w4]at hW;obtain⟨B,hB⟩:∃B,B=aa h':=⟨_,rfl⟩;have hgE:∀x:O,(h'++[x])[B]? =al x:=λx=>by rw[hB];simp
  have hgS:∀x y:O,(h'++[x]).set B y=h'++[y]:=λx y=>by rw[hB];simp
  simp only[wq.1,seval,<-hB,hgE,hgS];refine vn ?_;simp only[wq.1,seval,hgE];refine ag.ev hW rfl ?_;simp only[wq.1,seval];refine vn ?_;simp only[wq.1,seval,hgE];refine gz _ _ _ (λhb=> ?_) (λhb=> ?_)
  ·have hb:(wH t.t).2=0:=by simpa using hb
   rw[if_pos hb]at hok;simp only[wq.1];refine vm ?_;simp only[wq.1,seval];exact hok _ _ _ rfl (k'.app _)
  ·have hb:¬(wH t.t).2=0:=by simpa using hb
   rw[if_neg hb]at hbad;simp only[wq.1,fO];simp only[XE.seq];exact cZ (R:=R) rfl (hbad _ _ _ rfl (k'.app _))
 ·rw[hw]at hbad;simp only[wq.1,fO];simp only[XE.seq];exact cZ (R:=R) rfl (hbad _ _ _ rfl k')
theorem LC{e:Nat}:∀ {f:Nat} {acc:List S} {l l':List Tk} {ns:List S},tY l->AY e f acc l= .ok (ns,l')->tY l'/\aa l'<=aa l/\aa ns<=aa acc+aa l
 |0,acc,l,l',ns,h,hm=>by cases hm
 |f+1,acc,l,l',ns,h,hm=>by
  unfold AY at hm;obtain⟨t1,t2,t3,t4⟩:=wR (c:=44) h;split at hm
  ·cases hn:tH e (qp 44 l).2 with
   |error x=>rw[hn]at hm;cases hm
   |ok p=>obtain⟨s,r⟩:=p;rw[hn]at hm;dsimp only at hm;obtain⟨n1,n2⟩:=mf t1 hn;obtain⟨m1,m2,m3⟩:=LC n1 hm;refine⟨m1,by omega,?_⟩;simp only[zqa,zrk]at m3;omega
  ·cases hn:qx e 41 l with
   |error x=>rw[hn]at hm;cases hm
   |ok r=>rw[hn]at hm;dsimp only at hm;injection hm with hm;injection hm with h1 h2;subst h1 h2;obtain⟨n1,n2⟩:=l9 h hn;exact⟨n1,by omega,by omega⟩
theorem Hw[MO]{c0 c1 c2 c3:V}{e:Nat}{l:List Tk}{h:H}(k:PW c0 c1 c2 c3 e h l h)(hl:tY l){R:AEnd->H->(Nat->Bool)->Prop}(hok:∀ns l' h',oW e l= .ok (ns,l')->PW c0 c1 c2 c3 e h l' h'->R (.ret (aJ ns)) h' (λ_=>ac))(hbad:∀x l' h',oW e l= .error x->PW c0 c1 c2 c3 e h l' h'->R (.pan (wQ x.1 x.2)) h' (λ_=>ac)):ag TE 122 [.lp 3 0] h R:=by
 have hM:=mLx;unfold oW at hok hbad;refine ag.fresh ?_;refine aj Tryz.func122 rfl (by simp[nts]) ?_;refine vn ?_;simp only[wq.1,Nat.reduceLT,Tryz.results122];refine vn ?_;simp only[wq.1,Nat.reduceLT];refine vn ?_;simp only[wq.1,seval];refine nP k hl.1 40 (λl1 h1 hm k1=> ?_) (λx l1 h1 hm k1=> ?_)
 rotate_left
 ·rw[hm]at hbad;simp only[wq.1,fO];simp only[XE.seq];exact cZ (R:=λae h' p=>(∀i,i<aa h->p i=ac)/\R ae h' λ_=>ac) rfl ⟨λ_ _=>rfl,hbad _ _ _ rfl k1⟩
 rw[hm]at hok hbad;dsimp only at hok hbad;obtain⟨o1,o2⟩:=l9 hl hm;simp only[wq.1];refine ak ?_;refine vn ?_;simp only[wq.1,seval];refine Af k1 o1.1 41 λh2 k2=> ?_;obtain⟨p1,p2,p3,p4⟩:=wR (c:=41) o1;simp only[wq.1];refine bH (b:=(qp 41 l1).1) (by simp only[wq.1,↓reduceIte]) (by simp only[wq.1,↓reduceIte]) (λhb=> ?_) (λhb=> ?_)
 ·rw[if_pos hb]at hok;refine vn ?_;simp only[wq.1,Nat.reduceLT];refine JO (FLe.one 2 (v:=aJ []) (by simp only[wq.1,↓reduceIte];exact dG)) (HLe.refl _) ?_;refine vm ?_;simp only[wq.1,↓reduceIte];exact hok _ _ _ rfl k2
 rw[if_neg (by rw[hb];decide)]at hok hbad;rw[p4 hb]at k2;refine vm ?_;simp only[wq.1];show awp _ _ _ _ _ _ _;refine iF 3 1 (by simp only[wq.1,seval]) ?_;obtain⟨K,eK⟩:∃K,K=aa h2:=⟨_,rfl⟩;have k3:=k2.app [am []];have hK0:aa h<=K:=by rw[eK];exact k2.lt
 have hKc:(h2++[am []])[K]? =al (am []):=by rw[eK];simp
 rw[<-eK];obtain⟨h3,eh3⟩:∃h3,h3=h2++[am []]:=⟨_,rfl⟩;rw[<-eh3]at k3 hKc ⊢;refine vn ?_;simp only[wq.1,seval];refine oL k3.self o1 (λs l4 h4 hn k4'=> ?_) (λx l4 h4 hn k4'=> ?_)
 rotate_left
 ·have k4:=k3.trans k4';rw[hn]at hbad;simp only[wq.1,fO];simp only[XE.seq];exact cZ (R:=λae h' p=>(∀i,i<aa h->p i=ac)/\R ae h' λ_=>ac) rfl ⟨λ_ _=>rfl,hbad _ _ _ rfl k4⟩
 rw[hn]at hok hbad;dsimp only at hok hbad;obtain⟨n1,n2⟩:=mf o1 hn;have l3:=k.l3;have hKl3:K<aa h3:=(zqe hKc).1;have hK4:h4[K]? =al (am []):=k4'.k K [] hKl3 (by omega) hKc rfl;have k4:=k3.trans k4';have hK4l:K<aa h4:=(zqe hK4).1;have k5:=(k4.drop hK0).other (am [.str s]) hK0;have hK5:((h4.map (O.drop λx=>x==K)).set K (am [.str s]))[K]? =al (am [.str s]):=zqt (by simpa using hK4l);have hl1:=hl.1;simp only[wq.1,↓reduceIte,Nat.reduceEqDiff,Nat.reduceLT,Nat.reduceLeDiff,reduceCtorEq,Nat.reduceMul,hK4];refine⟨⟨rfl,by decide⟩,by omega,?_⟩;have n3:(3==K)=ac:=by rw[beq_eq_false_iff_ne];omega
 obtain⟨Z,eZ⟩:∃Z,Z=AY e (aa l4+1) [s] l4:=⟨_,rfl⟩;rw[<-eZ]at hok hbad;refine ak ?_;refine aB ?_;refine aF (λm f h'=>∃acc l' F,m=aa l'/\aa l'<F/\AY e F acc l'=Z/\tY l'/\aa acc+aa l'<=1000001/\PW c0 c1 c2 c3 e h l' h'/\h'[K]? =al (am (acc.map V.str))/\f.t 0= .lp 3 0/\f.t 3= .ls K 1 0 (aa acc) (aa acc)/\f.d=[]/\(∀i,i<aa h->f.k i=ac)) (aa l4) ⟨[s],l4,aa l4+1,rfl,by omega,eZ.symm,n1,by simp only[zrk];omega,k5,hK5,by simp only[wq.1,seval,n3],by simp only[wq.1,↓reduceIte],by simp only[wq.1],λi hi=> ?_⟩ ?_
 ·show(ac||(i==K))=ac;rw[Bool.false_or,beq_eq_false_iff_ne];omega
 clear hK5 k5 hK4l hK4 k4 k4' hKl3 k3 k2 k1;rintro m f h' ⟨acc,l',F,hm,hF,hZ,hl',hal,k,hKa,t0,t3,hd,hk⟩;refine vn ?_;simp only[wq.1,seval,t0];obtain⟨F,rfl⟩:∃n,F=n+1:=⟨F-1,by omega⟩;rw[AY]at hZ;obtain⟨q1,q2,q3,q4⟩:=wR (c:=44) hl';have hKh:K<aa h':=(zqe hKa).1;refine Af k.self hl'.1 44 λh2 k2'=> ?_;have k2:=k.trans k2';have hKa2:=k2'.k K _ hKh (by omega) hKa ax;simp only[wq.1,↓reduceIte];refine vcB.mk (λhb=> ?_) (λhb=> ?_)
 ·rw[if_pos hb]at hZ;obtain⟨l2,el2⟩:∃l2,l2=(qp 44 l').2:=⟨_,rfl⟩;have q3:=q3 hb;rw[<-el2]at hZ k2' k2 q1 q2 q3;simp only[wq.1];refine aB ?_;refine vm ?_;simp only[wq.1,seval,t0,t3];refine oL k2.self q1 (λs l4 h4 hn k4'=> ?_) (λx l4 h4 hn k4'=> ?_)
  rotate_left
  ·have k4:=k2.trans k4';rw[hn]at hZ;dsimp only at hZ;subst hZ;simp only[wq.1,fO,hd];simp only[XE.seq,XE.block];exact cZ (R:=λae h' p=>(∀i,i<aa h->p i=ac)/\R ae h' λ_=>ac) (by simp only[wq.1,hd]) ⟨λi hi=>by simp only[wq.1,hk i hi],hbad _ _ _ rfl k4⟩
  have k4:=k2.trans k4';have hKa4:=k4'.k K _ (zqe hKa2).1 (by omega) hKa2 ax;have hK4l:K<aa h4:=(zqe hKa4).1;rw[hn]at hZ;dsimp only at hZ;obtain⟨n1,n2⟩:=mf q1 hn;have k5:=(k4.drop hK0).other (am (acc.map V.str++[.str s])) hK0;have hK5:((h4.map (O.drop λx=>x==K)).set K (am (acc.map V.str++[.str s])))[K]? =al (am ((acc++[s]).map V.str)):=by rw[zqt (by simpa using hK4l),zql];rfl
  simp only[wq.1,↓reduceIte,Nat.reduceEqDiff,Nat.reduceLT,reduceCtorEq,Nat.reduceMul,hd,hKa4];refine⟨⟨rfl,by decide⟩,⟨by omega,by omega,by omega⟩,?_⟩;refine .inl ⟨aa l4,by omega,acc++[s],l4,F,rfl,by omega,hZ,n1,by simp only[zqa,zrk];omega,k5,hK5,by simp only[wq.1,seval,t0,n3],by simp only[wq.1,↓reduceIte],by simp only[wq.1,hd],λi hi=> ?_⟩;show(f.k i||(i==K))=ac;rw[hk i hi,Bool.false_or,beq_eq_false_iff_ne];omega
 ·rw[if_neg (by rw[hb];decide)]at hZ;rw[q4 hb]at k2;simp only[wq.1];show awp _ _ _ _ _ _ _;refine vn ?_;simp only[wq.1,seval,t0];refine nP k2.self hl'.1 41 (λl4 h4 hm k4'=> ?_) (λx l4 h4 hm k4'=> ?_)
  rotate_left
  ·have k4:=k2.trans k4';rw[hm]at hZ;dsimp only at hZ;subst hZ;simp only[wq.1,fO,hd];simp only[XE.seq,XE.block];exact cZ (R:=λae h' p=>(∀i,i<aa h->p i=ac)/\R ae h' λ_=>ac) (by simp only[wq.1,hd]) ⟨λi hi=>by simp only[wq.1,hk i hi],hbad _ _ _ rfl k4⟩
  have k4:=k2.trans k4';have hKa4:=k4'.k K _ (zqe hKa2).1 (by omega) hKa2 ax;rw[hm]at hZ;dsimp only at hZ;subst hZ;simp only[wq.1];refine vn ?_;simp only[wq.1,seval,t3];refine y7 K 2 (aJ acc) (by simp only[wq.1,↓reduceIte]) (by
   simp only[wq.1,↓reduceIte];refine aX ?_ rfl;rw[fV,hKa4];simp only[Nat.zero_add,beq_self_eq_true,if_true,zrw,O.drop,aN]) (by simp only[wq.1,hd]) ?_
  refine vm ?_;simp only[wq.1,↓reduceIte,hd];refine⟨λi hi=> ?_,hok _ _ _ rfl (k4.dropD hK0)⟩;rw[hk i hi,Bool.false_or,beq_eq_false_iff_ne];omega
theorem xC[MO]{c0 c1 c2 c3:V}{e:Nat}{h0:H}{l:List Tk}{h:H}(k:PW c0 c1 c2 c3 e h0 l h)(hl:tY l){R:AEnd->H->(Nat->Bool)->Prop}(hok:∀ns l' h',oW e l= .ok (ns,l')->PW c0 c1 c2 c3 e h0 l' h'->R (.ret (aJ ns)) h' (λ_=>ac))(hbad:∀x l' h',oW e l= .error x->PW c0 c1 c2 c3 e h0 l' h'->R (.pan (wQ x.1 x.2)) h' (λ_=>ac)):ag TE 122 [.lp 3 0] h R :=
 Hw k.self hl (λns l' h' a b=>hok ns l' h' a (k.trans b)) (λx l' h' a b=>hbad x l' h' a (k.trans b))
theorem Ag{e:Nat}{l l':List Tk}{ns:List S}(h:tY l)(hm:oW e l= .ok (ns,l')):tY l'/\aa l'<aa l/\aa ns<=aa l:=by
 unfold oW at hm;cases h1:qx e 40 l with
 |error x=>rw[h1]at hm;cases hm
 |ok l1 =>
  rw[h1]at hm;dsimp only at hm;obtain⟨a1,a2⟩:=l9 h h1;split at hm
  ·injection hm with hm;injection hm with e1 e2;subst e1 e2;obtain⟨t1,t2,t3,t4⟩:=wR (c:=41) a1;exact⟨t1,by omega,by simp⟩
  ·cases h2:tH e l1 with
   |error x=>rw[h2]at hm;cases hm
   |ok p=>obtain⟨s,r⟩:=p;rw[h2]at hm;dsimp only at hm;obtain⟨b1,b2⟩:=mf a1 h2;obtain⟨m1,m2,m3⟩:=LC b1 hm;exact⟨m1,by omega,by simp only[zrk]at m3;omega⟩
end Go.Proofs.YthaijohbpdabfaaGreatDoor
