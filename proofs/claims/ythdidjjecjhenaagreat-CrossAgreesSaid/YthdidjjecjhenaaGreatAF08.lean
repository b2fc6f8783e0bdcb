/- Lemmas for this claim, part F08: each holds under what it names. -/
import Derived.Test.YthdidjjecjhenaaGreatAF07
import Derived.Test.YthdidjjecjhenaaGreatAA8
set_option linter.all false
set_option maxRecDepth 20000
set_option maxHeartbeats 8000000
namespace Go.Proofs.YthdidjjecjhenaaGreat
open Go Go.Proofs Go.Abs
open List renaming length → aa, replicate → aD
open Bool renaming true → ab, false → am
open Option renaming some → ar, none → aL
open Decidable renaming decide → aM
open Go.IntKind renaming wrap → a5
open Go.Result renaming andThen → a8
open Go.Abs.O renaming cells → aw
open Go.Abs.V renaming drops → aE, dat → a6, dats → a7
def Gr.all(g:Gr):Int:=2*(g.first+aa g.ands)
def Ny(own:Int)(p:Pq):Bool:=aM (p.1<0)||aM (p.2<0)||aM (own<=p.1)||aM (own<=p.2)
def Gr.lim(g:Gr):Bool:=aM (g.ins<0)||aM (4000<g.ins)||aM (4000<g.ins+aa g.next+aa g.ands)||aM (4000<(aa g.outs:Int))
def Gr.oddR(g:Gr):Bool:=(aa g.init != aa g.next)||g.init.any xN||g.next.any (xx g.all)||g.outs.any (xx g.all)
def Gr.oddAs(g:Gr)(n:Nat):Bool:=(List.range n).any λi=>Ny (2*(g.first+i)) (g.ands.getD i (0,0))
def Gr.chk(g:Gr):Int:=if g.lim then 8 else if g.oddR then 1 else if g.oddAs (aa g.ands)then 1 else 0
structure Gr.Sm(g:Gr):Prop where
 next:aa g.next<=200000000000000
 ands:aa g.ands<=200000000000000
def XV:Plan:= .take 2<| .alt 0 (.alt 1 (.alt 3 (.alt 4 (.alt 5 (.alt 6 (.one 7<| .one 8<| .fin) (.one 7 (.one 6<| .one 8<| .fin))) (.one 7 (onZ [5,6,8]<| .fin))) (.one 7 (onZ [4,5,6,8]<| .fin))) (.one 7 (onZ [3,4,5,6,8]<| .fin))) (.alt 3 (.alt 1 (.alt 4 (.alt 5 (.alt 6 (.one 7<| .one 8<| .fin) (.one 7 (.one 6<| .one 8<| .fin))) (.one 7 (onZ [5,6,8]<| .fin))) (.one 7 (onZ [4,5,6,8]<| .fin))) (.alt 4 (.alt 1 (.alt 5 (.alt 6 (.one 7<| .one 8<| .fin) (.one 7 (.one 6<| .one 8<| .fin))) (.one 7 (onZ [5,6,8]<| .fin))) (.one 7 (onZ [1,5,6,8]<| .fin))) (.one 7 (.alt 1 (onZ [4,5,6,8]<| .fin) (.one 4 (onZ [1,5,6,8]<| .fin)))))) (.one 7 (.alt 1 (onZ [3,4,5,6,8]<| .fin) (.one 3 (.alt 1 (onZ [4,5,6,8]<| .fin) (.one 4 (onZ [1,5,6,8]<| .fin)))))))) (.alt 3 (.alt 0 (.alt 1 (.alt 4 (.alt 5 (.alt 6 (.one 7<| .one 8<| .fin) (.one 7 (.one 6<| .one 8<| .fin))) (.one 7 (onZ [5,6,8]<| .fin))) (.one 7 (onZ [4,5,6,8]<| .fin))) (.alt 4 (.alt 1 (.alt 5 (.alt 6 (.one 7<| .one 8<| .fin) (.one 7 (.one 6<| .one 8<| .fin))) (.one 7 (onZ [5,6,8]<| .fin))) (.one 7 (onZ [1,5,6,8]<| .fin))) (.one 7 (.alt 1 (onZ [4,5,6,8]<| .fin) (.one 4 (onZ [1,5,6,8]<| .fin)))))) (.alt 4 (.alt 0 (.alt 1 (.alt 5 (.alt 6 (.one 7<| .one 8<| .fin) (.one 7 (.one 6<| .one 8<| .fin))) (.one 7 (onZ [5,6,8]<| .fin))) (.one 7 (onZ [1,5,6,8]<| .fin))) (.one 7 (onZ [0,1,5,6,8]<| .fin))) (.one 7 (.alt 0 (.alt 1 (onZ [4,5,6,8]<| .fin) (.one 4 (onZ [1,5,6,8]<| .fin))) (.one 4 (onZ [0,1,5,6,8]<| .fin)))))) (.one 7 (.alt 0 (.alt 1 (onZ [3,4,5,6,8]<| .fin) (.one 3 (.alt 1 (onZ [4,5,6,8]<| .fin) (.one 4 (onZ [1,5,6,8]<| .fin))))) (.one 3 (.alt 0 (.alt 1 (onZ [4,5,6,8]<| .fin) (.one 4 (onZ [1,5,6,8]<| .fin))) (.one 4 (onZ [0,1,5,6,8]<| .fin)))))))
theorem kY(g:Gr)(hs:g.Sm):Ev TE 49 [g.v] (vi g.chk):=by
 obtain⟨hs1,hs2⟩:=hs;unfold Gr.v;refine aC Tryz.func49 rfl (by simp[nts]) (vm ?_);simp only[wq.1,seval,Tryz.results49];have hins:g.lim=am->0<=g.ins/\g.ins<=4000/\g.ins+aa g.next+aa g.ands<=4000/\(aa g.outs:Int)<=4000:=by intro h;simp only[Gr.lim,zsf,zqd]at h;omega
 have hl:(aM (g.ins<0)||aM (4000<g.ins)||aM (4000<a5 .i64 (a5 .i64 (g.ins+(aa g.next:Int))+(aa g.ands:Int)))||aM (4000<(aa g.outs:Int)))=g.lim:=by
  unfold Gr.lim;by_cases a1:g.ins<0
  ·simp[a1]
  by_cases a2:4000<g.ins
  ·simp[a2]
  rw[fM (n:=g.ins+(aa g.next:Int)) (by omega) (by omega),fM (by omega) (by omega)]
 rw[hl];refine vcB.mk (λhc=> ?_) (λhc=> ?_)
 ·simp only[wq.1,seval];exact aH.eq rfl (by unfold Gr.chk;rw[if_pos hc])
 ·obtain⟨i0,i1,i2,i3⟩:=hins hc;simp only[wq.1];refine bK dV XV (λf' h'=>f'.t 1= .lp 0 0/\f'.t 3= .lp 1 0/\f'.d=[]/\h'=[aw [vi g.ins,az g.next,az g.init,prs g.ands,az g.outs],aw [vi g.all]]) (by decide +kernel) (by decide +kernel) ?_ ?_
  ·simp only[wq.1,seval,XV];have wf:g.first=1+g.ins+aa g.next:=rfl
   have w1:a5 .i64 (g.first+(aa g.ands:Int))=g.first+aa g.ands:=fM (by omega) (by omega)
   have w2:a5 .i64 (2*(g.first+(aa g.ands:Int)))=g.all:=fM (by omega) (by omega);have hfi:=jY g (by omega) (by omega) (by omega);unfold Gr.v at hfi;have dg:a7 [.agg [vi g.ins,az g.next,az g.init,prs g.ands,az g.outs]]=ab:=by simp only[a7,a6,zre]
   repeat' apply zsa
   all_goals (refine ag.ev hfi dg ?_)
   all_goals (simp only[wq.1,seval,w1,w2])
   all_goals (first|exact⟨rfl,rfl,rfl,rfl⟩|trace_state)
  ·rintro f h ⟨h1,h3,hd,rfl⟩;have hlim:g.lim=am:=hc;have fin1:g.oddR=ab->aH TE [aw [vi g.ins,az g.next,az g.init,prs g.ands,az g.outs],aw [vi g.all]] (vi 1) (vi g.chk):=λh=>aH.eq rfl (by unfold Gr.chk;rw[hlim,h];rfl);by_cases e:aa g.init=aa g.next
   ·have e1:((aa g.init:Int) != (aa g.next:Int))=am:=by simp[e]
    simp only[wq.1,seval,h1,h3,e1];refine ag.ev (JE g.init 83 [] xN rfl rfl λx _=>VW x) rfl ?_;cases hA:g.init.any xN with
    |true=>simp only[wq.1,seval,h1];refine⟨.bool ab,?_⟩;simp only[wq.1,seval];refine⟨.bool ab,?_⟩;simp only[wq.1,seval,hd];exact fin1 (by simp[Gr.oddR,hA])
    |false =>
     simp only[wq.1,seval,h1];have rf:aj TE [aw [vi g.ins,az g.next,az g.init,prs g.ands,az g.outs],aw [vi g.all]] [.fn (.func 82) [] [.lp 1 0]] [.fn (.func 82) [] [.ip (vi g.all)]] :=
      aj.cons (aH.fn aj.nil (aj.cons (aH.lp rfl (aj.dat rfl) rfl rfl (by simp[V.vc]) rfl) aj.nil)) aj.nil
     refine ag.lend (JE g.next 82 [.ip (vi g.all)] (xx g.all) rfl rfl λx _=>PQ g.all x) (aj.cons (aH.dat rfl) rf) rfl ?_;cases hB:g.next.any (xx g.all)with
     |true=>simp only[wq.1,seval,h1];refine⟨.bool ab,?_⟩;simp only[wq.1,seval,hd];exact fin1 (by simp[Gr.oddR,hB])
     |false =>
      simp only[wq.1,seval,h1];refine ag.lend (JE g.outs 82 [.ip (vi g.all)] (xx g.all) rfl rfl λx _=>PQ g.all x) (aj.cons (aH.dat rfl) rf) rfl ?_;cases hC:g.outs.any (xx g.all)with
      |true=>simp only[wq.1,seval,hd];exact fin1 (by simp[Gr.oddR,hC])
      |false =>
       simp only[wq.1,seval,h1];refine aA (λm f h=>∃i G,m+i=aa g.ands/\f.t 1= .lp 0 0/\f.t 70=prs g.ands/\f.t 71=vi (aa g.ands)/\f.t 72=vi i/\f.d=[]/\h=[aw [vi g.ins,az g.next,az g.init,prs g.ands,az g.outs],aw [vi g.all]]++G/\g.oddAs i=am) (aa g.ands) ⟨0,[],by simp,h1,rfl,rfl,rfl,hd,by simp,rfl⟩ ?_;rintro m f h ⟨i,G,hm,h1,h70,h71,h72,hd,rfl,hno⟩;refine vm ?_;simp only[wq.1,seval,h71,h72];refine vcB.mk (λhlt=> ?_) (λhlt=> ?_)
       ·simp only[zqb,zqi]at hlt;have hg:(g.ands.map prV).getD i .any=prV g.ands[i]:=iO hlt _;have hM:=mLx;have hgE:∀x:O,(G++[x])[aa G]? =ar x:=λx=>by simp
        have hgS:∀x y:O,(G++[x]).set (aa G) y=G++[y]:=λx y=>by simp
        have dg:a7 [.agg [vi g.ins,az g.next,az g.init,prs g.ands,az g.outs]]=ab:=by simp only[a7,a6,zre]
        have wf:g.first=1+g.ins+aa g.next:=rfl
        have w1:a5 .i64 (g.first+(i:Int))=g.first+i:=fM (by omega) (by omega)
        have w2:a5 .i64 (2*(g.first+(i:Int)))=2*(g.first+i):=fM (by omega) (by omega);have hfi:=jY g (by omega) (by omega) (by omega);unfold Gr.v at hfi;simp only[wq.1,seval,-Int.reduceNatCast,-Int.reduceNatCast',aG,Tryz.results49,h1,h70,h71,h72,hd,hg,zsg,hgE,hgS,List.drop_nil];refine⟨⟨by omega,by omega⟩,ag.ev hfi dg ?_⟩;simp only[wq.1,seval,-Int.reduceNatCast,-Int.reduceNatCast',aG,Tryz.results49,bC,h1,h70,h71,h72,hd,w1,w2,hgE,hgS,ax (show i<maxLen by omega)];refine⟨by decide,λ_=>by decide,λ_=>by decide,λ_=>by decide,vcB.mk (λhb=> ?_) (λhb=> ?_)⟩
        ·simp only[wq.1,↓reduceIte,Nat.reduceLT,hd];refine aH.eq rfl ?_;unfold Gr.chk;rw[hlim,if_neg (by simp),if_neg (by simp[Gr.oddR,e,hA,hB,hC]),if_pos];simp only[Gr.oddAs,List.any_eq_true,List.mem_range];refine⟨i,hlt,?_⟩;rw[aP hlt];exact hb
        ·simp only[wq.1,seval,h72,ax (show i<maxLen by omega)];refine .inl ⟨m-1,by omega,i+1,G++[aw [vi g.ands[i].1,vi g.ands[i].2]],by omega,h1,h70,h71,rfl,hd,rfl,?_⟩;simp only[Gr.oddAs,List.range_succ,List.any_append,List.any_cons,List.any_nil,Bool.or_false,zsf];refine⟨hno,?_⟩;rw[aP hlt];exact hb
       ·simp only[zqd,zqi]at hlt;simp only[wq.1,seval,hd];have hi:i=aa g.ands:=by omega
        refine aH.eq rfl ?_;unfold Gr.chk;rw[hlim,if_neg (by simp),if_neg (by simp[Gr.oddR,e,hA,hB,hC]),<-hi,hno];rfl
   ·have e1:((aa g.init:Int) != (aa g.next:Int))=ab:=by simpa [Int.natCast_inj]using e
    simp only[wq.1,seval,h1,h3,e1];refine⟨.bool ab,?_⟩;simp only[wq.1,seval,h1];refine⟨.bool ab,?_⟩;simp only[wq.1,seval];refine⟨.bool ab,?_⟩;simp only[wq.1,seval,hd];exact fin1 (by simp[Gr.oddR,e])
theorem MF(n:Nat)(hn:n<=1000000000)(h:H)(R:AEnd->H->(Nat->Bool)->Prop)(hr0:n=0->R (.ret .nils) h (λ_=>am))
 (hr:0<n->R (.ret (.ls (aa h) 1 0 0 n)) (h++[aw (aD n (.str []))]) (λ_=>am)):ag TE 108 [.nils,vi n] h R:=by
 refine ah Tryz.func108 rfl (by simp[nts]) ?_;refine vn ?_;simp only[wq.1,Nat.reduceLT,Tryz.results108];refine ak ?_;refine vm ?_;simp only[wq.1,seval];refine vcB.mk (λhc=> ?_) (λhc=> ?_)
 ·simp only[zqb]at hc;omega
 simp only[wq.1];refine ak (ak (jF ?_));refine aK rfl rfl ?_;simp only[wq.1,seval];refine aK rfl rfl ?_;simp only[wq.1,seval];refine gX rfl rfl ?_;have hq:ti TE.P 26=ar ⟨.slice 9,1,24,.nils⟩:=by simp only[wq.1]
 have hqe:ti TE.P 9=ar ⟨.str,1,16,.str []⟩:=by simp only[wq.1]
 have hqi:ti TE.P 3=ar ⟨.int .i64,1,8,.int .i64 0⟩:=by simp only[wq.1]
 refine jq (t:=26) rfl rfl hq rfl trivial rfl ?_;refine aK rfl rfl ?_;simp only[wq.1,seval];refine aK rfl rfl ?_;simp only[wq.1,↓reduceIte];refine aK rfl rfl ?_;simp only[wq.1,seval];refine aK rfl rfl ?_;simp only[wq.1,seval];refine aK rfl rfl ?_;simp only[wq.1,↓reduceIte];have w0:a5 .i64 0=0:=by decide
 have w1:a5 .i64 ((n:Int)-0)=n:=by rw[Int.sub_zero];exact fM (by omega) (by omega)
 refine iZ ?_;simp only[wq.1,w0,w1];refine ak ?_;refine vm ?_;simp only[wq.1,seval];refine aX (b:=aM ((0:Int)<n)) (by simp only[wq.1,↓reduceIte]) (by simp only[wq.1,↓reduceIte]) (λhb=> ?_) (λhb=> ?_)
 ·have hpos:0<n:=by simp only[zqb]at hb;omega
  refine jF ?_;refine aK rfl rfl ?_;simp only[wq.1,seval];refine aK rfl rfl ?_;simp only[wq.1,seval];refine gX rfl rfl ?_;refine jq (t:=26) rfl rfl hq rfl trivial rfl ?_;refine gX rfl rfl ?_;refine mW rfl hq rfl hqe (by simp only[wq.1,seval]) (by simp only[wq.1,seval]) (by simp only[wq.1,↓reduceIte]) (k:= .i64) (by simp only[wq.1,↓reduceIte]) ?_;refine aK rfl rfl ?_;simp only[wq.1,seval];refine gX rfl rfl ?_;refine lG (x:= .tmp 20) (y:= .tmp 21) (t:=26) (xt:=3) (el:=9) ⟨⟨_,rfl,rfl,rfl⟩,hq,rfl,hqe,rfl,rfl,Nat.zero_lt_one⟩ (by simp only[wq.1,seval]) (by simp only[wq.1,↓reduceIte]) (by simp only[wq.1,seval]) (by simp only[wq.1,↓reduceIte]) hqi rfl hpos (by omega) ?_ rfl (zv:= .str []) rfl ?_
  ·show n*16<=_;omega
  refine aK rfl rfl ?_;simp only[wq.1,seval];refine aK rfl rfl ?_;simp only[wq.1,↓reduceIte];refine aK rfl rfl ?_;simp only[wq.1,seval];refine⟨by omega,?_⟩;refine aK rfl rfl ?_;simp only[wq.1,↓reduceIte];refine iZ ?_;simp only[wq.1];refine vm ?_;simp only[wq.1,seval];exact hr hpos
 ·have:n=0:=by simp only[zqd]at hb;omega
  refine vm ?_;simp only[wq.1];refine vm ?_;simp only[wq.1,seval];exact hr0 this
theorem MG{α:Type}(ls:List (List α))(i:Nat):ls.flatten=(ls.take i).flatten++(ls.drop i).flatten:=by rw[<-List.flatten_append,List.take_append_drop]
variable{i:Nat}
theorem gQ{α:Type}{ls:List (List α)}(h:i<aa ls):(ls.take (i+1)).flatten=(ls.take i).flatten++ls[i]:=by rw[zrg,List.flatten_append];simp[h]
theorem qM{α:Type}{ls:List (List α)}(h:i<aa ls):(ls.take i).flatten.length+ls[i].length<=aa ls.flatten:=by have h1:=congrArg List.length (MG ls (i+1));rw[gQ h]at h1;simp only[zqa]at h1;omega
def YV(n:Nat)(c:List S)(v:V)(h:H):Prop :=
 (c=[]/\v= .nils/\h=[]/\n=0)\/(aa c<=n/\v= .ls 0 1 0 (aa c) n/\h=[aw (c.map V.str++aD (n-aa c) (.str []))])
theorem TF(n:Nat)(hn:n<=1000000000)(R:AEnd->H->(Nat->Bool)->Prop)(hr:∀v h,YV n [] v h->R (.ret v) h (λ_=>am)):ag TE 108 [.nils,vi n] [] R :=
 MF n hn [] R (λhz=>hr _ _ (.inl ⟨rfl,rfl,rfl,hz⟩)) (λhz=>hr _ _ (.inr ⟨Nat.zero_le _,rfl,rfl⟩))
theorem JG:∀l:List S,dD (l.map V.str)=ab
 |[]=>rfl
 |a::l=>by simp only[zrd,dD,JG l,V.one,V.vc,zrk];rfl
theorem Io(c l:List S)(n:Nat)(h:aa c+aa l<=n):iI (c.map V.str++aD (n-aa c) (.str [])) (aa c) (l.map V.str)=(c++l).map V.str++aD (n-aa (c++l)) (.str []):=by
 unfold iI;have e1:(c.map V.str++aD (n-aa c) (V.str [])).take (aa c)=c.map V.str:=by
  simp
 have e2:(c.map V.str++aD (n-aa c) (V.str [])).drop (aa c+aa (l.map V.str))=aD (n-aa (c++l)) (V.str []):=by
  rw[List.drop_append];have:(c.map V.str).drop (aa c+aa (l.map V.str))=[]:=List.drop_of_length_le (by simp);rw[this,List.nil_append,List.drop_replicate]
  congr 1
  simp only[zra,zqa];omega
 rw[e1,e2,zql]
theorem Ip(ls:List (List S))(hn:aa ls.flatten<=1000000000)(hls:aa ls<=1000000000):EvF TE 78 [.is ab 1 (ls.map ig)] 1 (aa ls.flatten) (ls.flatten.map V.str):=by
 have hM:=mLx;have hget:∀ {i:Nat} (h:i<aa ls) (d:V),(ls.map ig).getD i d=ig ls[i]:=λh d=>iO h d;unfold EvF;refine ah Tryz.func78 rfl (by simp[nts]) (vm ?_);simp only[wq.1,seval,Tryz.results78];refine aA (λm f h=>∃i,m+i=aa ls/\f.t 0= .is ab 1 (ls.map ig)/\f.t 3=vi (ls.take i).flatten.length/\f.t 9= .is ab 1 (ls.map ig)/\f.t 10=vi (aa ls)/\f.t 11=vi i/\f.d=[]/\h=[]) (aa ls) ⟨0,by simp,rfl,rfl,rfl,rfl,rfl,rfl,rfl⟩ ?_;rintro m f h ⟨i,hm,h0,h3,h9,h10,h11,hd,rfl⟩;refine vm ?_;simp only[wq.1,seval,h10,h11];refine vcB.mk (λhc=> ?_) (λhc=> ?_)
 ·simp only[zqb,zqi]at hc;have hfl:=qM hc;have hw:a5 .i64 (((ls.take i).flatten.length:Int)+(ls[i].length:Int))=((ls.take (i+1)).flatten.length:Int):=by
   rw[gQ hc,zqa,aV (by omega) (by omega)];omega
  simp only[wq.1,seval,h3,h9,h11,hget hc,hw];refine⟨⟨by omega,by omega⟩,vcB.mk (λhc'=> ?_) (λhc'=> ?_)⟩
  ·simp only[zqb]at hc';omega
  ·simp only[wq.1,seval,h11,ax (show i<maxLen by omega)];exact .inl ⟨m-1,by omega,i+1,by omega,h0,rfl,h9,h10,rfl,hd,rfl⟩
 ·simp only[zqd,zqi]at hc;have hi:ls.take i=ls:=zqh (by omega);rw[hi]at h3;simp only[wq.1,seval,h3];refine TF (aa ls.flatten) hn _ (λv0 h0' hcat=> ?_);simp only[wq.1,seval,h0];refine aA (λm f h=>∃i v,m+i=aa ls/\f.t 25= .is ab 1 (ls.map ig)/\f.t 26=vi (aa ls)/\f.t 27=vi i/\f.t 6=v/\f.d=[]/\YV (aa ls.flatten) (ls.take i).flatten v h) (aa ls) ⟨0,v0,by simp,rfl,rfl,rfl,rfl,hd,by simpa using hcat⟩ ?_;rintro m f h ⟨i,v,hm,h25,h26,h27,h6,hd,hcat⟩;refine vm ?_;simp only[wq.1,seval,h26,h27];refine vcB.mk (λhc=> ?_) (λhc=> ?_)
  ·simp only[zqb,zqi]at hc;have hfl:=qM hc;have hnext:f.t 27=vi i->a5 .i64 ((i:Int)+1)=((i+1:Nat):Int):=λ_=>ax (by omega);rcases hcat with⟨hc0,rfl,rfl,hn0⟩|⟨hcl,rfl,rfl⟩
   ·have hl0:ls[i]=[]:=List.eq_nil_of_length_eq_zero (by omega);simp only[wq.1,seval,h25,h27,h6,hget hc,hl0,ax (show i<maxLen by omega)];refine⟨⟨by omega,by omega⟩,by omega,.inl ⟨m-1,by omega,i+1,_,by omega,h25,h26,rfl,rfl,hd,?_⟩⟩;right;rw[gQ hc,hl0,hc0,hn0];exact⟨zrb _,rfl,rfl⟩
   ·by_cases hlt:(ls.take i).flatten.length<aa ls.flatten
    ·have hdt:aM ((ls.take i).flatten.length<aa ls.flatten)=ab:=by simpa using hlt
     simp only[wq.1,seval,h25,h27,h6,hget hc,ax (show i<maxLen by omega),JG,hdt];refine⟨⟨by omega,by omega⟩,⟨by omega,by omega,by rw[zsc];omega⟩,.inl ⟨m-1,by omega,i+1,_,by omega,h25,h26,rfl,rfl,hd,?_⟩⟩;right;rw[gQ hc];refine⟨by rw[zqa];omega,by simp only[wq.1,seval],?_⟩;have hsp:=Io (ls.take i).flatten ls[i] (aa ls.flatten) hfl;unfold iI at hsp;rw[zra]at hsp;rw[Nat.mul_one,hsp]
    ·have hdt:aM ((ls.take i).flatten.length<aa ls.flatten)=am:=by simpa using hlt
     have hl0:ls[i]=[]:=List.eq_nil_of_length_eq_zero (by omega);have hne:(ls.take i).flatten.length=aa ls.flatten:=by omega
     simp only[wq.1,seval,h25,h27,h6,hd,hget hc,ax (show i<maxLen by omega),hdt,hl0];refine⟨⟨by omega,by omega⟩,⟨by rw[zsc];omega,by omega,by omega⟩,.inl ⟨m-1,by omega,i+1,_,by omega,by simp only[wq.1,seval,h25],by simp only[wq.1,seval,h26],rfl,rfl,hd,?_⟩⟩;right;rw[gQ hc,hl0,zqp,hne,Nat.sub_self];refine⟨zrb _,rfl,?_⟩;simp only[List.replicate_zero,aE]
  ·simp only[zqd,zqi]at hc;have hi:ls.take i=ls:=zqh (by omega);rw[hi]at hcat;simp only[wq.1,seval,h6,hd];rcases hcat with⟨hc0,rfl,rfl,hn0⟩|⟨hcl,rfl,rfl⟩
   ·exact .inl ⟨rfl,hn0,by rw[hc0];rfl⟩
   ·rw[Nat.sub_self,List.replicate_zero,zqp];exact .inr ⟨0,_,rfl,zrb _,rfl⟩
theorem BB(ls:List (List S))(hn:aa ls.flatten<=1000000000)(hls:aa ls<=1000000000):Ev TE 78 [.is ab 1 (ls.map ig)] (ig ls.flatten):=by
 refine(Ip ls hn hls).ev (λ_ hc=> ?_) (λh' id cap _ hid=>EF hid rfl) (λ_ hc h'=> ?_)
 ·rw[List.map_eq_nil_iff.1 hc];exact lH
 ·rw[List.map_eq_nil_iff.1 hc];exact aH.nils
theorem Iq(n:Nat)(hn:n<=1000000000)(h:H)(R:AEnd->H->(Nat->Bool)->Prop)(hr0:n=0->R (.ret .nils) h (λ_=>am))
 (hr:0<n->R (.ret (.ls (aa h) 1 0 0 n)) (h++[aw (aD n (.bool am))]) (λ_=>am)):ag TE 124 [.nils,vi n] h R:=by
 refine ah Tryz.func124 rfl (by simp[nts]) ?_;refine vn ?_;simp only[wq.1,Nat.reduceLT,Tryz.results124];refine ak ?_;refine vm ?_;simp only[wq.1,seval];refine vcB.mk (λhc=> ?_) (λhc=> ?_)
 ·simp only[zqb]at hc;omega
 simp only[wq.1];refine ak (ak (jF ?_));refine aK rfl rfl ?_;simp only[wq.1,seval];refine aK rfl rfl ?_;simp only[wq.1,seval];refine gX rfl rfl ?_;have hq:ti TE.P 31=ar ⟨.slice 4,1,24,.nils⟩:=by simp only[wq.1]
 have hqe:ti TE.P 4=ar ⟨.bool,1,1,.bool am⟩:=by simp only[wq.1]
 have hqi:ti TE.P 3=ar ⟨.int .i64,1,8,.int .i64 0⟩:=by simp only[wq.1]
 refine jq (t:=31) rfl rfl hq rfl trivial rfl ?_;refine aK rfl rfl ?_;simp only[wq.1,seval];refine aK rfl rfl ?_;simp only[wq.1,↓reduceIte];refine aK rfl rfl ?_;simp only[wq.1,seval];refine aK rfl rfl ?_;simp only[wq.1,seval];refine aK rfl rfl ?_;simp only[wq.1,↓reduceIte];have w0:a5 .i64 0=0:=by decide
 have w1:a5 .i64 ((n:Int)-0)=n:=by rw[Int.sub_zero];exact fM (by omega) (by omega)
 refine iZ ?_;simp only[wq.1,w0,w1];refine ak ?_;refine vm ?_;simp only[wq.1,seval];refine aX (b:=aM ((0:Int)<n)) (by simp only[wq.1,↓reduceIte]) (by simp only[wq.1,↓reduceIte]) (λhb=> ?_) (λhb=> ?_)
 ·have hpos:0<n:=by simp only[zqb]at hb;omega
  refine jF ?_;refine aK rfl rfl ?_;simp only[wq.1,seval];refine aK rfl rfl ?_;simp only[wq.1,seval];refine gX rfl rfl ?_;refine jq (t:=31) rfl rfl hq rfl trivial rfl ?_;refine gX rfl rfl ?_;refine mW rfl hq rfl hqe (by simp only[wq.1,seval]) (by simp only[wq.1,seval]) (by simp only[wq.1,↓reduceIte]) (k:= .i64) (by simp only[wq.1,↓reduceIte]) ?_;refine aK rfl rfl ?_;simp only[wq.1,seval];refine gX rfl rfl ?_;refine lG (x:= .tmp 20) (y:= .tmp 21) (t:=31) (xt:=3) (el:=4) ⟨⟨_,rfl,rfl,rfl⟩,hq,rfl,hqe,rfl,rfl,Nat.zero_lt_one⟩ (by simp only[wq.1,seval]) (by simp only[wq.1,↓reduceIte]) (by simp only[wq.1,seval]) (by simp only[wq.1,↓reduceIte]) hqi rfl hpos (by omega) ?_ rfl (zv:= .bool am) rfl ?_
  ·show n*1<=_;omega
  refine aK rfl rfl ?_;simp only[wq.1,seval];refine aK rfl rfl ?_;simp only[wq.1,↓reduceIte];refine aK rfl rfl ?_;simp only[wq.1,seval];refine⟨by omega,?_⟩;refine aK rfl rfl ?_;simp only[wq.1,↓reduceIte];refine iZ ?_;simp only[wq.1];refine vm ?_;simp only[wq.1,seval];exact hr hpos
 ·have:n=0:=by simp only[zqd]at hb;omega
  refine vm ?_;simp only[wq.1];refine vm ?_;simp only[wq.1,seval];exact hr0 this
def XW(n:Nat)(c:List Bool)(v:V)(h:H):Prop :=
 (c=[]/\v= .nils/\h=[]/\n=0)\/(aa c<=n/\v= .ls 0 1 0 (aa c) n/\h=[aw (c.map V.bool++aD (n-aa c) (.bool am))])
theorem PR(n:Nat)(hn:n<=1000000000)(R:AEnd->H->(Nat->Bool)->Prop)(hr:∀v h,XW n [] v h->R (.ret v) h (λ_=>am)):ag TE 124 [.nils,vi n] [] R :=
 Iq n hn [] R (λhz=>hr _ _ (.inl ⟨rfl,rfl,rfl,hz⟩)) (λhz=>hr _ _ (.inr ⟨Nat.zero_le _,rfl,rfl⟩))
theorem uy{p:Nat->Bool}:∀l:List Bool,aE p (l.map V.bool)=l.map V.bool
 |[]=>rfl
 |a::l=>by simp only[zrd,aE,V.drop,uy l]
theorem FH:∀l:List Bool,dD (l.map V.bool)=ab
 |[]=>rfl
 |a::l=>by simp only[zrd,dD,FH l,V.one,V.vc,zrk];rfl
theorem FI(c l:List Bool)(n:Nat)(h:aa c+aa l<=n):iI (c.map V.bool++aD (n-aa c) (.bool am)) (aa c) (l.map V.bool)=(c++l).map V.bool++aD (n-aa (c++l)) (.bool am):=by
 unfold iI;have e1:(c.map V.bool++aD (n-aa c) (V.bool am)).take (aa c)=c.map V.bool:=by
  simp
 have e2:(c.map V.bool++aD (n-aa c) (V.bool am)).drop (aa c+aa (l.map V.bool))=aD (n-aa (c++l)) (V.bool am):=by
  rw[List.drop_append];have:(c.map V.bool).drop (aa c+aa (l.map V.bool))=[]:=List.drop_of_length_le (by simp);rw[this,List.nil_append,List.drop_replicate]
  congr 1
  simp only[zra,zqa];omega
 rw[e1,e2,zql]
theorem FK(ls:List (List Bool))(hn:aa ls.flatten<=1000000000)(hls:aa ls<=1000000000):EvF TE 104 [.is ab 1 (ls.map aI)] 1 (aa ls.flatten) (ls.flatten.map V.bool):=by
 have hM:=mLx;have hget:∀ {i:Nat} (h:i<aa ls) (d:V),(ls.map aI).getD i d=aI ls[i]:=λh d=>iO h d;unfold EvF;refine ah Tryz.func104 rfl (by simp[nts]) (vm ?_);simp only[wq.1,seval,Tryz.results104];refine aA (λm f h=>∃i,m+i=aa ls/\f.t 0= .is ab 1 (ls.map aI)/\f.t 3=vi (ls.take i).flatten.length/\f.t 9= .is ab 1 (ls.map aI)/\f.t 10=vi (aa ls)/\f.t 11=vi i/\f.d=[]/\h=[]) (aa ls) ⟨0,by simp,rfl,rfl,rfl,rfl,rfl,rfl,rfl⟩ ?_;rintro m f h ⟨i,hm,h0,h3,h9,h10,h11,hd,rfl⟩;refine vm ?_;simp only[wq.1,seval,h10,h11];refine vcB.mk (λhc=> ?_) (λhc=> ?_)
 ·simp only[zqb,zqi]at hc;have hfl:=qM hc;have hw:a5 .i64 (((ls.take i).flatten.length:Int)+(ls[i].length:Int))=((ls.take (i+1)).flatten.length:Int):=by
   rw[gQ hc,zqa,aV (by omega) (by omega)];omega
  simp only[wq.1,seval,h3,h9,h11,hget hc,hw];refine⟨⟨by omega,by omega⟩,vcB.mk (λhc'=> ?_) (λhc'=> ?_)⟩
  ·simp only[zqb]at hc';omega
  ·simp only[wq.1,seval,h11,ax (show i<maxLen by omega)];exact .inl ⟨m-1,by omega,i+1,by omega,h0,rfl,h9,h10,rfl,hd,rfl⟩
 ·simp only[zqd,zqi]at hc;have hi:ls.take i=ls:=zqh (by omega);rw[hi]at h3;simp only[wq.1,seval,h3];refine PR (aa ls.flatten) hn _ (λv0 h0' hcat=> ?_);simp only[wq.1,seval,h0];refine aA (λm f h=>∃i v,m+i=aa ls/\f.t 25= .is ab 1 (ls.map aI)/\f.t 26=vi (aa ls)/\f.t 27=vi i/\f.t 6=v/\f.d=[]/\XW (aa ls.flatten) (ls.take i).flatten v h) (aa ls) ⟨0,v0,by simp,rfl,rfl,rfl,rfl,hd,by simpa using hcat⟩ ?_;rintro m f h ⟨i,v,hm,h25,h26,h27,h6,hd,hcat⟩;refine vm ?_;simp only[wq.1,seval,h26,h27];refine vcB.mk (λhc=> ?_) (λhc=> ?_)
  ·simp only[zqb,zqi]at hc;have hfl:=qM hc;have hnext:f.t 27=vi i->a5 .i64 ((i:Int)+1)=((i+1:Nat):Int):=λ_=>ax (by omega);rcases hcat with⟨hc0,rfl,rfl,hn0⟩|⟨hcl,rfl,rfl⟩
   ·have hl0:ls[i]=[]:=List.eq_nil_of_length_eq_zero (by omega);simp only[wq.1,seval,h25,h27,h6,hget hc,hl0,ax (show i<maxLen by omega)];refine⟨⟨by omega,by omega⟩,by omega,.inl ⟨m-1,by omega,i+1,_,by omega,h25,h26,rfl,rfl,hd,?_⟩⟩;right;rw[gQ hc,hl0,hc0,hn0];exact⟨zrb _,rfl,rfl⟩
   ·by_cases hlt:(ls.take i).flatten.length<aa ls.flatten
    ·have hdt:aM ((ls.take i).flatten.length<aa ls.flatten)=ab:=by simpa using hlt
     simp only[wq.1,seval,h25,h27,h6,hget hc,ax (show i<maxLen by omega),FH,hdt];refine⟨⟨by omega,by omega⟩,⟨by omega,by omega,by rw[zsc];omega⟩,.inl ⟨m-1,by omega,i+1,_,by omega,h25,h26,rfl,rfl,hd,?_⟩⟩;right;rw[gQ hc];refine⟨by rw[zqa];omega,by simp only[wq.1,seval],?_⟩;have hsp:=FI (ls.take i).flatten ls[i] (aa ls.flatten) hfl;unfold iI at hsp;rw[zra]at hsp;rw[Nat.mul_one,hsp]
    ·have hdt:aM ((ls.take i).flatten.length<aa ls.flatten)=am:=by simpa using hlt
     have hl0:ls[i]=[]:=List.eq_nil_of_length_eq_zero (by omega);have hne:(ls.take i).flatten.length=aa ls.flatten:=by omega
     simp only[wq.1,seval,h25,h27,h6,hd,hget hc,ax (show i<maxLen by omega),hdt,hl0,uy];refine⟨⟨by omega,by omega⟩,⟨by rw[zsc];omega,by omega,by omega⟩,.inl ⟨m-1,by omega,i+1,_,by omega,by simp only[wq.1,seval,h25],by simp only[wq.1,seval,h26],rfl,rfl,hd,?_⟩⟩;right;rw[gQ hc,hl0,zqp,hne,Nat.sub_self];refine⟨zrb _,rfl,?_⟩;simp only[List.replicate_zero,aE]
  ·simp only[zqd,zqi]at hc;have hi:ls.take i=ls:=zqh (by omega);rw[hi]at hcat;simp only[wq.1,seval,h6,hd];rcases hcat with⟨hc0,rfl,rfl,hn0⟩|⟨hcl,rfl,rfl⟩
   ·exact .inl ⟨rfl,hn0,by rw[hc0];rfl⟩
   ·rw[Nat.sub_self,List.replicate_zero,zqp];exact .inr ⟨0,_,rfl,zrb _,rfl⟩
theorem Ir(n:Nat)(hn:n<=1000000000)(h:H)(R:AEnd->H->(Nat->Bool)->Prop)(hr0:n=0->R (.ret .nils) h (λ_=>am))
 (hr:0<n->R (.ret (.ls (aa h) 1 0 0 n)) (h++[aw (aD n (.int .i64 0))]) (λ_=>am)):ag TE 88 [.nils,vi n] h R:=by
 refine ah Tryz.func88 rfl (by simp[nts]) ?_;refine vn ?_;simp only[wq.1,Nat.reduceLT,Tryz.results88];refine ak ?_;refine vm ?_;simp only[wq.1,seval];refine vcB.mk (λhc=> ?_) (λhc=> ?_)
 ·simp only[zqb]at hc;omega
 simp only[wq.1];refine ak (ak (jF ?_));refine aK rfl rfl ?_;simp only[wq.1,seval];refine aK rfl rfl ?_;simp only[wq.1,seval];refine gX rfl rfl ?_;have hq:ti TE.P 22=ar ⟨.slice 3,1,24,.nils⟩:=by simp only[wq.1]
 have hqe:ti TE.P 3=ar ⟨.int .i64,1,8,.int .i64 0⟩:=by simp only[wq.1]
 have hqi:ti TE.P 3=ar ⟨.int .i64,1,8,.int .i64 0⟩:=by simp only[wq.1]
 refine jq (t:=22) rfl rfl hq rfl trivial rfl ?_;refine aK rfl rfl ?_;simp only[wq.1,seval];refine aK rfl rfl ?_;simp only[wq.1,↓reduceIte];refine aK rfl rfl ?_;simp only[wq.1,seval];refine aK rfl rfl ?_;simp only[wq.1,seval];refine aK rfl rfl ?_;simp only[wq.1,↓reduceIte];have w0:a5 .i64 0=0:=by decide
 have w1:a5 .i64 ((n:Int)-0)=n:=by rw[Int.sub_zero];exact fM (by omega) (by omega)
 refine iZ ?_;simp only[wq.1,w0,w1];refine ak ?_;refine vm ?_;simp only[wq.1,seval];refine aX (b:=aM ((0:Int)<n)) (by simp only[wq.1,↓reduceIte]) (by simp only[wq.1,↓reduceIte]) (λhb=> ?_) (λhb=> ?_)
 ·have hpos:0<n:=by simp only[zqb]at hb;omega
  refine jF ?_;refine aK rfl rfl ?_;simp only[wq.1,seval];refine aK rfl rfl ?_;simp only[wq.1,seval];refine gX rfl rfl ?_;refine jq (t:=22) rfl rfl hq rfl trivial rfl ?_;refine gX rfl rfl ?_;refine mW rfl hq rfl hqe (by simp only[wq.1,seval]) (by simp only[wq.1,seval]) (by simp only[wq.1,↓reduceIte]) (k:= .i64) (by simp only[wq.1,↓reduceIte]) ?_;refine aK rfl rfl ?_;simp only[wq.1,seval];refine gX rfl rfl ?_;refine lG (x:= .tmp 20) (y:= .tmp 21) (t:=22) (xt:=3) (el:=3) ⟨⟨_,rfl,rfl,rfl⟩,hq,rfl,hqe,rfl,rfl,Nat.zero_lt_one⟩ (by simp only[wq.1,seval]) (by simp only[wq.1,↓reduceIte]) (by simp only[wq.1,seval]) (by simp only[wq.1,↓reduceIte]) hqi rfl hpos (by omega) ?_ rfl (zv:= .int .i64 0) rfl ?_
  ·show n*8<=_;omega
  refine aK rfl rfl ?_;simp only[wq.1,seval];refine aK rfl rfl ?_;simp only[wq.1,↓reduceIte];refine aK rfl rfl ?_;simp only[wq.1,seval];refine⟨by omega,?_⟩;refine aK rfl rfl ?_;simp only[wq.1,↓reduceIte];refine iZ ?_;simp only[wq.1];refine vm ?_;simp only[wq.1,seval];exact hr hpos
 ·have:n=0:=by simp only[zqd]at hb;omega
  refine vm ?_;simp only[wq.1];refine vm ?_;simp only[wq.1,seval];exact hr0 this
def XX(n:Nat)(c:List Int)(v:V)(h:H):Prop :=
 (c=[]/\v= .nils/\h=[]/\n=0)\/(aa c<=n/\v= .ls 0 1 0 (aa c) n/\h=[aw (c.map vi++aD (n-aa c) (.int .i64 0))])
theorem PS(n:Nat)(hn:n<=1000000000)(R:AEnd->H->(Nat->Bool)->Prop)(hr:∀v h,XX n [] v h->R (.ret v) h (λ_=>am)):ag TE 88 [.nils,vi n] [] R :=
 Ir n hn [] R (λhz=>hr _ _ (.inl ⟨rfl,rfl,rfl,hz⟩)) (λhz=>hr _ _ (.inr ⟨Nat.zero_le _,rfl,rfl⟩))
theorem wR{p:Nat->Bool}:∀l:List Int,aE p (l.map vi)=l.map vi
 |[]=>rfl
 |a::l=>by simp only[zrd,aE,V.drop,wR l]
theorem FM:∀l:List Int,dD (l.map vi)=ab
 |[]=>rfl
 |a::l=>by simp only[zrd,dD,FM l,V.one,V.vc,zrk];rfl
theorem FN(c l:List Int)(n:Nat)(h:aa c+aa l<=n):iI (c.map vi++aD (n-aa c) (.int .i64 0)) (aa c) (l.map vi)=(c++l).map vi++aD (n-aa (c++l)) (.int .i64 0):=by
 unfold iI;have e1:(c.map vi++aD (n-aa c) (V.int .i64 0)).take (aa c)=c.map vi:=by
  simp
 have e2:(c.map vi++aD (n-aa c) (V.int .i64 0)).drop (aa c+aa (l.map vi))=aD (n-aa (c++l)) (V.int .i64 0):=by
  rw[List.drop_append];have:(c.map vi).drop (aa c+aa (l.map vi))=[]:=List.drop_of_length_le (by simp);rw[this,List.nil_append,List.drop_replicate]
  congr 1
  simp only[zra,zqa];omega
 rw[e1,e2,zql]
theorem wS(ls:List (List Int))(hn:aa ls.flatten<=1000000000)(hls:aa ls<=1000000000):EvF TE 56 [.is ab 1 (ls.map az)] 1 (aa ls.flatten) (ls.flatten.map vi):=by
 have hM:=mLx;have hget:∀ {i:Nat} (h:i<aa ls) (d:V),(ls.map az).getD i d=az ls[i]:=λh d=>iO h d;unfold EvF;refine ah Tryz.func56 rfl (by simp[nts]) (vm ?_);simp only[wq.1,seval,Tryz.results56];refine aA (λm f h=>∃i,m+i=aa ls/\f.t 0= .is ab 1 (ls.map az)/\f.t 3=vi (ls.take i).flatten.length/\f.t 9= .is ab 1 (ls.map az)/\f.t 10=vi (aa ls)/\f.t 11=vi i/\f.d=[]/\h=[]) (aa ls) ⟨0,by simp,rfl,rfl,rfl,rfl,rfl,rfl,rfl⟩ ?_;rintro m f h ⟨i,hm,h0,h3,h9,h10,h11,hd,rfl⟩;refine vm ?_;simp only[wq.1,seval,h10,h11];refine vcB.mk (λhc=> ?_) (λhc=> ?_)
 ·simp only[zqb,zqi]at hc;have hfl:=qM hc;have hw:a5 .i64 (((ls.take i).flatten.length:Int)+(ls[i].length:Int))=((ls.take (i+1)).flatten.length:Int):=by
   rw[gQ hc,zqa,aV (by omega) (by omega)];omega
  simp only[wq.1,seval,h3,h9,h11,hget hc,hw];refine⟨⟨by omega,by omega⟩,vcB.mk (λhc'=> ?_) (λhc'=> ?_)⟩
  ·simp only[zqb]at hc';omega
  ·simp only[wq.1,seval,h11,ax (show i<maxLen by omega)];exact .inl ⟨m-1,by omega,i+1,by omega,h0,rfl,h9,h10,rfl,hd,rfl⟩
 ·simp only[zqd,zqi]at hc;have hi:ls.take i=ls:=zqh (by omega);rw[hi]at h3;simp only[wq.1,seval,h3];refine PS (aa ls.flatten) hn _ (λv0 h0' hcat=> ?_);simp only[wq.1,seval,h0];refine aA (λm f h=>∃i v,m+i=aa ls/\f.t 25= .is ab 1 (ls.map az)/\f.t 26=vi (aa ls)/\f.t 27=vi i/\f.t 6=v/\f.d=[]/\XX (aa ls.flatten) (ls.take i).flatten v h) (aa ls) ⟨0,v0,by simp,rfl,rfl,rfl,rfl,hd,by simpa using hcat⟩ ?_;rintro m f h ⟨i,v,hm,h25,h26,h27,h6,hd,hcat⟩;refine vm ?_;simp only[wq.1,seval,h26,h27];refine vcB.mk (λhc=> ?_) (λhc=> ?_)
  ·simp only[zqb,zqi]at hc;have hfl:=qM hc;have hnext:f.t 27=vi i->a5 .i64 ((i:Int)+1)=((i+1:Nat):Int):=λ_=>ax (by omega);rcases hcat with⟨hc0,rfl,rfl,hn0⟩|⟨hcl,rfl,rfl⟩
   ·have hl0:ls[i]=[]:=List.eq_nil_of_length_eq_zero (by omega);simp only[wq.1,seval,h25,h27,h6,hget hc,hl0,ax (show i<maxLen by omega)];refine⟨⟨by omega,by omega⟩,by omega,.inl ⟨m-1,by omega,i+1,_,by omega,h25,h26,rfl,rfl,hd,?_⟩⟩;right;rw[gQ hc,hl0,hc0,hn0];exact⟨zrb _,rfl,rfl⟩
   ·by_cases hlt:(ls.take i).flatten.length<aa ls.flatten
    ·have hdt:aM ((ls.take i).flatten.length<aa ls.flatten)=ab:=by simpa using hlt
     simp only[wq.1,seval,h25,h27,h6,hget hc,ax (show i<maxLen by omega),FM,hdt];refine⟨⟨by omega,by omega⟩,⟨by omega,by omega,by rw[zsc];omega⟩,.inl ⟨m-1,by omega,i+1,_,by omega,h25,h26,rfl,rfl,hd,?_⟩⟩;right;rw[gQ hc];refine⟨by rw[zqa];omega,by simp only[wq.1,seval],?_⟩;have hsp:=FN (ls.take i).flatten ls[i] (aa ls.flatten) hfl;unfold iI at hsp;rw[zra]at hsp;rw[Nat.mul_one,hsp]
    ·have hdt:aM ((ls.take i).flatten.length<aa ls.flatten)=am:=by simpa using hlt
     have hl0:ls[i]=[]:=List.eq_nil_of_length_eq_zero (by omega);have hne:(ls.take i).flatten.length=aa ls.flatten:=by omega
     simp only[wq.1,seval,h25,h27,h6,hd,hget hc,ax (show i<maxLen by omega),hdt,hl0,wR];refine⟨⟨by omega,by omega⟩,⟨by rw[zsc];omega,by omega,by omega⟩,.inl ⟨m-1,by omega,i+1,_,by omega,by simp only[wq.1,seval,h25],by simp only[wq.1,seval,h26],rfl,rfl,hd,?_⟩⟩;right;rw[gQ hc,hl0,zqp,hne,Nat.sub_self];refine⟨zrb _,rfl,?_⟩;simp only[List.replicate_zero,aE]
  ·simp only[zqd,zqi]at hc;have hi:ls.take i=ls:=zqh (by omega);rw[hi]at hcat;simp only[wq.1,seval,h6,hd];rcases hcat with⟨hc0,rfl,rfl,hn0⟩|⟨hcl,rfl,rfl⟩
   ·exact .inl ⟨rfl,hn0,by rw[hc0];rfl⟩
   ·rw[Nat.sub_self,List.replicate_zero,zqp];exact .inr ⟨0,_,rfl,zrb _,rfl⟩
theorem XY(c:List S)(q:FuncId)(caps:List V)(p:S->Bool)(he:au P q=ab)(hd:a7 caps=ab)(hq:∀x∈c,Ev TE q (.str x::caps) (.bool (p x))):Ev TE 109 [ig c,.fn (.func q) [] caps] (vi (idx c p)):=by
 refine Ev.bnd λhb=> ?_;have hlen:=qL hb;refine aC Tryz.func109 rfl (by simp[nts]) (vm ?_);simp only[wq.1,seval,Tryz.results109];refine aA (λm f h=>∃i,m+i=aa c/\f.t 0=ig c/\f.t 1= .fn (.func q) [] caps/\f.t 7= .int .i64 (aa c:Int)/\f.t 8= .int .i64 (i:Int)/\f.d=[]/\∀x∈c.take i,p x=am) (aa c) ⟨0,by simp,rfl,rfl,rfl,rfl,rfl,by simp⟩ ?_;rintro m f h ⟨i,hm,h0,h1,h7,h8,hdd,hall⟩;refine vm ?_;simp only[wq.1,seval,h7,h8];refine vcB.mk (λhc=> ?_) (λhc=> ?_)
 ·simp only[zqb,zqi]at hc;simp only[wq.1,seval,h0,h1,h8,BA hc,he];refine⟨⟨by omega,by omega⟩,ag.ev (hq _ (zqu _)) (by simp[a7,a6,hd]) ?_⟩;simp only[wq.1,seval];refine vcB.mk (λhc'=> ?_) (λhc'=> ?_)
  ·simp only[wq.1,seval,hdd];rw[oL hc hall hc'];exact aH.dat rfl
  ·simp only[wq.1,seval,h8,ax (show i<maxLen by omega)];exact .inl ⟨m-1,by omega,i+1,by omega,h0,h1,h7,rfl,hdd,dF hc hall hc'⟩
 ·simp only[zqd,zqi]at hc;simp only[wq.1,seval,hdd];rw[zqh (by omega)]at hall;rw[mi hall];exact aH.dat rfl
theorem UT(c:List S)(q:FuncId)(caps:List V)(p:S->Bool)(he:au P q=ab)(hd:a7 caps=ab)(hq:∀x∈c,Ev TE q (.str x::caps) (.bool (p x))):Ev TE 81 [ig c,.fn (.func q) [] caps] (.bool (c.any p)):=by refine aC Tryz.func81 rfl (by simp[nts]) (vm ?_);simp only[wq.1,seval,Tryz.results81];refine ag.ev (XY c q caps p he hd hq) (by simp[a7,a6,hd]) ?_;simp only[wq.1,seval];exact aH.eq rfl (by rw[yT])
def uz(s:S):Bool:= !JD s
theorem TG(s:S):Ev TE 106 [.str s] (.bool (uz s)):=by refine aC Tryz.func106 rfl (by simp[nts]) (vm ?_);simp only[wq.1,seval,Tryz.results106];refine ag.ev (TD s) rfl ?_;simp only[wq.1,seval];exact aH.dat rfl
theorem Iu(l:List S):Ev TE 76 [ig l] (.bool (l.any uz)):=by refine aC Tryz.func76 rfl (by simp[nts]) (vm ?_);simp only[wq.1,seval,Tryz.results76];refine ag.ev (UT l 106 [] uz rfl rfl λx _=>TG x) rfl ?_;simp only[wq.1,seval];exact aH.dat rfl
def at? :List S->S->Option Nat
 |[],_=>aL
 |x::l,s=>if x=s then ar 0 else(at? l s).map (·+1)
theorem eQ(s:S):∀(ks:List S),kF .str (.str s) (ks.map V.str)=ar (at? ks s)
 |[]=>rfl
 |k::ks=>by
  simp only[zrd,kF,keq,at?];by_cases h:k=s
  ·subst h;simp
  ·have:(s==k)=am:=by simpa using λh'=>h h'.symm
   rw[this,eQ s ks,if_neg h];cases at? ks s<;>rfl
theorem kD:∀ {l:List S} {s:S} {n:Nat},at? l s=ar n->∃h:n<aa l,l[n]=s
 |[],s,n,h=>by cases h
 |x::l,s,n,h=>by
  simp only[at?]at h;split at h
  ·rename_i he;cases h;exact⟨by simp,he⟩
  ·cases hl:at? l s with
   |none=>rw[hl]at h;cases h
   |some k=>rw[hl]at h;cases h;obtain⟨h1,h2⟩:=kD hl;exact⟨by simpa using h1,by simpa using h2⟩
theorem Dx:∀ {l:List S} {s:S},s∈l->∃n,at? l s=ar n
 |x::l,s,h=>by
  by_cases hx:x=s
  ·exact⟨0,by simp[at?,hx]⟩
  ·have:s∈l:=by
    rcases zrj.1 h with h|h
    ·exact absurd h.symm hx
    ·exact h
   obtain⟨n,hn⟩:=Dx this;exact⟨n+1,by simp[at?,hx,hn]⟩
theorem TJ{l:List S}{s:S}(h:s∉l):at? l s=aL:=by
 cases hh:at? l s with
 |none=>rfl
 |some n=>obtain⟨h1,h2⟩:=kD hh;exact absurd (h2▸zqu h1) h
def FO(l:List S):Bool:= !decide l.Nodup
theorem FP(l:List S):Ev TE 77 [ig l] (.bool (FO l)):=by
 refine Ev.bnd λhb=> ?_;have hlen:=qL hb;refine aC Tryz.func77 rfl (by simp[nts]) (vm ?_);simp only[wq.1,seval,Tryz.results77];refine aA (λm f h=>∃i,m+i=aa l/\f.t 3= .lm 0/\f.t 7=ig l/\f.t 8= .int .i64 (aa l:Int)/\f.t 9= .int .i64 (i:Int)/\f.d=[]/\h=[.map ((l.take i).map V.str) (aD i (.bool ab))]/\(l.take i).Nodup) (aa l) ⟨0,by simp,rfl,rfl,rfl,rfl,rfl,rfl,by simp⟩ ?_;rintro m f h ⟨i,hm,h3,h7,h8,h9,hd,rfl,hnd⟩;refine vm ?_;simp only[wq.1,seval,h8,h9];refine vcB.mk (λhc=> ?_) (λhc=> ?_)
 ·simp only[zqb,zqi]at hc;have hsucc:l.take (i+1)=l.take i++[l[i]]:=by rw[zrg];simp[hc]
  cases hat:at? (l.take i) l[i]with
  |some n =>
   obtain⟨g1,g2⟩:=kD hat;have hn:n<i:=by simpa using(Nat.lt_of_lt_of_le g1 (by simp;omega))
   have hg:(aD i (V.bool ab)).getD n .any= .bool ab:=by simp[zqg,hn]
   simp only[wq.1,seval,h3,h7,h9,hd,BA hc,qF,eQ,K.keyOk,hat,hg];refine⟨⟨by omega,by omega⟩,?_⟩;have:¬l.Nodup:=by
    intro h;rw[<-List.take_append_drop (i+1) l,hsucc]at h;have h2:=(List.nodup_append.1 (List.nodup_append.1 h).1).2.2;exact h2 l[i] (g2▸zqu g1) l[i] (by simp) rfl
   exact aH.eq rfl (by simp[FO,this])
  |none =>
   have hnm:l[i]∉l.take i:=λh=>by obtain⟨n,hn⟩:=Dx h;rw[hn]at hat;cases hat
   simp only[wq.1,seval,h3,h7,h9,BA hc,qF,IZ,eQ,K.keyOk,hat];refine⟨⟨by omega,by omega⟩,.inl ⟨m-1,by omega,i+1,by omega,h3,h7,h8,by rw[ax (by omega)];rfl,hd,?_,?_⟩⟩
   ·rw[hsucc,zql,List.replicate_succ'];rfl
   ·rw[hsucc];refine List.nodup_append.2 ⟨hnd,by simp,λa ha b hb h=> ?_⟩;simp only[zrc]at hb;exact hnm (by rw[<-hb,<-h];exact ha)
 ·simp only[zqd,zqi]at hc;simp only[wq.1,seval,hd];rw[zqh (by omega)]at hnd;exact aH.eq rfl (by simp[FO,hnd])
theorem FQ(c:List S)(s:S):Ev TE 45 [ig c,.str s] (vi (idx c (·==s))):=by
 refine Ev.bnd λhb=> ?_;have hlen:=qL hb;refine aC Tryz.func45 rfl (by simp[nts]) (vm ?_);simp only[wq.1,seval,Tryz.results45];refine aA (λm f h=>∃i,m+i=aa c/\f.t 0=ig c/\f.t 1= .str s/\f.t 7= .int .i64 (aa c:Int)/\f.t 8= .int .i64 (i:Int)/\f.d=[]/\∀x∈c.take i,(x==s)=am) (aa c) ⟨0,by simp,rfl,rfl,rfl,rfl,rfl,by simp⟩ ?_;rintro m f h ⟨i,hm,h0,h1,h7,h8,hdd,hall⟩;refine vm ?_;simp only[wq.1,seval,h7,h8];refine vcB.mk (λhc=> ?_) (λhc=> ?_)
 ·simp only[zqb,zqi]at hc;simp only[wq.1,seval,h0,h1,h8,BA hc];refine⟨⟨by omega,by omega⟩,vcB.mk (λhc'=> ?_) (λhc'=> ?_)⟩
  ·simp only[wq.1,seval,hdd];rw[oL hc hall (by rw[beq_iff_eq]at hc' ⊢;exact hc'.symm)];exact aH.dat rfl
  ·simp only[wq.1,seval,h8,ax (show i<maxLen by omega)];exact .inl ⟨m-1,by omega,i+1,by omega,h0,h1,h7,rfl,hdd,dF hc hall (by rw[beq_eq_false_iff_ne]at hc' ⊢;exact hc'.symm)⟩
 ·simp only[zqd,zqi]at hc;simp only[wq.1,↓reduceIte,Nat.reduceLT,Int.reduceNeg,hdd];rw[zqh (by omega)]at hall;rw[mi hall];exact aH.dat rfl
structure Mo where
 g:Gr
 ins:List S
 lat:List S
 out:List S
abbrev Mo.v(m:Mo):V:= .agg [vi m.g.ins,az m.g.next,az m.g.init,prs m.g.ands,az m.g.outs,ig m.ins,ig m.lat,ig m.out]
def Mo.place(m:Mo)(s:S):Int:=if idx (m.ins++m.lat) (·==s)<0 then -1 else idx (m.ins++m.lat) (·==s)+1
theorem UU{α:Type}(l:List α)(p:α->Bool):-1<=idx l p/\idx l p<aa l:=by
 unfold idx;cases h:l.findIdx? p with
 |none=>exact⟨Int.le_refl _,by show(-1:Int)<_;omega⟩
 |some i=>have:=(List.findIdx?_eq_some_iff_getElem.1 h).1;exact⟨by show(-1:Int)<=(i:Int);omega,by show(i:Int)<_;omega⟩
theorem PT(m:Mo)(s:S)(h1:aa m.ins+aa m.lat<=1000000):Ev TE 79 [m.v,.str s] (vi (m.place s)):=by
 have hcat:=BB [m.ins,m.lat] (by simp;omega) (by simp);have hfl:[m.ins,m.lat].flatten=m.ins++m.lat:=by simp
 rw[hfl]at hcat;have hi:=UU (m.ins++m.lat) (·==s);rw[zqa]at hi;unfold Mo.v;refine aC Tryz.func79 rfl (by simp[nts]) (vm ?_);simp only[wq.1,↓reduceIte,Nat.reduceEqDiff,Nat.reduceLT,Nat.reduceLeDiff,Nat.reduceAdd,Int.reduceNeg,reduceCtorEq,Nat.reduceMul,Tryz.results79];refine⟨⟨rfl,by decide⟩,ag.ev hcat rfl ?_⟩;simp only[wq.1,seval];refine ag.ev (FQ _ _) rfl ?_;unfold Mo.place;simp only[wq.1,seval];refine vcB.mk (λhc=> ?_) (λhc=> ?_)
 ·simp only[wq.1,seval];simp only[zqb]at hc;exact aH.eq rfl (by rw[if_pos hc])
 ·simp only[wq.1,seval];simp only[zqd]at hc;rw[fM (n:=idx (m.ins++m.lat) (λx=>x==s)+1) (by omega) (by omega)];exact aH.eq rfl (by rw[if_neg hc])
def Mo.lens(m:Mo):Bool:=((aa m.ins:Int) != m.g.ins)||((aa m.lat:Int) != (aa m.g.next:Int))||((aa m.out:Int) != (aa m.g.outs:Int))
def Mo.names(m:Mo):Bool:=m.ins.any uz||m.lat.any uz||m.out.any uz
def Mo.twos(m:Mo):Bool:=FO (m.ins++m.lat)||FO m.out
def Mo.other(m:Mo)(n:Nat):Bool:=(List.range n).any λi=>aM (0<=m.place (m.out.getD i []))&&m.g.outs.getD i 0 != 2*m.place (m.out.getD i [])
def Mo.chk(m:Mo):Int:=if m.g.chk≠0 then m.g.chk else if m.lens then 1 else if m.names then 4 else if m.twos then 5 else if m.other (aa m.out)then 5 else 0
structure Gr.Ok(g:Gr):Prop where
 lim:g.lim=am
 i0:0<=g.ins
 i1:g.ins<=4000
 i2:g.ins+aa g.next+aa g.ands<=4000
 i3:(aa g.outs:Int)<=4000
 row:g.oddR=am
 ands:g.oddAs (aa g.ands)=am
variable{g:Gr}
theorem aU(h:g.chk=0):g.Ok:=by
 unfold Gr.chk at h;split at h
 ·cases h
 ·rename_i h1;split at h
  ·cases h
  ·rename_i h2;split at h
   ·cases h
   ·rename_i h3;have h1:g.lim=am:=by simpa using h1
    have h2':=h1;simp only[Gr.lim,zsf,zqd]at h2';exact⟨h1,by omega,by omega,by omega,by omega,by simpa using h2,by simpa using h3⟩
theorem MH{m:Mo}{n:Nat}(h:i<=n)(ho:m.other i=ab):m.other n=ab:=by unfold Mo.other at ho ⊢;rw[List.any_eq_true]at ho ⊢;obtain⟨x,hx,h2⟩:=ho;exact⟨x,List.mem_range.2 (by have:=List.mem_range.1 hx;omega),h2⟩
theorem FU(m:Mo)(hs:m.g.Sm):Ev TE 47 [m.v] (vi m.chk):=by
 have hgc:=kY m.g hs;unfold Gr.v at hgc;unfold Mo.v;have dg:a7 [.agg [vi m.g.ins,az m.g.next,az m.g.init,prs m.g.ands,az m.g.outs]]=ab:=by simp only[a7,a6,zre]
 refine aC Tryz.func47 rfl (by simp[nts]) (vm ?_);simp only[wq.1,seval,Tryz.results47];refine ag.ev hgc dg ?_;simp only[wq.1,seval];refine vcB.mk (λhc=> ?_) (λhc=> ?_)
 ·simp only[wq.1,seval];exact aH.eq rfl (by unfold Mo.chk;rw[if_pos (by simpa using hc)])
 ·have hg:m.g.chk=0:=by simpa using hc
  have go:=aU hg;obtain⟨_,i0,i1,i2,i3,_,_⟩:=go;have fin1:m.lens=ab->vi 1=vi m.chk:=λh=>by unfold Mo.chk;rw[if_neg (by simp[hg]),if_pos h]
  cases hl1:(aa m.ins:Int) != m.g.ins with
  |true=>simp only[wq.1,seval,hl1];exact aH.eq rfl (fin1 (by simp[Mo.lens,hl1]))
  |false =>
   cases hl2:(aa m.lat:Int) != (aa m.g.next:Int)with
   |true=>simp only[wq.1,seval,hl1,hl2];exact aH.eq rfl (fin1 (by simp[Mo.lens,hl2]))
   |false =>
    cases hl3:(aa m.out:Int) != (aa m.g.outs:Int)with
    |true=>simp only[wq.1,seval,hl1,hl2,hl3];exact aH.eq rfl (fin1 (by simp[Mo.lens,hl3]))
    |false =>
     have hlens:m.lens=am:=by simp only[Mo.lens,hl1,hl2,hl3,Bool.or_false]
     have fin4:m.names=ab->vi 4=vi m.chk:=λh=>by unfold Mo.chk;rw[if_neg (by simp[hg]),if_neg (by simp[hlens]),if_pos h]
     simp only[bne_eq_false_iff_eq]at hl1 hl2 hl3;simp only[wq.1,seval,hl1,hl2,hl3,bne_self_eq_false];refine ag.ev (Iu m.ins) rfl ?_;cases hn1:m.ins.any uz with
     |true=>simp only[wq.1,seval];exact aH.eq rfl (fin4 (by simp[Mo.names,hn1]))
     |false =>
      simp only[wq.1,seval];refine ag.ev (Iu m.lat) rfl ?_;cases hn2:m.lat.any uz with
      |true=>simp only[wq.1,seval];exact aH.eq rfl (fin4 (by simp[Mo.names,hn2]))
      |false =>
       simp only[wq.1,seval];refine ag.ev (Iu m.out) rfl ?_;cases hn3:m.out.any uz with
       |true=>simp only[wq.1,↓reduceIte,Nat.reduceLT];exact aH.eq rfl (fin4 (by simp[Mo.names,hn3]))
       |false =>
        have hnames:m.names=am:=by simp only[Mo.names,hn1,hn2,hn3,Bool.or_false]
        have fin5:m.twos=ab->vi 5=vi m.chk:=λh=>by unfold Mo.chk;rw[if_neg (by simp[hg]),if_neg (by simp[hlens]),if_neg (by simp[hnames]),if_pos h]
        have hcat:=BB [m.ins,m.lat] (by simp;omega) (by simp);rw[show [m.ins,m.lat].flatten=m.ins++m.lat by simp]at hcat;simp only[wq.1,↓reduceIte,Nat.reduceEqDiff,Nat.reduceLT,Nat.reduceLeDiff,Nat.reduceAdd,reduceCtorEq,Nat.reduceMul];refine⟨⟨rfl,by decide⟩,ag.ev hcat rfl ?_⟩;simp only[wq.1,seval];refine ag.ev (FP _) rfl ?_;cases ht1:FO (m.ins++m.lat)with
        |true=>simp only[wq.1,seval];exact aH.eq rfl (fin5 (by simp[Mo.twos,ht1]))
        |false =>
         simp only[wq.1,seval];refine ag.ev (FP _) rfl ?_;cases ht2:FO m.out with
         |true=>simp only[wq.1,seval];exact aH.eq rfl (fin5 (by simp[Mo.twos,ht2]))
         |false =>
          have htwos:m.twos=am:=by simp only[Mo.twos,ht1,ht2,Bool.or_false]
          simp only[wq.1,seval];refine aA (λk f h=>∃i,k+i=aa m.out/\f.t 1= .lp 0 0/\f.t 60=ig m.out/\f.t 61=vi (aa m.out)/\f.t 62=vi i/\f.d=[]/\h=aw [vi m.g.ins,az m.g.next,az m.g.init,prs m.g.ands,az m.g.outs,ig m.ins,ig m.lat,ig m.out]::[]/\m.other i=am) (aa m.out) ⟨0,by simp,rfl,rfl,rfl,rfl,rfl,rfl,rfl⟩ ?_;rintro k f h ⟨i,hk,h1,h60,h61,h62,hd,rfl,hno⟩;refine vm ?_;simp only[wq.1,seval,h61,h62];have hM:=mLx;refine vcB.mk (λhc=> ?_) (λhc=> ?_)
          ·simp only[zqb,zqi]at hc;have hc3:i<aa m.g.outs:=by omega
           have hpl:=UU (m.ins++m.lat) (·==m.out[i]);rw[zqa]at hpl;have hpr:-1<=m.place m.out[i]/\m.place m.out[i]<=4000:=by unfold Mo.place;split<;>omega
           have hgo:m.out.getD i []=m.out[i]:=aP hc;have hgg:m.g.outs.getD i 0=m.g.outs[i]:=aP hc3;have hplace:=PT m m.out[i] (by omega);have dm:a7 [m.v,.str m.out[i]]=ab:=by simp only[a7,a6,zre]
           unfold Mo.v at hplace dm;have w2:a5 .i64 (2*m.place m.out[i])=2*m.place m.out[i]:=fM (by omega) (by omega);simp only[wq.1,seval,h1,h60,h62,BA hc];refine⟨⟨by omega,by omega⟩,ag.ev hplace dm ?_⟩;have hother:m.other (i+1)=(m.other i||(aM (0<=m.place m.out[i])&&m.g.outs[i] != 2*m.place m.out[i])):=by
            unfold Mo.other;rw[List.range_succ,List.any_append,List.any_cons,List.any_nil,Bool.or_false,hgo,hgg]
           cases hp:aM (0<=m.place m.out[i])with
           |false=>rw[hp,hno]at hother;simp only[wq.1,seval,h1,h62,hp,sU hc3,ax (show i<maxLen by omega)];exact .inl ⟨k-1,by omega,i+1,by omega,h1,h60,h61,rfl,hd,rfl,hother⟩
           |true =>
            rw[hp,hno]at hother;cases hq:m.g.outs[i] != 2*m.place m.out[i]with
            |true=>simp only[wq.1,seval,h1,hd,hp,sU hc3,w2,hq];refine⟨⟨by omega,by omega⟩,aH.eq rfl ?_⟩;rw[hq]at hother;unfold Mo.chk;rw[if_neg (by simp[hg]),if_neg (by simp[hlens]),if_neg (by simp[hnames]),if_neg (by simp[htwos]),if_pos];refine MH (by omega) (hother.trans rfl)
            |false=>rw[hq]at hother;simp only[wq.1,seval,h1,h62,hp,sU hc3,w2,hq,ax (show i<maxLen by omega)];refine⟨⟨by omega,by omega⟩,.inl ⟨k-1,by omega,i+1,by omega,h1,h60,h61,rfl,hd,rfl,hother⟩⟩
          ·simp only[zqd,zqi]at hc;have hi:i=aa m.out:=by omega
           simp only[wq.1,seval,hd];refine aH.eq rfl ?_;unfold Mo.chk;rw[if_neg (by simp[hg]),if_neg (by simp[hlens]),if_neg (by simp[hnames]),if_neg (by simp[htwos]),<-hi,if_neg (by simp[hno])]
structure Wi where
 bad:Int
 st:Cl
 steps:List Cl
abbrev Wi.v(w:Wi):V:= .agg [vi w.bad,az w.st,cls w.steps]
theorem wU{m:Mo}(h:m.chk=0):m.g.chk=0/\m.lens=am/\m.names=am/\m.twos=am/\m.other (aa m.out)=am:=by
 unfold Mo.chk at h;split at h
 ·rename_i h1;exact absurd h h1
 ·rename_i h1;split at h
  ·cases h
  ·split at h
   ·cases h
   ·split at h
    ·cases h
    ·split at h
     ·cases h
     ·refine⟨by simpa using h1,?_⟩
      simp_all
theorem aJ(h:g.oddR=am):aa g.init=aa g.next/\(∀a∈g.init,0<=a/\a<=2)/\(∀a∈g.next,0<=a/\a<g.all)/\(∀a∈g.outs,0<=a/\a<g.all):=by simp only[Gr.oddR,zsf,bne_eq_false_iff_eq,List.any_eq_false,xN,xx,Bool.not_eq_true,zqd]at h;obtain⟨⟨⟨h1,h2⟩,h3⟩,h4⟩:=h;exact⟨h1,λa ha=>by have:=h2 a ha;omega,λa ha=>by have:=h3 a ha;omega,λa ha=>by have:=h4 a ha;omega⟩
def lv(v:List Bool)(a:Int):Bool:=v.getD (a/2).toNat am != (a%2==1)
theorem WT{a:Int}(h0:0<=a)(h1:a<=1000000000):a5 .i64 ((BitVec.ofInt IntKind.i64.bits a &&& BitVec.ofInt IntKind.i64.bits 1).toNat:Int)=a%2:=by
 obtain⟨n,rfl⟩:∃n:Nat,a=n:=⟨a.toNat,by omega⟩;have e1:(BitVec.ofInt IntKind.i64.bits (n:Int) &&& BitVec.ofInt IntKind.i64.bits 1).toNat=n%2:=by
  show(BitVec.ofInt 64 (n:Int) &&& BitVec.ofInt 64 1).toNat=n%2;rw[BitVec.toNat_and];have:(BitVec.ofInt 64 (n:Int)).toNat=n:=by simp;omega
  rw[this];show n &&& 1=n%2;exact Nat.and_one_is_mod n
 rw[e1,fM (by omega) (by omega)];omega
theorem VX(a:Int):a.fdiv (2^(min 1 IntKind.i64.bits))=a/2:=by show a.fdiv 2=a/2;rw[Int.fdiv_eq_ediv_of_nonneg _ (by decide)]
theorem zB(v:List Bool)(a:Int)(h0:0<=a)(h1:a/2<aa v)(h2:a<=1000000000):Ev TE 73 [aI v,vi a] (.bool (lv v a)):=by
 obtain⟨k,hk⟩:∃k:Nat,a/2=k:=⟨(a/2).toNat,by omega⟩;have hkl:k<aa v:=by omega
 have hg:(v.map V.bool).getD k .any= .bool v[k]:=GZ hkl _;refine aC Tryz.func73 rfl (by simp[nts]) (vm ?_);simp only[wq.1,seval,Tryz.results73,VX,WT h0 h2,hk,hg];refine⟨⟨by omega,by omega⟩,?_⟩;refine aH.eq rfl ?_;unfold lv;rw[hk,zsg,aP hkl];rfl
def dw(g:Gr)(st ins:List Bool)(n:Nat):List Bool:=(g.ands.take n).foldl (λv p=>v++[lv v p.1&&lv v p.2]) ([am]++ins++st)
def Gr.vals(g:Gr)(st ins:List Bool):List Bool:=dw g st ins (aa g.ands)
def Gr.valE(g:Gr)(st ins:List Bool):Int:=if g.chk≠0 then g.chk else if((aa st:Int) != (aa g.next:Int))||((aa ins:Int) != g.ins)then 11 else 0
def Gr.valV(g:Gr)(st ins:List Bool):List Bool:=if g.valE st ins=0 then g.vals st ins else []
variable{st ins:List Bool}
theorem jT(h:i<aa g.ands):dw g st ins (i+1)=dw g st ins i++[lv (dw g st ins i) g.ands[i].1&&lv (dw g st ins i) g.ands[i].2]:=by unfold dw;rw[zrg,List.foldl_append];simp[h]
theorem iY{g:Gr}{st ins:List Bool}:∀ {i:Nat},i<=aa g.ands->aa (dw g st ins i)=1+aa ins+aa st+i
 |0,_=>by simp[dw];omega
 |i+1,h=>by rw[jT (by omega),zqa,iY (by omega)];simp;omega
theorem iq(h:g.oddAs (aa g.ands)=am){i:Nat}(hi:i<aa g.ands):0<=g.ands[i].1/\0<=g.ands[i].2/\g.ands[i].1<2*(g.first+i)/\g.ands[i].2<2*(g.first+i):=by unfold Gr.oddAs at h;rw[List.any_eq_false]at h;have:=h i (List.mem_range.2 hi);rw[aP hi]at this;simp only[Ny,Bool.or_eq_true,zqb,not_or]at this;omega
theorem MI(g:Gr)(st ins:List Bool)(hs:g.Sm):Ev TE 71 [g.v,aI st,aI ins] (.tup [aI (g.valV st ins),vi (g.valE st ins)]):=by
 have hgc:=kY g hs;have dg:a7 [.agg [vi g.ins,az g.next,az g.init,prs g.ands,az g.outs]]=ab:=by simp only[a7,a6,zre]
 unfold Gr.v at hgc ⊢;refine Ev.bnd λhb=> ?_;have hl1:aa st<=maxLen:=ES (r:=[aI ins]) (by simp only[V.bnds]at hb ⊢;exact hb.2);refine aC Tryz.func71 rfl (by simp[nts]) (vm ?_);simp only[wq.1,seval,Tryz.results71];refine ag.ev hgc dg ?_;simp only[wq.1,seval];refine vcB.mk (λhc=> ?_) (λhc=> ?_)
 ·simp only[wq.1,seval];have h1:g.valE st ins=g.chk:=by unfold Gr.valE;rw[if_pos (by simpa using hc)]
  have h2:g.valV st ins=[]:=by unfold Gr.valV;rw[if_neg (by rw[h1];simpa using hc)]
  rw[h1,h2];exact aH.tup (aj.cons aH.nils (aj.dat rfl))
 ·have hg:g.chk=0:=by simpa using hc
  have go:=aU hg;obtain⟨_,i0,i1,i2,i3,i4,i5⟩:=go;have fin:((aa st:Int) != (aa g.next:Int))||((aa ins:Int) != g.ins)->aH TE [aw [vi g.ins,az g.next,az g.init,prs g.ands,az g.outs]] (.tup [.nils,vi 11]) (.tup [aI (g.valV st ins),vi (g.valE st ins)]):=λh=>by
   have h1:g.valE st ins=11:=by unfold Gr.valE;rw[if_neg (by simp[hg]),if_pos h]
   have h2:g.valV st ins=[]:=by unfold Gr.valV;rw[if_neg (by rw[h1];decide)]
   rw[h1,h2];exact aH.tup (aj.cons aH.nils (aj.dat rfl))
  cases e1:(aa st:Int) != (aa g.next:Int)with
  |true=>simp only[wq.1,seval,e1];exact fin (by simp[e1])
  |false =>
   cases e2:(aa ins:Int) != g.ins with
   |true=>simp only[wq.1,seval,-Int.reduceNatCast,-Int.reduceNatCast',aG,Tryz.results71,e1,e2];exact fin (by simp[e1,e2])
   |false =>
    simp only[bne_eq_false_iff_eq]at e1 e2;have hcat:EvF TE 104 [.is ab 1 [.is ab 1 [V.bool am],aI ins,aI st]] 1 (aa ([[am],ins,st].flatten)) (([[am],ins,st].flatten).map V.bool) :=
     (FK [[am],ins,st] (by simp;omega) (by simp)).les (fD.cons (VLe.is rfl (λi v v' h1 h2=>by
      rcases i with _|_|_|i
      ·cases h1;cases h2;exact dJ
      ·cases h1;cases h2;exact VLe.refl _
      ·cases h1;cases h2;exact VLe.refl _
      ·cases h1)) (fD.refl _))
    have hfl:[[am],ins,st].flatten=dw g st ins 0:=by simp[dw]
    rw[hfl]at hcat;simp only[wq.1,↓reduceIte,Nat.reduceEqDiff,Nat.reduceLT,Nat.reduceLeDiff,e1,e2,bne_self_eq_false];refine⟨⟨rfl,by decide⟩,⟨rfl,by decide⟩,jM hcat rfl (lK _) ?_⟩;simp only[wq.1,seval];refine aA (λm f h=>∃i G,m+i=aa g.ands/\f.t 3= .lp 0 0/\f.t 36=prs g.ands/\f.t 37=vi (aa g.ands)/\f.t 38=vi i/\f.t 9= .ls 1 1 0 (aa (dw g st ins i)) (aa (dw g st ins i))/\f.d=[]/\h=[aw [vi g.ins,az g.next,az g.init,prs g.ands,az g.outs],aw ((dw g st ins i).map V.bool)]++G) (aa g.ands) ⟨0,[],by simp,rfl,rfl,rfl,by(simp only[wq.1,↓reduceIte]);rfl,rfl,rfl,by simp⟩ ?_;rintro m f h ⟨i,G,hm,h3,h36,h37,h38,h9,hd,rfl⟩;refine vm ?_;simp only[wq.1,seval,-Int.reduceNatCast,-Int.reduceNatCast',aG,Tryz.results71,h3,h36,h37,h38,h9,hd];refine vcB.mk (λhlt=> ?_) (λhlt=> ?_)
    ·simp only[zqb,zqi]at hlt;have hgp:(g.ands.map prV).getD i .any=prV g.ands[i]:=iO hlt _;have hM:=mLx;have hgE:∀x:O,(G++[x])[aa G]? =ar x:=λx=>by simp
     have hgS:∀x y:O,(G++[x]).set (aa G) y=G++[y]:=λx y=>by simp
     have hln:=iY (g:=g) (st:=st) (ins:=ins) (i:=i) (by omega);obtain⟨o1,o2,o3,o4⟩:=iq i5 hlt;have wf:g.first=1+g.ins+aa g.next:=rfl
     simp only[wq.1,seval,-Int.reduceNatCast,-Int.reduceNatCast',aG,Tryz.results71,h3,h36,h37,h38,h9,hd,hgp,hgE,hgS,List.drop_nil];have key:∀b,(lv (dw g st ins i) g.ands[i].1&&lv (dw g st ins i) g.ands[i].2)=b->dw g st ins (i+1)=dw g st ins i++[b]:=λb hb=>by rw[jT hlt,hb]
     have rv:∀G':H,∀b:Int,aj TE (aw [vi g.ins,az g.next,az g.init,prs g.ands,az g.outs]::aw (List.map V.bool (dw g st ins i))::G') [.ls 1 1 0 (aa (dw g st ins i)) (aa (dw g st ins i)),vi b] [aI (dw g st ins i),vi b]:=λG' b=>aj.cons (fG rfl rfl) (aj.cons (aH.dat rfl) aj.nil);refine⟨⟨by omega,by omega⟩,by decide,ag.lend (zB (dw g st ins i) g.ands[i].1 o1 (by omega) (by omega)) (rv _ _) rfl ?_⟩;cases hv1:lv (dw g st ins i) g.ands[i].1 with
     |true =>
      simp only[wq.1,seval,-Int.reduceNatCast,-Int.reduceNatCast',aG,Tryz.results71,bC,h3,h36,h37,h38,h9,hd,hgp,hgE,hgS];refine⟨by decide,ag.lend (zB (dw g st ins i) g.ands[i].2 o2 (by omega) (by omega)) (rv _ _) rfl ?_⟩;simp only[wq.1,↓reduceIte,Nat.reduceEqDiff,Nat.reduceLT,reduceCtorEq,Nat.reduceMul,h38,hd,eU,ax (show i<maxLen by omega)];refine⟨⟨rfl,by decide⟩,⟨by omega,by omega,by omega⟩,.inl ⟨m-1,by omega,i+1,List.map (O.drop λx=>x==1) G++[aw [vi g.ands[i].1,vi g.ands[i].2]],by omega,by simp only[wq.1,seval,h3],by simp only[wq.1,seval,h36],by simp only[wq.1,seval,h37],rfl,?_,hd,?_⟩⟩
      ·rw[key _ rfl,hv1,zqa];rfl
      ·rw[key _ rfl,hv1,zql];rfl
     |false =>
      simp only[wq.1,↓reduceIte,Nat.reduceEqDiff,Nat.reduceLT,Nat.reduceAdd,Int.reduceToNat,Int.reduceLE,reduceCtorEq,Nat.reduceMul,h38,h9,hd,hgE,eU,ax (show i<maxLen by omega)];refine⟨.bool am,?_⟩;simp only[wq.1,↓reduceIte,bC,h3,h36,h37,h38,h9,hd,hgp,hgE,hgS,qJ,eU,ax (show i<maxLen by omega)];refine⟨⟨rfl,by decide⟩,⟨by omega,by omega,by omega⟩,.inl ⟨m-1,by omega,i+1,List.map (O.drop λx=>x==1) G++[aw [vi g.ands[i].1,vi g.ands[i].2]],by omega,by simp only[wq.1,seval,aG,Tryz.results71,h3],by simp only[wq.1,seval,aG,Tryz.results71,h36],by simp only[wq.1,seval,aG,Tryz.results71,h37],rfl,?_,hd,?_⟩⟩
      ·rw[key _ rfl,hv1,zqa];rfl
      ·rw[key _ rfl,hv1,zql];rfl
    ·simp only[zqd,zqi]at hlt;have hi:i=aa g.ands:=by omega
     simp only[wq.1,seval,h9,hd];have hE:g.valE st ins=0:=by unfold Gr.valE;rw[if_neg (by simp[hg]),if_neg (by simp;omega)]
     have hV:g.valV st ins=dw g st ins i:=by unfold Gr.valV Gr.vals;rw[if_pos hE,hi]
     rw[hE,hV];exact aH.tup (aj.cons (fG rfl rfl) (aj.dat rfl))
theorem FV(v:List Bool)(l:Cl)(hll:aa l<=1000000)(hl:∀a∈l,0<=a/\a/2<aa v/\a<=1000000000):Ev TE 72 [az l,.ip (aI v)] (aI (l.map (lv v))):=by
 refine Ev.bnd λhb=> ?_;have hlen:=Dj hb;have hM:=mLx;refine aC Tryz.func72 rfl (by simp[nts]) (vm ?_);simp only[wq.1,seval,Tryz.results72];refine aA (λm f h=>∃i,m+i=aa l/\f.t 1= .ip (aI v)/\f.t 7=az l/\f.t 8=vi (aa l)/\f.t 9=vi i/\f.d=[]/\((i=0/\f.t 4= .nils/\h=[])\/(f.t 4= .ls 0 1 0 i i/\h=[aw (((l.take i).map (lv v)).map V.bool)]))) (aa l) ⟨0,by simp,rfl,rfl,rfl,rfl,rfl,.inl ⟨rfl,rfl,rfl⟩⟩ ?_;rintro m f h ⟨i,hm,h1,h7,h8,h9,hd,hh⟩;refine vm ?_;simp only[wq.1,seval,h8,h9];refine vcB.mk (λhlt=> ?_) (λhlt=> ?_)
 ·simp only[zqb,zqi]at hlt;obtain⟨o1,o2,o3⟩:=hl _ (zqu hlt);have hsucc:(l.take (i+1)).map (lv v)=(l.take i).map (lv v)++[lv v l[i]]:=by rw[zrg,zql];simp[hlt]
  have hg:(l.map vi).getD i .any=vi l[i]:=sU hlt _;simp only[wq.1,seval,h1,h7,h9,hg];refine⟨⟨by omega,by omega⟩,ag.ev (zB v l[i] o1 o2 o3) rfl ?_⟩;have hw:=ax (show i<maxLen by omega);rcases hh with⟨rfl,h4,rfl⟩|⟨h4,rfl⟩
  ·simp only[wq.1,↓reduceIte,Nat.reduceEqDiff,Nat.reduceLT,Nat.reduceLeDiff,reduceCtorEq,Nat.reduceMul,h4,h9,hw];exact⟨⟨rfl,by decide⟩,by omega,.inl ⟨m-1,by omega,0+1,by omega,h1,h7,h8,rfl,hd,.inr ⟨rfl,by rw[hsucc];rfl⟩⟩⟩
  ·simp only[wq.1,↓reduceIte,Nat.reduceEqDiff,Nat.reduceLT,reduceCtorEq,Nat.reduceMul,h4,h9,hd,eU,hw];exact⟨⟨rfl,by decide⟩,⟨by rw[zrl];omega,by omega,by omega⟩,.inl ⟨m-1,by omega,i+1,by omega,by simp only[wq.1,seval,aG,Tryz.results72,h1],by simp only[wq.1,seval,aG,Tryz.results72,h7],by simp only[wq.1,seval,aG,Tryz.results72,h8],rfl,hd,.inr ⟨rfl,by rw[hsucc,zql];rfl⟩⟩⟩
 ·simp only[zqd,zqi]at hlt;have hi:i=aa l:=by omega
  subst hi;simp only[wq.1,seval,hd];rcases hh with⟨h0,h4,rfl⟩|⟨h4,rfl⟩
  ·simp only[wq.1,h4];rw[zse h0];exact aH.nils
  ·simp only[wq.1,h4];refine fG (by simp) (by simp)
def Gr.out(g:Gr)(st ins:List Bool):List Bool:=if g.valE st ins=0 then g.outs.map (lv (g.vals st ins))else []
def Gr.nxt(g:Gr)(st ins:List Bool):List Bool:=if g.valE st ins=0 then g.next.map (lv (g.vals st ins))else []
theorem PU(hE:g.valE st ins=0):(∀a∈g.outs,0<=a/\a/2<aa (g.vals st ins)/\a<=1000000000)/\(∀a∈g.next,0<=a/\a/2<aa (g.vals st ins)/\a<=1000000000)/\aa g.outs<=4000/\aa g.next<=4000/\g.chk=0/\aa st=aa g.next/\(aa ins:Int)=g.ins/\aa (g.vals st ins)=1+aa ins+aa st+aa g.ands:=by
 unfold Gr.valE at hE;split at hE
 ·rename_i h1;exact absurd hE h1
 ·rename_i h1;have hg:g.chk=0:=by simpa using h1
  split at hE
  ·cases hE
  ·rename_i h2;simp only[Bool.or_eq_true,bne_iff_ne,ne_eq,not_or,Decidable.not_not]at h2;obtain⟨_,i0,i1,i2,i3,i4,i5⟩:=aU hg;obtain⟨r1,r2,r3,r4⟩:=aJ i4;have hln:=iY (g:=g) (st:=st) (ins:=ins) (zrb (aa g.ands));have wf:g.all=2*(1+g.ins+aa g.next+aa g.ands):=rfl;have hln:aa (g.vals st ins)=1+aa ins+aa st+aa g.ands:=hln;refine⟨λa ha=> ?_,λa ha=> ?_,by omega,by omega,hg,by omega,h2.2,hln⟩
   ·have:=r4 a ha;omega
   ·have:=r3 a ha;omega
theorem TK(g:Gr)(st ins:List Bool)(hs:g.Sm):Ev TE 44 [g.v,aI st,aI ins] (.tup [aI (g.out st ins),aI (g.nxt st ins),vi (g.valE st ins)]):=by
 have hgv:=MI g st ins hs;unfold Gr.v at hgv ⊢;have dg:a7 [.agg [vi g.ins,az g.next,az g.init,prs g.ands,az g.outs],aI st,aI ins]=ab:=by simp only[a7,a6,zre]
 refine aC Tryz.func44 rfl (by simp[nts]) ?_;refine vn ?_;simp only[wq.1,Nat.reduceLT,Tryz.results44];refine vn ?_;simp only[wq.1,seval];refine ag.ev hgv dg ?_;simp only[wq.1,seval];refine vn ?_;simp only[wq.1,seval];refine vcB.mk (λhc=> ?_) (λhc=> ?_)
 ·have hc:g.valE st ins≠0:=by simpa using hc
  simp only[wq.1,seval];unfold Gr.out Gr.nxt;rw[if_neg hc,if_neg hc];exact aH.tup (aj.cons aH.nils (aj.cons aH.nils (aj.dat rfl)))
 ·have hc:g.valE st ins=0:=by simpa using hc
  have hV:g.valV st ins=g.vals st ins:=by unfold Gr.valV;rw[if_pos hc]
  obtain⟨l1,l2,l3,l4,l5,_⟩:=PU hc;have c1:=FV (g.vals st ins) g.outs (by omega) l1;have c2:=FV (g.vals st ins) g.next (by omega) l2
  simp only[wq.1,hV];refine vn ?_;simp only[wq.1,seval];refine OO (h0:=[aw [vi g.ins,az g.next,az g.init,prs g.ands,az g.outs]]) (o:=aw [aI (g.vals st ins)]) 11 (.fn (.func 72) [] [.ip (aI (g.vals st ins))]) (by simp only[wq.1]) (by simp only[wq.1,↓reduceIte,aQ]) ?_ ?_
  ·simp only[wq.1,↓reduceIte];exact aH.fn aj.nil (aj.cons (aH.lp (h:=vw (aQ 1) 0 _) rfl (aj.dat rfl) rfl rfl (by simp[V.vc]) rfl) aj.nil)
  ·refine vm ?_;simp only[wq.1,seval,aQ];refine⟨by decide +kernel,Aq.mk c1 rfl rfl ?_⟩;simp only[wq.1,seval,aQ];refine Aq.mk c2 rfl rfl ?_;simp only[wq.1,seval];have eo:g.out st ins=g.outs.map (lv (g.vals st ins)):=by unfold Gr.out;rw[if_pos hc]
   have en:g.nxt st ins=g.next.map (lv (g.vals st ins)):=by unfold Gr.nxt;rw[if_pos hc]
   rw[eo,en,hc];exact aH.dat (by simp only[a6,a7,zre])
end Go.Proofs.YthdidjjecjhenaaGreat
