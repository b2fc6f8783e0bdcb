/- Lemmas for this claim, part F08: each holds under what it names. -/
import Derived.Test.YthdidjjecjhenaaGreatF07
import Derived.Test.YthdidjjecjhenaaGreatA8
set_option linter.unusedVariables false
set_option linter.unusedSimpArgs false
set_option linter.unnecessarySimpa false
set_option maxRecDepth 20000
set_option maxHeartbeats 8000000
namespace Go.Proofs.YthdidjjecjhenaaGreat
open Go Go.Proofs Go.Abs
def Gr.all(g:Gr):Int:=2*(g.first+g.ands.length)
def Uk(own:Int)(p:Pq):Bool:=decide (p.1<0)||decide (p.2<0)||decide (own<=p.1)||decide (own<=p.2)
def Gr.lim(g:Gr):Bool:=decide (g.ins<0)||decide (4000<g.ins)||decide (4000<g.ins+g.next.length+g.ands.length)||decide (4000<(g.outs.length:Int))
def Gr.oddR(g:Gr):Bool:=(g.init.length != g.next.length)||g.init.any EX||g.next.any (O4 g.all)||g.outs.any (O4 g.all)
def Gr.oddAs(g:Gr)(n:Nat):Bool:=(List.range n).any fun i=>Uk (2*(g.first+i)) (g.ands.getD i (0,0))
def Gr.chk(g:Gr):Int:=if g.lim then 8 else if g.oddR then 1 else if g.oddAs g.ands.length then 1 else 0
structure Gr.Sm(g:Gr):Prop where
 next:g.next.length<=200000000000000
 ands:g.ands.length<=200000000000000
def Xo:Plan:= .take 2<| .alt 0 (.alt 1 (.alt 3 (.alt 4 (.alt 5 (.alt 6 (.one 7<| .one 8<| .fin) (.one 7 (.one 6<| .one 8<| .fin))) (.one 7 (onZ [5,6,8]<| .fin))) (.one 7 (onZ [4,5,6,8]<| .fin))) (.one 7 (onZ [3,4,5,6,8]<| .fin))) (.alt 3 (.alt 1 (.alt 4 (.alt 5 (.alt 6 (.one 7<| .one 8<| .fin) (.one 7 (.one 6<| .one 8<| .fin))) (.one 7 (onZ [5,6,8]<| .fin))) (.one 7 (onZ [4,5,6,8]<| .fin))) (.alt 4 (.alt 1 (.alt 5 (.alt 6 (.one 7<| .one 8<| .fin) (.one 7 (.one 6<| .one 8<| .fin))) (.one 7 (onZ [5,6,8]<| .fin))) (.one 7 (onZ [1,5,6,8]<| .fin))) (.one 7 (.alt 1 (onZ [4,5,6,8]<| .fin) (.one 4 (onZ [1,5,6,8]<| .fin)))))) (.one 7 (.alt 1 (onZ [3,4,5,6,8]<| .fin) (.one 3 (.alt 1 (onZ [4,5,6,8]<| .fin) (.one 4 (onZ [1,5,6,8]<| .fin)))))))) (.alt 3 (.alt 0 (.alt 1 (.alt 4 (.alt 5 (.alt 6 (.one 7<| .one 8<| .fin) (.one 7 (.one 6<| .one 8<| .fin))) (.one 7 (onZ [5,6,8]<| .fin))) (.one 7 (onZ [4,5,6,8]<| .fin))) (.alt 4 (.alt 1 (.alt 5 (.alt 6 (.one 7<| .one 8<| .fin) (.one 7 (.one 6<| .one 8<| .fin))) (.one 7 (onZ [5,6,8]<| .fin))) (.one 7 (onZ [1,5,6,8]<| .fin))) (.one 7 (.alt 1 (onZ [4,5,6,8]<| .fin) (.one 4 (onZ [1,5,6,8]<| .fin)))))) (.alt 4 (.alt 0 (.alt 1 (.alt 5 (.alt 6 (.one 7<| .one 8<| .fin) (.one 7 (.one 6<| .one 8<| .fin))) (.one 7 (onZ [5,6,8]<| .fin))) (.one 7 (onZ [1,5,6,8]<| .fin))) (.one 7 (onZ [0,1,5,6,8]<| .fin))) (.one 7 (.alt 0 (.alt 1 (onZ [4,5,6,8]<| .fin) (.one 4 (onZ [1,5,6,8]<| .fin))) (.one 4 (onZ [0,1,5,6,8]<| .fin)))))) (.one 7 (.alt 0 (.alt 1 (onZ [3,4,5,6,8]<| .fin) (.one 3 (.alt 1 (onZ [4,5,6,8]<| .fin) (.one 4 (onZ [1,5,6,8]<| .fin))))) (.one 3 (.alt 0 (.alt 1 (onZ [4,5,6,8]<| .fin) (.one 4 (onZ [1,5,6,8]<| .fin))) (.one 4 (onZ [0,1,5,6,8]<| .fin)))))))
theorem kR(g:Gr)(hs:g.Sm):Ev TE 49 [g.v] (vi g.chk):=by
 obtain⟨hs1,hs2⟩:=hs;unfold Gr.v;refine aF Tryz.func49 rfl (by simp[nts]) (vm ?_);simp only[wq.1,seval,Tryz.results49];have hins:g.lim=false->0<=g.ins/\g.ins<=4000/\g.ins+g.next.length+g.ands.length<=4000/\(g.outs.length:Int)<=4000:=by intro h;simp only[Gr.lim,zsf,zqd]at h;omega
 have hl:(decide (g.ins<0)||decide (4000<g.ins)||decide (4000<IntKind.i64.wrap (IntKind.i64.wrap (g.ins+(g.next.length:Int))+(g.ands.length:Int)))||decide (4000<(g.outs.length:Int)))=g.lim:=by
  unfold Gr.lim;by_cases a1:g.ins<0
  ·simp[a1]
  by_cases a2:4000<g.ins
  ·simp[a2]
  rw[fE (n:=g.ins+(g.next.length:Int)) (by omega) (by omega),fE (by omega) (by omega)]
 rw[hl];refine vcB.mk (fun hc=> ?_) (fun hc=> ?_)
 ·simp only[wq.1,seval];exact aH.eq rfl (by unfold Gr.chk;rw[if_pos hc])
 ·obtain⟨i0,i1,i2,i3⟩:=hins hc;simp only[wq.1];refine bM dV Xo (fun f' h'=>f'.t 1= .lp 0 0/\f'.t 3= .lp 1 0/\f'.d=[]/\h'=[.cells [vi g.ins,ay g.next,ay g.init,prs g.ands,ay g.outs],.cells [vi g.all]]) (by decide +kernel) (by decide +kernel) ?_ ?_
  ·simp only[wq.1,seval,Xo];have wf:g.first=1+g.ins+g.next.length:=rfl
   have w1:IntKind.i64.wrap (g.first+(g.ands.length:Int))=g.first+g.ands.length:=fE (by omega) (by omega)
   have w2:IntKind.i64.wrap (2*(g.first+(g.ands.length:Int)))=g.all:=fE (by omega) (by omega);have hfi:=jT g (by omega) (by omega) (by omega);unfold Gr.v at hfi;have dg:V.dats [.agg [vi g.ins,ay g.next,ay g.init,prs g.ands,ay g.outs]]=true:=by simp only[V.dats,V.dat,zre]
   repeat' apply zsa
   all_goals (refine ag.ev hfi dg ?_)
   all_goals (simp only[wq.1,seval,w1,w2])
   all_goals (first|exact⟨rfl,rfl,rfl,rfl⟩|trace_state)
  ·rintro f h ⟨h1,h3,hd,rfl⟩;have hlim:g.lim=false:=hc;have fin1:g.oddR=true->aH TE [.cells [vi g.ins,ay g.next,ay g.init,prs g.ands,ay g.outs],.cells [vi g.all]] (vi 1) (vi g.chk):=fun h=>aH.eq rfl (by unfold Gr.chk;rw[hlim,h];rfl);by_cases e:g.init.length=g.next.length
   ·have e1:((g.init.length:Int) != (g.next.length:Int))=false:=by simp[e]
    simp only[wq.1,seval,h1,h3,e1];refine ag.ev (Ji g.init 83 [] EX rfl rfl fun x _=>Vr x) rfl ?_;cases hA:g.init.any EX with
    |true=>simp only[wq.1,seval,h1];refine⟨.bool true,?_⟩;simp only[wq.1,seval];refine⟨.bool true,?_⟩;simp only[wq.1,seval,hd];exact fin1 (by simp[Gr.oddR,hA])
    |false =>
     simp only[wq.1,seval,h1];have rf:aj TE [.cells [vi g.ins,ay g.next,ay g.init,prs g.ands,ay g.outs],.cells [vi g.all]] [.fn (.func 82) [] [.lp 1 0]] [.fn (.func 82) [] [.ip (vi g.all)]] :=
      aj.cons (aH.fn aj.nil (aj.cons (aH.lp rfl (aj.dat rfl) rfl rfl (by simp[V.vc]) rfl) aj.nil)) aj.nil
     refine ag.lend (Ji g.next 82 [.ip (vi g.all)] (O4 g.all) rfl rfl fun x _=>O5 g.all x) (aj.cons (aH.dat rfl) rf) rfl ?_;cases hB:g.next.any (O4 g.all)with
     |true=>simp only[wq.1,seval,h1];refine⟨.bool true,?_⟩;simp only[wq.1,seval,hd];exact fin1 (by simp[Gr.oddR,hB])
     |false =>
      simp only[wq.1,seval,h1];refine ag.lend (Ji g.outs 82 [.ip (vi g.all)] (O4 g.all) rfl rfl fun x _=>O5 g.all x) (aj.cons (aH.dat rfl) rf) rfl ?_;cases hC:g.outs.any (O4 g.all)with
      |true=>simp only[wq.1,seval,hd];exact fin1 (by simp[Gr.oddR,hC])
      |false =>
       simp only[wq.1,seval,h1];refine aC (fun m f h=>∃i G,m+i=g.ands.length/\f.t 1= .lp 0 0/\f.t 70=prs g.ands/\f.t 71=vi g.ands.length/\f.t 72=vi i/\f.d=[]/\h=[.cells [vi g.ins,ay g.next,ay g.init,prs g.ands,ay g.outs],.cells [vi g.all]]++G/\g.oddAs i=false) g.ands.length ⟨0,[],by simp,h1,rfl,rfl,rfl,hd,by simp,rfl⟩ ?_;rintro m f h ⟨i,G,hm,h1,h70,h71,h72,hd,rfl,hno⟩;refine vm ?_;simp only[wq.1,seval,h71,h72];refine vcB.mk (fun hlt=> ?_) (fun hlt=> ?_)
       ·simp only[zqb,zqi]at hlt;have hg:(g.ands.map prV).getD i .any=prV g.ands[i]:=iM hlt _;have hM:=mLx;have hgE:∀x:O,(G++[x])[G.length]? =some x:=fun x=>by simp
        have hgS:∀x y:O,(G++[x]).set G.length y=G++[y]:=fun x y=>by simp
        have dg:V.dats [.agg [vi g.ins,ay g.next,ay g.init,prs g.ands,ay g.outs]]=true:=by simp only[V.dats,V.dat,zre]
        have wf:g.first=1+g.ins+g.next.length:=rfl
        have w1:IntKind.i64.wrap (g.first+(i:Int))=g.first+i:=fE (by omega) (by omega)
        have w2:IntKind.i64.wrap (2*(g.first+(i:Int)))=2*(g.first+i):=fE (by omega) (by omega);have hfi:=jT g (by omega) (by omega) (by omega);unfold Gr.v at hfi;simp only[wq.1,seval,-Int.reduceNatCast,-Int.reduceNatCast',aG,Tryz.results49,h1,h70,h71,h72,hd,hg,zsg,hgE,hgS,List.drop_nil];refine⟨⟨by omega,by omega⟩,ag.ev hfi dg ?_⟩;simp only[wq.1,seval,-Int.reduceNatCast,-Int.reduceNatCast',aG,Tryz.results49,bJ,h1,h70,h71,h72,hd,w1,w2,hgE,hgS,aA (show i<maxLen by omega)];refine⟨by decide,fun _=>by decide,fun _=>by decide,fun _=>by decide,vcB.mk (fun hb=> ?_) (fun hb=> ?_)⟩
        ·simp only[wq.1,↓reduceIte,Nat.reduceLT,hd];refine aH.eq rfl ?_;unfold Gr.chk;rw[hlim,if_neg (by simp),if_neg (by simp[Gr.oddR,e,hA,hB,hC]),if_pos];simp only[Gr.oddAs,List.any_eq_true,List.mem_range];refine⟨i,hlt,?_⟩;rw[aS hlt];exact hb
        ·simp only[wq.1,seval,h72,aA (show i<maxLen by omega)];refine .inl ⟨m-1,by omega,i+1,G++[.cells [vi g.ands[i].1,vi g.ands[i].2]],by omega,h1,h70,h71,rfl,hd,rfl,?_⟩;simp only[Gr.oddAs,List.range_succ,List.any_append,List.any_cons,List.any_nil,Bool.or_false,zsf];refine⟨hno,?_⟩;rw[aS hlt];exact hb
       ·simp only[zqd,zqi]at hlt;simp only[wq.1,seval,hd];have hi:i=g.ands.length:=by omega
        refine aH.eq rfl ?_;unfold Gr.chk;rw[hlim,if_neg (by simp),if_neg (by simp[Gr.oddR,e,hA,hB,hC]),<-hi,hno];rfl
   ·have e1:((g.init.length:Int) != (g.next.length:Int))=true:=by simpa [Int.natCast_inj]using e
    simp only[wq.1,seval,h1,h3,e1];refine⟨.bool true,?_⟩;simp only[wq.1,seval,h1];refine⟨.bool true,?_⟩;simp only[wq.1,seval];refine⟨.bool true,?_⟩;simp only[wq.1,seval,hd];exact fin1 (by simp[Gr.oddR,e])
theorem Lr(n:Nat)(hn:n<=1000000000)(h:H)(R:AEnd->H->(Nat->Bool)->Prop)(hr0:n=0->R (.ret .nils) h (fun _=>false))
 (hr:0<n->R (.ret (.ls h.length 1 0 0 n)) (h++[.cells (List.replicate n (.str []))]) (fun _=>false)):ag TE 108 [.nils,vi n] h R:=by
 refine ah Tryz.func108 rfl (by simp[nts]) ?_;refine vn ?_;simp only[wq.1,Nat.reduceLT,Tryz.results108];refine ak ?_;refine vm ?_;simp only[wq.1,seval];refine vcB.mk (fun hc=> ?_) (fun hc=> ?_)
 ·simp only[zqb]at hc;omega
 simp only[wq.1];refine ak (ak (kH ?_));refine aK rfl rfl ?_;simp only[wq.1,seval];refine aK rfl rfl ?_;simp only[wq.1,seval];refine iq rfl rfl ?_;have hq:ti TE.P 26=some ⟨.slice 9,1,24,.nils⟩:=by simp only[wq.1]
 have hqe:ti TE.P 9=some ⟨.str,1,16,.str []⟩:=by simp only[wq.1]
 have hqi:ti TE.P 3=some ⟨.int .i64,1,8,.int .i64 0⟩:=by simp only[wq.1]
 refine iZ (t:=26) rfl rfl hq rfl trivial rfl ?_;refine aK rfl rfl ?_;simp only[wq.1,seval];refine aK rfl rfl ?_;simp only[wq.1,↓reduceIte];refine aK rfl rfl ?_;simp only[wq.1,seval];refine aK rfl rfl ?_;simp only[wq.1,seval];refine aK rfl rfl ?_;simp only[wq.1,↓reduceIte];have w0:IntKind.i64.wrap 0=0:=by decide
 have w1:IntKind.i64.wrap ((n:Int)-0)=n:=by rw[Int.sub_zero];exact fE (by omega) (by omega)
 refine jR ?_;simp only[wq.1,w0,w1];refine ak ?_;refine vm ?_;simp only[wq.1,seval];refine aV (b:=decide ((0:Int)<n)) (by simp only[wq.1,↓reduceIte]) (by simp only[wq.1,↓reduceIte]) (fun hb=> ?_) (fun hb=> ?_)
 ·have hpos:0<n:=by simp only[zqb]at hb;omega
  refine kH ?_;refine aK rfl rfl ?_;simp only[wq.1,seval];refine aK rfl rfl ?_;simp only[wq.1,seval];refine iq rfl rfl ?_;refine iZ (t:=26) rfl rfl hq rfl trivial rfl ?_;refine iq rfl rfl ?_;refine mF rfl hq rfl hqe (by simp only[wq.1,seval]) (by simp only[wq.1,seval]) (by simp only[wq.1,↓reduceIte]) (k:= .i64) (by simp only[wq.1,↓reduceIte]) ?_;refine aK rfl rfl ?_;simp only[wq.1,seval];refine iq rfl rfl ?_;refine lg (x:= .tmp 20) (y:= .tmp 21) (t:=26) (xt:=3) (el:=9) ⟨⟨_,rfl,rfl,rfl⟩,hq,rfl,hqe,rfl,rfl,Nat.zero_lt_one⟩ (by simp only[wq.1,seval]) (by simp only[wq.1,↓reduceIte]) (by simp only[wq.1,seval]) (by simp only[wq.1,↓reduceIte]) hqi rfl hpos (by omega) ?_ rfl (zv:= .str []) rfl ?_
  ·show n*16<=_;omega
  refine aK rfl rfl ?_;simp only[wq.1,seval];refine aK rfl rfl ?_;simp only[wq.1,↓reduceIte];refine aK rfl rfl ?_;simp only[wq.1,seval];refine⟨by omega,?_⟩;refine aK rfl rfl ?_;simp only[wq.1,↓reduceIte];refine jR ?_;simp only[wq.1];refine vm ?_;simp only[wq.1,seval];exact hr hpos
 ·have:n=0:=by simp only[zqd]at hb;omega
  refine vm ?_;simp only[wq.1];refine vm ?_;simp only[wq.1,seval];exact hr0 this
theorem Ls{α:Type}(ls:List (List α))(i:Nat):ls.flatten=(ls.take i).flatten++(ls.drop i).flatten:=by rw[<-List.flatten_append,List.take_append_drop]
variable{i:Nat}
theorem gq{α:Type}{ls:List (List α)}(h:i<ls.length):(ls.take (i+1)).flatten=(ls.take i).flatten++ls[i]:=by rw[zrg,List.flatten_append];simp[h]
theorem qC{α:Type}{ls:List (List α)}(h:i<ls.length):(ls.take i).flatten.length+ls[i].length<=ls.flatten.length:=by have h1:=congrArg List.length (Ls ls (i+1));rw[gq h]at h1;simp only[zqa]at h1;omega
def Yq(n:Nat)(c:List S)(v:V)(h:H):Prop :=
 (c=[]/\v= .nils/\h=[]/\n=0)\/(c.length<=n/\v= .ls 0 1 0 c.length n/\h=[.cells (c.map V.str++List.replicate (n-c.length) (.str []))])
theorem SH(n:Nat)(hn:n<=1000000000)(R:AEnd->H->(Nat->Bool)->Prop)(hr:∀v h,Yq n [] v h->R (.ret v) h (fun _=>false)):ag TE 108 [.nils,vi n] [] R :=
 Lr n hn [] R (fun hz=>hr _ _ (.inl ⟨rfl,rfl,rfl,hz⟩)) (fun hz=>hr _ _ (.inr ⟨Nat.zero_le _,rfl,rfl⟩))
theorem Jj:∀l:List S,cZ (l.map V.str)=true
 |[]=>rfl
 |a::l=>by simp only[zrd,cZ,Jj l,V.one,V.vc,zrk];rfl
theorem Ht(c l:List S)(n:Nat)(h:c.length+l.length<=n):gZ (c.map V.str++List.replicate (n-c.length) (.str [])) c.length (l.map V.str)=(c++l).map V.str++List.replicate (n-(c++l).length) (.str []):=by
 unfold gZ;have e1:(c.map V.str++List.replicate (n-c.length) (V.str [])).take c.length=c.map V.str:=by
  simp
 have e2:(c.map V.str++List.replicate (n-c.length) (V.str [])).drop (c.length+(l.map V.str).length)=List.replicate (n-(c++l).length) (V.str []):=by
  rw[List.drop_append];have:(c.map V.str).drop (c.length+(l.map V.str).length)=[]:=List.drop_of_length_le (by simp);rw[this,List.nil_append,List.drop_replicate]
  congr 1
  simp only[zra,zqa];omega
 rw[e1,e2,zql]
theorem Hu(ls:List (List S))(hn:ls.flatten.length<=1000000000)(hls:ls.length<=1000000000):EvF TE 78 [.is true 1 (ls.map jq)] 1 ls.flatten.length (ls.flatten.map V.str):=by
 have hM:=mLx;have hget:∀ {i:Nat} (h:i<ls.length) (d:V),(ls.map jq).getD i d=jq ls[i]:=fun h d=>iM h d;unfold EvF;refine ah Tryz.func78 rfl (by simp[nts]) (vm ?_);simp only[wq.1,seval,Tryz.results78];refine aC (fun m f h=>∃i,m+i=ls.length/\f.t 0= .is true 1 (ls.map jq)/\f.t 3=vi (ls.take i).flatten.length/\f.t 9= .is true 1 (ls.map jq)/\f.t 10=vi ls.length/\f.t 11=vi i/\f.d=[]/\h=[]) ls.length ⟨0,by simp,rfl,rfl,rfl,rfl,rfl,rfl,rfl⟩ ?_;rintro m f h ⟨i,hm,h0,h3,h9,h10,h11,hd,rfl⟩;refine vm ?_;simp only[wq.1,seval,h10,h11];refine vcB.mk (fun hc=> ?_) (fun hc=> ?_)
 ·simp only[zqb,zqi]at hc;have hfl:=qC hc;have hw:IntKind.i64.wrap (((ls.take i).flatten.length:Int)+(ls[i].length:Int))=((ls.take (i+1)).flatten.length:Int):=by
   rw[gq hc,zqa,aU (by omega) (by omega)];omega
  simp only[wq.1,seval,h3,h9,h11,hget hc,hw];refine⟨⟨by omega,by omega⟩,vcB.mk (fun hc'=> ?_) (fun hc'=> ?_)⟩
  ·simp only[zqb]at hc';omega
  ·simp only[wq.1,seval,h11,aA (show i<maxLen by omega)];exact .inl ⟨m-1,by omega,i+1,by omega,h0,rfl,h9,h10,rfl,hd,rfl⟩
 ·simp only[zqd,zqi]at hc;have hi:ls.take i=ls:=zqh (by omega);rw[hi]at h3;simp only[wq.1,seval,h3];refine SH ls.flatten.length hn _ (fun v0 h0' hcat=> ?_);simp only[wq.1,seval,h0];refine aC (fun m f h=>∃i v,m+i=ls.length/\f.t 25= .is true 1 (ls.map jq)/\f.t 26=vi ls.length/\f.t 27=vi i/\f.t 6=v/\f.d=[]/\Yq ls.flatten.length (ls.take i).flatten v h) ls.length ⟨0,v0,by simp,rfl,rfl,rfl,rfl,hd,by simpa using hcat⟩ ?_;rintro m f h ⟨i,v,hm,h25,h26,h27,h6,hd,hcat⟩;refine vm ?_;simp only[wq.1,seval,h26,h27];refine vcB.mk (fun hc=> ?_) (fun hc=> ?_)
  ·simp only[zqb,zqi]at hc;have hfl:=qC hc;have hnext:f.t 27=vi i->IntKind.i64.wrap ((i:Int)+1)=((i+1:Nat):Int):=fun _=>aA (by omega);rcases hcat with⟨hc0,rfl,rfl,hn0⟩|⟨hcl,rfl,rfl⟩
   ·have hl0:ls[i]=[]:=List.eq_nil_of_length_eq_zero (by omega);simp only[wq.1,seval,h25,h27,h6,hget hc,hl0,aA (show i<maxLen by omega)];refine⟨⟨by omega,by omega⟩,by omega,.inl ⟨m-1,by omega,i+1,_,by omega,h25,h26,rfl,rfl,hd,?_⟩⟩;right;rw[gq hc,hl0,hc0,hn0];exact⟨zrb _,rfl,rfl⟩
   ·by_cases hlt:(ls.take i).flatten.length<ls.flatten.length
    ·have hdt:decide ((ls.take i).flatten.length<ls.flatten.length)=true:=by simpa using hlt
     simp only[wq.1,seval,h25,h27,h6,hget hc,aA (show i<maxLen by omega),Jj,hdt];refine⟨⟨by omega,by omega⟩,⟨by omega,by omega,by rw[zsc];omega⟩,.inl ⟨m-1,by omega,i+1,_,by omega,h25,h26,rfl,rfl,hd,?_⟩⟩;right;rw[gq hc];refine⟨by rw[zqa];omega,by simp only[wq.1,seval],?_⟩;have hsp:=Ht (ls.take i).flatten ls[i] ls.flatten.length hfl;unfold gZ at hsp;rw[zra]at hsp;rw[Nat.mul_one,hsp]
    ·have hdt:decide ((ls.take i).flatten.length<ls.flatten.length)=false:=by simpa using hlt
     have hl0:ls[i]=[]:=List.eq_nil_of_length_eq_zero (by omega);have hne:(ls.take i).flatten.length=ls.flatten.length:=by omega
     simp only[wq.1,seval,h25,h27,h6,hd,hget hc,aA (show i<maxLen by omega),hdt,hl0];refine⟨⟨by omega,by omega⟩,⟨by rw[zsc];omega,by omega,by omega⟩,.inl ⟨m-1,by omega,i+1,_,by omega,by simp only[wq.1,seval,h25],by simp only[wq.1,seval,h26],rfl,rfl,hd,?_⟩⟩;right;rw[gq hc,hl0,zqp,hne,Nat.sub_self];refine⟨zrb _,rfl,?_⟩;simp only[List.replicate_zero,V.drops]
  ·simp only[zqd,zqi]at hc;have hi:ls.take i=ls:=zqh (by omega);rw[hi]at hcat;simp only[wq.1,seval,h6,hd];rcases hcat with⟨hc0,rfl,rfl,hn0⟩|⟨hcl,rfl,rfl⟩
   ·exact .inl ⟨rfl,hn0,by rw[hc0];rfl⟩
   ·rw[Nat.sub_self,List.replicate_zero,zqp];exact .inr ⟨0,_,rfl,zrb _,rfl⟩
theorem AB(ls:List (List S))(hn:ls.flatten.length<=1000000000)(hls:ls.length<=1000000000):Ev TE 78 [.is true 1 (ls.map jq)] (jq ls.flatten):=by
 refine(Hu ls hn hls).ev (fun _ hc=> ?_) (fun h' id cap _ hid=>Ed hid rfl) (fun _ hc h'=> ?_)
 ·rw[List.map_eq_nil_iff.1 hc];exact oz
 ·rw[List.map_eq_nil_iff.1 hc];exact aH.nils
theorem Hw(n:Nat)(hn:n<=1000000000)(h:H)(R:AEnd->H->(Nat->Bool)->Prop)(hr0:n=0->R (.ret .nils) h (fun _=>false))
 (hr:0<n->R (.ret (.ls h.length 1 0 0 n)) (h++[.cells (List.replicate n (.bool false))]) (fun _=>false)):ag TE 124 [.nils,vi n] h R:=by
 refine ah Tryz.func124 rfl (by simp[nts]) ?_;refine vn ?_;simp only[wq.1,Nat.reduceLT,Tryz.results124];refine ak ?_;refine vm ?_;simp only[wq.1,seval];refine vcB.mk (fun hc=> ?_) (fun hc=> ?_)
 ·simp only[zqb]at hc;omega
 simp only[wq.1];refine ak (ak (kH ?_));refine aK rfl rfl ?_;simp only[wq.1,seval];refine aK rfl rfl ?_;simp only[wq.1,seval];refine iq rfl rfl ?_;have hq:ti TE.P 31=some ⟨.slice 4,1,24,.nils⟩:=by simp only[wq.1]
 have hqe:ti TE.P 4=some ⟨.bool,1,1,.bool false⟩:=by simp only[wq.1]
 have hqi:ti TE.P 3=some ⟨.int .i64,1,8,.int .i64 0⟩:=by simp only[wq.1]
 refine iZ (t:=31) rfl rfl hq rfl trivial rfl ?_;refine aK rfl rfl ?_;simp only[wq.1,seval];refine aK rfl rfl ?_;simp only[wq.1,↓reduceIte];refine aK rfl rfl ?_;simp only[wq.1,seval];refine aK rfl rfl ?_;simp only[wq.1,seval];refine aK rfl rfl ?_;simp only[wq.1,↓reduceIte];have w0:IntKind.i64.wrap 0=0:=by decide
 have w1:IntKind.i64.wrap ((n:Int)-0)=n:=by rw[Int.sub_zero];exact fE (by omega) (by omega)
 refine jR ?_;simp only[wq.1,w0,w1];refine ak ?_;refine vm ?_;simp only[wq.1,seval];refine aV (b:=decide ((0:Int)<n)) (by simp only[wq.1,↓reduceIte]) (by simp only[wq.1,↓reduceIte]) (fun hb=> ?_) (fun hb=> ?_)
 ·have hpos:0<n:=by simp only[zqb]at hb;omega
  refine kH ?_;refine aK rfl rfl ?_;simp only[wq.1,seval];refine aK rfl rfl ?_;simp only[wq.1,seval];refine iq rfl rfl ?_;refine iZ (t:=31) rfl rfl hq rfl trivial rfl ?_;refine iq rfl rfl ?_;refine mF rfl hq rfl hqe (by simp only[wq.1,seval]) (by simp only[wq.1,seval]) (by simp only[wq.1,↓reduceIte]) (k:= .i64) (by simp only[wq.1,↓reduceIte]) ?_;refine aK rfl rfl ?_;simp only[wq.1,seval];refine iq rfl rfl ?_;refine lg (x:= .tmp 20) (y:= .tmp 21) (t:=31) (xt:=3) (el:=4) ⟨⟨_,rfl,rfl,rfl⟩,hq,rfl,hqe,rfl,rfl,Nat.zero_lt_one⟩ (by simp only[wq.1,seval]) (by simp only[wq.1,↓reduceIte]) (by simp only[wq.1,seval]) (by simp only[wq.1,↓reduceIte]) hqi rfl hpos (by omega) ?_ rfl (zv:= .bool false) rfl ?_
  ·show n*1<=_;omega
  refine aK rfl rfl ?_;simp only[wq.1,seval];refine aK rfl rfl ?_;simp only[wq.1,↓reduceIte];refine aK rfl rfl ?_;simp only[wq.1,seval];refine⟨by omega,?_⟩;refine aK rfl rfl ?_;simp only[wq.1,↓reduceIte];refine jR ?_;simp only[wq.1];refine vm ?_;simp only[wq.1,seval];exact hr hpos
 ·have:n=0:=by simp only[zqd]at hb;omega
  refine vm ?_;simp only[wq.1];refine vm ?_;simp only[wq.1,seval];exact hr0 this
def Xp(n:Nat)(c:List Bool)(v:V)(h:H):Prop :=
 (c=[]/\v= .nils/\h=[]/\n=0)\/(c.length<=n/\v= .ls 0 1 0 c.length n/\h=[.cells (c.map V.bool++List.replicate (n-c.length) (.bool false))])
theorem O6(n:Nat)(hn:n<=1000000000)(R:AEnd->H->(Nat->Bool)->Prop)(hr:∀v h,Xp n [] v h->R (.ret v) h (fun _=>false)):ag TE 124 [.nils,vi n] [] R :=
 Hw n hn [] R (fun hz=>hr _ _ (.inl ⟨rfl,rfl,rfl,hz⟩)) (fun hz=>hr _ _ (.inr ⟨Nat.zero_le _,rfl,rfl⟩))
theorem tZ{p:Nat->Bool}:∀l:List Bool,V.drops p (l.map V.bool)=l.map V.bool
 |[]=>rfl
 |a::l=>by simp only[zrd,V.drops,V.drop,tZ l]
theorem EY:∀l:List Bool,cZ (l.map V.bool)=true
 |[]=>rfl
 |a::l=>by simp only[zrd,cZ,EY l,V.one,V.vc,zrk];rfl
theorem EZ(c l:List Bool)(n:Nat)(h:c.length+l.length<=n):gZ (c.map V.bool++List.replicate (n-c.length) (.bool false)) c.length (l.map V.bool)=(c++l).map V.bool++List.replicate (n-(c++l).length) (.bool false):=by
 unfold gZ;have e1:(c.map V.bool++List.replicate (n-c.length) (V.bool false)).take c.length=c.map V.bool:=by
  simp
 have e2:(c.map V.bool++List.replicate (n-c.length) (V.bool false)).drop (c.length+(l.map V.bool).length)=List.replicate (n-(c++l).length) (V.bool false):=by
  rw[List.drop_append];have:(c.map V.bool).drop (c.length+(l.map V.bool).length)=[]:=List.drop_of_length_le (by simp);rw[this,List.nil_append,List.drop_replicate]
  congr 1
  simp only[zra,zqa];omega
 rw[e1,e2,zql]
theorem E5(ls:List (List Bool))(hn:ls.flatten.length<=1000000000)(hls:ls.length<=1000000000):EvF TE 104 [.is true 1 (ls.map aX)] 1 ls.flatten.length (ls.flatten.map V.bool):=by
 have hM:=mLx;have hget:∀ {i:Nat} (h:i<ls.length) (d:V),(ls.map aX).getD i d=aX ls[i]:=fun h d=>iM h d;unfold EvF;refine ah Tryz.func104 rfl (by simp[nts]) (vm ?_);simp only[wq.1,seval,Tryz.results104];refine aC (fun m f h=>∃i,m+i=ls.length/\f.t 0= .is true 1 (ls.map aX)/\f.t 3=vi (ls.take i).flatten.length/\f.t 9= .is true 1 (ls.map aX)/\f.t 10=vi ls.length/\f.t 11=vi i/\f.d=[]/\h=[]) ls.length ⟨0,by simp,rfl,rfl,rfl,rfl,rfl,rfl,rfl⟩ ?_;rintro m f h ⟨i,hm,h0,h3,h9,h10,h11,hd,rfl⟩;refine vm ?_;simp only[wq.1,seval,h10,h11];refine vcB.mk (fun hc=> ?_) (fun hc=> ?_)
 ·simp only[zqb,zqi]at hc;have hfl:=qC hc;have hw:IntKind.i64.wrap (((ls.take i).flatten.length:Int)+(ls[i].length:Int))=((ls.take (i+1)).flatten.length:Int):=by
   rw[gq hc,zqa,aU (by omega) (by omega)];omega
  simp only[wq.1,seval,h3,h9,h11,hget hc,hw];refine⟨⟨by omega,by omega⟩,vcB.mk (fun hc'=> ?_) (fun hc'=> ?_)⟩
  ·simp only[zqb]at hc';omega
  ·simp only[wq.1,seval,h11,aA (show i<maxLen by omega)];exact .inl ⟨m-1,by omega,i+1,by omega,h0,rfl,h9,h10,rfl,hd,rfl⟩
 ·simp only[zqd,zqi]at hc;have hi:ls.take i=ls:=zqh (by omega);rw[hi]at h3;simp only[wq.1,seval,h3];refine O6 ls.flatten.length hn _ (fun v0 h0' hcat=> ?_);simp only[wq.1,seval,h0];refine aC (fun m f h=>∃i v,m+i=ls.length/\f.t 25= .is true 1 (ls.map aX)/\f.t 26=vi ls.length/\f.t 27=vi i/\f.t 6=v/\f.d=[]/\Xp ls.flatten.length (ls.take i).flatten v h) ls.length ⟨0,v0,by simp,rfl,rfl,rfl,rfl,hd,by simpa using hcat⟩ ?_;rintro m f h ⟨i,v,hm,h25,h26,h27,h6,hd,hcat⟩;refine vm ?_;simp only[wq.1,seval,h26,h27];refine vcB.mk (fun hc=> ?_) (fun hc=> ?_)
  ·simp only[zqb,zqi]at hc;have hfl:=qC hc;have hnext:f.t 27=vi i->IntKind.i64.wrap ((i:Int)+1)=((i+1:Nat):Int):=fun _=>aA (by omega);rcases hcat with⟨hc0,rfl,rfl,hn0⟩|⟨hcl,rfl,rfl⟩
   ·have hl0:ls[i]=[]:=List.eq_nil_of_length_eq_zero (by omega);simp only[wq.1,seval,h25,h27,h6,hget hc,hl0,aA (show i<maxLen by omega)];refine⟨⟨by omega,by omega⟩,by omega,.inl ⟨m-1,by omega,i+1,_,by omega,h25,h26,rfl,rfl,hd,?_⟩⟩;right;rw[gq hc,hl0,hc0,hn0];exact⟨zrb _,rfl,rfl⟩
   ·by_cases hlt:(ls.take i).flatten.length<ls.flatten.length
    ·have hdt:decide ((ls.take i).flatten.length<ls.flatten.length)=true:=by simpa using hlt
     simp only[wq.1,seval,h25,h27,h6,hget hc,aA (show i<maxLen by omega),EY,hdt];refine⟨⟨by omega,by omega⟩,⟨by omega,by omega,by rw[zsc];omega⟩,.inl ⟨m-1,by omega,i+1,_,by omega,h25,h26,rfl,rfl,hd,?_⟩⟩;right;rw[gq hc];refine⟨by rw[zqa];omega,by simp only[wq.1,seval],?_⟩;have hsp:=EZ (ls.take i).flatten ls[i] ls.flatten.length hfl;unfold gZ at hsp;rw[zra]at hsp;rw[Nat.mul_one,hsp]
    ·have hdt:decide ((ls.take i).flatten.length<ls.flatten.length)=false:=by simpa using hlt
     have hl0:ls[i]=[]:=List.eq_nil_of_length_eq_zero (by omega);have hne:(ls.take i).flatten.length=ls.flatten.length:=by omega
     simp only[wq.1,seval,h25,h27,h6,hd,hget hc,aA (show i<maxLen by omega),hdt,hl0,tZ];refine⟨⟨by omega,by omega⟩,⟨by rw[zsc];omega,by omega,by omega⟩,.inl ⟨m-1,by omega,i+1,_,by omega,by simp only[wq.1,seval,h25],by simp only[wq.1,seval,h26],rfl,rfl,hd,?_⟩⟩;right;rw[gq hc,hl0,zqp,hne,Nat.sub_self];refine⟨zrb _,rfl,?_⟩;simp only[List.replicate_zero,V.drops]
  ·simp only[zqd,zqi]at hc;have hi:ls.take i=ls:=zqh (by omega);rw[hi]at hcat;simp only[wq.1,seval,h6,hd];rcases hcat with⟨hc0,rfl,rfl,hn0⟩|⟨hcl,rfl,rfl⟩
   ·exact .inl ⟨rfl,hn0,by rw[hc0];rfl⟩
   ·rw[Nat.sub_self,List.replicate_zero,zqp];exact .inr ⟨0,_,rfl,zrb _,rfl⟩
theorem Hy(n:Nat)(hn:n<=1000000000)(h:H)(R:AEnd->H->(Nat->Bool)->Prop)(hr0:n=0->R (.ret .nils) h (fun _=>false))
 (hr:0<n->R (.ret (.ls h.length 1 0 0 n)) (h++[.cells (List.replicate n (.int .i64 0))]) (fun _=>false)):ag TE 88 [.nils,vi n] h R:=by
 refine ah Tryz.func88 rfl (by simp[nts]) ?_;refine vn ?_;simp only[wq.1,Nat.reduceLT,Tryz.results88];refine ak ?_;refine vm ?_;simp only[wq.1,seval];refine vcB.mk (fun hc=> ?_) (fun hc=> ?_)
 ·simp only[zqb]at hc;omega
 simp only[wq.1];refine ak (ak (kH ?_));refine aK rfl rfl ?_;simp only[wq.1,seval];refine aK rfl rfl ?_;simp only[wq.1,seval];refine iq rfl rfl ?_;have hq:ti TE.P 22=some ⟨.slice 3,1,24,.nils⟩:=by simp only[wq.1]
 have hqe:ti TE.P 3=some ⟨.int .i64,1,8,.int .i64 0⟩:=by simp only[wq.1]
 have hqi:ti TE.P 3=some ⟨.int .i64,1,8,.int .i64 0⟩:=by simp only[wq.1]
 refine iZ (t:=22) rfl rfl hq rfl trivial rfl ?_;refine aK rfl rfl ?_;simp only[wq.1,seval];refine aK rfl rfl ?_;simp only[wq.1,↓reduceIte];refine aK rfl rfl ?_;simp only[wq.1,seval];refine aK rfl rfl ?_;simp only[wq.1,seval];refine aK rfl rfl ?_;simp only[wq.1,↓reduceIte];have w0:IntKind.i64.wrap 0=0:=by decide
 have w1:IntKind.i64.wrap ((n:Int)-0)=n:=by rw[Int.sub_zero];exact fE (by omega) (by omega)
 refine jR ?_;simp only[wq.1,w0,w1];refine ak ?_;refine vm ?_;simp only[wq.1,seval];refine aV (b:=decide ((0:Int)<n)) (by simp only[wq.1,↓reduceIte]) (by simp only[wq.1,↓reduceIte]) (fun hb=> ?_) (fun hb=> ?_)
 ·have hpos:0<n:=by simp only[zqb]at hb;omega
  refine kH ?_;refine aK rfl rfl ?_;simp only[wq.1,seval];refine aK rfl rfl ?_;simp only[wq.1,seval];refine iq rfl rfl ?_;refine iZ (t:=22) rfl rfl hq rfl trivial rfl ?_;refine iq rfl rfl ?_;refine mF rfl hq rfl hqe (by simp only[wq.1,seval]) (by simp only[wq.1,seval]) (by simp only[wq.1,↓reduceIte]) (k:= .i64) (by simp only[wq.1,↓reduceIte]) ?_;refine aK rfl rfl ?_;simp only[wq.1,seval];refine iq rfl rfl ?_;refine lg (x:= .tmp 20) (y:= .tmp 21) (t:=22) (xt:=3) (el:=3) ⟨⟨_,rfl,rfl,rfl⟩,hq,rfl,hqe,rfl,rfl,Nat.zero_lt_one⟩ (by simp only[wq.1,seval]) (by simp only[wq.1,↓reduceIte]) (by simp only[wq.1,seval]) (by simp only[wq.1,↓reduceIte]) hqi rfl hpos (by omega) ?_ rfl (zv:= .int .i64 0) rfl ?_
  ·show n*8<=_;omega
  refine aK rfl rfl ?_;simp only[wq.1,seval];refine aK rfl rfl ?_;simp only[wq.1,↓reduceIte];refine aK rfl rfl ?_;simp only[wq.1,seval];refine⟨by omega,?_⟩;refine aK rfl rfl ?_;simp only[wq.1,↓reduceIte];refine jR ?_;simp only[wq.1];refine vm ?_;simp only[wq.1,seval];exact hr hpos
 ·have:n=0:=by simp only[zqd]at hb;omega
  refine vm ?_;simp only[wq.1];refine vm ?_;simp only[wq.1,seval];exact hr0 this
def Xq(n:Nat)(c:List Int)(v:V)(h:H):Prop :=
 (c=[]/\v= .nils/\h=[]/\n=0)\/(c.length<=n/\v= .ls 0 1 0 c.length n/\h=[.cells (c.map vi++List.replicate (n-c.length) (.int .i64 0))])
theorem O7(n:Nat)(hn:n<=1000000000)(R:AEnd->H->(Nat->Bool)->Prop)(hr:∀v h,Xq n [] v h->R (.ret v) h (fun _=>false)):ag TE 88 [.nils,vi n] [] R :=
 Hy n hn [] R (fun hz=>hr _ _ (.inl ⟨rfl,rfl,rfl,hz⟩)) (fun hz=>hr _ _ (.inr ⟨Nat.zero_le _,rfl,rfl⟩))
theorem wu{p:Nat->Bool}:∀l:List Int,V.drops p (l.map vi)=l.map vi
 |[]=>rfl
 |a::l=>by simp only[zrd,V.drops,V.drop,wu l]
theorem E8:∀l:List Int,cZ (l.map vi)=true
 |[]=>rfl
 |a::l=>by simp only[zrd,cZ,E8 l,V.one,V.vc,zrk];rfl
theorem E9(c l:List Int)(n:Nat)(h:c.length+l.length<=n):gZ (c.map vi++List.replicate (n-c.length) (.int .i64 0)) c.length (l.map vi)=(c++l).map vi++List.replicate (n-(c++l).length) (.int .i64 0):=by
 unfold gZ;have e1:(c.map vi++List.replicate (n-c.length) (V.int .i64 0)).take c.length=c.map vi:=by
  simp
 have e2:(c.map vi++List.replicate (n-c.length) (V.int .i64 0)).drop (c.length+(l.map vi).length)=List.replicate (n-(c++l).length) (V.int .i64 0):=by
  rw[List.drop_append];have:(c.map vi).drop (c.length+(l.map vi).length)=[]:=List.drop_of_length_le (by simp);rw[this,List.nil_append,List.drop_replicate]
  congr 1
  simp only[zra,zqa];omega
 rw[e1,e2,zql]
theorem ww(ls:List (List Int))(hn:ls.flatten.length<=1000000000)(hls:ls.length<=1000000000):EvF TE 56 [.is true 1 (ls.map ay)] 1 ls.flatten.length (ls.flatten.map vi):=by
 have hM:=mLx;have hget:∀ {i:Nat} (h:i<ls.length) (d:V),(ls.map ay).getD i d=ay ls[i]:=fun h d=>iM h d;unfold EvF;refine ah Tryz.func56 rfl (by simp[nts]) (vm ?_);simp only[wq.1,seval,Tryz.results56];refine aC (fun m f h=>∃i,m+i=ls.length/\f.t 0= .is true 1 (ls.map ay)/\f.t 3=vi (ls.take i).flatten.length/\f.t 9= .is true 1 (ls.map ay)/\f.t 10=vi ls.length/\f.t 11=vi i/\f.d=[]/\h=[]) ls.length ⟨0,by simp,rfl,rfl,rfl,rfl,rfl,rfl,rfl⟩ ?_;rintro m f h ⟨i,hm,h0,h3,h9,h10,h11,hd,rfl⟩;refine vm ?_;simp only[wq.1,seval,h10,h11];refine vcB.mk (fun hc=> ?_) (fun hc=> ?_)
 ·simp only[zqb,zqi]at hc;have hfl:=qC hc;have hw:IntKind.i64.wrap (((ls.take i).flatten.length:Int)+(ls[i].length:Int))=((ls.take (i+1)).flatten.length:Int):=by
   rw[gq hc,zqa,aU (by omega) (by omega)];omega
  simp only[wq.1,seval,h3,h9,h11,hget hc,hw];refine⟨⟨by omega,by omega⟩,vcB.mk (fun hc'=> ?_) (fun hc'=> ?_)⟩
  ·simp only[zqb]at hc';omega
  ·simp only[wq.1,seval,h11,aA (show i<maxLen by omega)];exact .inl ⟨m-1,by omega,i+1,by omega,h0,rfl,h9,h10,rfl,hd,rfl⟩
 ·simp only[zqd,zqi]at hc;have hi:ls.take i=ls:=zqh (by omega);rw[hi]at h3;simp only[wq.1,seval,h3];refine O7 ls.flatten.length hn _ (fun v0 h0' hcat=> ?_);simp only[wq.1,seval,h0];refine aC (fun m f h=>∃i v,m+i=ls.length/\f.t 25= .is true 1 (ls.map ay)/\f.t 26=vi ls.length/\f.t 27=vi i/\f.t 6=v/\f.d=[]/\Xq ls.flatten.length (ls.take i).flatten v h) ls.length ⟨0,v0,by simp,rfl,rfl,rfl,rfl,hd,by simpa using hcat⟩ ?_;rintro m f h ⟨i,v,hm,h25,h26,h27,h6,hd,hcat⟩;refine vm ?_;simp only[wq.1,seval,h26,h27];refine vcB.mk (fun hc=> ?_) (fun hc=> ?_)
  ·simp only[zqb,zqi]at hc;have hfl:=qC hc;have hnext:f.t 27=vi i->IntKind.i64.wrap ((i:Int)+1)=((i+1:Nat):Int):=fun _=>aA (by omega);rcases hcat with⟨hc0,rfl,rfl,hn0⟩|⟨hcl,rfl,rfl⟩
   ·have hl0:ls[i]=[]:=List.eq_nil_of_length_eq_zero (by omega);simp only[wq.1,seval,h25,h27,h6,hget hc,hl0,aA (show i<maxLen by omega)];refine⟨⟨by omega,by omega⟩,by omega,.inl ⟨m-1,by omega,i+1,_,by omega,h25,h26,rfl,rfl,hd,?_⟩⟩;right;rw[gq hc,hl0,hc0,hn0];exact⟨zrb _,rfl,rfl⟩
   ·by_cases hlt:(ls.take i).flatten.length<ls.flatten.length
    ·have hdt:decide ((ls.take i).flatten.length<ls.flatten.length)=true:=by simpa using hlt
     simp only[wq.1,seval,h25,h27,h6,hget hc,aA (show i<maxLen by omega),E8,hdt];refine⟨⟨by omega,by omega⟩,⟨by omega,by omega,by rw[zsc];omega⟩,.inl ⟨m-1,by omega,i+1,_,by omega,h25,h26,rfl,rfl,hd,?_⟩⟩;right;rw[gq hc];refine⟨by rw[zqa];omega,by simp only[wq.1,seval],?_⟩;have hsp:=E9 (ls.take i).flatten ls[i] ls.flatten.length hfl;unfold gZ at hsp;rw[zra]at hsp;rw[Nat.mul_one,hsp]
    ·have hdt:decide ((ls.take i).flatten.length<ls.flatten.length)=false:=by simpa using hlt
     have hl0:ls[i]=[]:=List.eq_nil_of_length_eq_zero (by omega);have hne:(ls.take i).flatten.length=ls.flatten.length:=by omega
     simp only[wq.1,seval,h25,h27,h6,hd,hget hc,aA (show i<maxLen by omega),hdt,hl0,wu];refine⟨⟨by omega,by omega⟩,⟨by rw[zsc];omega,by omega,by omega⟩,.inl ⟨m-1,by omega,i+1,_,by omega,by simp only[wq.1,seval,h25],by simp only[wq.1,seval,h26],rfl,rfl,hd,?_⟩⟩;right;rw[gq hc,hl0,zqp,hne,Nat.sub_self];refine⟨zrb _,rfl,?_⟩;simp only[List.replicate_zero,V.drops]
  ·simp only[zqd,zqi]at hc;have hi:ls.take i=ls:=zqh (by omega);rw[hi]at hcat;simp only[wq.1,seval,h6,hd];rcases hcat with⟨hc0,rfl,rfl,hn0⟩|⟨hcl,rfl,rfl⟩
   ·exact .inl ⟨rfl,hn0,by rw[hc0];rfl⟩
   ·rw[Nat.sub_self,List.replicate_zero,zqp];exact .inr ⟨0,_,rfl,zrb _,rfl⟩
theorem Xr(c:List S)(q:FuncId)(caps:List V)(p:S->Bool)(he:au P q=true)(hd:V.dats caps=true)(hq:∀x∈c,Ev TE q (.str x::caps) (.bool (p x))):Ev TE 109 [jq c,.fn (.func q) [] caps] (vi (idx c p)):=by
 refine Ev.bnd fun hb=> ?_;have hlen:=tY hb;refine aF Tryz.func109 rfl (by simp[nts]) (vm ?_);simp only[wq.1,seval,Tryz.results109];refine aC (fun m f h=>∃i,m+i=c.length/\f.t 0=jq c/\f.t 1= .fn (.func q) [] caps/\f.t 7= .int .i64 (c.length:Int)/\f.t 8= .int .i64 (i:Int)/\f.d=[]/\∀x∈c.take i,p x=false) c.length ⟨0,by simp,rfl,rfl,rfl,rfl,rfl,by simp⟩ ?_;rintro m f h ⟨i,hm,h0,h1,h7,h8,hdd,hall⟩;refine vm ?_;simp only[wq.1,seval,h7,h8];refine vcB.mk (fun hc=> ?_) (fun hc=> ?_)
 ·simp only[zqb,zqi]at hc;simp only[wq.1,seval,h0,h1,h8,Gq hc,he];refine⟨⟨by omega,by omega⟩,ag.ev (hq _ (zqu _)) (by simp[V.dats,V.dat,hd]) ?_⟩;simp only[wq.1,seval];refine vcB.mk (fun hc'=> ?_) (fun hc'=> ?_)
  ·simp only[wq.1,seval,hdd];rw[qA hc hall hc'];exact aH.dat rfl
  ·simp only[wq.1,seval,h8,aA (show i<maxLen by omega)];exact .inl ⟨m-1,by omega,i+1,by omega,h0,h1,h7,rfl,hdd,gG hc hall hc'⟩
 ·simp only[zqd,zqi]at hc;simp only[wq.1,seval,hdd];rw[zqh (by omega)]at hall;rw[oG hall];exact aH.dat rfl
theorem Ul(c:List S)(q:FuncId)(caps:List V)(p:S->Bool)(he:au P q=true)(hd:V.dats caps=true)(hq:∀x∈c,Ev TE q (.str x::caps) (.bool (p x))):Ev TE 81 [jq c,.fn (.func q) [] caps] (.bool (c.any p)):=by refine aF Tryz.func81 rfl (by simp[nts]) (vm ?_);simp only[wq.1,seval,Tryz.results81];refine ag.ev (Xr c q caps p he hd hq) (by simp[V.dats,V.dat,hd]) ?_;simp only[wq.1,seval];exact aH.eq rfl (by rw[yC])
def uf(s:S):Bool:= !Jh s
theorem SI(s:S):Ev TE 106 [.str s] (.bool (uf s)):=by refine aF Tryz.func106 rfl (by simp[nts]) (vm ?_);simp only[wq.1,seval,Tryz.results106];refine ag.ev (SG s) rfl ?_;simp only[wq.1,seval];exact aH.dat rfl
theorem Hz(l:List S):Ev TE 76 [jq l] (.bool (l.any uf)):=by refine aF Tryz.func76 rfl (by simp[nts]) (vm ?_);simp only[wq.1,seval,Tryz.results76];refine ag.ev (Ul l 106 [] uf rfl rfl fun x _=>SI x) rfl ?_;simp only[wq.1,seval];exact aH.dat rfl
def at? :List S->S->Option Nat
 |[],_=>none
 |x::l,s=>if x=s then some 0 else(at? l s).map (·+1)
theorem dR(s:S):∀(ks:List S),jY .str (.str s) (ks.map V.str)=some (at? ks s)
 |[]=>rfl
 |k::ks=>by
  simp only[zrd,jY,keq,at?];by_cases h:k=s
  ·subst h;simp
  ·have:(s==k)=false:=by simpa using fun h'=>h h'.symm
   rw[this,dR s ks,if_neg h];cases at? ks s<;>rfl
theorem lH:∀ {l:List S} {s:S} {n:Nat},at? l s=some n->∃h:n<l.length,l[n]=s
 |[],s,n,h=>by cases h
 |x::l,s,n,h=>by
  simp only[at?]at h;split at h
  ·rename_i he;cases h;exact⟨by simp,he⟩
  ·cases hl:at? l s with
   |none=>rw[hl]at h;cases h
   |some k=>rw[hl]at h;cases h;obtain⟨h1,h2⟩:=lH hl;exact⟨by simpa using h1,by simpa using h2⟩
theorem CQ:∀ {l:List S} {s:S},s∈l->∃n,at? l s=some n
 |x::l,s,h=>by
  by_cases hx:x=s
  ·exact⟨0,by simp[at?,hx]⟩
  ·have:s∈l:=by
    rcases zrj.1 h with h|h
    ·exact absurd h.symm hx
    ·exact h
   obtain⟨n,hn⟩:=CQ this;exact⟨n+1,by simp[at?,hx,hn]⟩
theorem SK{l:List S}{s:S}(h:s∉l):at? l s=none:=by
 cases hh:at? l s with
 |none=>rfl
 |some n=>obtain⟨h1,h2⟩:=lH hh;exact absurd (h2▸zqu h1) h
def Fa(l:List S):Bool:= !decide l.Nodup
theorem Fb(l:List S):Ev TE 77 [jq l] (.bool (Fa l)):=by
 refine Ev.bnd fun hb=> ?_;have hlen:=tY hb;refine aF Tryz.func77 rfl (by simp[nts]) (vm ?_);simp only[wq.1,seval,Tryz.results77];refine aC (fun m f h=>∃i,m+i=l.length/\f.t 3= .lm 0/\f.t 7=jq l/\f.t 8= .int .i64 (l.length:Int)/\f.t 9= .int .i64 (i:Int)/\f.d=[]/\h=[.map ((l.take i).map V.str) (List.replicate i (.bool true))]/\(l.take i).Nodup) l.length ⟨0,by simp,rfl,rfl,rfl,rfl,rfl,rfl,by simp⟩ ?_;rintro m f h ⟨i,hm,h3,h7,h8,h9,hd,rfl,hnd⟩;refine vm ?_;simp only[wq.1,seval,h8,h9];refine vcB.mk (fun hc=> ?_) (fun hc=> ?_)
 ·simp only[zqb,zqi]at hc;have hsucc:l.take (i+1)=l.take i++[l[i]]:=by rw[zrg];simp[hc]
  cases hat:at? (l.take i) l[i]with
  |some n =>
   obtain⟨g1,g2⟩:=lH hat;have hn:n<i:=by simpa using(Nat.lt_of_lt_of_le g1 (by simp;omega))
   have hg:(List.replicate i (V.bool true)).getD n .any= .bool true:=by simp[zqg,hn]
   simp only[wq.1,seval,h3,h7,h9,hd,Gq hc,qp,dR,K.keyOk,hat,hg];refine⟨⟨by omega,by omega⟩,?_⟩;have:¬l.Nodup:=by
    intro h;rw[<-List.take_append_drop (i+1) l,hsucc]at h;have h2:=(List.nodup_append.1 (List.nodup_append.1 h).1).2.2;exact h2 l[i] (g2▸zqu g1) l[i] (by simp) rfl
   exact aH.eq rfl (by simp[Fa,this])
  |none =>
   have hnm:l[i]∉l.take i:=fun h=>by obtain⟨n,hn⟩:=CQ h;rw[hn]at hat;cases hat
   simp only[wq.1,seval,h3,h7,h9,Gq hc,qp,Iw,dR,K.keyOk,hat];refine⟨⟨by omega,by omega⟩,.inl ⟨m-1,by omega,i+1,by omega,h3,h7,h8,by rw[aA (by omega)];rfl,hd,?_,?_⟩⟩
   ·rw[hsucc,zql,List.replicate_succ'];rfl
   ·rw[hsucc];refine List.nodup_append.2 ⟨hnd,by simp,fun a ha b hb h=> ?_⟩;simp only[zrc]at hb;exact hnm (by rw[<-hb,<-h];exact ha)
 ·simp only[zqd,zqi]at hc;simp only[wq.1,seval,hd];rw[zqh (by omega)]at hnd;exact aH.eq rfl (by simp[Fa,hnd])
theorem Fe(c:List S)(s:S):Ev TE 45 [jq c,.str s] (vi (idx c (·==s))):=by
 refine Ev.bnd fun hb=> ?_;have hlen:=tY hb;refine aF Tryz.func45 rfl (by simp[nts]) (vm ?_);simp only[wq.1,seval,Tryz.results45];refine aC (fun m f h=>∃i,m+i=c.length/\f.t 0=jq c/\f.t 1= .str s/\f.t 7= .int .i64 (c.length:Int)/\f.t 8= .int .i64 (i:Int)/\f.d=[]/\∀x∈c.take i,(x==s)=false) c.length ⟨0,by simp,rfl,rfl,rfl,rfl,rfl,by simp⟩ ?_;rintro m f h ⟨i,hm,h0,h1,h7,h8,hdd,hall⟩;refine vm ?_;simp only[wq.1,seval,h7,h8];refine vcB.mk (fun hc=> ?_) (fun hc=> ?_)
 ·simp only[zqb,zqi]at hc;simp only[wq.1,seval,h0,h1,h8,Gq hc];refine⟨⟨by omega,by omega⟩,vcB.mk (fun hc'=> ?_) (fun hc'=> ?_)⟩
  ·simp only[wq.1,seval,hdd];rw[qA hc hall (by rw[beq_iff_eq]at hc' ⊢;exact hc'.symm)];exact aH.dat rfl
  ·simp only[wq.1,seval,h8,aA (show i<maxLen by omega)];exact .inl ⟨m-1,by omega,i+1,by omega,h0,h1,h7,rfl,hdd,gG hc hall (by rw[beq_eq_false_iff_ne]at hc' ⊢;exact hc'.symm)⟩
 ·simp only[zqd,zqi]at hc;simp only[wq.1,↓reduceIte,Nat.reduceLT,Int.reduceNeg,hdd];rw[zqh (by omega)]at hall;rw[oG hall];exact aH.dat rfl
structure Mo where
 g:Gr
 ins:List S
 lat:List S
 out:List S
abbrev Mo.v(m:Mo):V:= .agg [vi m.g.ins,ay m.g.next,ay m.g.init,prs m.g.ands,ay m.g.outs,jq m.ins,jq m.lat,jq m.out]
def Mo.place(m:Mo)(s:S):Int:=if idx (m.ins++m.lat) (·==s)<0 then -1 else idx (m.ins++m.lat) (·==s)+1
theorem Um{α:Type}(l:List α)(p:α->Bool):-1<=idx l p/\idx l p<l.length:=by
 unfold idx;cases h:l.findIdx? p with
 |none=>exact⟨Int.le_refl _,by show(-1:Int)<_;omega⟩
 |some i=>have:=(List.findIdx?_eq_some_iff_getElem.1 h).1;exact⟨by show(-1:Int)<=(i:Int);omega,by show(i:Int)<_;omega⟩
theorem O8(m:Mo)(s:S)(h1:m.ins.length+m.lat.length<=1000000):Ev TE 79 [m.v,.str s] (vi (m.place s)):=by
 have hcat:=AB [m.ins,m.lat] (by simp;omega) (by simp);have hfl:[m.ins,m.lat].flatten=m.ins++m.lat:=by simp
 rw[hfl]at hcat;have hi:=Um (m.ins++m.lat) (·==s);rw[zqa]at hi;unfold Mo.v;refine aF Tryz.func79 rfl (by simp[nts]) (vm ?_);simp only[wq.1,↓reduceIte,Nat.reduceEqDiff,Nat.reduceLT,Nat.reduceLeDiff,Nat.reduceAdd,Int.reduceNeg,reduceCtorEq,Nat.reduceMul,Tryz.results79];refine⟨⟨rfl,by decide⟩,ag.ev hcat rfl ?_⟩;simp only[wq.1,seval];refine ag.ev (Fe _ _) rfl ?_;unfold Mo.place;simp only[wq.1,seval];refine vcB.mk (fun hc=> ?_) (fun hc=> ?_)
 ·simp only[wq.1,seval];simp only[zqb]at hc;exact aH.eq rfl (by rw[if_pos hc])
 ·simp only[wq.1,seval];simp only[zqd]at hc;rw[fE (n:=idx (m.ins++m.lat) (fun x=>x==s)+1) (by omega) (by omega)];exact aH.eq rfl (by rw[if_neg hc])
def Mo.lens(m:Mo):Bool:=((m.ins.length:Int) != m.g.ins)||((m.lat.length:Int) != (m.g.next.length:Int))||((m.out.length:Int) != (m.g.outs.length:Int))
def Mo.names(m:Mo):Bool:=m.ins.any uf||m.lat.any uf||m.out.any uf
def Mo.twos(m:Mo):Bool:=Fa (m.ins++m.lat)||Fa m.out
def Mo.other(m:Mo)(n:Nat):Bool:=(List.range n).any fun i=>decide (0<=m.place (m.out.getD i []))&&m.g.outs.getD i 0 != 2*m.place (m.out.getD i [])
def Mo.chk(m:Mo):Int:=if m.g.chk≠0 then m.g.chk else if m.lens then 1 else if m.names then 4 else if m.twos then 5 else if m.other m.out.length then 5 else 0
structure Gr.Ok(g:Gr):Prop where
 lim:g.lim=false
 i0:0<=g.ins
 i1:g.ins<=4000
 i2:g.ins+g.next.length+g.ands.length<=4000
 i3:(g.outs.length:Int)<=4000
 row:g.oddR=false
 ands:g.oddAs g.ands.length=false
variable{g:Gr}
theorem aW(h:g.chk=0):g.Ok:=by
 unfold Gr.chk at h;split at h
 ·cases h
 ·rename_i h1;split at h
  ·cases h
  ·rename_i h2;split at h
   ·cases h
   ·rename_i h3;have h1:g.lim=false:=by simpa using h1
    have h2':=h1;simp only[Gr.lim,zsf,zqd]at h2';exact⟨h1,by omega,by omega,by omega,by omega,by simpa using h2,by simpa using h3⟩
theorem Lt{m:Mo}{n:Nat}(h:i<=n)(ho:m.other i=true):m.other n=true:=by unfold Mo.other at ho ⊢;rw[List.any_eq_true]at ho ⊢;obtain⟨x,hx,h2⟩:=ho;exact⟨x,List.mem_range.2 (by have:=List.mem_range.1 hx;omega),h2⟩
theorem Ff(m:Mo)(hs:m.g.Sm):Ev TE 47 [m.v] (vi m.chk):=by
 have hgc:=kR m.g hs;unfold Gr.v at hgc;unfold Mo.v;have dg:V.dats [.agg [vi m.g.ins,ay m.g.next,ay m.g.init,prs m.g.ands,ay m.g.outs]]=true:=by simp only[V.dats,V.dat,zre]
 refine aF Tryz.func47 rfl (by simp[nts]) (vm ?_);simp only[wq.1,seval,Tryz.results47];refine ag.ev hgc dg ?_;simp only[wq.1,seval];refine vcB.mk (fun hc=> ?_) (fun hc=> ?_)
 ·simp only[wq.1,seval];exact aH.eq rfl (by unfold Mo.chk;rw[if_pos (by simpa using hc)])
 ·have hg:m.g.chk=0:=by simpa using hc
  have go:=aW hg;obtain⟨_,i0,i1,i2,i3,_,_⟩:=go;have fin1:m.lens=true->vi 1=vi m.chk:=fun h=>by unfold Mo.chk;rw[if_neg (by simp[hg]),if_pos h]
  cases hl1:(m.ins.length:Int) != m.g.ins with
  |true=>simp only[wq.1,seval,hl1];exact aH.eq rfl (fin1 (by simp[Mo.lens,hl1]))
  |false =>
   cases hl2:(m.lat.length:Int) != (m.g.next.length:Int)with
   |true=>simp only[wq.1,seval,hl1,hl2];exact aH.eq rfl (fin1 (by simp[Mo.lens,hl2]))
   |false =>
    cases hl3:(m.out.length:Int) != (m.g.outs.length:Int)with
    |true=>simp only[wq.1,seval,hl1,hl2,hl3];exact aH.eq rfl (fin1 (by simp[Mo.lens,hl3]))
    |false =>
     have hlens:m.lens=false:=by simp only[Mo.lens,hl1,hl2,hl3,Bool.or_false]
     have fin4:m.names=true->vi 4=vi m.chk:=fun h=>by unfold Mo.chk;rw[if_neg (by simp[hg]),if_neg (by simp[hlens]),if_pos h]
     simp only[bne_eq_false_iff_eq]at hl1 hl2 hl3;simp only[wq.1,seval,hl1,hl2,hl3,bne_self_eq_false];refine ag.ev (Hz m.ins) rfl ?_;cases hn1:m.ins.any uf with
     |true=>simp only[wq.1,seval];exact aH.eq rfl (fin4 (by simp[Mo.names,hn1]))
     |false =>
      simp only[wq.1,seval];refine ag.ev (Hz m.lat) rfl ?_;cases hn2:m.lat.any uf with
      |true=>simp only[wq.1,seval];exact aH.eq rfl (fin4 (by simp[Mo.names,hn2]))
      |false =>
       simp only[wq.1,seval];refine ag.ev (Hz m.out) rfl ?_;cases hn3:m.out.any uf with
       |true=>simp only[wq.1,↓reduceIte,Nat.reduceLT];exact aH.eq rfl (fin4 (by simp[Mo.names,hn3]))
       |false =>
        have hnames:m.names=false:=by simp only[Mo.names,hn1,hn2,hn3,Bool.or_false]
        have fin5:m.twos=true->vi 5=vi m.chk:=fun h=>by unfold Mo.chk;rw[if_neg (by simp[hg]),if_neg (by simp[hlens]),if_neg (by simp[hnames]),if_pos h]
        have hcat:=AB [m.ins,m.lat] (by simp;omega) (by simp);rw[show [m.ins,m.lat].flatten=m.ins++m.lat by simp]at hcat;simp only[wq.1,↓reduceIte,Nat.reduceEqDiff,Nat.reduceLT,Nat.reduceLeDiff,Nat.reduceAdd,reduceCtorEq,Nat.reduceMul];refine⟨⟨rfl,by decide⟩,ag.ev hcat rfl ?_⟩;simp only[wq.1,seval];refine ag.ev (Fb _) rfl ?_;cases ht1:Fa (m.ins++m.lat)with
        |true=>simp only[wq.1,seval];exact aH.eq rfl (fin5 (by simp[Mo.twos,ht1]))
        |false =>
         simp only[wq.1,seval];refine ag.ev (Fb _) rfl ?_;cases ht2:Fa m.out with
         |true=>simp only[wq.1,seval];exact aH.eq rfl (fin5 (by simp[Mo.twos,ht2]))
         |false =>
          have htwos:m.twos=false:=by simp only[Mo.twos,ht1,ht2,Bool.or_false]
          simp only[wq.1,seval];refine aC (fun k f h=>∃i,k+i=m.out.length/\f.t 1= .lp 0 0/\f.t 60=jq m.out/\f.t 61=vi m.out.length/\f.t 62=vi i/\f.d=[]/\h= .cells [vi m.g.ins,ay m.g.next,ay m.g.init,prs m.g.ands,ay m.g.outs,jq m.ins,jq m.lat,jq m.out]::[]/\m.other i=false) m.out.length ⟨0,by simp,rfl,rfl,rfl,rfl,rfl,rfl,rfl⟩ ?_;rintro k f h ⟨i,hk,h1,h60,h61,h62,hd,rfl,hno⟩;refine vm ?_;simp only[wq.1,seval,h61,h62];have hM:=mLx;refine vcB.mk (fun hc=> ?_) (fun hc=> ?_)
          ·simp only[zqb,zqi]at hc;have hc3:i<m.g.outs.length:=by omega
           have hpl:=Um (m.ins++m.lat) (·==m.out[i]);rw[zqa]at hpl;have hpr:-1<=m.place m.out[i]/\m.place m.out[i]<=4000:=by unfold Mo.place;split<;>omega
           have hgo:m.out.getD i []=m.out[i]:=aS hc;have hgg:m.g.outs.getD i 0=m.g.outs[i]:=aS hc3;have hplace:=O8 m m.out[i] (by omega);have dm:V.dats [m.v,.str m.out[i]]=true:=by simp only[V.dats,V.dat,zre]
           unfold Mo.v at hplace dm;have w2:IntKind.i64.wrap (2*m.place m.out[i])=2*m.place m.out[i]:=fE (by omega) (by omega);simp only[wq.1,seval,h1,h60,h62,Gq hc];refine⟨⟨by omega,by omega⟩,ag.ev hplace dm ?_⟩;have hother:m.other (i+1)=(m.other i||(decide (0<=m.place m.out[i])&&m.g.outs[i] != 2*m.place m.out[i])):=by
            unfold Mo.other;rw[List.range_succ,List.any_append,List.any_cons,List.any_nil,Bool.or_false,hgo,hgg]
           cases hp:decide (0<=m.place m.out[i])with
           |false=>rw[hp,hno]at hother;simp only[wq.1,seval,h1,h62,hp,wU hc3,aA (show i<maxLen by omega)];exact .inl ⟨k-1,by omega,i+1,by omega,h1,h60,h61,rfl,hd,rfl,hother⟩
           |true =>
            rw[hp,hno]at hother;cases hq:m.g.outs[i] != 2*m.place m.out[i]with
            |true=>simp only[wq.1,seval,h1,hd,hp,wU hc3,w2,hq];refine⟨⟨by omega,by omega⟩,aH.eq rfl ?_⟩;rw[hq]at hother;unfold Mo.chk;rw[if_neg (by simp[hg]),if_neg (by simp[hlens]),if_neg (by simp[hnames]),if_neg (by simp[htwos]),if_pos];refine Lt (by omega) (hother.trans rfl)
            |false=>rw[hq]at hother;simp only[wq.1,seval,h1,h62,hp,wU hc3,w2,hq,aA (show i<maxLen by omega)];refine⟨⟨by omega,by omega⟩,.inl ⟨k-1,by omega,i+1,by omega,h1,h60,h61,rfl,hd,rfl,hother⟩⟩
          ·simp only[zqd,zqi]at hc;have hi:i=m.out.length:=by omega
           simp only[wq.1,seval,hd];refine aH.eq rfl ?_;unfold Mo.chk;rw[if_neg (by simp[hg]),if_neg (by simp[hlens]),if_neg (by simp[hnames]),if_neg (by simp[htwos]),<-hi,if_neg (by simp[hno])]
structure Wi where
 bad:Int
 st:Cl
 steps:List Cl
abbrev Wi.v(w:Wi):V:= .agg [vi w.bad,ay w.st,cls w.steps]
theorem wz{m:Mo}(h:m.chk=0):m.g.chk=0/\m.lens=false/\m.names=false/\m.twos=false/\m.other m.out.length=false:=by
 unfold Mo.chk at h;split at h
 ·rename_i h1;exact absurd h h1
 ·rename_i h1;split at h
  ·cases h
  ·split at h
   ·cases h
   ·split at h
    ·cases h
    ·split at h
     ·cases h
     ·refine⟨by simpa using h1,?_⟩
      simp_all
theorem aN(h:g.oddR=false):g.init.length=g.next.length/\(∀a∈g.init,0<=a/\a<=2)/\(∀a∈g.next,0<=a/\a<g.all)/\(∀a∈g.outs,0<=a/\a<g.all):=by simp only[Gr.oddR,zsf,bne_eq_false_iff_eq,List.any_eq_false,EX,O4,Bool.not_eq_true,zqd]at h;obtain⟨⟨⟨h1,h2⟩,h3⟩,h4⟩:=h;exact⟨h1,fun a ha=>by have:=h2 a ha;omega,fun a ha=>by have:=h3 a ha;omega,fun a ha=>by have:=h4 a ha;omega⟩
def lv(v:List Bool)(a:Int):Bool:=v.getD (a/2).toNat false != (a%2==1)
theorem We{a:Int}(h0:0<=a)(h1:a<=1000000000):IntKind.i64.wrap ((BitVec.ofInt IntKind.i64.bits a &&& BitVec.ofInt IntKind.i64.bits 1).toNat:Int)=a%2:=by
 obtain⟨n,rfl⟩:∃n:Nat,a=n:=⟨a.toNat,by omega⟩;have e1:(BitVec.ofInt IntKind.i64.bits (n:Int) &&& BitVec.ofInt IntKind.i64.bits 1).toNat=n%2:=by
  show(BitVec.ofInt 64 (n:Int) &&& BitVec.ofInt 64 1).toNat=n%2;rw[BitVec.toNat_and];have:(BitVec.ofInt 64 (n:Int)).toNat=n:=by simp;omega
  rw[this];show n &&& 1=n%2;exact Nat.and_one_is_mod n
 rw[e1,fE (by omega) (by omega)];omega
theorem Vs(a:Int):a.fdiv (2^(min 1 IntKind.i64.bits))=a/2:=by show a.fdiv 2=a/2;rw[Int.fdiv_eq_ediv_of_nonneg _ (by decide)]
theorem yT(v:List Bool)(a:Int)(h0:0<=a)(h1:a/2<v.length)(h2:a<=1000000000):Ev TE 73 [aX v,vi a] (.bool (lv v a)):=by
 obtain⟨k,hk⟩:∃k:Nat,a/2=k:=⟨(a/2).toNat,by omega⟩;have hkl:k<v.length:=by omega
 have hg:(v.map V.bool).getD k .any= .bool v[k]:=RD hkl _;refine aF Tryz.func73 rfl (by simp[nts]) (vm ?_);simp only[wq.1,seval,Tryz.results73,Vs,We h0 h2,hk,hg];refine⟨⟨by omega,by omega⟩,?_⟩;refine aH.eq rfl ?_;unfold lv;rw[hk,zsg,aS hkl];rfl
def iC(g:Gr)(st ins:List Bool)(n:Nat):List Bool:=(g.ands.take n).foldl (fun v p=>v++[lv v p.1&&lv v p.2]) ([false]++ins++st)
def Gr.vals(g:Gr)(st ins:List Bool):List Bool:=iC g st ins g.ands.length
def Gr.valE(g:Gr)(st ins:List Bool):Int:=if g.chk≠0 then g.chk else if((st.length:Int) != (g.next.length:Int))||((ins.length:Int) != g.ins)then 11 else 0
def Gr.valV(g:Gr)(st ins:List Bool):List Bool:=if g.valE st ins=0 then g.vals st ins else []
variable{st ins:List Bool}
theorem nN(h:i<g.ands.length):iC g st ins (i+1)=iC g st ins i++[lv (iC g st ins i) g.ands[i].1&&lv (iC g st ins i) g.ands[i].2]:=by unfold iC;rw[zrg,List.foldl_append];simp[h]
theorem jv{g:Gr}{st ins:List Bool}:∀ {i:Nat},i<=g.ands.length->(iC g st ins i).length=1+ins.length+st.length+i
 |0,_=>by simp[iC];omega
 |i+1,h=>by rw[nN (by omega),zqa,jv (by omega)];simp;omega
theorem iD(h:g.oddAs g.ands.length=false){i:Nat}(hi:i<g.ands.length):0<=g.ands[i].1/\0<=g.ands[i].2/\g.ands[i].1<2*(g.first+i)/\g.ands[i].2<2*(g.first+i):=by unfold Gr.oddAs at h;rw[List.any_eq_false]at h;have:=h i (List.mem_range.2 hi);rw[aS hi]at this;simp only[Uk,Bool.or_eq_true,zqb,not_or]at this;omega
theorem Lu(g:Gr)(st ins:List Bool)(hs:g.Sm):Ev TE 71 [g.v,aX st,aX ins] (.tup [aX (g.valV st ins),vi (g.valE st ins)]):=by
 have hgc:=kR g hs;have dg:V.dats [.agg [vi g.ins,ay g.next,ay g.init,prs g.ands,ay g.outs]]=true:=by simp only[V.dats,V.dat,zre]
 unfold Gr.v at hgc ⊢;refine Ev.bnd fun hb=> ?_;have hl1:st.length<=maxLen:=Eu (r:=[aX ins]) (by simp only[V.bnds]at hb ⊢;exact hb.2);refine aF Tryz.func71 rfl (by simp[nts]) (vm ?_);simp only[wq.1,seval,Tryz.results71];refine ag.ev hgc dg ?_;simp only[wq.1,seval];refine vcB.mk (fun hc=> ?_) (fun hc=> ?_)
 ·simp only[wq.1,seval];have h1:g.valE st ins=g.chk:=by unfold Gr.valE;rw[if_pos (by simpa using hc)]
  have h2:g.valV st ins=[]:=by unfold Gr.valV;rw[if_neg (by rw[h1];simpa using hc)]
  rw[h1,h2];exact aH.tup (aj.cons aH.nils (aj.dat rfl))
 ·have hg:g.chk=0:=by simpa using hc
  have go:=aW hg;obtain⟨_,i0,i1,i2,i3,i4,i5⟩:=go;have fin:((st.length:Int) != (g.next.length:Int))||((ins.length:Int) != g.ins)->aH TE [.cells [vi g.ins,ay g.next,ay g.init,prs g.ands,ay g.outs]] (.tup [.nils,vi 11]) (.tup [aX (g.valV st ins),vi (g.valE st ins)]):=fun h=>by
   have h1:g.valE st ins=11:=by unfold Gr.valE;rw[if_neg (by simp[hg]),if_pos h]
   have h2:g.valV st ins=[]:=by unfold Gr.valV;rw[if_neg (by rw[h1];decide)]
   rw[h1,h2];exact aH.tup (aj.cons aH.nils (aj.dat rfl))
  cases e1:(st.length:Int) != (g.next.length:Int)with
  |true=>simp only[wq.1,seval,e1];exact fin (by simp[e1])
  |false =>
   cases e2:(ins.length:Int) != g.ins with
   |true=>simp only[wq.1,seval,-Int.reduceNatCast,-Int.reduceNatCast',aG,Tryz.results71,e1,e2];exact fin (by simp[e1,e2])
   |false =>
    simp only[bne_eq_false_iff_eq]at e1 e2;have hcat:EvF TE 104 [.is true 1 [.is true 1 [V.bool false],aX ins,aX st]] 1 ([[false],ins,st].flatten).length (([[false],ins,st].flatten).map V.bool) :=
     (E5 [[false],ins,st] (by simp;omega) (by simp)).les (eH.cons (VLe.is rfl (fun i v v' h1 h2=>by
      rcases i with _|_|_|i
      ·cases h1;cases h2;exact fA
      ·cases h1;cases h2;exact VLe.refl _
      ·cases h1;cases h2;exact VLe.refl _
      ·cases h1)) (eH.refl _))
    have hfl:[[false],ins,st].flatten=iC g st ins 0:=by simp[iC]
    rw[hfl]at hcat;simp only[wq.1,↓reduceIte,Nat.reduceEqDiff,Nat.reduceLT,Nat.reduceLeDiff,Nat.reduceAdd,Nat.reduceSub,Int.reduceToNat,Nat.reduceDiv,Int.reduceLT,Int.reduceLE,Int.reduceNeg,Int.reduceBEq,Int.reduceBNe,Int.reduceAdd,Int.reduceSub,Nat.reduceBEq,reduceCtorEq,Nat.reduceMul,aG,Tryz.results71,e1,e2,bne_self_eq_false];refine⟨⟨rfl,by decide⟩,⟨rfl,by decide⟩,jG hcat rfl (lu _) ?_⟩;simp only[wq.1,seval];refine aC (fun m f h=>∃i G,m+i=g.ands.length/\f.t 3= .lp 0 0/\f.t 36=prs g.ands/\f.t 37=vi g.ands.length/\f.t 38=vi i/\f.t 9= .ls 1 1 0 (iC g st ins i).length (iC g st ins i).length/\f.d=[]/\h=[.cells [vi g.ins,ay g.next,ay g.init,prs g.ands,ay g.outs],.cells ((iC g st ins i).map V.bool)]++G) g.ands.length ⟨0,[],by simp,rfl,rfl,rfl,by(simp only[wq.1,↓reduceIte]);rfl,rfl,rfl,by simp⟩ ?_;rintro m f h ⟨i,G,hm,h3,h36,h37,h38,h9,hd,rfl⟩;refine vm ?_;simp only[wq.1,seval,-Int.reduceNatCast,-Int.reduceNatCast',aG,Tryz.results71,h3,h36,h37,h38,h9,hd];refine vcB.mk (fun hlt=> ?_) (fun hlt=> ?_)
    ·simp only[zqb,zqi]at hlt;have hgp:(g.ands.map prV).getD i .any=prV g.ands[i]:=iM hlt _;have hM:=mLx;have hgE:∀x:O,(G++[x])[G.length]? =some x:=fun x=>by simp
     have hgS:∀x y:O,(G++[x]).set G.length y=G++[y]:=fun x y=>by simp
     have hln:=jv (g:=g) (st:=st) (ins:=ins) (i:=i) (by omega);obtain⟨o1,o2,o3,o4⟩:=iD i5 hlt;have wf:g.first=1+g.ins+g.next.length:=rfl
     simp only[wq.1,seval,-Int.reduceNatCast,-Int.reduceNatCast',aG,Tryz.results71,h3,h36,h37,h38,h9,hd,hgp,hgE,hgS,List.drop_nil];have key:∀b,(lv (iC g st ins i) g.ands[i].1&&lv (iC g st ins i) g.ands[i].2)=b->iC g st ins (i+1)=iC g st ins i++[b]:=fun b hb=>by rw[nN hlt,hb]
     have rv:∀G':H,∀b:Int,aj TE (O.cells [vi g.ins,ay g.next,ay g.init,prs g.ands,ay g.outs]::O.cells (List.map V.bool (iC g st ins i))::G') [.ls 1 1 0 (iC g st ins i).length (iC g st ins i).length,vi b] [aX (iC g st ins i),vi b]:=fun G' b=>aj.cons (jL rfl rfl) (aj.cons (aH.dat rfl) aj.nil);refine⟨⟨by omega,by omega⟩,by decide,ag.lend (yT (iC g st ins i) g.ands[i].1 o1 (by omega) (by omega)) (rv _ _) rfl ?_⟩;cases hv1:lv (iC g st ins i) g.ands[i].1 with
     |true =>
      simp only[wq.1,seval,-Int.reduceNatCast,-Int.reduceNatCast',aG,Tryz.results71,bJ,h3,h36,h37,h38,h9,hd,hgp,hgE,hgS];refine⟨by decide,ag.lend (yT (iC g st ins i) g.ands[i].2 o2 (by omega) (by omega)) (rv _ _) rfl ?_⟩;simp only[wq.1,↓reduceIte,Nat.reduceEqDiff,Nat.reduceLT,reduceCtorEq,Nat.reduceMul,h38,hd,iF,aA (show i<maxLen by omega)];refine⟨⟨rfl,by decide⟩,⟨by omega,by omega,by omega⟩,.inl ⟨m-1,by omega,i+1,List.map (O.drop fun x=>x==1) G++[O.cells [vi g.ands[i].1,vi g.ands[i].2]],by omega,by simp only[wq.1,seval,h3],by simp only[wq.1,seval,h36],by simp only[wq.1,seval,h37],rfl,?_,hd,?_⟩⟩
      ·rw[key _ rfl,hv1,zqa];rfl
      ·rw[key _ rfl,hv1,zql];rfl
     |false =>
      simp only[wq.1,↓reduceIte,Nat.reduceEqDiff,Nat.reduceLT,Nat.reduceAdd,Int.reduceToNat,Int.reduceLE,reduceCtorEq,Nat.reduceMul,h38,h9,hd,hgE,iF,aA (show i<maxLen by omega)];refine⟨.bool false,?_⟩;simp only[wq.1,↓reduceIte,Nat.reduceEqDiff,Nat.reduceLT,Nat.reduceLeDiff,Nat.reduceAdd,Nat.reduceSub,Int.reduceToNat,Nat.reduceDiv,Int.reduceLT,Int.reduceLE,Int.reduceNeg,Int.reduceBEq,Int.reduceBNe,Int.reduceAdd,Int.reduceSub,Nat.reduceBEq,reduceCtorEq,Nat.reduceMul,aG,Tryz.results71,bJ,h3,h36,h37,h38,h9,hd,hgp,hgE,hgS,IR,iF,aA (show i<maxLen by omega)];refine⟨⟨rfl,by decide⟩,⟨by omega,by omega,by omega⟩,.inl ⟨m-1,by omega,i+1,List.map (O.drop fun x=>x==1) G++[O.cells [vi g.ands[i].1,vi g.ands[i].2]],by omega,by simp only[wq.1,seval,aG,Tryz.results71,h3],by simp only[wq.1,seval,aG,Tryz.results71,h36],by simp only[wq.1,seval,aG,Tryz.results71,h37],rfl,?_,hd,?_⟩⟩
      ·rw[key _ rfl,hv1,zqa];rfl
      ·rw[key _ rfl,hv1,zql];rfl
    ·simp only[zqd,zqi]at hlt;have hi:i=g.ands.length:=by omega
     simp only[wq.1,seval,h9,hd];have hE:g.valE st ins=0:=by unfold Gr.valE;rw[if_neg (by simp[hg]),if_neg (by simp;omega)]
     have hV:g.valV st ins=iC g st ins i:=by unfold Gr.valV Gr.vals;rw[if_pos hE,hi]
     rw[hE,hV];exact aH.tup (aj.cons (jL rfl rfl) (aj.dat rfl))
theorem Fg(v:List Bool)(l:Cl)(hll:l.length<=1000000)(hl:∀a∈l,0<=a/\a/2<v.length/\a<=1000000000):Ev TE 72 [ay l,.ip (aX v)] (aX (l.map (lv v))):=by
 refine Ev.bnd fun hb=> ?_;have hlen:=Cf hb;have hM:=mLx;refine aF Tryz.func72 rfl (by simp[nts]) (vm ?_);simp only[wq.1,seval,Tryz.results72];refine aC (fun m f h=>∃i,m+i=l.length/\f.t 1= .ip (aX v)/\f.t 7=ay l/\f.t 8=vi l.length/\f.t 9=vi i/\f.d=[]/\((i=0/\f.t 4= .nils/\h=[])\/(f.t 4= .ls 0 1 0 i i/\h=[.cells (((l.take i).map (lv v)).map V.bool)]))) l.length ⟨0,by simp,rfl,rfl,rfl,rfl,rfl,.inl ⟨rfl,rfl,rfl⟩⟩ ?_;rintro m f h ⟨i,hm,h1,h7,h8,h9,hd,hh⟩;refine vm ?_;simp only[wq.1,seval,h8,h9];refine vcB.mk (fun hlt=> ?_) (fun hlt=> ?_)
 ·simp only[zqb,zqi]at hlt;obtain⟨o1,o2,o3⟩:=hl _ (zqu hlt);have hsucc:(l.take (i+1)).map (lv v)=(l.take i).map (lv v)++[lv v l[i]]:=by rw[zrg,zql];simp[hlt]
  have hg:(l.map vi).getD i .any=vi l[i]:=wU hlt _;simp only[wq.1,seval,h1,h7,h9,hg];refine⟨⟨by omega,by omega⟩,ag.ev (yT v l[i] o1 o2 o3) rfl ?_⟩;have hw:=aA (show i<maxLen by omega);rcases hh with⟨rfl,h4,rfl⟩|⟨h4,rfl⟩
  ·simp only[wq.1,↓reduceIte,Nat.reduceEqDiff,Nat.reduceLT,Nat.reduceLeDiff,reduceCtorEq,Nat.reduceMul,h4,h9,hw];exact⟨⟨rfl,by decide⟩,by omega,.inl ⟨m-1,by omega,0+1,by omega,h1,h7,h8,rfl,hd,.inr ⟨rfl,by rw[hsucc];rfl⟩⟩⟩
  ·simp only[wq.1,↓reduceIte,Nat.reduceEqDiff,Nat.reduceLT,reduceCtorEq,Nat.reduceMul,h4,h9,hd,iF,hw];exact⟨⟨rfl,by decide⟩,⟨by rw[zrl];omega,by omega,by omega⟩,.inl ⟨m-1,by omega,i+1,by omega,by simp only[wq.1,seval,aG,Tryz.results72,h1],by simp only[wq.1,seval,aG,Tryz.results72,h7],by simp only[wq.1,seval,aG,Tryz.results72,h8],rfl,hd,.inr ⟨rfl,by rw[hsucc,zql];rfl⟩⟩⟩
 ·simp only[zqd,zqi]at hlt;have hi:i=l.length:=by omega
  subst hi;simp only[wq.1,seval,hd];rcases hh with⟨h0,h4,rfl⟩|⟨h4,rfl⟩
  ·simp only[wq.1,h4];rw[zse h0];exact aH.nils
  ·simp only[wq.1,h4];refine jL (by simp) (by simp)
def Gr.out(g:Gr)(st ins:List Bool):List Bool:=if g.valE st ins=0 then g.outs.map (lv (g.vals st ins))else []
def Gr.nxt(g:Gr)(st ins:List Bool):List Bool:=if g.valE st ins=0 then g.next.map (lv (g.vals st ins))else []
theorem Vt(hE:g.valE st ins=0):(∀a∈g.outs,0<=a/\a/2<(g.vals st ins).length/\a<=1000000000)/\(∀a∈g.next,0<=a/\a/2<(g.vals st ins).length/\a<=1000000000)/\g.outs.length<=4000/\g.next.length<=4000/\g.chk=0/\st.length=g.next.length/\(ins.length:Int)=g.ins/\(g.vals st ins).length=1+ins.length+st.length+g.ands.length:=by
 unfold Gr.valE at hE;split at hE
 ·rename_i h1;exact absurd hE h1
 ·rename_i h1;have hg:g.chk=0:=by simpa using h1
  split at hE
  ·cases hE
  ·rename_i h2;simp only[Bool.or_eq_true,bne_iff_ne,ne_eq,not_or,Decidable.not_not]at h2;obtain⟨_,i0,i1,i2,i3,i4,i5⟩:=aW hg;obtain⟨r1,r2,r3,r4⟩:=aN i4;have hln:=jv (g:=g) (st:=st) (ins:=ins) (zrb g.ands.length);have wf:g.all=2*(1+g.ins+g.next.length+g.ands.length):=rfl;have hln:(g.vals st ins).length=1+ins.length+st.length+g.ands.length:=hln;refine⟨fun a ha=> ?_,fun a ha=> ?_,by omega,by omega,hg,by omega,h2.2,hln⟩
   ·have:=r4 a ha;omega
   ·have:=r3 a ha;omega
theorem SL(g:Gr)(st ins:List Bool)(hs:g.Sm):Ev TE 44 [g.v,aX st,aX ins] (.tup [aX (g.out st ins),aX (g.nxt st ins),vi (g.valE st ins)]):=by
 have hgv:=Lu g st ins hs;unfold Gr.v at hgv ⊢;have dg:V.dats [.agg [vi g.ins,ay g.next,ay g.init,prs g.ands,ay g.outs],aX st,aX ins]=true:=by simp only[V.dats,V.dat,zre]
 refine aF Tryz.func44 rfl (by simp[nts]) ?_;refine vn ?_;simp only[wq.1,Nat.reduceLT,Tryz.results44];refine vn ?_;simp only[wq.1,seval];refine ag.ev hgv dg ?_;simp only[wq.1,seval];refine vn ?_;simp only[wq.1,seval];refine vcB.mk (fun hc=> ?_) (fun hc=> ?_)
 ·have hc:g.valE st ins≠0:=by simpa using hc
  simp only[wq.1,seval];unfold Gr.out Gr.nxt;rw[if_neg hc,if_neg hc];exact aH.tup (aj.cons aH.nils (aj.cons aH.nils (aj.dat rfl)))
 ·have hc:g.valE st ins=0:=by simpa using hc
  have hV:g.valV st ins=g.vals st ins:=by unfold Gr.valV;rw[if_pos hc]
  obtain⟨l1,l2,l3,l4,l5,_⟩:=Vt hc;have c1:=Fg (g.vals st ins) g.outs (by omega) l1;have c2:=Fg (g.vals st ins) g.next (by omega) l2
  simp only[wq.1,hV];refine vn ?_;simp only[wq.1,seval];refine Oc (h0:=[.cells [vi g.ins,ay g.next,ay g.init,prs g.ands,ay g.outs]]) (o:= .cells [aX (g.vals st ins)]) 11 (.fn (.func 72) [] [.ip (aX (g.vals st ins))]) (by simp only[wq.1]) (by simp only[wq.1,↓reduceIte,aJ]) ?_ ?_
  ·simp only[wq.1,↓reduceIte];exact aH.fn aj.nil (aj.cons (aH.lp (h:=uK (aJ 1) 0 _) rfl (aj.dat rfl) rfl rfl (by simp[V.vc]) rfl) aj.nil)
  ·refine vm ?_;simp only[wq.1,seval,aJ];refine⟨by decide +kernel,Dz.mk c1 rfl rfl ?_⟩;simp only[wq.1,seval,aJ];refine Dz.mk c2 rfl rfl ?_;simp only[wq.1,seval];have eo:g.out st ins=g.outs.map (lv (g.vals st ins)):=by unfold Gr.out;rw[if_pos hc]
   have en:g.nxt st ins=g.next.map (lv (g.vals st ins)):=by unfold Gr.nxt;rw[if_pos hc]
   rw[eo,en,hc];exact aH.dat (by simp only[V.dat,V.dats,zre])
end Go.Proofs.YthdidjjecjhenaaGreat
