/- Lemmas for this claim, part F11: each holds under what it names. -/
import Derived.Test.YtmlacppmbfbjgaaGreatDoorF10
import Derived.Test.YtmlacppmbfbjgaaGreatDoorA10
import Derived.Test.YtmlacppmbfbjgaaGreatDoorA11
set_option linter.unusedVariables false
set_option linter.unusedSimpArgs false
set_option linter.unnecessarySimpa false
set_option maxRecDepth 20000
set_option maxHeartbeats 4000000
namespace Go.Proofs.YtmlacppmbfbjgaaGreatDoor
open Go Go.Proofs Go.Abs
def Mo.lens (m:Mo):Bool:=((m.ins.length:Int) != m.g.ins)||((m.lat.length:Int) != (m.g.next.length:Int))||((m.out.length:Int) != (m.g.outs.length:Int))
def Mo.names (m:Mo):Bool:=m.ins.any qL||m.lat.any qL||m.out.any qL
def Mo.twos (m:Mo):Bool:=xk (m.ins++m.lat)||xk m.out
def Mo.other (m:Mo) (n:Nat):Bool:=(List.range n).any fun i=>decide (0≤m.place (m.out.getD i []))&&m.g.outs.getD i 0 != 2*m.place (m.out.getD i [])
def Mo.chk (m:Mo):Int:=if m.g.chk≠0 then m.g.chk else if m.lens then 1 else if m.names then 4 else if m.twos then 5 else if m.other m.out.length then 5 else 0
structure Gr.Ok (g : Gr) : Prop where
 lim:g.lim=false
 i0:0≤g.ins
 i1:g.ins≤4000
 i2:g.ins+g.next.length+g.ands.length≤4000
 i3:(g.outs.length:Int)≤4000
 row:g.oddR=false
 ands:g.oddAs g.ands.length=false
theorem jG {g:Gr} (h:g.chk=0):g.Ok:=by
 unfold Gr.chk at h;split at h
 ·cases h
 ·rename_i h1;split at h
  ·cases h
  ·rename_i h2;split at h
   ·cases h
   ·rename_i h3;have h1 : g.lim = false := by simpa using h1
    have h2':=h1;simp only[Gr.lim,Bool.or_eq_false_iff,decide_eq_false_iff_not]at h2';exact⟨h1,by omega,by omega,by omega,by omega,by simpa using h2,by simpa using h3⟩
theorem II {m:Mo} {i n:Nat} (h:i≤n) (ho:m.other i=true):m.other n=true:=by unfold Mo.other at ho ⊢;rw[List.any_eq_true]at ho ⊢;obtain⟨x,hx,h2⟩:=ho;exact⟨x,List.mem_range.2 (by have:=List.mem_range.1 hx;omega),h2⟩
theorem L6 (m:Mo) (hs:m.g.Sm):Ev TE 60 [m.v] (vi m.chk):=by
 have hgc:=xU m.g hs;unfold Gr.v at hgc;unfold Mo.v;have dg:V.dats [.agg [vi m.g.ins,aG m.g.next,aG m.g.init,prs m.g.ands,aG m.g.outs]]=true:=by simp only[V.dats,V.dat,Bool.and_self]
 refine ak Tryz.func60 rfl (by simp[nts]) (vm ?_);simp only[wq.1,seval,Tryz.results60];refine ah.ev hgc dg ?_;simp only[wq.1,seval];refine vcB.mk (fun hc=> ?_) (fun hc=> ?_)
 ·simp only[wq.1,seval];exact aQ rfl (by unfold Mo.chk;rw[if_pos (by simpa using hc)])
 ·have hg : m.g.chk = 0 := by simpa using hc
  have go:=jG hg;obtain⟨_,i0,i1,i2,i3,_,_⟩:=go;have fin1:m.lens=true→vi 1=vi m.chk:=fun h=>by unfold Mo.chk;rw[if_neg (by simp[hg]),if_pos h]
  cases hl1:(m.ins.length:Int) != m.g.ins with
  | true=>simp only[wq.1,seval,hl1];exact aQ rfl (fin1 (by simp[Mo.lens,hl1]))
  | false =>
   cases hl2:(m.lat.length:Int) != (m.g.next.length:Int)with
   | true=>simp only[wq.1,seval,hl1,hl2];exact aQ rfl (fin1 (by simp[Mo.lens,hl2]))
   | false =>
    cases hl3:(m.out.length:Int) != (m.g.outs.length:Int)with
    | true=>simp only[wq.1,seval,hl1,hl2,hl3];exact aQ rfl (fin1 (by simp[Mo.lens,hl3]))
    | false =>
     have hlens:m.lens=false:=by simp only[Mo.lens,hl1,hl2,hl3,Bool.or_false]
     have fin4:m.names=true→vi 4=vi m.chk:=fun h=>by unfold Mo.chk;rw[if_neg (by simp[hg]),if_neg (by simp[hlens]),if_pos h]
     simp only[bne_eq_false_iff_eq]at hl1 hl2 hl3;simp only[wq.1,seval,hl1,hl2,hl3,bne_self_eq_false];refine ah.ev (Eu m.ins) rfl ?_;cases hn1:m.ins.any qL with
     | true=>simp only[wq.1,seval];exact aQ rfl (fin4 (by simp[Mo.names,hn1]))
     | false =>
      simp only[wq.1,seval];refine ah.ev (Eu m.lat) rfl ?_;cases hn2:m.lat.any qL with
      | true=>simp only[wq.1,seval];exact aQ rfl (fin4 (by simp[Mo.names,hn2]))
      | false =>
       simp only[wq.1,seval];refine ah.ev (Eu m.out) rfl ?_;cases hn3:m.out.any qL with
       | true=>simp only[wq.1,↓reduceIte,Nat.reduceLT];exact aQ rfl (fin4 (by simp[Mo.names,hn3]))
       | false =>
        have hnames:m.names=false:=by simp only[Mo.names,hn1,hn2,hn3,Bool.or_false]
        have fin5:m.twos=true→vi 5=vi m.chk:=fun h=>by unfold Mo.chk;rw[if_neg (by simp[hg]),if_neg (by simp[hlens]),if_neg (by simp[hnames]),if_pos h]
        have hcat:=xW [m.ins,m.lat] (by simp;omega) (by simp);rw[show [m.ins,m.lat].flatten=m.ins++m.lat by simp]at hcat;simp only[wq.1,↓reduceIte,Nat.reduceEqDiff,Nat.reduceLT,Nat.reduceLeDiff,Nat.reduceAdd,reduceCtorEq,Nat.reduceMul];refine⟨⟨rfl,by decide⟩,ah.ev hcat rfl ?_⟩;simp only[wq.1,seval];refine ah.ev (BR _) rfl ?_;cases ht1:xk (m.ins++m.lat)with
        | true=>simp only[wq.1,seval];exact aQ rfl (fin5 (by simp[Mo.twos,ht1]))
        | false =>
         simp only[wq.1,seval];refine ah.ev (BR _) rfl ?_;cases ht2:xk m.out with
         | true=>simp only[wq.1,seval];exact aQ rfl (fin5 (by simp[Mo.twos,ht2]))
         | false =>
          have htwos:m.twos=false:=by simp only[Mo.twos,ht1,ht2,Bool.or_false]
          simp only[wq.1,seval];refine aA (fun k f h=>∃i,k+i=m.out.length∧f.t 1= .lp 0 0∧f.t 60=dF m.out∧f.t 61=vi m.out.length∧f.t 62=vi i∧f.d=[]∧h= .cells [vi m.g.ins,aG m.g.next,aG m.g.init,prs m.g.ands,aG m.g.outs,dF m.ins,dF m.lat,dF m.out]::[]∧m.other i=false) m.out.length ⟨0,by simp,rfl,rfl,rfl,rfl,rfl,rfl,rfl⟩ ?_;rintro k f h ⟨i,hk,h1,h60,h61,h62,hd,rfl,hno⟩;refine vm ?_;simp only[wq.1,seval,h61,h62];have hM:maxLen=9223372036854775807:=rfl;refine vcB.mk (fun hc=> ?_) (fun hc=> ?_)
          ·simp only [decide_eq_true_eq,Int.ofNat_lt] at hc;have hc3 : i < m.g.outs.length := by omega
           have hpl:=QH (m.ins++m.lat) (·==m.out[i]);rw[List.length_append]at hpl;have hpr:-1≤m.place m.out[i]∧m.place m.out[i]≤4000:=by unfold Mo.place;split<;>omega
           have hgo:m.out.getD i []=m.out[i]:=jl hc;have hgg:m.g.outs.getD i 0=m.g.outs[i]:=jl hc3;have hplace:=LZ m m.out[i] (by omega);have dm:V.dats [m.v,.str m.out[i]]=true:=by simp only[V.dats,V.dat,Bool.and_self]
           unfold Mo.v at hplace dm;have w2:IntKind.i64.wrap (2*m.place m.out[i])=2*m.place m.out[i]:=dE (by omega) (by omega);simp only[wq.1,seval,h1,h60,h62,Ji hc];refine⟨⟨by omega,by omega⟩,ah.ev hplace dm ?_⟩;have hother:m.other (i+1)=(m.other i||(decide (0≤m.place m.out[i])&&m.g.outs[i] != 2*m.place m.out[i])):=by
            unfold Mo.other;rw[List.range_succ,List.any_append,List.any_cons,List.any_nil,Bool.or_false,hgo,hgg]
           cases hp:decide (0≤m.place m.out[i])with
           | false=>rw[hp,hno]at hother;simp only[wq.1,seval,h1,h62,hp,KJ hc3,aC (show i<maxLen by omega)];exact .inl ⟨k-1,by omega,i+1,by omega,h1,h60,h61,rfl,hd,rfl,hother⟩
           | true =>
            rw[hp,hno]at hother;cases hq:m.g.outs[i] != 2*m.place m.out[i]with
            | true=>simp only[wq.1,seval,h1,hd,hp,KJ hc3,w2,hq];refine⟨⟨by omega,by omega⟩,aQ rfl ?_⟩;rw[hq]at hother;unfold Mo.chk;rw[if_neg (by simp[hg]),if_neg (by simp[hlens]),if_neg (by simp[hnames]),if_neg (by simp[htwos]),if_pos];refine II (by omega) (hother.trans rfl)
            | false=>rw[hq]at hother;simp only[wq.1,seval,h1,h62,hp,KJ hc3,w2,hq,aC (show i<maxLen by omega)];refine⟨⟨by omega,by omega⟩,.inl ⟨k-1,by omega,i+1,by omega,h1,h60,h61,rfl,hd,rfl,hother⟩⟩
          ·simp only [decide_eq_false_iff_not,Int.ofNat_lt] at hc;have hi : i = m.out.length := by omega
           simp only[wq.1,seval,hd];refine aQ rfl ?_;unfold Mo.chk;rw[if_neg (by simp[hg]),if_neg (by simp[hlens]),if_neg (by simp[hnames]),if_neg (by simp[htwos]),←hi,if_neg (by simp[hno])]
structure Wi where
 bad:Int
 st:Cl
 steps:List Cl
abbrev Wi.v (w:Wi):V:= .agg [vi w.bad,aG w.st,cls w.steps]
theorem kM {g:Gr} (h:g.oddR=false):g.init.length=g.next.length∧(∀a∈g.init,0≤a∧a≤2)∧(∀a∈g.next,0≤a∧a<g.all)∧(∀a∈g.outs,0≤a∧a<g.all):=by simp only[Gr.oddR,Bool.or_eq_false_iff,bne_eq_false_iff_eq,List.any_eq_false,FY,QG,Bool.not_eq_true,decide_eq_false_iff_not]at h;obtain⟨⟨⟨h1,h2⟩,h3⟩,h4⟩:=h;exact⟨h1,fun a ha=>by have:=h2 a ha;omega,fun a ha=>by have:=h3 a ha;omega,fun a ha=>by have:=h4 a ha;omega⟩
def lv (v:List Bool) (a:Int):Bool:=v.getD (a/2).toNat false != (a%2==1)
theorem Wp {a:Int} (h0:0≤a) (h1:a≤1000000000):IntKind.i64.wrap ((BitVec.ofInt IntKind.i64.bits a &&& BitVec.ofInt IntKind.i64.bits 1).toNat:Int)=a%2:=by
 obtain⟨n,rfl⟩:∃n:Nat,a=n:=⟨a.toNat,by omega⟩;have e1:(BitVec.ofInt IntKind.i64.bits (n:Int) &&& BitVec.ofInt IntKind.i64.bits 1).toNat=n%2:=by
  show(BitVec.ofInt 64 (n:Int) &&& BitVec.ofInt 64 1).toNat=n%2;rw[BitVec.toNat_and];have:(BitVec.ofInt 64 (n:Int)).toNat=n:=by simp;omega
  rw[this];show n &&& 1=n%2;exact Nat.and_one_is_mod n
 rw[e1,dE (by omega) (by omega)];omega
theorem VZ (a:Int):a.fdiv (2^(min 1 IntKind.i64.bits))=a/2:=by show a.fdiv 2=a/2;rw[Int.fdiv_eq_ediv_of_nonneg _ (by decide)]
def V3 (g:Gr) (st ins:List Bool) (n:Nat):List Bool:=(g.ands.take n).foldl (fun v p=>v++[lv v p.1&&lv v p.2]) ([false]++ins++st)
def Gr.vals (g:Gr) (st ins:List Bool):List Bool:=V3 g st ins g.ands.length
def Gr.valE (g:Gr) (st ins:List Bool):Int:=if g.chk≠0 then g.chk else if((st.length:Int) != (g.next.length:Int))||((ins.length:Int) != g.ins)then 11 else 0
theorem F5 {g:Gr} (h:g.oddAs g.ands.length=false) {i:Nat} (hi:i<g.ands.length):0≤g.ands[i].1∧0≤g.ands[i].2∧g.ands[i].1<2*(g.first+i)∧g.ands[i].2<2*(g.first+i):=by unfold Gr.oddAs at h;rw[List.any_eq_false]at h;have:=h i (List.mem_range.2 hi);rw[jl hi]at this;simp only[Wl,Bool.or_eq_true,decide_eq_true_eq,not_or]at this;omega
def Gr.out (g:Gr) (st ins:List Bool):List Bool:=if g.valE st ins=0 then g.outs.map (lv (g.vals st ins))else []
def xn (row:Cl) (a:Int):Int:=if a%2=1 then -(row.getD (a/2).toNat 0)else row.getD (a/2).toNat 0
structure UA where
 n:Nat
 cl:List Cl
 row:Cl
def VK (s:UA) (p:Pq):UA :=
 ⟨s.n+1,s.cl++[[-((s.n:Int)+1),xn s.row p.1],[-((s.n:Int)+1),xn s.row p.2],[(s.n:Int)+1,-xn s.row p.1,-xn s.row p.2]],s.row++[(s.n:Int)+1]⟩
def Jj (n k:Nat):Cl:=(List.range k).map fun i:Nat=>(n:Int)+(i:Int)+1
def VL (g:Gr) (n:Nat) (lat:Cl):Cl:=-1::(Jj n g.ins.toNat++lat)
structure US where
 n:Nat
 cl:List Cl
 rows:List Cl
 lat:Cl
def US.ands (g:Gr) (u:US) (i:Nat):UA:=(g.ands.take i).foldl VK ⟨u.n+g.ins.toNat,u.cl,VL g u.n u.lat⟩
def US.step (g:Gr) (u:US):US:=⟨(u.ands g g.ands.length).n,(u.ands g g.ands.length).cl,u.rows++[(u.ands g g.ands.length).row],g.next.map (xn (u.ands g g.ands.length).row)⟩
def vX (s:Nat×Cl) (b:Int):Nat×Cl:=if b=2 then(s.1+1,s.2++[(s.1:Int)+1])else(s.1,s.2++[2*b-1])
def Ew (l:Cl):Nat×Cl:=l.foldl vX (1,[])
def fZ (g : Gr) (b : Cl) : Nat → US
 | 0=>⟨(Ew b).1,[[1]],[],(Ew b).2⟩
 | k+1=>(fZ g b k).step g
theorem gq {g:Gr} {u:US} {i:Nat} (h:i<g.ands.length):u.ands g (i+1)=VK (u.ands g i) g.ands[i]:=by unfold US.ands;rw[List.take_add_one,List.getElem?_eq_getElem h,List.foldl_append];rfl
theorem nZ {g : Gr} {u : US} : ∀ {i : Nat},i ≤ g.ands.length → (u.ands g i).n = u.n + g.ins.toNat + i
 | 0,_=>rfl
 | i+1,h=>by rw[gq (by omega)];show(u.ands g i).n+1=_;rw[nZ (by omega)];omega
theorem iy {g : Gr} {u : US} : ∀ {i : Nat},i ≤ g.ands.length → (u.ands g i).row.length = 1 + g.ins.toNat + u.lat.length + i
 | 0,_=>by simp[US.ands,VL,Jj];omega
 | i+1,h=>by rw[gq (by omega)];show((u.ands g i).row++[_]).length=_;rw[List.length_append,iy (by omega),List.length_singleton];omega
def inU (n:Nat) (a:Int):Prop:=a≠0∧-(n:Int)≤a∧a≤n
theorem inU.mono {n k:Nat} {a:Int} (h:inU n a) (hk:n≤k):inU k a:=⟨h.1,by have:=h.2;omega,by have:=h.2;omega⟩
theorem inU.neg {n:Nat} {a:Int} (h:inU n a):inU n (-a):=⟨by have:=h.1;omega,by have:=h.2;omega,by have:=h.2;omega⟩
def IJ (n:Nat) (row:Cl):Prop:=∀a∈row,inU n a
def U4 (n:Nat) (l:List Cl):Prop:=∀c∈l,∀a∈c,inU n a
theorem zF {row:Cl} {k:Nat} (h:k<row.length):row.getD k 0∈row:=by rw[jl h];exact List.getElem_mem h
theorem vY {n:Nat} {row:Cl} (h:IJ n row) {a:Int} (h0:0≤a) (ha:a/2<row.length):inU n (xn row a):=by
 have:=h _ (zF (k:=(a/2).toNat) (by omega));unfold xn;split
 ·exact this.neg
 ·exact this
structure UAok (s : UA) : Prop where
 r:IJ s.n s.row
 c:U4 s.n s.cl
theorem SC {s:UA} (h:UAok s) {p:Pq} (h1:0≤p.1) (h2:0≤p.2) (h3:p.1/2<s.row.length) (h4:p.2/2<s.row.length):UAok (VK s p):=by
 have hv:inU (s.n+1) ((s.n:Int)+1):=⟨by omega,by omega,by omega⟩;have a1:=(vY h.r h1 h3).mono (Nat.le_succ s.n);have a2:=(vY h.r h2 h4).mono (Nat.le_succ s.n);refine⟨fun a ha=> ?_,fun c hc a ha=> ?_⟩
 ·rcases List.mem_append.1 ha with ha | ha
  ·exact(h.r a ha).mono (Nat.le_succ _)
  ·rw[List.mem_singleton.1 ha];exact hv
 ·rcases List.mem_append.1 hc with hc | hc
  ·exact(h.c c hc a ha).mono (Nat.le_succ _)
  ·simp only [List.mem_cons,List.not_mem_nil,or_false] at hc;rcases hc with rfl | rfl | rfl
   ·simp only [List.mem_cons,List.not_mem_nil,or_false] at ha;rcases ha with rfl | rfl
    ·exact hv.neg
    ·exact a1
   ·simp only [List.mem_cons,List.not_mem_nil,or_false] at ha;rcases ha with rfl | rfl
    ·exact hv.neg
    ·exact a2
   ·simp only [List.mem_cons,List.not_mem_nil,or_false] at ha;rcases ha with rfl | rfl | rfl
    ·exact hv
    ·exact a1.neg
    ·exact a2.neg
theorem xX : ∀ (l : Cl) (s : Nat × Cl),(∀ b ∈ l,0 ≤ b ∧ b ≤ 2) → 1 ≤ s.1 → IJ s.1 s.2 → s.1 ≤ (l.foldl vX s).1 ∧ (l.foldl vX s).1 ≤ s.1 + l.length ∧ IJ (l.foldl vX s).1 (l.foldl vX s).2 ∧ (l.foldl vX s).2.length = s.2.length + l.length
 | [],s,_,_,hr=>⟨Nat.le_refl _,Nat.le_refl _,hr,rfl⟩
 | b::l,s,hl,hp,hr=>by
  have hb:=hl b (by simp);have hl':∀b∈l,0≤b∧b≤2:=fun b h=>hl b (by simp[h]);rw[List.foldl_cons];by_cases h:b=2
  ·have e : vX s b = (s.1 + 1,s.2 ++ [(s.1 : Int) + 1]) := by unfold vX;rw [if_pos h]
   rw[e];obtain⟨a1,a2,a3,a4⟩:=xX l (s.1+1,s.2++[(s.1:Int)+1]) hl' (by simp) (fun a ha=>by
    rcases List.mem_append.1 ha with ha | ha
    ·exact(hr a ha).mono (Nat.le_succ _)
    ·rw[List.mem_singleton.1 ha];exact⟨by omega,by omega,by simp⟩)
   simp only[List.length_append,List.length_singleton]at a1 a2 a4;exact⟨by omega,by rw[List.length_cons];omega,a3,by rw[List.length_cons];omega⟩
  ·have e : vX s b = (s.1,s.2 ++ [2 * b - 1]) := by unfold vX;rw [if_neg h]
   rw[e];obtain⟨a1,a2,a3,a4⟩:=xX l (s.1,s.2++[2*b-1]) hl' hp (fun a ha=>by
    rcases List.mem_append.1 ha with ha | ha
    ·exact hr a ha
    ·rw[List.mem_singleton.1 ha];exact⟨by omega,by omega,by omega⟩)
   simp only[List.length_append,List.length_singleton]at a1 a2 a4;exact⟨a1,by rw[List.length_cons];omega,a3,by rw[List.length_cons];omega⟩
def nx (g:Gr) (st x:List Bool):List Bool:=g.next.map (lv (g.vals st x))
def U5 (g:Gr):Nat:=1+g.ins.toNat+g.next.length+g.ands.length
structure USok (g : Gr) (u : US) : Prop where
 l:u.lat.length=g.next.length
 lo:IJ u.n u.lat
 c:U4 u.n u.cl
 r:∀r∈u.rows,IJ u.n r∧r.length=U5 g
 one:1≤u.n
theorem oH {g : Gr} (hg : g.chk = 0) {u : US} (h : USok g u) : ∀ {i : Nat},i ≤ g.ands.length → UAok (u.ands g i)
 | 0,_=>by
  refine⟨fun a ha=> ?_,fun c hc a ha=>(h.c c hc a ha).mono (Nat.le_add_right _ _)⟩;have ha:a∈-1::(Jj u.n g.ins.toNat++u.lat):=ha;show inU (u.n+g.ins.toNat) a;have h1:=h.one;rcases List.mem_cons.1 ha with rfl | ha
  ·exact⟨by omega,by omega,by omega⟩
  ·rcases List.mem_append.1 ha with ha | ha
   ·obtain⟨i,hi,rfl⟩:=List.mem_map.1 ha;have:=List.mem_range.1 hi;exact⟨by omega,by omega,by omega⟩
   ·exact(h.lo a ha).mono (Nat.le_add_right _ _)
 | i+1,hi=>by
  obtain⟨_,i0,i1,i2,i3,i4,i5⟩:=jG hg;have hl:=iy (u:=u) (g:=g) (i:=i) (by omega);obtain⟨o1,o2,o3,o4⟩:=F5 i5 (show i<g.ands.length by omega);have wf:g.first=1+g.ins+g.next.length:=rfl
  have hll:=h.l;rw[gq (by omega)];exact SC (oH hg h (by omega)) o1 o2 (by omega) (by omega)
theorem IK {g:Gr} (hg:g.chk=0) {u:US} (h:USok g u):USok g (u.step g):=by
 obtain⟨_,i0,i1,i2,i3,i4,i5⟩:=jG hg;obtain⟨r1,r2,r3,r4⟩:=kM i4;have ok:=oH hg h (Nat.le_refl g.ands.length);have hl:=iy (u:=u) (g:=g) (Nat.le_refl g.ands.length);have hn:=nZ (u:=u) (g:=g) (Nat.le_refl g.ands.length);have wf:g.first=1+g.ins+g.next.length:=rfl
 have wa:g.all=2*(g.first+g.ands.length):=rfl;have wv:U5 g=1+g.ins.toNat+g.next.length+g.ands.length:=rfl
 have hll:=h.l;have h1:=h.one;refine⟨by simp[US.step],fun a ha=> ?_,ok.c,fun r hr=> ?_,?_⟩
 ·obtain⟨b,hb,rfl⟩:=List.mem_map.1 ha;have:=r3 b hb;exact vY ok.r this.1 (by omega)
 ·rcases List.mem_append.1 hr with hr | hr
  ·obtain⟨a1,a2⟩:=h.r r hr;exact⟨fun a ha=>(a1 a ha).mono (by show u.n≤(u.ands g g.ands.length).n;omega),a2⟩
  ·rw[List.mem_singleton.1 hr];exact⟨ok.r,by omega⟩
 ·show 1≤(u.ands g g.ands.length).n;omega
theorem BU {g : Gr} (hg : g.chk = 0) {b : Cl} (hb : b.length = g.next.length) (hb2 : ∀ x ∈ b,0 ≤ x ∧ x ≤ 2) : ∀ k,USok g (fZ g b k)
 | 0=>by obtain⟨a1,a2,a3,a4⟩:=xX b (1,[]) hb2 (Nat.le_refl _) (fun a ha=>by cases ha);refine⟨by show(Ew b).2.length=_;unfold Ew;rw[a4];simpa using hb,a3,fun c hc a ha=> ?_,fun r hr=>(by cases hr),a1⟩;have hc:c=[1]:=List.mem_singleton.1 hc;subst hc;rw[List.mem_singleton.1 ha];have:1≤(fZ g b 0).n:=a1;exact⟨by decide,by omega,by omega⟩
 | k+1=>IK hg (BU hg hb hb2 k)
abbrev bU (g:Gr) (n:Nat) (cv lv rv:V):O:= .cells [vi n,cv,lv,vi g.ins,aG g.next,aG g.init,prs g.ands,aG g.outs,rv]
abbrev xC (c:Cl):V:= .is true 1 (c.map vi)
theorem mX {b n : Nat} {g : Gr} {cv lv rv : V} {h : H} {R : AEnd → H → (Nat → Bool) → Prop} (hh : h[b]? = some (bU g n cv lv rv)) (hn : n ≤ 1000000)
 (hr:R (.ret (vi ((n:Int)+1))) (h.set b (bU g (n+1) cv lv rv)) (fun _=>false)):ah TE 117 [.lp b 0] h R:=by
 have hM:maxLen=9223372036854775807:=rfl;have w1:=aC (show n<maxLen by omega);have hl:=(List.getElem?_eq_some_iff.1 hh).1;have hs:∀o:O,(h.set b o)[b]? =some o:=fun o=>List.getElem?_set_self hl;refine au Tryz.func117 rfl (by simp[nts]) (vm ?_);simp only[wq.1,seval,Tryz.results117,hh,hs,w1];exact hr
theorem F6 {row:Cl} {a:Int} (h:a%2=1):xn row a=-(row.getD (a/2).toNat 0):=if_pos h
theorem BV {row:Cl} {a:Int} (h:a%2=0):xn row a=row.getD (a/2).toNat 0:=if_neg (by omega)
theorem rP {b n r cap : Nat} {g : Gr} {cv lv : V} {row : Cl} {a : Int} {h : H} {R : AEnd → H → (Nat → Bool) → Prop} (hh : h[b]? = some (bU g n cv lv (.ls r 1 0 row.length cap))) (hr0 : h[r]? = some (.cells (row.map vi)))
 (hb:∀x∈row,-1000000≤x∧x≤1000000) (a0:0≤a) (a1:a/2<row.length) (a2:a≤1000000)
 (hr:R (.ret (vi (xn row a))) h (fun _=>false)):ah TE 114 [.lp b 0,vi a] h R:=by
 have hM:maxLen=9223372036854775807:=rfl;obtain⟨k,hk⟩:∃k:Nat,a/2=k:=⟨(a/2).toNat,by omega⟩;have hkl:k<row.length:=by omega
 have hg:(row.map vi).getD k .any=vi row[k]:=KJ hkl _;have hx:=hb _ (List.getElem_mem hkl);have q1:=VZ a;have q2:=Wp a0 (show a≤1000000000 by omega);have hgd:row.getD (a/2).toNat 0=row[k]:=by rw[hk,Int.toNat_natCast,jl hkl]
 have wn:IntKind.i64.wrap (0-row[k])=-row[k]:=by rw[dE (by omega) (by omega)];omega
 have wn':IntKind.i64.wrap (-row[k])=-row[k]:=dE (by omega) (by omega);refine au Tryz.func114 rfl (by simp[nts]) (vm ?_);rcases Int.emod_two_eq a with hm | hm
 ·rw[BV hm,hgd]at hr;simp only[wq.1,seval,Tryz.results114,q1,q2,hm,hk,hh,hr0,hg,Nat.mul_one];exact⟨⟨by omega,by omega⟩,by omega,hr⟩
 ·rw[F6 hm,hgd]at hr;simp only[wq.1,seval,-Int.reduceNatCast,-Int.reduceNatCast',Tryz.results114,q1,q2,hm,hk,hh,hr0,hg,wn,Nat.mul_one];exact⟨⟨by omega,by omega⟩,by omega,hr⟩
theorem mY {p : Nat → Bool} : ∀ l : List Cl,V.drops p (l.map xC) = l.map xC
 | []=>rfl
 | c::l=>by show V.drop p (xC c)::V.drops p (l.map xC)=_;rw[mY l];rfl
theorem zG {h:H} {D:Nat→Bool} {b:Nat} {x:O} (hd:∀i o,h[i]? =some o→i≠b→o.drop D=o):(h.map (O.drop D)).set b x=h.set b x:=by
 refine List.ext_getElem? fun i=> ?_;by_cases hi:b=i
 ·subst hi;by_cases hl : b < h.length
  ·rw[List.getElem?_set_self (by simpa using hl),List.getElem?_set_self hl]
  ·rw[List.getElem?_eq_none (by simp;omega),List.getElem?_eq_none (by simp;omega)]
 ·rw[List.getElem?_set_ne hi,List.getElem?_set_ne hi,List.getElem?_map];cases ho:h[i]? with
  | none=>rfl
  | some o=>simp[hd i o ho (Ne.symm hi)]
theorem oI {b C n : Nat} {g : Gr} {cl : List Cl} {lv rv : V} {c : Cl} {h : H} {R : AEnd → H → (Nat → Bool) → Prop} (hbC : b ≠ C) (hh : h[b]? = some (bU g n (.ls C 1 0 cl.length cl.length) lv rv)) (hc : h[C]? = some (.cells (cl.map xC)))
 (hd:∀j o,h[j]? =some o→j≠b→o.drop (·==C)=o) (hlv:lv.drop (·==C)=lv) (hrv:rv.drop (·==C)=rv) (hcl:cl.length≤1000000)
 (hr:R (.ret (.tup [])) ((h.set C (.cells ((cl++[c]).map xC))).set b (bU g n (.ls C 1 0 (cl++[c]).length (cl++[c]).length) lv rv)) (·==C)):ah TE 116 [.lp b 0,xC c] h R:=by
 have hM:maxLen=9223372036854775807:=rfl;refine au Tryz.func116 rfl (by simp[nts]) (vm ?_);have hbc:(b==C)=false:=by simpa using hbC
 have hl:=(List.getElem?_eq_some_iff.1 hh).1;have hlC:=(List.getElem?_eq_some_iff.1 hc).1;have dX:V.drops (fun j=>j==C) (cl.map xC)=cl.map xC:=mY _;simp only[wq.1,↓reduceIte,Nat.reduceEqDiff,Nat.reduceLT,Nat.reduceLeDiff,Nat.reduceAdd,reduceCtorEq,Nat.reduceMul,Tryz.results116,hh,hc,hbc,dX];have hbo:((List.map (O.drop fun x=>x==C) h).set C (O.cells (List.map xC cl++[xC c])))[b]? =some (.cells [vi n,.any,lv,vi g.ins,aG g.next,aG g.init,prs g.ands,aG g.outs,rv]):=by rw[List.getElem?_set_ne (Ne.symm hbC),List.getElem?_map,hh];simp only[Option.map_some,O.drop,V.drops,V.drop,hlv,hrv,beq_self_eq_true,if_true]
 refine⟨⟨rfl,by decide⟩,⟨by omega,by omega,by omega⟩,?_⟩;rw[hbo];refine⟨by simp,?_⟩;rw[List.set_comm _ _ (Ne.symm hbC),zG hd,List.set_comm _ _ hbC];rw[List.map_append,List.length_append,List.length_singleton]at hr;exact hr
def pK (g:Gr) (lat:Cl):Cl:=-1::(List.replicate g.ins.toNat 0++lat)
theorem sO {b q cap n : Nat} {g : Gr} {cv lv rv : V} {lat : Cl} {h : H} {R : AEnd → H → (Nat → Bool) → Prop} (hh : h[b]? = some (bU g n cv lv rv)) (hq : h[q]? = some (.cells (lat.map vi)))
 (hd:∀(j:Nat) (o:O),h[j]? =some o→o.drop (·==h.length)=o) (i0:0≤g.ins) (i1:g.ins≤4000) (hl:lat.length≤4000) (hqb:q≠b)
 (hr:R (.ret (.tup [])) (h.set b (bU g n cv lv (.ls h.length 1 0 (pK g lat).length (pK g lat).length))++[.cells ((pK g lat).map vi)]) (·==h.length)):ah TE 118 [.lp b 0,.ls q 1 0 lat.length cap] h R:=by
 have hM:maxLen=9223372036854775807:=rfl;have hbl:=(List.getElem?_eq_some_iff.1 hh).1;have hql:=(List.getElem?_eq_some_iff.1 hq).1;have hti:ti TE.P 22=some ⟨.slice 3,1,24,.nils⟩:=by simp only[wq.1]
 have htn:ti TE.P 3=some ⟨.int .i64,1,8,.int .i64 0⟩:=by simp only[wq.1]
 have hx0:(h++[O.cells [vi (-1)]])[b]? =some (bU g n cv lv rv):=by rw[List.getElem?_append_left hbl];exact hh
 have hx1:(h++[O.cells [vi (-1)]])[h.length]? =some (.cells [vi (-1)]):=by rw[List.getElem?_append_right (Nat.le_refl _)];simp
 obtain⟨m,hm⟩:∃m:Nat,g.ins=m:=⟨g.ins.toNat,by omega⟩;refine ah.kp (·==h.length) ?_;refine au Tryz.func118 rfl (by simp[nts]) ?_;refine ag (gB ?_);refine aB rfl rfl ?_;simp only[wq.1,Int.reduceNeg,Tryz.results118];refine dW rfl rfl ?_;refine xH rfl hti rfl htn rfl trivial rfl ?_;refine aB rfl rfl ?_;simp only[wq.1,seval];refine aB rfl rfl ?_;simp only[wq.1,seval];refine aB rfl rfl ?_;simp only[wq.1,seval];refine aB rfl rfl ?_;simp only[wq.1,seval];refine aB rfl rfl ?_;simp only[wq.1,seval,hx0];refine dW rfl rfl ?_;refine nz (x:= .tmp 5) (y:= .tmp 10) (t:=22) (xt:=3) (el:=3) ⟨⟨_,rfl,rfl,rfl⟩,hti,rfl,htn,rfl,rfl,Nat.zero_lt_one⟩ (by simp only[wq.1,seval]) (by simp only[wq.1,↓reduceIte]) (id:=h.length) (len:=1) (cap:=1) (by simp only[wq.1,seval]) hx1 rfl (m:=m) (by simp only[wq.1,↓reduceIte,hm]) htn rfl (by omega) rfl (zv:=vi 0) rfl (cs:=List.replicate m (vi 0)) rfl (by rw[←List.map_replicate (f:=vi)];exact lH _) (by omega) (by show(1+m)*8≤_;omega) (by simp only[wq.1]) ?_;have hmap:h.map (O.drop fun x=>x==h.length)=h:=by
  refine List.ext_getElem? fun j=> ?_;rw[List.getElem?_map];cases ho:h[j]? with
  | none=>rfl
  | some o=>rw[Option.map_some,hd j o ho]
 have hcs:V.drops (fun x=>x==h.length) ([vi (-1)]++List.replicate m (vi 0))=(-1::List.replicate m 0).map vi:=by rw[show [vi (-1)]++List.replicate m (vi 0)=(-1::List.replicate m (0:Int)).map vi by simp];exact bg _
 have hH:(List.map (O.drop fun x=>x==h.length) (h++[O.cells [V.int IntKind.i64 (-1)]])).set h.length (O.cells (V.drops (fun x=>x==h.length) ([vi (-1)]++List.replicate m (vi 0))))=h++[.cells (vi (-1)::(List.replicate m 0).map vi)]:=by rw[hcs,List.map_append,hmap,List.set_append_right _ _ (Nat.le_refl _)];simp
 rw[hH];have nb:(b==h.length)=false:=by simpa using Nat.ne_of_lt hbl
 have nq:(q==h.length)=false:=by simpa using Nat.ne_of_lt hql
 have hx2:(h++[O.cells (vi (-1)::(List.replicate m 0).map vi)])[b]? =some (bU g n cv lv rv):=by rw[List.getElem?_append_left hbl];exact hh
 refine aB rfl rfl ?_;simp only[wq.1,seval,nb];refine aB rfl rfl ?_;simp only[wq.1,seval];refine aB rfl rfl ?_;simp only[wq.1,seval,hx2];refine fP ?_;simp only[wq.1,Int.reduceNeg];have hx3:((h++[O.cells (vi (-1)::(List.replicate m 0).map vi)]).set b (bU g n cv lv (.ls h.length 1 0 (1+m) (1+m))))[b]? =some (bU g n cv lv (.ls h.length 1 0 (1+m) (1+m))):=List.getElem?_set_self (by simp;omega);have hx4:((h++[O.cells (vi (-1)::(List.replicate m 0).map vi)]).set b (bU g n cv lv (.ls h.length 1 0 (1+m) (1+m))))[q]? =some (.cells (lat.map vi)):=by
  rw[List.getElem?_set_ne (Ne.symm hqb),List.getElem?_append_left hql];exact hq
 have hx5:((h++[O.cells (vi (-1)::(List.replicate m 0).map vi)]).set b (bU g n cv lv (.ls h.length 1 0 (1+m) (1+m))))[h.length]? =some (.cells (vi (-1)::(List.replicate m 0).map vi)):=by rw[List.getElem?_set_ne (Nat.ne_of_lt hbl),List.getElem?_append_right (Nat.le_refl _)];simp
 refine vm ?_;simp only[wq.1,seval,nb,nq,hx3,hx4,hx5];have e1:(if lat.length*1≤lat.length then some (lat.length,List.take (lat.length*1) (List.map vi lat))else none)=some (lat.length,lat.map vi):=by
  rw[Nat.mul_one,if_pos (Nat.le_refl _),List.take_of_length_le (by simp)]
 rw[e1];have dL:∀l:Cl,V.drops (fun x=>x==h.length) (l.map vi)=l.map vi:=fun l=>bg l;obtain⟨B1,hB1⟩:∃B1:O,B1=O.cells [vi n,cv,lv,vi g.ins,aG g.next,aG g.init,prs g.ands,aG g.outs,V.ls h.length 1 0 (1+m) (1+m)]:=⟨_,rfl⟩;have hmm:∀X2:O,((List.map (O.drop fun x=>x==h.length) ((h++[O.cells (vi (-1)::List.map vi (List.replicate m 0))]).set b B1)).set h.length X2)=h.set b (B1.drop fun x=>x==h.length)++[X2]:=fun X2=>by
  rw[List.map_set,List.map_append,hmap,List.set_append_left _ _ hbl,List.set_append_right _ _ (by simp)];simp
 have hbb:∀X2:O,(h.set b (B1.drop fun x=>x==h.length)++[X2])[b]? =some (B1.drop fun x=>x==h.length):=fun X2=>by rw[List.getElem?_append_left (by simpa using hbl),List.getElem?_set_self hbl]
 have hdB:(B1.drop fun x=>x==h.length)=O.cells [vi n,cv.drop fun x=>x==h.length,lv.drop fun x=>x==h.length,vi g.ins,aG g.next,aG g.init,prs g.ands,aG g.outs,.any]:=by rw[hB1];simp only[O.drop,V.drops,V.drop,beq_self_eq_true,if_true]
 have hob:=hd b _ hh;have hcl:cv.drop (fun x=>x==h.length)=cv∧lv.drop (fun x=>x==h.length)=lv:=by have:=hob;simp only[bU,O.drop,V.drops,V.drop,O.cells.injEq,List.cons.injEq]at this;exact⟨this.2.1,this.2.2.1⟩
 refine⟨⟨by simp;omega,lH _,by omega,by omega⟩,?_⟩;rw[←hB1,hmm,hbb,hdB,hcl.1,hcl.2];refine⟨by simp,?_⟩;refine⟨fun j hj=> ?_,?_⟩
 ·simpa using hj
 rw[List.set_append_left _ _ (by simpa using hbl),List.set_set,dL,dL];have hlen:(pK g lat).length=1+m+lat.length:=by unfold pK;rw[hm];simp;omega
 rw[hlen]at hr;have bH:vi (-1)::(List.map vi (List.replicate m 0)++List.map vi lat)=(pK g lat).map vi:=by unfold pK;rw[hm];simp
 rw[bH];exact hr
structure BH (g : Gr) (k0 : Nat) (h0 : H) (b C L n : Nat) (cl : List Cl) (rs : List (Nat × Cl)) (r : Nat) (row : Cl) (h : H) : Prop where
 hb:h[b]? =some (bU g n (.ls C 1 0 cl.length cl.length) (.ls L 1 0 rs.length rs.length) (.ls r 1 0 row.length row.length))
 hC:h[C]? =some (.cells (cl.map xC))
 hL:h[L]? =some (.cells (rs.map fun p=> .ls p.1 1 0 p.2.length p.2.length))
 hr:h[r]? =some (.cells (row.map vi))
 hrs:∀p∈rs,h[p.1]? =some (.cells (p.2.map vi))∧k0≤p.1∧p.1≠r
 n1:b≠C
 n2:b≠L
 n3:C≠L
 bk:b<k0
 Ck:C<k0
 Lk:L<k0
 rk:k0≤r
 pl:∀(j:Nat) (o:O),h[j]? =some o→j≠b→j≠L→∀D,o.drop D=o
 bs:∀j,j<k0→j≠b→j≠C→j≠L→h[j]? =h0[j]?
def HU (g:Gr) (b C r:Nat) (lv:V) (h:H) (n:Nat) (cl:List Cl) (row:Cl):H :=
 ((h.set b (bU g n (.ls C 1 0 cl.length cl.length) lv (.ls r 1 0 row.length row.length))).set C (.cells (cl.map xC))).set r (.cells (row.map vi))
section
variable {g:Gr} {b C r:Nat} {lv:V} {h:H} {n:Nat} {cl:List Cl} {row:Cl} {X:H}
theorem jo:(HU g b C r lv h n cl row).length=h.length:=by simp[HU]
theorem VM (h1:b≠C) (h2:b≠r) (hl:b<h.length):(HU g b C r lv h n cl row++X)[b]? =some (bU g n (.ls C 1 0 cl.length cl.length) lv (.ls r 1 0 row.length row.length)):=by rw[List.getElem?_append_left (by rw[jo];exact hl),HU,List.getElem?_set_ne (Ne.symm h2),List.getElem?_set_ne (Ne.symm h1),List.getElem?_set_self hl]
theorem V4 (h2:C≠r) (hl:C<h.length):(HU g b C r lv h n cl row++X)[C]? =some (.cells (cl.map xC)):=by rw[List.getElem?_append_left (by rw[jo];exact hl),HU,List.getElem?_set_ne (Ne.symm h2),List.getElem?_set_self (by simpa using hl)]
theorem V5 (hl:r<h.length):(HU g b C r lv h n cl row++X)[r]? =some (.cells (row.map vi)):=by rw[List.getElem?_append_left (by rw[jo];exact hl),HU,List.getElem?_set_self (by simpa using hl)]
theorem VN {j:Nat} (h1:j≠b) (h2:j≠C) (h3:j≠r) (hl:j<h.length):(HU g b C r lv h n cl row++X)[j]? =h[j]? :=by rw[List.getElem?_append_left (by rw[jo];exact hl),HU,List.getElem?_set_ne (Ne.symm h3),List.getElem?_set_ne (Ne.symm h2),List.getElem?_set_ne (Ne.symm h1)]
theorem V6 {j:Nat} (hl:h.length≤j):(HU g b C r lv h n cl row++X)[j]? =X[j-h.length]? :=by rw[List.getElem?_append_right (by rw[jo];exact hl),jo]
theorem L8 {n':Nat} (h1:b≠C) (h2:b≠r) (hl:b<h.length):(HU g b C r lv h n cl row++X).set b (bU g n' (.ls C 1 0 cl.length cl.length) lv (.ls r 1 0 row.length row.length))=HU g b C r lv h n' cl row++X:=by rw[List.set_append_left _ _ (by rw[jo];exact hl),HU,HU,List.set_comm _ _ (Ne.symm h2),List.set_comm _ _ (Ne.symm h1),List.set_set]
theorem L9 {cl':List Cl} (h1:b≠C) (h2:b≠r) (h3:C≠r) (hl:b<h.length) (hlC:C<h.length) :
 ((HU g b C r lv h n cl row++X).set C (.cells (cl'.map xC))).set b (bU g n (.ls C 1 0 cl'.length cl'.length) lv (.ls r 1 0 row.length row.length))=HU g b C r lv h n cl' row++X:=by
 rw[List.set_append_left _ _ (by rw[jo];exact hlC),List.set_append_left _ _ (by rw[List.length_set,jo];exact hl),HU,HU,List.set_comm _ _ (Ne.symm h3),List.set_set,
  List.set_comm _ _ (Ne.symm h2),List.set_comm _ _ (Ne.symm h1),List.set_set]
theorem U6 {row':Cl} (h1:b≠C) (h2:b≠r) (hl:b<h.length) (hlr:r<h.length) :
 ((HU g b C r lv h n cl row++X).set r (.cells (row'.map vi))).set b (bU g n (.ls C 1 0 cl.length cl.length) lv (.ls r 1 0 row'.length row'.length))=HU g b C r lv h n cl row'++X:=by
 rw[List.set_append_left _ _ (by rw[jo];exact hlr),List.set_append_left _ _ (by rw[List.length_set,jo];exact hl),HU,HU,List.set_set,
  List.set_comm _ _ (Ne.symm h2),List.set_comm _ _ (Ne.symm h1),List.set_set]
end
theorem BH.lens {g:Gr} {k0:Nat} {h0:H} {b C L n:Nat} {cl:List Cl} {rs:List (Nat×Cl)} {r:Nat} {row:Cl} {h:H} (k:BH g k0 h0 b C L n cl rs r row h):b<h.length∧C<h.length∧L<h.length∧r<h.length∧b≠r∧C≠r∧L≠r :=
 ⟨(List.getElem?_eq_some_iff.1 k.hb).1,(List.getElem?_eq_some_iff.1 k.hC).1,(List.getElem?_eq_some_iff.1 k.hL).1,(List.getElem?_eq_some_iff.1 k.hr).1,by have:=k.bk;have:=k.rk;omega,by have:=k.Ck;have:=k.rk;omega,by have:=k.Lk;have:=k.rk;omega⟩
theorem BH.hs {g:Gr} {k0:Nat} {h0:H} {b C L n:Nat} {cl:List Cl} {rs:List (Nat×Cl)} {r:Nat} {row:Cl} {h:H} (k:BH g k0 h0 b C L n cl rs r row h):h=HU g b C r (.ls L 1 0 rs.length rs.length) h n cl row++[]:=by
 have e:∀ {j:Nat} {o:O},h[j]? =some o→h.set j o=h:=fun hj=>by obtain⟨hl,rfl⟩:=List.getElem?_eq_some_iff.1 hj;exact List.set_getElem_self hl
 rw[List.append_nil,HU,e k.hb,e k.hC,e k.hr]
theorem rQ {D : Nat → Bool} : ∀ {rs : List (Nat × Cl)},(∀ p ∈ rs,D p.1 = false) → V.drops D (rs.map fun p => V.ls p.1 1 0 p.2.length p.2.length) = rs.map fun p => V.ls p.1 1 0 p.2.length p.2.length
 | [],_=>rfl
 | p::rs,h=>by rw[List.map_cons,V.drops,rQ (rs:=rs) fun q hq=>h q (by simp[hq])];have:=h p (by simp);simp only[V.drop,this,Bool.false_eq_true,if_false]
theorem BH.dropO {g:Gr} {k0:Nat} {h0:H} {b C L n:Nat} {cl:List Cl} {rs:List (Nat×Cl)} {r:Nat} {row:Cl} {h:H} (k:BH g k0 h0 b C L n cl rs r row h) {D:Nat→Bool} (hD:∀p∈rs,D p.1=false) :
 ∀(j:Nat) (o:O),h[j]? =some o→j≠b→o.drop D=o:=fun j o ho hj=>by
 by_cases hL:j=L
 ·subst hL;rw[k.hL]at ho;cases ho;show O.cells (V.drops D _)=_;rw[rQ hD]
 ·exact k.pl j o ho hj hL D
end Go.Proofs.YtmlacppmbfbjgaaGreatDoor
