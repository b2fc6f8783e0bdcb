/- Lemmas for this claim, part F14: each holds under what it names. -/
import Derived.Test.YtmlacppmbfbjgaaGreatDoorF13
import Derived.Test.YtmlacppmbfbjgaaGreatDoorA10
set_option linter.unusedVariables false
set_option linter.unusedSimpArgs false
set_option linter.unnecessarySimpa false
set_option maxRecDepth 20000
set_option maxHeartbeats 4000000
namespace Go.Proofs.YtmlacppmbfbjgaaGreatDoor
open Go Go.Proofs Go.Abs
abbrev Lt:=S×Bool
abbrev Dw (x:Lt):V:= .agg [.str x.1,.bool x.2]
abbrev iI (c:List Lt):V:= .is false 2 (c.map Dw)
abbrev lss (l:List (List Lt)):V:= .is false 1 (l.map fun c=>iI c)
def lfl (c:List Lt):List V:=c.flatMap fun x=>[V.str x.1,V.bool x.2]
theorem QK : ∀ c : List Lt,(c.map Dw).flatMap V.vc = lfl c
 | []=>rfl
 | x::c=>by rw[List.map_cons,List.flatMap_cons,QK c];rfl
theorem Ez : ∀ c : List Lt,(lfl c).length = c.length * 2
 | []=>rfl
 | x::c=>by show([V.str x.1,V.bool x.2]++lfl c).length=_;rw[List.length_append,Ez c];simp;omega
theorem lV {p : Nat → Bool} : ∀ c : List Lt,V.drops p (lfl c) = lfl c
 | []=>rfl
 | x::c=>by show V.drop p (.str x.1)::V.drop p (.bool x.2)::V.drops p (lfl c)=_;rw[lV c];rfl
theorem ML (c:List Lt) (x:Lt):lfl (c++[x])=lfl c++[V.str x.1,V.bool x.2]:=by unfold lfl;rw[List.flatMap_append];rfl
theorem Gm : ∀ c : List Lt,V.dats (lfl c) = true
 | []=>rfl
 | x::c=>by show(V.dat (.str x.1)&&(V.dat (.bool x.2)&&V.dats (lfl c)))=true;rw[Gm c];rfl
theorem Gn : ∀ c : List Lt,dN 2 (c.map Dw) = true
 | []=>rfl
 | x::c=>by show(_&&dN 2 (c.map Dw))=true;rw[Gn c];rfl
theorem fB : ∀ c : List Lt,V.dats (c.map Dw) = true
 | []=>rfl
 | x::c=>by show(V.dat (Dw x)&&V.dats (c.map Dw))=true;rw[fB c];rfl
theorem lW {p : Nat → Bool} : ∀ l : List (List Lt),V.drops p (l.map fun c => iI c) = l.map fun c => iI c
 | []=>rfl
 | c::l=>by show V.drop p (iI c)::V.drops p (l.map fun c=>iI c)=_;rw[lW l];rfl
theorem bV : ∀ l : List (List Lt),V.dats (l.map fun c => iI c) = true ∧ dN 1 (l.map fun c => iI c) = true ∧ (l.map fun c => iI c).flatMap V.vc = l.map fun c => iI c
 | []=>⟨rfl,rfl,rfl⟩
 | c::l=>by obtain⟨h1,h2,h3⟩:=bV l;simp only[List.map_cons,V.dats,V.dat,dN,V.fit,V.vc,V.one,List.flatMap_cons,h1,h2,h3,List.length_singleton,fB];exact⟨rfl,rfl,rfl⟩
theorem Cc {h:H} {id len cap:Nat} {c:List Lt} (hc:h[id]? =some (.cells (lfl c))) (hl:len=c.length):az TE h (.ls id 2 0 len cap) (iI c) :=
 az.ls hc (aj.dat (Gm c)) (Gn c) (QK c) (by rw[List.length_map];exact hl)
theorem Gp {h:H} {id len cap:Nat} {l:List (List Lt)} (hc:h[id]? =some (.cells (l.map fun c=>iI c))) (hl:len=l.length):az TE h (.ls id 1 0 len cap) (lss l) :=
 az.ls hc (aj.dat (bV l).1) (bV l).2.1 (bV l).2.2 (by rw[List.length_map];exact hl)
theorem zK {c:List Lt} {i:Nat} (h:i<c.length) (d:V):(c.map Dw).getD i d=Dw c[i]:=gy h _
theorem xq {l:List (List Lt)} {i:Nat} (h:i<l.length) (d:V):(l.map fun c=>iI c).getD i d=iI l[i]:=gy h _
def oJ (x:Lt):S:=(if x.2 then 45 else 43)::x.1
theorem MM (x:Lt) (hx:x.1.length≤1000000000):Ev TE 38 [Dw x] (.str (oJ x)):=by
 have hM:maxLen=9223372036854775807:=rfl;refine ak Tryz.func38 rfl (by simp[nts]) (vm ?_);unfold oJ;cases hb:x.2 with
 | true=>simp only[wq.1,seval,Tryz.results38,hb];exact⟨by omega,az.dat rfl⟩
 | false=>simp only[wq.1,seval,Tryz.results38,hb];exact⟨by omega,az.dat rfl⟩
def NS (a b:List S) (o:Option (List Lt)) (x:Lt):Option (List Lt):=match o,BX a b x.1 with | some ds,some s=>some (ds++[(s,x.2)]) | _,_=>none
def Jk (a b:List S) (c:List Lt):Option (List Lt):=c.foldl (NS a b) (some [])
def NT (a b:List S) (o:Option (List (List Lt))) (c:List Lt):Option (List (List Lt)):=match o,Jk a b c with | some out,some d=>some (out++[d]) | _,_=>none
def Jl (a b:List S) (l:List (List Lt)):Option (List (List Lt)):=l.foldl (NT a b) (some [])
def wB (a b:List S) (l:List (List Lt)):List (List Lt)×Int:=if og a b=0 then(match Jl a b l with | some o=>(o,0) | none=>([],12))else([],og a b)
theorem wC {a b : List S} : ∀ c : List Lt,c.foldl (NS a b) none = none
 | []=>rfl
 | x::c=>by rw[List.foldl_cons];exact wC c
theorem wE {a b : List S} : ∀ l : List (List Lt),l.foldl (NT a b) none = none
 | []=>rfl
 | x::c=>by rw[List.foldl_cons];exact wE c
theorem Ce {a b:List S} {c:List Lt} {i:Nat} (h:i<c.length):Jk a b (c.take (i+1))=NS a b (Jk a b (c.take i)) c[i]:=by unfold Jk;rw[List.take_add_one,List.getElem?_eq_getElem h,List.foldl_append];rfl
theorem Cf {a b:List S} {l:List (List Lt)} {i:Nat} (h:i<l.length):Jl a b (l.take (i+1))=NT a b (Jl a b (l.take i)) l[i]:=by unfold Jl;rw[List.take_add_one,List.getElem?_eq_getElem h,List.foldl_append];rfl
theorem MN {a b:List S} {c:List Lt} {i:Nat} (h:i<c.length) (hg:BX a b c[i].1=none):Jk a b c=none:=by
 have e:Jk a b (c.take (i+1))=none:=by rw[Ce h];unfold NS;rw[hg];split<;>simp_all
 unfold Jk at e ⊢
 conv=>lhs;rw[←List.take_append_drop (i+1) c,List.foldl_append,e]
 exact wC _
theorem MO {a b:List S} {l:List (List Lt)} {i:Nat} (h:i<l.length) (hg:Jk a b l[i]=none):Jl a b l=none:=by
 have e:Jl a b (l.take (i+1))=none:=by rw[Cf h];unfold NT;rw[hg];split<;>simp_all
 unfold Jl at e ⊢
 conv=>lhs;rw[←List.take_append_drop (i+1) l,List.foldl_append,e]
 exact wE _
abbrev hRn (a b:List S) (outs:List (List Lt)):H:=[.cells [dF a,dF b],.cells (outs.map fun c=>iI c)]
abbrev hRd (a b:List S) (outs:List (List Lt)) (ds:List Lt):H:=[.cells [dF a,dF b],.cells (outs.map fun c=>iI c),.cells (lfl ds)]
theorem rW (a b:List S) (l:List (List Lt)) (hl:l.length≤1000000) (hc:∀c∈l,c.length≤1000000):Ev TE 9 [lss l,tab a b] (.tup [lss (wB a b l).1,vi (wB a b l).2]):=by
 have hM:maxLen=9223372036854775807:=rfl;have hck:=wo a b;refine ak Tryz.func9 rfl (by simp[nts]) ?_;refine ag (vm ?_);simp only[wq.1,Nat.reduceLT,Tryz.results9];refine ag (vm ?_);simp only[wq.1,seval];refine ah.ev hck rfl ?_;simp only[wq.1,seval];refine vcB.mk (fun hz=> ?_) (fun hz=> ?_)
 ·have hz : og a b ≠ 0 := by simpa using hz
  unfold wB;rw[if_neg hz];simp only[wq.1,seval];exact az.tup (aj.cons az.nils (aj.cons (az.dat rfl) aj.nil))
 have hz:og a b=0:=by simpa using hz
 unfold wB;rw[if_pos hz];simp only[wq.1];refine ag (vm ?_);simp only[wq.1,Nat.reduceLT];refine fJ 7 1 (by simp only[wq.1,↓reduceIte]) ?_;refine ag (vm ?_);simp only[wq.1,seval];refine aA (fun m f h=>∃(i:Nat) (outs:List (List Lt)) (X:H),m+i=l.length∧outs.length=i∧Jl a b (l.take i)=some outs∧f.t 3= .lp 0 0∧f.t 5=vi 0∧f.t 7= .ls 1 1 0 i i∧f.t 20=lss l∧f.t 21=vi l.length∧f.t 22=vi i∧f.d=[]∧h=hRn a b outs++X) l.length ⟨0,[],[],by omega,rfl,rfl,by simp only[wq.1,seval],by simp only[wq.1,seval],by simp only[wq.1,seval],by simp only[wq.1,seval],by simp only[wq.1,seval],rfl,by simp only[wq.1],rfl⟩ ?_;rintro m f h ⟨i,outs,X,hm,hol,hren,t3,t5,t7,t20,t21,t22,hd,rfl⟩;refine gV (by rw[hd];simp) ?_;have cl1:(hRn a b outs).map (O.drop (bP (hRn a b outs).length))=hRn a b outs:=by
  show [O.cells [_,_],O.cells (V.drops _ _)]=_;rw[lW];rfl
 rw[cl1];refine ag (vm ?_);simp only[wq.1,seval,t21,t22];refine ag (bu (b:=decide ((i:Int)<l.length)) (by simp only[wq.1,↓reduceIte]) (by simp only[wq.1,↓reduceIte]) (fun hlt=> ?_) (fun hlt=> ?_))
 ·simp only[decide_eq_true_eq,Int.ofNat_lt]at hlt;have hw:=aC (show i<maxLen by omega);have hgl:=xq hlt .any;have hcl:=hc _ (List.getElem_mem hlt);obtain⟨c,hce⟩:∃c,c=l[i]:=⟨_,rfl⟩;rw[←hce]at hgl hcl;refine vm ?_;simp only[wq.1];refine ag (aI ?_);refine ag (vm ?_);simp only[wq.1,seval,t20,t22,hgl];refine⟨⟨by omega,by omega⟩,?_⟩;refine ag (vm ?_);simp only[wq.1,Nat.reduceLT];refine fJ 10 2 (by simp only[wq.1,↓reduceIte]) ?_;refine ag (vm ?_);simp only[wq.1,seval,hd,bP];refine aA (fun m' f h=>∃(j:Nat) (ds:List Lt) (Y:H),m'+j=c.length∧ds.length=j∧Jk a b (c.take j)=some ds∧f.t 3= .lp 0 0∧f.t 5=vi 0∧f.t 7= .ls 1 1 0 i i∧f.t 10= .ls 2 2 0 j j∧f.t 20=lss l∧f.t 21=vi l.length∧f.t 22=vi i∧f.t 26=iI c∧f.t 27=vi c.length∧f.t 28=vi j∧f.d=[]∧h=hRd a b outs ds++Y) c.length ⟨0,[],[],by omega,rfl,rfl,by simp only[wq.1,seval,t3,bP],by simp only[wq.1,seval,t5],by simp only[wq.1,seval,t7,bP],by simp only[wq.1,seval],by simp only[wq.1,seval,t20],by simp only[wq.1,seval,t21],by simp only[wq.1,seval,t22],by simp only[wq.1,seval],by simp only[wq.1,seval],rfl,by simp only[wq.1],rfl⟩ ?_;clear t3 t5 t7 t20 t21 t22 hd f;rintro m' f h ⟨j,ds,Y,hm',hdl,hrc,t3,t5,t7,t10,t20,t21,t22,t26,t27,t28,hd,rfl⟩;refine gV (by rw[hd];simp) ?_;have cl2:(hRd a b outs ds).map (O.drop (bP (hRd a b outs ds).length))=hRd a b outs ds:=by
   show [O.cells [_,_],O.cells (V.drops _ _),O.cells (V.drops _ _)]=_;rw[lW,lV];rfl
  rw[cl2];refine ag (vm ?_);simp only[wq.1,seval,t27,t28];refine ag (bu (b:=decide ((j:Int)<c.length)) (by simp only[wq.1,↓reduceIte]) (by simp only[wq.1,↓reduceIte]) (fun hlt2=> ?_) (fun hlt2=> ?_))
  ·simp only [decide_eq_true_eq,Int.ofNat_lt] at hlt2;have hw2 := aC (show j < maxLen by omega);have hgc := zK hlt2 .any;have hsucc := Ce (a := a) (b := b) hlt2;obtain ⟨x,hx⟩ : ∃ x,x = c[j] := ⟨_,rfl⟩;rw [← hx] at hgc hsucc;have hah := MK a b x.1;unfold goV at hah;refine vm ?_;simp only [wq.1];refine vm ?_;simp only [wq.1,seval,t3,t26,t28,hgc,bP];refine ⟨⟨by omega,by omega⟩,?_⟩;have hel : (lfl ds).length = j * 2 := by rw [Ez,hdl]
   have dcs:∀p,V.drops p (lfl ds)=lfl ds:=fun p=>lV _;have dos:∀p,V.drops p (outs.map fun c=>iI c)=outs.map fun c=>iI c:=fun p=>lW _;cases hgo:BX a b x.1 with
   | none=>rw[hgo]at hah;have e:=MN hlt2 (by rw[←hx];exact hgo);have e2:=MO hlt (by rw[←hce];exact e);rw[e2];refine ah.ev hah rfl ?_;simp only[wq.1,seval,hd,bP,Option.isSome_none];exact az.tup (aj.cons az.nils (aj.cons (az.dat rfl) aj.nil))
   | some s =>
    rw[hgo]at hah;refine ah.ev hah rfl ?_;simp only[wq.1,↓reduceIte,Nat.reduceEqDiff,Nat.reduceLT,Nat.reduceLeDiff,Nat.reduceAdd,reduceCtorEq,Nat.reduceMul,t10,t28,hd,bP,Option.isSome_some,Option.getD_some,hel,dcs,dos,hw2];refine⟨⟨rfl,by decide⟩,rfl,⟨rfl,by omega,by omega⟩,.inl ⟨m'-1,by omega,j+1,ds++[(s,x.2)],[.cells [.str x.1,.bool x.2]],by omega,by simp[hdl],?_,by simp only[wq.1,↓reduceIte,Nat.reduceEqDiff,Nat.reduceLT,Nat.reduceLeDiff,Nat.reduceAdd,Nat.reduceSub,Int.reduceToNat,Nat.reduceDiv,Int.reduceLT,Int.reduceLE,Int.reduceNeg,Int.reduceBEq,Int.reduceBNe,Int.reduceAdd,Int.reduceSub,Nat.reduceBEq,reduceCtorEq,Nat.reduceMul,ay,Tryz.results9,t3,bP],by simp only[wq.1,↓reduceIte,Nat.reduceEqDiff,Nat.reduceLT,Nat.reduceLeDiff,Nat.reduceAdd,Nat.reduceSub,Int.reduceToNat,Nat.reduceDiv,Int.reduceLT,Int.reduceLE,Int.reduceNeg,Int.reduceBEq,Int.reduceBNe,Int.reduceAdd,Int.reduceSub,Nat.reduceBEq,reduceCtorEq,Nat.reduceMul,ay,Tryz.results9,t5,bP],by simp only[wq.1,↓reduceIte,Nat.reduceEqDiff,Nat.reduceLT,Nat.reduceLeDiff,Nat.reduceAdd,Nat.reduceSub,Int.reduceToNat,Nat.reduceDiv,Int.reduceLT,Int.reduceLE,Int.reduceNeg,Int.reduceBEq,Int.reduceBNe,Int.reduceAdd,Int.reduceSub,Nat.reduceBEq,reduceCtorEq,Nat.reduceMul,ay,Tryz.results9,t7,bP],by simp only[wq.1,↓reduceIte,Nat.reduceEqDiff,Nat.reduceLT,Nat.reduceLeDiff,Nat.reduceAdd,Nat.reduceSub,Int.reduceToNat,Nat.reduceDiv,Int.reduceLT,Int.reduceLE,Int.reduceNeg,Int.reduceBEq,Int.reduceBNe,Int.reduceAdd,Int.reduceSub,Nat.reduceBEq,reduceCtorEq,Nat.reduceMul,ay,Tryz.results9],by simp only[wq.1,↓reduceIte,Nat.reduceEqDiff,Nat.reduceLT,Nat.reduceLeDiff,Nat.reduceAdd,Nat.reduceSub,Int.reduceToNat,Nat.reduceDiv,Int.reduceLT,Int.reduceLE,Int.reduceNeg,Int.reduceBEq,Int.reduceBNe,Int.reduceAdd,Int.reduceSub,Nat.reduceBEq,reduceCtorEq,Nat.reduceMul,ay,Tryz.results9,t20,bP],by simp only[wq.1,↓reduceIte,Nat.reduceEqDiff,Nat.reduceLT,Nat.reduceLeDiff,Nat.reduceAdd,Nat.reduceSub,Int.reduceToNat,Nat.reduceDiv,Int.reduceLT,Int.reduceLE,Int.reduceNeg,Int.reduceBEq,Int.reduceBNe,Int.reduceAdd,Int.reduceSub,Nat.reduceBEq,reduceCtorEq,Nat.reduceMul,ay,Tryz.results9,t21,bP],by simp only[wq.1,↓reduceIte,Nat.reduceEqDiff,Nat.reduceLT,Nat.reduceLeDiff,Nat.reduceAdd,Nat.reduceSub,Int.reduceToNat,Nat.reduceDiv,Int.reduceLT,Int.reduceLE,Int.reduceNeg,Int.reduceBEq,Int.reduceBNe,Int.reduceAdd,Int.reduceSub,Nat.reduceBEq,reduceCtorEq,Nat.reduceMul,ay,Tryz.results9,t22,bP],by simp only[wq.1,↓reduceIte,Nat.reduceEqDiff,Nat.reduceLT,Nat.reduceLeDiff,Nat.reduceAdd,Nat.reduceSub,Int.reduceToNat,Nat.reduceDiv,Int.reduceLT,Int.reduceLE,Int.reduceNeg,Int.reduceBEq,Int.reduceBNe,Int.reduceAdd,Int.reduceSub,Nat.reduceBEq,reduceCtorEq,Nat.reduceMul,ay,Tryz.results9,t26,bP],by simp only[wq.1,↓reduceIte,Nat.reduceEqDiff,Nat.reduceLT,Nat.reduceLeDiff,Nat.reduceAdd,Nat.reduceSub,Int.reduceToNat,Nat.reduceDiv,Int.reduceLT,Int.reduceLE,Int.reduceNeg,Int.reduceBEq,Int.reduceBNe,Int.reduceAdd,Int.reduceSub,Nat.reduceBEq,reduceCtorEq,Nat.reduceMul,ay,Tryz.results9,t27,bP],by simp only[wq.1,↓reduceIte,Nat.reduceEqDiff,Nat.reduceLT,Nat.reduceLeDiff,Nat.reduceAdd,Nat.reduceSub,Int.reduceToNat,Nat.reduceDiv,Int.reduceLT,Int.reduceLE,Int.reduceNeg,Int.reduceBEq,Int.reduceBNe,Int.reduceAdd,Int.reduceSub,Nat.reduceBEq,reduceCtorEq,Nat.reduceMul,ay,Tryz.results9],by simp only[wq.1,↓reduceIte,Nat.reduceEqDiff,Nat.reduceLT,Nat.reduceLeDiff,Nat.reduceAdd,Nat.reduceSub,Int.reduceToNat,Nat.reduceDiv,Int.reduceLT,Int.reduceLE,Int.reduceNeg,Int.reduceBEq,Int.reduceBNe,Int.reduceAdd,Int.reduceSub,Nat.reduceBEq,reduceCtorEq,Nat.reduceMul,ay,Tryz.results9,hd],?_⟩⟩
    ·rw[hsucc,hrc];unfold NS;rw[hgo]
    ·rw[ML];rfl
  ·simp only [decide_eq_false_iff_not,Int.ofNat_lt] at hlt2;have : j = c.length := by omega
   subst this;rw[List.take_length]at hrc;refine vm ?_;simp only[wq.1];show awp _ _ _ _ _ _ _;refine vz 2 10 (iI ds) (by simp only[wq.1,seval,t10,bP]) (by simp only[wq.1,seval,t10,bP];exact Cc (by show some (O.cells (V.drops _ (lfl ds)))=_;rw[lV]) hdl.symm) (by simp only[wq.1,hd]) ?_;have dcs:∀p,V.drops p (lfl ds)=lfl ds:=fun p=>lV _;have dos:∀p,V.drops p (outs.map fun c=>iI c)=outs.map fun c=>iI c:=fun p=>lW _;rw[show jB (·==2) 0 (hRd a b outs ds)=[.cells [dF a,dF b],.cells (outs.map fun c=>iI c),.dead] by simp[jB,O.drop,V.drops,V.drop,dos]];refine pg (fun f'=>f'.t 3= .lp 0 0∧f'.t 5=vi 0∧f'.t 7= .ls 1 1 0 i i∧f'.t 10=iI ds∧f'.t 20=lss l∧f'.t 21=vi l.length∧f'.t 22=vi i∧f'.d=[]) _ (fun hk=>hk _ ⟨by simp only[wq.1,seval,t3,bP],by simp only[wq.1,seval,t5],by simp only[wq.1,seval,t7,bP],by simp only[wq.1,↓reduceIte],by simp only[wq.1,seval,t20],by simp only[wq.1,seval,t21],by simp only[wq.1,seval,t22],by simp only[wq.1,hd]⟩) ?_;clear t3 t5 t7 t10 t20 t21 t22 t26 t27 t28 hd f;rintro f ⟨t3,t5,t7,t10,t20,t21,t22,hd⟩;have hel:(outs.map fun c=>iI c).length=i*1:=by rw[List.length_map];omega
   refine vm ?_;simp only[wq.1,↓reduceIte,Nat.reduceEqDiff,Nat.reduceLT,reduceCtorEq,Nat.reduceMul,t7,t10,hd,dos];refine⟨⟨rfl,by decide⟩,⟨by omega,by omega,by omega⟩,?_⟩;refine vm ?_;simp only[wq.1,seval,t22,hw];refine .inl ⟨m-1,by omega,i+1,outs++[ds],[.dead],by omega,by simp[hol],?_,by simp only[wq.1,seval,t3],by simp only[wq.1,seval,t5],by simp only[wq.1,seval],by simp only[wq.1,seval,t20],by simp only[wq.1,seval,t21],by simp only[wq.1,↓reduceIte],by simp only[wq.1,hd],by rw[List.map_append];rfl⟩;rw[Cf hlt,hren];unfold NT;rw[←hce,hrc]
 ·simp only [decide_eq_false_iff_not,Int.ofNat_lt] at hlt;have : i = l.length := by omega
  subst this;rw[List.take_length]at hren;rw[hren];refine vm ?_;simp only[wq.1];refine vm ?_;simp only[wq.1,seval,t7,hd,bP];exact az.tup (aj.cons (Gp rfl hol.symm) (aj.cons (az.dat rfl) aj.nil))
abbrev qN (m:Mo):List S×List Int:=kD m.lat m.lat.length
def fQ (m:Mo) (s:S):Bool:=(at? (qN m).1 s).isSome
def kP (m:Mo) (l:List (List Lt)):Bool:=l.all fun c=>c.all fun x=>fQ m x.1
def dG (m:Mo) (l:List (List Lt)):V×Int:=if m.chk≠0 then(.nilm,m.chk)else if kP m l then(imV (qN m),0)else(.nilm,12)
abbrev hPl (m:Mo) (p:List S×List Int):H:=[.cells [vi m.g.ins,aG m.g.next,aG m.g.init,prs m.g.ands,aG m.g.outs,dF m.ins,dF m.lat,dF m.out],.map (p.1.map V.str) (p.2.map (V.int .i64))]
theorem jK {p : Nat → Bool} : ∀ l : List S,V.drops p (l.map V.str) = l.map V.str
 | []=>rfl
 | a::l=>by rw[List.map_cons,V.drops,jK l];rfl
theorem x8 (m:Mo) (hs:m.g.Sm) (l:List (List Lt)) (hlat:m.lat.length≤1000000) (hl:l.length≤1000000) (hc:∀c∈l,c.length≤1000000):Ev TE 29 [m.v,lss l] (.tup [(dG m l).1,vi (dG m l).2]):=by
 have hM:maxLen=9223372036854775807:=rfl;have hck:=L6 m hs;unfold Mo.v at hck ⊢;refine ak Tryz.func29 rfl (by simp[nts]) ?_;refine ag (vm ?_);simp only[wq.1,Nat.reduceLT,Tryz.results29];refine ag (vm ?_);simp only[wq.1,seval];refine ah.ev hck (by simp only[V.dats,V.dat,fB,Bool.and_self]) ?_;simp only[wq.1,seval];refine vcB.mk (fun hz=> ?_) (fun hz=> ?_)
 ·have hz : m.chk ≠ 0 := by simpa using hz
  unfold dG;rw[if_pos hz];simp only[wq.1,seval];exact az.tup (aj.cons (az.dat rfl) (aj.cons (az.dat rfl) aj.nil))
 have hz:¬m.chk≠0:=by simpa using hz
 unfold dG;rw[if_neg hz];simp only[wq.1];refine ag (vm ?_);simp only[wq.1,seval];refine ag (vm ?_);simp only[wq.1,seval];refine aA (fun q f h=>∃i,q+i=m.lat.length∧f.t 1=lss l∧f.t 2= .lp 0 0∧f.t 7= .lm 1∧f.t 23=dF m.lat∧f.t 24=vi m.lat.length∧f.t 25=vi i∧f.d=[]∧h=hPl m (kD m.lat i)) m.lat.length ⟨0,by omega,by simp only[wq.1,seval],by simp only[wq.1,seval],by simp only[wq.1,seval],by simp only[wq.1,seval],by simp only[wq.1,seval],rfl,by simp only[wq.1],rfl⟩ ?_;rintro q f h ⟨i,hq,t1,t2,t7,t23,t24,t25,hd,rfl⟩;refine ag (vm ?_);simp only[wq.1,Nat.reduceLT,t24,t25];refine ag (bu (b:=decide ((i:Int)<m.lat.length)) (by simp only[wq.1,↓reduceIte]) (by simp only[wq.1,↓reduceIte]) (fun hlt=> ?_) (fun hlt=> ?_))
 ·simp only [decide_eq_true_eq,Int.ofNat_lt] at hlt;have hw := aC (show i < maxLen by omega);refine vm ?_;simp only [wq.1];refine vm ?_;simp only [wq.1,seval,t7,t23,t25,Ji hlt,xY,K.keyOk,hw];refine ⟨⟨by omega,by omega⟩,.inl ⟨q - 1,by omega,i + 1,by omega,by simp only [wq.1,seval,t1],by simp only [wq.1,seval,t2],by simp only [wq.1,seval,t7],by simp only [wq.1,seval,t23],by simp only [wq.1,seval,t24],by simp only [wq.1,↓reduceIte],by simp only [wq.1,hd],?_⟩⟩;have : m.lat.getD i [] = m.lat[i] := by simp [List.getD_eq_getElem?_getD,hlt]
  simp only[kD,this,hPl]
 simp only[decide_eq_false_iff_not,Int.ofNat_lt]at hlt;have:i=m.lat.length:=by omega
 subst this;refine vm ?_;simp only[wq.1];show awp _ _ _ _ _ _ _;refine ag (vm ?_);simp only[wq.1,seval,t1];refine aA (fun q f h=>∃(i:Nat) (X:H),q+i=l.length∧kP m (l.take i)=true∧f.t 2= .lp 0 0∧f.t 7= .lm 1∧f.t 34=lss l∧f.t 35=vi l.length∧f.t 36=vi i∧f.d=[]∧h=hPl m (qN m)++X) l.length ⟨0,[],by omega,rfl,by simp only[wq.1,seval,t2],by simp only[wq.1,seval,t7],by simp only[wq.1,seval],by simp only[wq.1,seval],rfl,by simp only[wq.1,hd],by rw[List.append_nil]⟩ ?_;clear t1 t2 t7 t23 t24 t25 hd hlt f hq q;rintro q f h ⟨i,X,hq,hkn,t2,t7,t34,t35,t36,hd,rfl⟩;have dl:∀p,V.drops p ((qN m).1.map V.str)=(qN m).1.map V.str:=fun p=>jK _;have dv:∀p,V.drops p ((qN m).2.map (V.int .i64))=(qN m).2.map (V.int .i64):=fun p=>bg _;have cl1:(hPl m (qN m)).map (O.drop (bP (hPl m (qN m)).length))=hPl m (qN m):=by
  simp only[hPl,List.map_cons,List.map_nil,O.drop,dl,dv];rfl
 refine gV (by rw[hd];simp) ?_;rw[cl1];refine ag (vm ?_);simp only[wq.1,seval,t35,t36];refine ag (bu (b:=decide ((i:Int)<l.length)) (by simp only[wq.1,↓reduceIte]) (by simp only[wq.1,↓reduceIte]) (fun hlt=> ?_) (fun hlt=> ?_))
 ·simp only[decide_eq_true_eq,Int.ofNat_lt]at hlt;have hw:=aC (show i<maxLen by omega);have hgl:=xq hlt .any;have hcl:=hc _ (List.getElem_mem hlt);have hfa:kP m l=true→(l[i].all fun x=>fQ m x.1)=true:=fun h=>List.all_eq_true.1 h _ (List.getElem_mem hlt);have hsu:(l[i].all fun x=>fQ m x.1)=true→kP m (l.take (i+1))=true:=fun h=>by
   unfold kP at hkn ⊢;rw[List.take_add_one,List.getElem?_eq_getElem hlt,List.all_append,hkn];simpa using h
  obtain⟨c,hce⟩:∃c,c=l[i]:=⟨_,rfl⟩;rw[←hce]at hgl hcl hfa hsu;refine vm ?_;simp only[wq.1];refine ag (aI ?_);refine ag (vm ?_);simp only[wq.1,seval,t34,t36,hgl];refine⟨⟨by omega,by omega⟩,?_⟩;refine ag (vm ?_);simp only[wq.1,seval];refine aI ?_;refine aA (fun q' f h=>∃(j:Nat) (Y:H),q'+j=c.length∧(∀x∈c.take j,fQ m x.1=true)∧f.t 2= .lp 0 0∧f.t 7= .lm 1∧f.t 34=lss l∧f.t 35=vi l.length∧f.t 36=vi i∧f.t 40=iI c∧f.t 41=vi c.length∧f.t 42=vi j∧f.d=[]∧h=hPl m (qN m)++Y) c.length ⟨0,[],by omega,by simp,by simp only[wq.1,seval,t2,bP],by simp only[wq.1,seval,t7,bP],by simp only[wq.1,seval,t34],by simp only[wq.1,seval,t35],by simp only[wq.1,seval,t36],by simp only[wq.1,seval],by simp only[wq.1,seval],rfl,by simp only[wq.1,hd],by rw[List.append_nil]⟩ ?_;clear t2 t7 t34 t35 t36 hd f;rintro q' f h ⟨j,Y,hq',hkj,t2,t7,t34,t35,t36,t40,t41,t42,hd,rfl⟩;refine gV (by rw[hd];simp) ?_;rw[cl1];refine ag (vm ?_);simp only[wq.1,seval,t41,t42];refine ag (bu (b:=decide ((j:Int)<c.length)) (by simp only[wq.1,↓reduceIte]) (by simp only[wq.1,↓reduceIte]) (fun hlt2=> ?_) (fun hlt2=> ?_))
  ·simp only[decide_eq_true_eq,Int.ofNat_lt]at hlt2;have hw2:=aC (show j<maxLen by omega);have hgc:=zK hlt2 .any;have hma:=List.getElem_mem hlt2;have hsx:fQ m c[j].1=true→∀x∈c.take (j+1),fQ m x.1=true:=fun h x hx=>by
    rw[List.take_add_one,List.getElem?_eq_getElem hlt2]at hx;rcases List.mem_append.1 hx with hx | hx
    ·exact hkj x hx
    ·have : x = c[j] := by simpa using hx
     rw[this];exact h
   obtain⟨x,hx⟩:∃x,x=c[j]:=⟨_,rfl⟩;rw[←hx]at hgc hma hsx;have hkx:fQ m x.1=(at? (qN m).1 x.1).isSome:=rfl;refine vm ?_;simp only[wq.1];cases hat:at? (qN m).1 x.1 with
   | none=>refine vm ?_;simp only[wq.1,seval,t7,t40,t42,hd,hgc,bP,tJ,ja,K.keyOk,hat];refine⟨⟨by omega,by omega⟩,?_⟩;rw[if_neg (fun h=>by have:=List.all_eq_true.1 (hfa h) x hma;rw[hkx,hat]at this;cases this)];exact az.tup (aj.cons (az.dat rfl) (aj.cons (az.dat rfl) aj.nil))
   | some w=>refine vm ?_;simp only[wq.1,seval,t7,t40,t42,hgc,bP,tJ,ja,K.keyOk,hat,hw2];refine⟨⟨by omega,by omega⟩,.inl ⟨q'-1,by omega,j+1,[.cells [.str x.1,.bool x.2]],by omega,hsx (by rw[hkx,hat];rfl),by simp only[wq.1,seval,t2,bP],by simp only[wq.1,seval,t7,bP],by simp only[wq.1,seval,t34],by simp only[wq.1,seval,t35],by simp only[wq.1,seval,t36],by simp only[wq.1,seval,t40],by simp only[wq.1,seval,t41],by simp only[wq.1,↓reduceIte],by simp only[wq.1,hd],rfl⟩⟩
  ·simp only [decide_eq_false_iff_not,Int.ofNat_lt] at hlt2;have : j = c.length := by omega
   subst this;rw[List.take_length]at hkj;refine vm ?_;simp only[wq.1];refine vm ?_;simp only[wq.1,seval,t36,hw];exact .inl ⟨q-1,by omega,i+1,[],by omega,hsu (List.all_eq_true.2 fun x hx=>hkj x hx),by simp only[wq.1,seval,t2,bP],by simp only[wq.1,seval,t7,bP],by simp only[wq.1,seval,t34],by simp only[wq.1,seval,t35],by simp only[wq.1,↓reduceIte],by simp only[wq.1,hd],rfl⟩
 ·simp only [decide_eq_false_iff_not,Int.ofNat_lt] at hlt;have : i = l.length := by omega
  subst this;rw[List.take_length]at hkn;rw[if_pos hkn];refine vm ?_;simp only[wq.1];refine vm ?_;simp only[wq.1,seval,t7,hd,bP];exact az.tup (aj.cons (az.lm rfl (aj.dat bK) (aj.dat jZ)) (aj.cons (az.dat rfl) aj.nil))
theorem EC {l : List S} : ∀ i,i ≤ l.length → ∀ v ∈ (kD l i).2,0 ≤ v ∧ v < i
 | 0,_,v,hv=>by simp[kD]at hv
 | i+1,hi,v,hv=>by
  simp only[kD,QI]at hv;split at hv
  ·rcases List.mem_or_eq_of_mem_set hv with hv | hv
   ·have:=EC i (by omega) v hv;omega
   ·subst hv;simp;omega
  ·rcases List.mem_append.1 hv with hv | hv
   ·have:=EC i (by omega) v hv;omega
   ·have : v = i := by simpa using hv
    subst this;omega
theorem zL {l:List S} {s:S} (h:(at? (kD l l.length).1 s).isSome=true):∃k:Nat,k<l.length∧lU (kD l l.length) s=k∧∃n,at? (kD l l.length).1 s=some n∧∃hn:n<(kD l l.length).2.length,(kD l l.length).2[n]=k:=by
 obtain⟨n,hn⟩:=Option.isSome_iff_exists.1 h;obtain⟨h1,h2⟩:=nY hn;have hl:=(MJ l l.length (Nat.le_refl _)).len;have h3:n<(kD l l.length).2.length:=by omega
 have hv:=EC l.length (Nat.le_refl _) _ (List.getElem_mem h3);refine⟨((kD l l.length).2[n]).toNat,by omega,?_,n,hn,h3,by omega⟩;unfold lU;rw[hn];simp only[List.getD_eq_getElem?_getD,List.getElem?_eq_getElem h3,Option.getD_some];omega
def IQ (m:Mo) (st:List Bool) (x:Lt):Bool:=st.getD (lU (qN m) x.1).toNat false != x.2
def Gq (m:Mo) (st:List Bool) (c:List Lt):Bool:= !c.any (IQ m st)
def Gs (m:Mo) (l:List (List Lt)) (st:List Bool):Bool×Int :=
 if(dG m l).2≠0 then(false,(dG m l).2)else if st.length≠m.lat.length then(false,11)else(!l.any (Gq m st),0)
theorem Gt {c:List Lt} {r:List V} (hb:V.bnds (iI c::r)):c.length≤maxLen:=by simp only[V.bnds,V.bnd,List.length_map]at hb;exact hb.1.1
theorem zM : ∀ l : List Bool,V.dats (l.map V.bool) = true
 | []=>rfl
 | a::l=>by show(V.dat (.bool a)&&V.dats (l.map V.bool))=true;rw[zM l];rfl
theorem Vb (m:Mo) (st:List Bool) (x:Lt) (hk:fQ m x.1=true) (hl:st.length=m.lat.length):Ev TE 30 [Dw x,.ip (fV st),.ip (imV (qN m))] (.bool (IQ m st x)):=by
 obtain⟨k,hk1,hk2,n,hn,hn2,hn3⟩:=zL hk;have hg:((qN m).2.map (V.int .i64)).getD n .any=vi k:=by rw[gy hn2,hn3]
 have hs:(st.map V.bool).getD k .any= .bool (st.getD k false):=by rw[gy (by omega)];congr 1;rw[List.getD_eq_getElem?_getD,List.getElem?_eq_getElem (by omega)];rfl
 unfold IQ;rw[hk2,Int.toNat_natCast];refine ak Tryz.func30 rfl (by simp[nts]) (vm ?_);simp only[wq.1,seval,Tryz.results30,imV,tJ,ja,K.keyOk,hn,hg,hs];exact⟨by decide +kernel,⟨by omega,by omega⟩,aQ rfl (by cases st.getD k false<;>cases x.2<;>rfl)⟩
theorem SQ (c:List Lt) (q:FuncId) (caps:List V) (p:Lt→Bool) (he:ai P q=true) (hd:V.dats caps=true) (hq:∀x∈c,Ev TE q (Dw x::caps) (.bool (p x))):Ev TE 61 [iI c,.fn (.func q) [] caps] (vi (idx c p)):=by
 refine Ev.bnd fun hb=> ?_;have hlen:=Gt hb;refine ak Tryz.func61 rfl (by simp[nts]) (vm ?_);simp only[wq.1,seval,Tryz.results61];refine aA (fun m f h=>∃i,m+i=c.length∧f.t 0=iI c∧f.t 1= .fn (.func q) [] caps∧f.t 7= .int .i64 (c.length:Int)∧f.t 8= .int .i64 (i:Int)∧f.d=[]∧∀x∈c.take i,p x=false) c.length ⟨0,by simp,rfl,rfl,rfl,rfl,rfl,by simp⟩ ?_;rintro m f h ⟨i,hm,h0,h1,h7,h8,hdd,hall⟩;refine vm ?_;simp only[wq.1,seval,h7,h8];refine vcB.mk (fun hc=> ?_) (fun hc=> ?_)
 ·simp only [decide_eq_true_eq,Int.ofNat_lt] at hc;simp only [wq.1,seval,h0,h1,h8,zK hc,he];refine ⟨⟨by omega,by omega⟩,ah.ev (hq _ (List.getElem_mem _)) (by simp [V.dats,V.dat,hd]) ?_⟩;simp only [wq.1,seval];refine vcB.mk (fun hc' => ?_) (fun hc' => ?_)
  ·simp only[wq.1,seval,hdd];rw[kJ hc hall hc'];exact az.dat rfl
  ·simp only[wq.1,seval,h8,aC (show i<maxLen by omega)];exact .inl ⟨m-1,by omega,i+1,by omega,h0,h1,h7,rfl,hdd,bM hc hall hc'⟩
 ·simp only[decide_eq_false_iff_not,Int.ofNat_lt]at hc;simp only[wq.1,seval,hdd];rw[List.take_of_length_le (by omega)]at hall;rw[jE hall];exact az.dat rfl
theorem SS (c:List Lt) (q:FuncId) (caps:List V) (p:Lt→Bool) (he:ai P q=true) (hd:V.dats caps=true) (hq:∀x∈c,Ev TE q (Dw x::caps) (.bool (p x))):Ev TE 32 [iI c,.fn (.func q) [] caps] (.bool (c.any p)):=by refine ak Tryz.func32 rfl (by simp[nts]) (vm ?_);simp only[wq.1,seval,Tryz.results32];refine ah.ev (SQ c q caps p he hd hq) (by simp[V.dats,V.dat,hd,fB]) ?_;simp only[wq.1,seval];exact aQ rfl (by rw[pq])
theorem MP {l:List (List Lt)} {r:List V} (hb:V.bnds (lss l::r)):l.length≤maxLen:=by simp only[V.bnds,V.bnd,List.length_map]at hb;exact hb.1.1
theorem SV (c:List (List Lt)) (q:FuncId) (caps:List V) (p:List Lt→Bool) (he:ai P q=true) (hd:V.dats caps=true) (hq:∀x∈c,Ev TE q (iI x::caps) (.bool (p x))):Ev TE 62 [lss c,.fn (.func q) [] caps] (vi (idx c p)):=by
 refine Ev.bnd fun hb=> ?_;have hlen:=MP hb;refine ak Tryz.func62 rfl (by simp[nts]) (vm ?_);simp only[wq.1,seval,Tryz.results62];refine aA (fun m f h=>∃i,m+i=c.length∧f.t 0=lss c∧f.t 1= .fn (.func q) [] caps∧f.t 7= .int .i64 (c.length:Int)∧f.t 8= .int .i64 (i:Int)∧f.d=[]∧∀x∈c.take i,p x=false) c.length ⟨0,by simp,rfl,rfl,rfl,rfl,rfl,by simp⟩ ?_;rintro m f h ⟨i,hm,h0,h1,h7,h8,hdd,hall⟩;refine vm ?_;simp only[wq.1,seval,h7,h8];refine vcB.mk (fun hc=> ?_) (fun hc=> ?_)
 ·simp only [decide_eq_true_eq,Int.ofNat_lt] at hc;simp only [wq.1,seval,h0,h1,h8,xq hc,he];refine ⟨⟨by omega,by omega⟩,ah.ev (hq _ (List.getElem_mem _)) (by simp [V.dats,V.dat,hd,fB]) ?_⟩;simp only [wq.1,seval];refine vcB.mk (fun hc' => ?_) (fun hc' => ?_)
  ·simp only[wq.1,seval,hdd];rw[kJ hc hall hc'];exact az.dat rfl
  ·simp only[wq.1,seval,h8,aC (show i<maxLen by omega)];exact .inl ⟨m-1,by omega,i+1,by omega,h0,h1,h7,rfl,hdd,bM hc hall hc'⟩
 ·simp only[decide_eq_false_iff_not,Int.ofNat_lt]at hc;simp only[wq.1,seval,hdd];rw[List.take_of_length_le (by omega)]at hall;rw[jE hall];exact az.dat rfl
theorem SX (c:List (List Lt)) (q:FuncId) (caps:List V) (p:List Lt→Bool) (he:ai P q=true) (hd:V.dats caps=true) (hq:∀x∈c,Ev TE q (iI x::caps) (.bool (p x))):Ev TE 33 [lss c,.fn (.func q) [] caps] (.bool (c.any p)):=by refine ak Tryz.func33 rfl (by simp[nts]) (vm ?_);simp only[wq.1,seval,Tryz.results33];refine ah.ev (SV c q caps p he hd hq) (by simp[V.dats,V.dat,hd,(bV c).1]) ?_;simp only[wq.1,seval];exact aQ rfl (by rw[pq])
def ED (m:Mo) (st:List Bool):V:= .fn (.func 30) [] [.ip (fV st),.ip (imV (qN m))]
theorem Vd (m:Mo) (st:List Bool) (c:List Lt) (hk:∀x∈c,fQ m x.1=true) (hl:st.length=m.lat.length):Ev TE 31 [iI c,.ip (ED m st)] (.bool (Gq m st c)):=by unfold ED Gq;refine ak Tryz.func31 rfl (by simp[nts]) (vm ?_);simp only[wq.1,seval,Tryz.results31];refine ah.ev (SS c 30 [.ip (fV st),.ip (imV (qN m))] (IQ m st) rfl (by simp[V.dats,V.dat,imV,bK,jZ]) fun x hx=>Vb m st x (hk x hx) hl) (by simp[V.dats,V.dat,imV,bK,jZ,fB]) ?_;simp only[wq.1,seval];exact az.dat rfl
theorem MQ (m:Mo) (hs:m.g.Sm) (l:List (List Lt)) (st:List Bool) (hlat:m.lat.length≤1000000) (hl:l.length≤1000000) (hc:∀c∈l,c.length≤1000000) (hst:st.length≤1000000):Ev TE 12 [m.v,lss l,fV st] (.tup [.bool (Gs m l st).1,vi (Gs m l st).2]):=by
 have hM:maxLen=9223372036854775807:=rfl;have hpl:=x8 m hs l hlat hl hc;have hbad:(dG m l).2=0→m.chk=0∧kP m l=true∧(dG m l).1=imV (qN m):=fun h=>by
  unfold dG at h ⊢;split at h
  ·rename_i hz;exact absurd h hz
  ·rename_i hz;rw [if_neg hz];split at h
   ·rename_i hk;rw[if_pos hk];exact⟨by simpa using hz,hk,rfl⟩
   ·cases h
 have hnil:(dG m l).2≠0→(dG m l).1= .nilm:=fun h=>by
  unfold dG at h ⊢;split at h
  ·rename_i hz;rw[if_pos hz]
  ·rename_i hz;rw [if_neg hz];split at h
   ·exact absurd rfl h
   ·rename_i hk;rw[if_neg hk]
 obtain⟨pv,hpv⟩:∃pv,pv=dG m l:=⟨_,rfl⟩;unfold Gs;rw[←hpv]at hpl hbad hnil ⊢;obtain⟨p1,p2⟩:=pv;unfold Mo.v at hpl ⊢;have da:V.dats [V.agg [vi m.g.ins,aG m.g.next,aG m.g.init,prs m.g.ands,aG m.g.outs,dF m.ins,dF m.lat,dF m.out],lss l]=true:=by simp only[V.dats,V.dat,(bV l).1,Bool.and_self]
 refine ak Tryz.func12 rfl (by simp[nts]) ?_;refine ag (vm ?_);simp only[wq.1,seval,Tryz.results12];by_cases hz:p2=0
 ·obtain ⟨hm0,hkn,rfl⟩ := hbad hz;rw [if_neg (fun h => h hz)];subst hz;refine ag (vm ?_);simp only [wq.1,seval];refine ah.ev hpl da ?_;simp only [wq.1,seval,imV];refine ag (vm ?_);simp only [wq.1,seval];refine ag (vm ?_);simp only [wq.1,seval];refine vcB.mk (fun hl2 => ?_) (fun hl2 => ?_)
  ·have hl2 : st.length ≠ m.lat.length := by simpa [Int.natCast_inj] using hl2
   rw[if_pos hl2];simp only[wq.1,seval];exact az.tup (aj.cons (az.dat rfl) (aj.cons (az.dat rfl) aj.nil))
  ·have hl2 : st.length = m.lat.length := by simpa [Int.natCast_inj] using hl2
   rw[if_neg (fun h=>h hl2)];simp only[wq.1];have hkn2:∀c∈l,∀x∈c,fQ m x.1=true:=fun c hc x hx=>List.all_eq_true.1 (List.all_eq_true.1 hkn c hc) x hx;have dH:V.dat (ED m st)=true:=by simp only[ED,imV,V.dat,V.dats,bK,jZ,Bool.and_self]
   have hct:=SX l 31 [.ip (ED m st)] (Gq m st) rfl (by simp only[V.dats,V.dat,dH,Bool.and_self]) fun c hc=>Vd m st c (hkn2 c hc) hl2;refine ag (vm ?_);simp only[wq.1,seval];refine ag (vm ?_);simp only[wq.1,seval];refine vm ?_;simp only[wq.1,seval];have dI:V.dat (.im ((qN m).1.map V.str) ((qN m).2.map (V.int .i64)))=true:=by simp only[V.dat,bK,jZ,Bool.and_self]
   refine ah.lend hct (aj.cons (az.dat (by simp only[V.dat,(bV l).1])) (aj.cons (az.fn aj.nil (aj.cons (az.lp (cs':=[ED m st]) rfl (aj.cons (az.fn aj.nil (aj.cons (az.lp rfl (aj.dat (by simp only[V.dats,V.dat,zM,Bool.and_self])) rfl (by simp only[V.dat,zM]) (by simp[V.vc]) rfl) (aj.cons (az.lp rfl (aj.dat (by simp only[V.dats,dI,Bool.and_self])) rfl dI (by show 0<1;decide) rfl) aj.nil))) aj.nil) rfl dH (by simp[ED,V.vc]) rfl) aj.nil)) aj.nil)) rfl ?_;simp only[wq.1,seval];exact az.tup (aj.cons (az.dat rfl) (aj.cons (az.dat rfl) aj.nil))
 ·obtain rfl:=hnil hz;rw[if_pos hz];refine ag (vm ?_);simp only[wq.1,seval];refine ah.ev hpl da ?_;simp only[wq.1,seval];refine ag (vm ?_);simp only[wq.1,seval];refine vcB.mk (fun _=> ?_) (fun h=>absurd (by simpa using h) hz);simp only[wq.1,seval];exact az.tup (aj.cons (az.dat rfl) (aj.cons (az.dat rfl) aj.nil))
abbrev kV (m:Mo) (l:List (List Lt)):V:= .agg [vi m.g.ins,aG m.g.next,aG m.g.init,prs m.g.ands,aG m.g.outs,dF m.ins,dF m.lat,dF m.out,lss l,imV (qN m)]
abbrev uV (n:Int) (cl rows:List Cl):V:= .agg [vi n,cls cl,cls rows]
def sQ (m:Mo) (rows:List Cl) (t:Int) (x:Lt):Int:=if x.2 then -F8 rows t (2*(1+m.g.ins+lU (qN m) x.1))else F8 rows t (2*(1+m.g.ins+lU (qN m) x.1))
theorem MR {rows:List Cl} (hb:∀r∈rows,∀x∈r,-1000000≤x∧x≤1000000) (t a:Int):-1000000≤F8 rows t a∧F8 rows t a≤1000000:=by
 unfold F8;split
 ·omega
 ·rename_i h;have h1 : t.toNat < rows.length := by omega
  have h2:(a/2).toNat<(rows.getD t.toNat []).length:=by omega
  have hm:rows.getD t.toNat []∈rows:=by rw[jl h1];exact List.getElem_mem h1
  have:=hb _ hm _ (zF h2);unfold xn;split<;>omega
theorem dJ : ∀ l : List Cl,V.dats (l.map fun c => aG c) = true
 | []=>rfl
 | a::l=>by simp only[List.map_cons,V.dats,V.dat,dJ l,vC,Bool.and_self]
theorem EE (m:Mo) (l:List (List Lt)) (n:Int) (cl rows:List Cl) (t:Int) (x:Lt) (hk:fQ m x.1=true) (hi:0≤m.g.ins∧m.g.ins≤4000) (hlat:m.lat.length≤4000) (hb:∀r∈rows,∀x∈r,-1000000≤x∧x≤1000000) (hr:rows.length≤1000) :
 Ev TE 88 [.ip (kV m l),uV n cl rows,vi t,Dw x] (vi (sQ m rows t x)):=by
 have hM:maxLen=9223372036854775807:=rfl;obtain⟨k,hk1,hk2,w,hw,hw2,hw3⟩:=zL hk;have hg:((qN m).2.map (V.int .i64)).getD w .any=vi k:=by rw[gy hw2,hw3]
 have hcl:=MB n cl rows t (2*(1+m.g.ins+k)) hb (by omega) hr;have hbd:=MR hb t (2*(1+m.g.ins+k));unfold sQ;rw[hk2];have w1:IntKind.i64.wrap (1+m.g.ins)=1+m.g.ins:=dE (by omega) (by omega);have w2:IntKind.i64.wrap (1+m.g.ins+k)=1+m.g.ins+k:=dE (by omega) (by omega);have w3:IntKind.i64.wrap (2*(1+m.g.ins+k))=2*(1+m.g.ins+k):=dE (by omega) (by omega);obtain⟨a,ha⟩:∃a,a=F8 rows t (2*(1+m.g.ins+k)):=⟨_,rfl⟩;rw[←ha]at hcl hbd ⊢;have w4:IntKind.i64.wrap (-a)=-a:=dE (by omega) (by omega);have w5:IntKind.i64.wrap (0-a)=-a:=by rw[Int.zero_sub];exact w4
 refine ak Tryz.func88 rfl (by simp[nts]) (vm ?_);simp only[wq.1,seval,Tryz.results88,imV,tJ,ja,K.keyOk,hw,hg,w1,w2,w3];have dU:V.dats [V.agg [vi n,cls cl,cls rows],vi t,vi (2*(1+m.g.ins+k))]=true:=by simp only[V.dats,V.dat,(dJ _),Bool.and_self]
 refine⟨by decide +kernel,Je.mk hcl rfl dU ?_⟩;cases hx:x.2 with
 | true=>simp only[wq.1,seval,w5];exact az.dat rfl
 | false=>simp only[wq.1,seval];exact az.dat rfl
def jb (m:Mo) (rows:List Cl) (t:Int) (c:List Lt):List Cl:=c.map fun x=>[-sQ m rows t x]
theorem IR {m:Mo} {rows:List Cl} {t:Int} {c:List Lt} {i:Nat} (h:i<c.length):jb m rows t (c.take (i+1))=jb m rows t (c.take i)++[[-sQ m rows t c[i]]]:=by unfold jb;rw[List.take_add_one,List.getElem?_eq_getElem h,List.map_append];rfl
theorem Ci {m:Mo} {rows:List Cl} {t:Int} {c:List Lt} {i:Nat} (h:i≤c.length):(jb m rows t (c.take i)).length=i:=by unfold jb;simp;omega
theorem SY {m:Mo} {rows:List Cl} (hb:∀r∈rows,∀x∈r,-1000000≤x∧x≤1000000) (t:Int) (x:Lt):-1000000≤sQ m rows t x∧sQ m rows t x≤1000000:=by have:=MR hb t (2*(1+m.g.ins+lU (qN m) x.1));unfold sQ;split<;>omega
theorem Cj (m:Mo) (l:List (List Lt)) (n:Int) (cl rows:List Cl) (t:Int) (c:List Lt) (hk:∀x∈c,fQ m x.1=true) (hi:0≤m.g.ins∧m.g.ins≤4000) (hlat:m.lat.length≤4000) (hb:∀r∈rows,∀x∈r,-1000000≤x∧x≤1000000) (hr:rows.length≤1000) (hc:c.length≤1000000) :
 Ev TE 80 [.ip (kV m l),uV n cl rows,vi t,iI c] (cls (jb m rows t c)):=by
 have hM:maxLen=9223372036854775807:=rfl;refine ak Tryz.func80 rfl (by simp[nts]) ?_;refine ag (vm ?_);simp only[wq.1,Nat.reduceLT,Tryz.results80];refine ag (vm ?_);simp only[wq.1,Nat.reduceLT];refine fJ 9 1 (by simp only[wq.1,↓reduceIte]) ?_;refine ag (vm ?_);simp only[wq.1,seval];refine aA (fun q f h=>∃(i:Nat) (X:H),q+i=c.length∧f.t 0= .ip (kV m l)∧f.t 2=vi t∧f.t 5= .lp 0 0∧f.t 9= .ls 1 1 0 i i∧f.t 12=iI c∧f.t 13=vi c.length∧f.t 14=vi i∧f.d=[]∧h=[.cells [vi n,cls cl,cls rows],.cells ((jb m rows t (c.take i)).map xC)]++X) c.length ⟨0,[],by omega,by simp only[wq.1,seval],by simp only[wq.1,seval],by simp only[wq.1,seval],by simp only[wq.1,seval],by simp only[wq.1,seval],by simp only[wq.1,seval],rfl,by simp only[wq.1],rfl⟩ ?_;rintro q f h ⟨i,X,hq,t0,t2,t5,t9,t12,t13,t14,hd,rfl⟩;refine gV (by rw[hd];simp) ?_;have cl1:([O.cells [vi n,cls cl,cls rows],O.cells ((jb m rows t (c.take i)).map xC)]:H).map (O.drop (bP ([O.cells [vi n,cls cl,cls rows],O.cells ((jb m rows t (c.take i)).map xC)]:H).length))=[.cells [vi n,cls cl,cls rows],.cells ((jb m rows t (c.take i)).map xC)]:=by show [O.cells [_,_,_],O.cells (V.drops _ _)]=_;rw[mY];rfl
 rw[cl1];refine ag (vm ?_);simp only[wq.1,seval,t13,t14];refine ag (bu (b:=decide ((i:Int)<c.length)) (by simp only[wq.1,↓reduceIte]) (by simp only[wq.1,↓reduceIte]) (fun hlt=> ?_) (fun hlt=> ?_))
 ·simp only [decide_eq_true_eq,Int.ofNat_lt] at hlt;have hw := aC (show i < maxLen by omega);have hgc := zK hlt .any;have hsu := IR (m := m) (rows := rows) (t := t) hlt;have hkx := hk _ (List.getElem_mem hlt);have hfl := Ci (m := m) (rows := rows) (t := t) (c := c) (i := i) (by omega);obtain ⟨x,hx⟩ : ∃ x,x = c[i] := ⟨_,rfl⟩;rw [← hx] at hgc hsu hkx;have hkl := EE m l n cl rows t x hkx hi hlat hb hr;have hbd := SY (m := m) hb t x;obtain ⟨a,ha⟩ : ∃ a,a = sQ m rows t x := ⟨_,rfl⟩;rw [← ha] at hkl hbd hsu;have w4 : IntKind.i64.wrap (-a) = -a := dE (by omega) (by omega);have w5 : IntKind.i64.wrap (0 - a) = -a := by rw [Int.zero_sub];exact w4
  have hel:((jb m rows t (c.take i)).map xC).length=i*1:=by rw[List.length_map];omega
  have dcs:∀p,V.drops p ((jb m rows t (c.take i)).map xC)=(jb m rows t (c.take i)).map xC:=fun p=>mY _;refine vm ?_;simp only[wq.1];refine vm ?_;simp only[wq.1,seval,t0,t2,t5,t9,t12,t14,hgc,bP];have dK:V.dats [.ip (kV m l),V.agg [vi n,cls cl,cls rows],vi t,V.agg [V.str x.1,V.bool x.2]]=true:=by simp only[V.dats,V.dat,dJ,Bool.and_self]
  refine⟨⟨by omega,by omega⟩,ah.ev hkl dK ?_⟩;simp only[wq.1,↓reduceIte,Nat.reduceEqDiff,Nat.reduceLT,Nat.reduceLeDiff,Nat.reduceAdd,Nat.reduceSub,Int.reduceToNat,Nat.reduceDiv,Int.reduceLT,Int.reduceLE,Int.reduceNeg,Int.reduceBEq,Int.reduceBNe,Int.reduceAdd,Int.reduceSub,Nat.reduceBEq,reduceCtorEq,Nat.reduceMul,ay,Tryz.results80,aZ,t0,t2,t5,t9,t12,t13,t14,hd,bP,w4,w5,hw,hel,dcs];refine⟨⟨rfl,by decide⟩,⟨rfl,by decide⟩,⟨by omega,by omega,by omega⟩,.inl ⟨q-1,by omega,i+1,[.cells [.str x.1,.bool x.2]],by omega,by simp only[wq.1,↓reduceIte,Nat.reduceEqDiff,Nat.reduceLT,Nat.reduceLeDiff,Nat.reduceAdd,Nat.reduceSub,Int.reduceToNat,Nat.reduceDiv,Int.reduceLT,Int.reduceLE,Int.reduceNeg,Int.reduceBEq,Int.reduceBNe,Int.reduceAdd,Int.reduceSub,Nat.reduceBEq,reduceCtorEq,Nat.reduceMul,ay,Tryz.results80,t0],by simp only[wq.1,↓reduceIte,Nat.reduceEqDiff,Nat.reduceLT,Nat.reduceLeDiff,Nat.reduceAdd,Nat.reduceSub,Int.reduceToNat,Nat.reduceDiv,Int.reduceLT,Int.reduceLE,Int.reduceNeg,Int.reduceBEq,Int.reduceBNe,Int.reduceAdd,Int.reduceSub,Nat.reduceBEq,reduceCtorEq,Nat.reduceMul,ay,Tryz.results80,t2],by simp only[wq.1,↓reduceIte,Nat.reduceEqDiff,Nat.reduceLT,Nat.reduceLeDiff,Nat.reduceAdd,Nat.reduceSub,Int.reduceToNat,Nat.reduceDiv,Int.reduceLT,Int.reduceLE,Int.reduceNeg,Int.reduceBEq,Int.reduceBNe,Int.reduceAdd,Int.reduceSub,Nat.reduceBEq,reduceCtorEq,Nat.reduceMul,ay,Tryz.results80,t5,bP],by simp only[wq.1,↓reduceIte,Nat.reduceEqDiff,Nat.reduceLT,Nat.reduceLeDiff,Nat.reduceAdd,Nat.reduceSub,Int.reduceToNat,Nat.reduceDiv,Int.reduceLT,Int.reduceLE,Int.reduceNeg,Int.reduceBEq,Int.reduceBNe,Int.reduceAdd,Int.reduceSub,Nat.reduceBEq,reduceCtorEq,Nat.reduceMul,ay,Tryz.results80],by simp only[wq.1,↓reduceIte,Nat.reduceEqDiff,Nat.reduceLT,Nat.reduceLeDiff,Nat.reduceAdd,Nat.reduceSub,Int.reduceToNat,Nat.reduceDiv,Int.reduceLT,Int.reduceLE,Int.reduceNeg,Int.reduceBEq,Int.reduceBNe,Int.reduceAdd,Int.reduceSub,Nat.reduceBEq,reduceCtorEq,Nat.reduceMul,ay,Tryz.results80,t12],by simp only[wq.1,↓reduceIte,Nat.reduceEqDiff,Nat.reduceLT,Nat.reduceLeDiff,Nat.reduceAdd,Nat.reduceSub,Int.reduceToNat,Nat.reduceDiv,Int.reduceLT,Int.reduceLE,Int.reduceNeg,Int.reduceBEq,Int.reduceBNe,Int.reduceAdd,Int.reduceSub,Nat.reduceBEq,reduceCtorEq,Nat.reduceMul,ay,Tryz.results80,t13],by simp only[wq.1,↓reduceIte,Nat.reduceEqDiff,Nat.reduceLT,Nat.reduceLeDiff,Nat.reduceAdd,Nat.reduceSub,Int.reduceToNat,Nat.reduceDiv,Int.reduceLT,Int.reduceLE,Int.reduceNeg,Int.reduceBEq,Int.reduceBNe,Int.reduceAdd,Int.reduceSub,Nat.reduceBEq,reduceCtorEq,Nat.reduceMul,ay,Tryz.results80],by simp only[wq.1,↓reduceIte,Nat.reduceEqDiff,Nat.reduceLT,Nat.reduceLeDiff,Nat.reduceAdd,Nat.reduceSub,Int.reduceToNat,Nat.reduceDiv,Int.reduceLT,Int.reduceLE,Int.reduceNeg,Int.reduceBEq,Int.reduceBNe,Int.reduceAdd,Int.reduceSub,Nat.reduceBEq,reduceCtorEq,Nat.reduceMul,ay,Tryz.results80,hd],?_⟩⟩;rw[hsu,List.map_append];rfl
 ·simp only [decide_eq_false_iff_not,Int.ofNat_lt] at hlt;have : i = c.length := by omega
  subst this;rw[List.take_length];have hfl:=Ci (m:=m) (rows:=rows) (t:=t) (c:=c) (i:=c.length) (Nat.le_refl _);rw[List.take_length]at hfl;refine vm ?_;simp only[wq.1];refine vm ?_;simp only[wq.1,seval,t9,hd,bP];exact az.ls rfl (uj _) (jY _).1 (jY _).2 (by rw[List.length_map];exact hfl.symm)
def rX (m:Mo) (rows:List Cl) (l:List (List Lt)):List Cl:=l.map fun c=>c.map (sQ m rows 0)
abbrev hKa (n:Int) (cl rows:List Cl) (out:List Cl):H:=[.cells [vi n,cls cl,cls rows],.cells (out.map fun c=>aG c)]
abbrev hKb (n:Int) (cl rows:List Cl) (out:List Cl) (d:Cl):H:=[.cells [vi n,cls cl,cls rows],.cells (out.map fun c=>aG c),.cells (d.map vi)]
theorem lX {p : Nat → Bool} : ∀ l : List Cl,V.drops p (l.map fun c => aG c) = l.map fun c => aG c
 | []=>rfl
 | a::l=>by show V.drop p (aG a)::V.drops p (l.map fun c=>aG c)=_;rw[lX l];rfl
theorem Cm {h:H} {id len cap:Nat} {l:List Cl} (hc:h[id]? =some (.cells (l.map fun c=>aG c))) (hl:len=l.length):az TE h (.ls id 1 0 len cap) (cls l) :=
 az.ls hc (aj.dat (dJ _)) (jY _).1 (jY _).2 (by rw[List.length_map];exact hl)
theorem Gu (m:Mo) (l:List (List Lt)) (n:Int) (cl rows:List Cl) (hk:∀c∈l,∀x∈c,fQ m x.1=true) (hi:0≤m.g.ins∧m.g.ins≤4000) (hlat:m.lat.length≤4000) (hb:∀r∈rows,∀x∈r,-1000000≤x∧x≤1000000) (hr:rows.length≤1000) (hl:l.length≤1000000) (hc:∀c∈l,c.length≤1000000) :
 EvF TE 83 [.ip (kV m l),uV n cl rows] 1 l.length ((rX m rows l).map fun c=>aG c):=by
 have hM:maxLen=9223372036854775807:=rfl;unfold EvF;refine au Tryz.func83 rfl (by simp[nts]) ?_;refine ag (vm ?_);simp only[wq.1,Nat.reduceLT,Tryz.results83];refine ag (vm ?_);simp only[wq.1,Nat.reduceLT];refine fJ 5 1 (by simp only[wq.1,↓reduceIte]) ?_;refine ag (vm ?_);simp only[wq.1,seval];refine aA (fun q f h=>∃(i:Nat) (X:H),q+i=l.length∧f.t 0= .ip (kV m l)∧f.t 3= .lp 0 0∧f.t 5= .ls 1 1 0 i i∧f.t 14=lss l∧f.t 15=vi l.length∧f.t 16=vi i∧f.d=[]∧h=hKa n cl rows (rX m rows (l.take i))++X) l.length ⟨0,[],by omega,by simp only[wq.1,seval],by simp only[wq.1,seval],by simp only[wq.1,seval],by simp only[wq.1,seval],by simp only[wq.1,seval],rfl,by simp only[wq.1],rfl⟩ ?_;rintro q f h ⟨i,X,hq,t0,t3,t5,t14,t15,t16,hd,rfl⟩;refine gV (by rw[hd];simp) ?_;have cl1:∀out:List Cl,(hKa n cl rows out).map (O.drop (bP (hKa n cl rows out).length))=hKa n cl rows out:=fun out=>by show [O.cells [_,_,_],O.cells (V.drops _ _)]=_;rw[lX];rfl
 rw[cl1];have hol:(rX m rows (l.take i)).length=min i l.length:=by unfold rX;simp
 refine ag (vm ?_);simp only[wq.1,seval,t15,t16];refine ag (bu (b:=decide ((i:Int)<l.length)) (by simp only[wq.1,↓reduceIte]) (by simp only[wq.1,↓reduceIte]) (fun hlt=> ?_) (fun hlt=> ?_))
 ·simp only[decide_eq_true_eq,Int.ofNat_lt]at hlt;have hw:=aC (show i<maxLen by omega);have hgl:=xq hlt .any;have hcl:=hc _ (List.getElem_mem hlt);have hkc:=hk _ (List.getElem_mem hlt);have hsu:rX m rows (l.take (i+1))=rX m rows (l.take i)++[l[i].map (sQ m rows 0)]:=by
   unfold rX;rw[List.take_add_one,List.getElem?_eq_getElem hlt,List.map_append];rfl
  obtain⟨c,hce⟩:∃c,c=l[i]:=⟨_,rfl⟩;rw[←hce]at hgl hcl hkc hsu;obtain⟨outs,hos⟩:∃outs,outs=rX m rows (l.take i):=⟨_,rfl⟩;rw[←hos]at hsu hol ⊢;have hol:outs.length=i:=by omega
  refine vm ?_;simp only[wq.1];refine ag (aI ?_);refine ag (vm ?_);simp only[wq.1,seval,t14,t16,hgl];refine⟨⟨by omega,by omega⟩,?_⟩;refine ag (vm ?_);simp only[wq.1,Nat.reduceLT];refine fJ 8 1 (by simp only[wq.1,↓reduceIte]) ?_;refine ag (vm ?_);simp only[wq.1,seval,hd,bP];refine aA (fun q' f h=>∃(j:Nat) (Y:H),q'+j=c.length∧f.t 0= .ip (kV m l)∧f.t 3= .lp 0 0∧f.t 5= .ls 1 1 0 i i∧f.t 8= .ls 2 1 0 j j∧f.t 14=lss l∧f.t 15=vi l.length∧f.t 16=vi i∧f.t 20=iI c∧f.t 21=vi c.length∧f.t 22=vi j∧f.d=[]∧h=hKb n cl rows outs ((c.take j).map (sQ m rows 0))++Y) c.length ⟨0,[],by omega,by simp only[wq.1,seval,t0],by simp only[wq.1,seval,t3,bP],by simp only[wq.1,seval,t5,bP],by simp only[wq.1,seval],by simp only[wq.1,seval,t14],by simp only[wq.1,seval,t15],by simp only[wq.1,seval,t16],by simp only[wq.1,seval],by simp only[wq.1,seval],rfl,by simp only[wq.1],rfl⟩ ?_;clear t0 t3 t5 t14 t15 t16 hd f;rintro q' f h ⟨j,Y,hq',t0,t3,t5,t8,t14,t15,t16,t20,t21,t22,hd,rfl⟩;refine gV (by rw[hd];simp) ?_;have cl2:∀d:Cl,(hKb n cl rows outs d).map (O.drop (bP (hKb n cl rows outs d).length))=hKb n cl rows outs d:=fun d=>by
   show [O.cells [_,_,_],O.cells (V.drops _ _),O.cells (V.drops _ _)]=_;rw[lX,bg];rfl
  rw[cl2];have dos:∀p,V.drops p (outs.map fun c=>aG c)=outs.map fun c=>aG c:=fun p=>lX _;refine ag (vm ?_);simp only[wq.1,seval,t21,t22];refine ag (bu (b:=decide ((j:Int)<c.length)) (by simp only[wq.1,↓reduceIte]) (by simp only[wq.1,↓reduceIte]) (fun hlt2=> ?_) (fun hlt2=> ?_))
  ·simp only[decide_eq_true_eq,Int.ofNat_lt]at hlt2;have hw2:=aC (show j<maxLen by omega);have hgc:=zK hlt2 .any;have hkx:=hkc _ (List.getElem_mem hlt2);have hsd:(c.take (j+1)).map (sQ m rows 0)=(c.take j).map (sQ m rows 0)++[sQ m rows 0 c[j]]:=by
    rw[List.take_add_one,List.getElem?_eq_getElem hlt2,List.map_append];rfl
   obtain⟨x,hx⟩:∃x,x=c[j]:=⟨_,rfl⟩;rw[←hx]at hgc hkx hsd;have hkl:=EE m l n cl rows 0 x hkx hi hlat hb hr;have dK:V.dats [.ip (kV m l),V.agg [vi n,cls cl,cls rows],vi 0,V.agg [V.str x.1,V.bool x.2]]=true:=by simp only[V.dats,V.dat,dJ,Bool.and_self]
   have hdl:((c.take j).map (sQ m rows 0)).length=j:=by simp;omega
   obtain⟨ds,hds⟩:∃ds,ds=(c.take j).map (sQ m rows 0):=⟨_,rfl⟩;rw[←hds]at hsd hdl ⊢;have hel:(ds.map vi).length=j*1:=by rw[List.length_map];omega
   have dcs:∀p,V.drops p (ds.map vi)=ds.map vi:=fun p=>bg _;refine vm ?_;simp only[wq.1];refine vm ?_;simp only[wq.1,seval,t0,t3,t8,t20,t22,hgc,bP];refine⟨⟨by omega,by omega⟩,ah.ev hkl dK ?_⟩;simp only[wq.1,↓reduceIte,Nat.reduceEqDiff,Nat.reduceLT,reduceCtorEq,Nat.reduceMul,t22,hd,hw2,dcs,dos];refine⟨⟨rfl,by decide⟩,⟨by omega,by omega,by omega⟩,.inl ⟨q'-1,by omega,j+1,[.cells [.str x.1,.bool x.2]],by omega,by simp only[wq.1,↓reduceIte,Nat.reduceEqDiff,Nat.reduceLT,Nat.reduceLeDiff,Nat.reduceAdd,Nat.reduceSub,Int.reduceToNat,Nat.reduceDiv,Int.reduceLT,Int.reduceLE,Int.reduceNeg,Int.reduceBEq,Int.reduceBNe,Int.reduceAdd,Int.reduceSub,Nat.reduceBEq,reduceCtorEq,Nat.reduceMul,ay,Tryz.results83,t0],by simp only[wq.1,↓reduceIte,Nat.reduceEqDiff,Nat.reduceLT,Nat.reduceLeDiff,Nat.reduceAdd,Nat.reduceSub,Int.reduceToNat,Nat.reduceDiv,Int.reduceLT,Int.reduceLE,Int.reduceNeg,Int.reduceBEq,Int.reduceBNe,Int.reduceAdd,Int.reduceSub,Nat.reduceBEq,reduceCtorEq,Nat.reduceMul,ay,Tryz.results83,t3,bP],by simp only[wq.1,↓reduceIte,Nat.reduceEqDiff,Nat.reduceLT,Nat.reduceLeDiff,Nat.reduceAdd,Nat.reduceSub,Int.reduceToNat,Nat.reduceDiv,Int.reduceLT,Int.reduceLE,Int.reduceNeg,Int.reduceBEq,Int.reduceBNe,Int.reduceAdd,Int.reduceSub,Nat.reduceBEq,reduceCtorEq,Nat.reduceMul,ay,Tryz.results83,t5,bP],by simp only[wq.1,↓reduceIte,Nat.reduceEqDiff,Nat.reduceLT,Nat.reduceLeDiff,Nat.reduceAdd,Nat.reduceSub,Int.reduceToNat,Nat.reduceDiv,Int.reduceLT,Int.reduceLE,Int.reduceNeg,Int.reduceBEq,Int.reduceBNe,Int.reduceAdd,Int.reduceSub,Nat.reduceBEq,reduceCtorEq,Nat.reduceMul,ay,Tryz.results83],by simp only[wq.1,↓reduceIte,Nat.reduceEqDiff,Nat.reduceLT,Nat.reduceLeDiff,Nat.reduceAdd,Nat.reduceSub,Int.reduceToNat,Nat.reduceDiv,Int.reduceLT,Int.reduceLE,Int.reduceNeg,Int.reduceBEq,Int.reduceBNe,Int.reduceAdd,Int.reduceSub,Nat.reduceBEq,reduceCtorEq,Nat.reduceMul,ay,Tryz.results83,t14],by simp only[wq.1,↓reduceIte,Nat.reduceEqDiff,Nat.reduceLT,Nat.reduceLeDiff,Nat.reduceAdd,Nat.reduceSub,Int.reduceToNat,Nat.reduceDiv,Int.reduceLT,Int.reduceLE,Int.reduceNeg,Int.reduceBEq,Int.reduceBNe,Int.reduceAdd,Int.reduceSub,Nat.reduceBEq,reduceCtorEq,Nat.reduceMul,ay,Tryz.results83,t15],by simp only[wq.1,↓reduceIte,Nat.reduceEqDiff,Nat.reduceLT,Nat.reduceLeDiff,Nat.reduceAdd,Nat.reduceSub,Int.reduceToNat,Nat.reduceDiv,Int.reduceLT,Int.reduceLE,Int.reduceNeg,Int.reduceBEq,Int.reduceBNe,Int.reduceAdd,Int.reduceSub,Nat.reduceBEq,reduceCtorEq,Nat.reduceMul,ay,Tryz.results83,t16],by simp only[wq.1,↓reduceIte,Nat.reduceEqDiff,Nat.reduceLT,Nat.reduceLeDiff,Nat.reduceAdd,Nat.reduceSub,Int.reduceToNat,Nat.reduceDiv,Int.reduceLT,Int.reduceLE,Int.reduceNeg,Int.reduceBEq,Int.reduceBNe,Int.reduceAdd,Int.reduceSub,Nat.reduceBEq,reduceCtorEq,Nat.reduceMul,ay,Tryz.results83,t20],by simp only[wq.1,↓reduceIte,Nat.reduceEqDiff,Nat.reduceLT,Nat.reduceLeDiff,Nat.reduceAdd,Nat.reduceSub,Int.reduceToNat,Nat.reduceDiv,Int.reduceLT,Int.reduceLE,Int.reduceNeg,Int.reduceBEq,Int.reduceBNe,Int.reduceAdd,Int.reduceSub,Nat.reduceBEq,reduceCtorEq,Nat.reduceMul,ay,Tryz.results83,t21],by simp only[wq.1,↓reduceIte,Nat.reduceEqDiff,Nat.reduceLT,Nat.reduceLeDiff,Nat.reduceAdd,Nat.reduceSub,Int.reduceToNat,Nat.reduceDiv,Int.reduceLT,Int.reduceLE,Int.reduceNeg,Int.reduceBEq,Int.reduceBNe,Int.reduceAdd,Int.reduceSub,Nat.reduceBEq,reduceCtorEq,Nat.reduceMul,ay,Tryz.results83],by simp only[wq.1,↓reduceIte,Nat.reduceEqDiff,Nat.reduceLT,Nat.reduceLeDiff,Nat.reduceAdd,Nat.reduceSub,Int.reduceToNat,Nat.reduceDiv,Int.reduceLT,Int.reduceLE,Int.reduceNeg,Int.reduceBEq,Int.reduceBNe,Int.reduceAdd,Int.reduceSub,Nat.reduceBEq,reduceCtorEq,Nat.reduceMul,ay,Tryz.results83,hd],?_⟩⟩;rw[hsd,List.map_append];rfl
  ·simp only [decide_eq_false_iff_not,Int.ofNat_lt] at hlt2;have : j = c.length := by omega
   subst this;rw[List.take_length];obtain⟨ds,hds⟩:∃ds,ds=c.map (sQ m rows 0):=⟨_,rfl⟩;have hdl:ds.length=c.length:=by rw[hds];simp
   rw[←hds]at hsu ⊢;refine vm ?_;simp only[wq.1];show awp _ _ _ _ _ _ _;refine vz 2 8 (aG ds) (by simp only[wq.1,seval,t8,bP]) (by simp only[wq.1,seval,t8,bP];exact qJ (by show some (O.cells (V.drops _ (ds.map vi)))=_;rw[bg]) hdl.symm) (by simp only[wq.1,hd]) ?_;rw[show jB (·==2) 0 (hKb n cl rows outs ds)=[.cells [vi n,cls cl,cls rows],.cells (outs.map fun c=>aG c),.dead] by simp[jB,O.drop,V.drops,V.drop,dos]];refine pg (fun f'=>f'.t 0= .ip (kV m l)∧f'.t 3= .lp 0 0∧f'.t 5= .ls 1 1 0 i i∧f'.t 8=aG ds∧f'.t 14=lss l∧f'.t 15=vi l.length∧f'.t 16=vi i∧f'.d=[]) _ (fun hk=>hk _ ⟨by simp only[wq.1,seval,t0],by simp only[wq.1,seval,t3,bP],by simp only[wq.1,seval,t5,bP],by simp only[wq.1,↓reduceIte],by simp only[wq.1,seval,t14],by simp only[wq.1,seval,t15],by simp only[wq.1,seval,t16],by simp only[wq.1,hd]⟩) ?_;clear t0 t3 t5 t8 t14 t15 t16 t20 t21 t22 hd f;rintro f ⟨t0,t3,t5,t8,t14,t15,t16,hd⟩;have hel:(outs.map fun c=>aG c).length=i*1:=by rw[List.length_map];omega
   refine vm ?_;simp only[wq.1,↓reduceIte,Nat.reduceEqDiff,Nat.reduceLT,reduceCtorEq,Nat.reduceMul,t5,t8,hd,dos];refine⟨⟨rfl,by decide⟩,⟨by omega,by omega,by omega⟩,?_⟩;refine vm ?_;simp only[wq.1,seval,t16,hw];refine .inl ⟨q-1,by omega,i+1,[.dead],by omega,by simp only[wq.1,seval,t0],by simp only[wq.1,seval,t3],by simp only[wq.1,seval],by simp only[wq.1,seval,t14],by simp only[wq.1,seval,t15],by simp only[wq.1,↓reduceIte],by simp only[wq.1,hd],by rw[hsu,List.map_append];rfl⟩
 ·simp only [decide_eq_false_iff_not,Int.ofNat_lt] at hlt;have : i = l.length := by omega
  subst this;rw[List.take_length]at hol ⊢;refine vm ?_;simp only[wq.1];refine vm ?_;simp only[wq.1,seval,t5,hd,bP];exact .inr ⟨1,_,rfl,Nat.le_refl _,rfl⟩
theorem S9 (m:Mo) (l:List (List Lt)) (n:Int) (cl rows:List Cl) (hk:∀c∈l,∀x∈c,fQ m x.1=true) (hi:0≤m.g.ins∧m.g.ins≤4000) (hlat:m.lat.length≤4000) (hb:∀r∈rows,∀x∈r,-1000000≤x∧x≤1000000) (hr:rows.length≤1000) (hl:l.length≤1000000) (hc:∀c∈l,c.length≤1000000) :
 Ev TE 83 [.ip (kV m l),uV n cl rows] (cls (rX m rows l)):=by
 refine(Gu m l n cl rows hk hi hlat hb hr hl hc).ev (fun _ h=> ?_) (fun h' id cap _ hid=>Cm hid (by unfold rX;simp)) (fun _ h h'=> ?_)
 ·rw[List.map_eq_nil_iff.1 h];exact iV
 ·rw[List.map_eq_nil_iff.1 h];exact az.nils
end Go.Proofs.YtmlacppmbfbjgaaGreatDoor
