/- Lemmas for this claim, part F04: each holds under what it names. -/
import Derived.Test.YtokppohljajhjaaGreatDoorF03
import Derived.Test.YtokppohljajhjaaGreatDoorF01
import Derived.Test.YtokppohljajhjaaGreatDoorA9
import Derived.Test.YtokppohljajhjaaGreatDoorA8
set_option linter.all false
set_option maxRecDepth 20000
set_option maxHeartbeats 16000000
namespace Go.Proofs.YtokppohljajhjaaGreatDoor
open Go Go.Proofs Go.Abs
def at? :List S->S->Option Nat
 |[],_=>none
 |x::l,s=>if x=s then some 0 else(at? l s).map (·+1)
theorem dw(s:S):∀(ks:List S),gY .str (.str s) (ks.map V.str)=some (at? ks s)
 |[]=>rfl
 |k::ks=>by
  simp only[zrd,gY,keq,at?];by_cases h:k=s
  ·subst h;simp
  ·have:(s==k)=false:=by simpa using fun h'=>h h'.symm
   rw[this,dw s ks,if_neg h];cases at? ks s<;>rfl
theorem ru:∀ {l:List S} {s:S} {n:Nat},at? l s=some n->∃h:n<l.length,l[n]=s
 |[],s,n,h=>by cases h
 |x::l,s,n,h=>by
  simp only[at?]at h;split at h
  ·rename_i he;cases h;exact⟨by simp,he⟩
  ·cases hl:at? l s with
   |none=>rw[hl]at h;cases h
   |some k=>rw[hl]at h;cases h;obtain⟨h1,h2⟩:=ru hl;exact⟨by simpa using h1,by simpa using h2⟩
theorem C9:∀ {l:List S} {s:S},s∈l->∃n,at? l s=some n
 |x::l,s,h=>by
  by_cases hx:x=s
  ·exact⟨0,by simp[at?,hx]⟩
  ·have:s∈l:=by
    rcases zrj.1 h with h|h
    ·exact absurd h.symm hx
    ·exact h
   obtain⟨n,hn⟩:=C9 this;exact⟨n+1,by simp[at?,hx,hn]⟩
theorem MZ{l:List S}{s:S}(h:s∉l):at? l s=none:=by
 cases hh:at? l s with
 |none=>rfl
 |some n=>obtain⟨h1,h2⟩:=ru hh;exact absurd (h2▸zqu h1) h
theorem uQ:∀l:List S,(l.map V.str).flatMap V.vc=l.map V.str
 |[]=>rfl
 |a::l=>by rw[zrd,List.flatMap_cons,uQ l];rfl
theorem wX[MO](c:List S)(hc:c.length<=1000000):EvF TE 99 [aW c] 1 c.length (c.map V.str):=by
 have hM:=mLx;have ho:=ng c;have hv:=uQ c;unfold EvF;refine ax Tryz.func99 rfl (by simp[nts]) (vm ?_);simp only[wq.1,seval,Tryz.results99];intro b hb;cases b with
 |true =>
  have:c=[]:=by simpa using hb rfl
  subst this;simp only[wq.1,↓reduceIte,Nat.reduceLT,reduceCtorEq]
  all_goals try exact .inl ⟨rfl,rfl,rfl⟩
 |false=>simp only[wq.1,↓reduceIte,Nat.reduceEqDiff,Nat.reduceLT,reduceCtorEq,Nat.reduceMul,ho];refine⟨⟨rfl,by decide⟩,⟨by omega,by omega⟩,.inr ⟨0,_,rfl,zrb _,rfl⟩⟩
def wY(e:Int)(s:S):V:= .iface 110 (.agg [vi e,.str s])
theorem gI[MO]{h:H}{R:AEnd->H->(Nat->Bool)->Prop}(b:Bool)(e:Int)(s:S)(ht:b=true->R (.ret (.tup [])) h (fun _=>false))(hf:b=false->R (.pan (wY e s)) h (fun _=>false)):ag TE 55 [.bool b,vi e,.str s] h R:=by
 refine ax Tryz.func55 rfl (by simp[nts]) (vm ?_);cases b with
 |true=>simp only[wq.1,seval,Tryz.results55];exact ht rfl
 |false=>simp only[wq.1,seval,Tryz.results55];exact⟨by simp,hf rfl⟩
structure LimC(c:Ci):Prop where
 ins:c.ins.length<=200
 outs:c.outs.length<=200
 lat:c.lat.length<=200
 gates:c.gates.length<=200
 gins:∀g∈c.gates,g.ins.length<=8
theorem Ti{c:Ci}(h:Oh c=true):LimC c:=by unfold Oh at h;simp only[zqf,zqb,Bool.not_eq_true',List.any_eq_false]at h;obtain⟨h1,h2,h3⟩:=h;refine⟨by omega,h2,by omega,by omega,fun g hg=> ?_⟩;have:=h3 g hg;unfold zT at this;simp only[Bool.or_eq_true,zqb,not_or,Nat.not_lt]at this;exact this.1
theorem dY{α:Type}{F:α->List S}{k:Nat}:∀l:List α,(∀x∈l,(F x).length<=k)->(l.flatMap F).length<=l.length*k
 |[],_=>by simp
 |x::l,h=>by have h1:=h x (by simp);have h2:=dY l fun y hy=>h y (by simp[hy]);rw[List.flatMap_cons,zqa,zrt,Nat.succ_mul];omega
theorem kE{α:Type}{F:α->List S}{l:List α}{i:Nat}(h:i<l.length):(l.take (i+1)).flatMap F=(l.take i).flatMap F++F l[i]:=by rw[List.take_succ_eq_append_getElem h,List.flatMap_append];simp
theorem qG{α:Type}{P:α->Prop}{l:List α}{i:Nat}(h:∀x∈l,P x):∀x∈l.take i,P x:=fun x hx=>h x (zsh hx)
def Eu:Plan:=tkZ [0,1,5]<| .alt 2 (.alt 3 (.alt 4 (.one 6<| .one 7<| .take 8<| .fin) (.one 6 (.one 4<| .one 7<| .take 8<| .fin))) (.one 6 (onZ [3,4,7]<| .take 8<| .fin))) (.one 6 (onZ [2,3,4,7]<| .take 8<| .fin))
theorem Na[MO](c:Ci)(hl:LimC c):EvF TE 57 [c.v] 1 (iW c).length ((iW c).map V.str):=by
 have hM:=mLx;obtain⟨l1,l2,l3,l4,l5⟩:=hl;have hL:∀i,((c.lat.take i).flatMap (fun q=>[q.name,q.next])).length<=200*2:=fun i=>Nat.le_trans (dY (k:=2) _ fun x _=>(by simp)) (Nat.mul_le_mul_right _ (by rw[zrl];omega));have hG:∀i,((c.gates.take i).flatMap (fun g=>g.name::g.ins)).length<=200*9:=fun i=>Nat.le_trans (dY (k:=9) _ (qG fun x hx=>by have:=l5 x hx;simp;try omega)) (Nat.mul_le_mul_right _ (by rw[zrl];omega));obtain⟨r0,hr0⟩:∃r0:List S,r0=[c.ins,c.outs].flatten:=⟨_,rfl⟩;have hrl:r0.length<=400:=by rw[hr0];simp;omega
 obtain⟨RL,hRL⟩:∃RL:Nat->List S,RL=fun i=>r0++(c.lat.take i).flatMap (fun q=>[q.name,q.next]):=⟨_,rfl⟩;have R15:RL 0=r0:=by rw[hRL];simp
 have RLl:∀i,(RL i).length<=400+200*2:=fun i=>by have:=hL i;rw[hRL];simp only[zqa];omega
 have RLs:∀i (h:i<c.lat.length),RL (i+1)=RL i++(fun q=>[q.name,q.next]) c.lat[i]:=fun i h=>by rw[hRL];simp only[kE h,zqc]
 obtain⟨RG,hRG⟩:∃RG:Nat->List S,RG=fun i=>RL c.lat.length++(c.gates.take i).flatMap (fun g=>g.name::g.ins):=⟨_,rfl⟩;have R30:RG 0=RL c.lat.length:=by rw[hRG];simp
 have RGl:∀i,(RG i).length<=400+200*2+200*9:=fun i=>by have:=hG i;have:=RLl c.lat.length;rw[hRG];simp only[zqa];omega
 have RGs:∀i (h:i<c.gates.length),RG (i+1)=RG i++(fun g=>g.name::g.ins) c.gates[i]:=fun i h=>by rw[hRG];simp only[kE h,zqc]
 have hdef:RG c.gates.length=iW c:=by rw[hRG,hRL,hr0];simp only[zrx];simp[iW,List.flatMap_singleton',<-List.map_eq_flatMap]
 obtain⟨DD,hDD⟩:∃DD,DD=iW c:=⟨_,rfl⟩;rw[<-hDD]at hdef ⊢;clear hRL hRG hL hG hDD;obtain⟨BX,hBX⟩:∃BX:O,BX= .cells [aW c.ins,aW c.outs,vM c.lat,jD c.gates]:=⟨_,rfl⟩;have hBd:∀p,BX.drop p=BX:=fun p=>by rw[hBX];rfl
 have hcl:∀(p:Nat->Bool)(row:List S),([BX,.cells (row.map V.str)]:H).map (O.drop p)=[BX,.cells (row.map V.str)]:=fun p row=>by show [BX.drop p,O.cells (V.drops p (row.map V.str))]=_;rw[hBd,aA]
 unfold EvF;refine ax Tryz.func57 rfl (by simp[nts]) ?_;refine vn ?_;simp only[wq.1,Nat.reduceLT,Tryz.results57];refine vn ?_;simp only[wq.1,↓reduceIte,Nat.reduceEqDiff,Nat.reduceLT,Nat.reduceLeDiff,Nat.reduceAdd,reduceCtorEq,Nat.reduceMul];refine⟨⟨rfl,by decide⟩,qp (CO [c.ins,c.outs] (by simp;omega) (by simp)) (by simp only[V.dats,V.dat,aJ,zre]) aJ ?_⟩;rw[<-hr0];simp only[wq.1,seval];rw[<-hBX];rw[<-R15];refine au (bg (Q:=fun xe f h=>xe= .normal/\∃X,f.t 1= .lp 0 0/\f.t 3= .ls 1 1 0 (RL c.lat.length).length (RL c.lat.length).length/\f.d=[]/\h=[BX,.cells ((RL c.lat.length).map V.str)]++X) ?_ ?_)
 ·rintro xe f h ⟨rfl,X,t1,t3,hd,rfl⟩;show awp _ _ _ _ _ _ _;refine au (bg (Q:=fun xe f h=>xe= .normal/\∃X,f.t 1= .lp 0 0/\f.t 3= .ls 1 1 0 (RG c.gates.length).length (RG c.gates.length).length/\f.d=[]/\h=[BX,.cells ((RG c.gates.length).map V.str)]++X) ?_ ?_)
  ·rintro xe f h ⟨rfl,X,t1,t3,hd,rfl⟩;show awp _ _ _ _ _ _ _;rw[hdef]at t3 ⊢;refine vm ?_;simp only[wq.1,seval,t3,hd];exact .inr ⟨1,_,rfl,zrb _,rfl⟩
  ·rw[<-R30]at t3 ⊢;refine vn ?_;simp only[wq.1,seval,t1,hBX];rw[<-hBX];refine aH ?_;refine aK (fun m f h=>∃(i:Nat)(X:H),m+i=c.gates.length/\i<=c.gates.length/\f.t 1= .lp 0 0/\f.t 3= .ls 1 1 0 (RG i).length (RG i).length/\f.t 30=jD c.gates/\f.t 31=vi c.gates.length/\f.t 32=vi i/\f.d=[]/\h=[BX,.cells ((RG i).map V.str)]++X) c.gates.length ⟨0,X,by omega,by omega,by simp only[wq.1,seval,t1],by simp only[wq.1,seval,t3],by simp only[wq.1,seval],by simp only[wq.1,seval],by simp only[wq.1,↓reduceIte];rfl,by simp only[wq.1,hd],rfl⟩ ?_;clear t1 t3 hd X;rintro m f h ⟨i,X,hm,hil,t1,t3,t30,t31,t32,hd,rfl⟩;obtain⟨row,hrow⟩:∃row,row=RG i:=⟨_,rfl⟩;have hrwl:row.length<=400+200*2+200*9:=by rw[hrow];exact RGl i
   rw[<-hrow]at t3 ⊢;refine dP (h0:=[BX,.cells (row.map V.str)]) (by rw[hd];simp) ?_;rw[hcl];obtain⟨f',hf'⟩:∃f',f'=f.drop (Abs.dV ([BX,.cells (row.map V.str)]:H).length):=⟨_,rfl⟩;have u1:f'.t 1= .lp 0 0:=by rw[hf'];show(f.t 1).drop _=_;rw[t1];rfl
   have u3:f'.t 3= .ls 1 1 0 row.length row.length:=by rw[hf'];show(f.t 3).drop _=_;rw[t3];rfl
   have u30:f'.t 30=jD c.gates:=by rw[hf'];show(f.t 30).drop _=_;rw[t30];rfl
   have u31:f'.t 31=vi c.gates.length:=by rw[hf'];show(f.t 31).drop _=_;rw[t31];rfl
   have u32:f'.t 32=vi i:=by rw[hf'];show(f.t 32).drop _=_;rw[t32];rfl
   have ud:f'.d=[]:=by rw[hf'];exact hd
   rw[<-hf'];clear hf' hd t1 t3 t30 t31 t32 X;have hw:=aB (show i<maxLen by omega);have dR:∀p,V.drops p (row.map V.str)=row.map V.str:=fun p=>aA;refine vn ?_;simp only[wq.1,Nat.reduceLT,u31,u32];refine vn ?_;simp only[wq.1,↓reduceIte];refine vcB.mk (fun hlt=> ?_) (fun hlt=> ?_)
   ·have hlt:i<c.gates.length:=by have:=zqs hlt;omega
    have hft:=RGs i hlt;rw[<-hrow]at hft;obtain⟨g,hg⟩:∃g,g=c.gates[i]:=⟨_,rfl⟩;have hgg:=wF hlt .any;rw[<-hg]at hgg hft;have hg8:g.ins.length<=8:=by rw[hg];exact l5 _ (zqu hlt)
    have aI:=ng g.ins;have vI:=uQ g.ins;simp only[wq.1];refine au ?_;refine aH ?_;refine vn ?_;simp only[wq.1,↓reduceIte,Nat.reduceEqDiff,Nat.reduceLT,Nat.reduceAdd,u30,u32,hgg,hBX];rw[<-hBX];refine⟨⟨by omega,by omega⟩,?_⟩;refine gV mixed Eu (fun f' h'=>f'.t 1= .lp 0 0/\f'.t 3= .ls 1 1 0 (row++g.name::g.ins).length (row++g.name::g.ins).length/\f'.t 30=jD c.gates/\f'.t 31=vi c.gates.length/\f'.t 32=vi i/\f'.d=[]/\h'=[BX,.cells ((row++g.name::g.ins).map V.str),O.cells [.str g.name,vi g.op,aW g.ins,aW g.rows,.bool g.off]]) (by rw[show TE.P=P from rfl];decide +kernel) (by decide +kernel) ?_ ?_
    ·simp only[wq.1,↓reduceIte,Nat.reduceEqDiff,Nat.reduceLT,Nat.reduceLeDiff,Nat.reduceAdd,Nat.reduceBEq,reduceCtorEq,Nat.reduceMul,Eu,u1,u3,u30,u31,u32,ud];refine⟨⟨rfl,by decide⟩,⟨by omega,by omega,by omega⟩,aI,⟨by omega,aI,by omega,by omega⟩,by rw[Nat.add_assoc,Nat.add_comm 1],?_⟩;rw[hBd,hBd,zqc];rfl
    ·rintro f h ⟨u1,u3,u30,u31,u32,ud,rfl⟩;show awp _ _ _ _ _ _ _;refine vm ?_;simp only[wq.1,seval,u32,hw];refine .inl ⟨m-1,by omega,i+1,[O.cells [.str g.name,vi g.op,aW g.ins,aW g.rows,.bool g.off]],by omega,by omega,by simp only[wq.1,seval,u1],by rw[hft];simp only[wq.1,seval,u3],by simp only[wq.1,seval,u30],by simp only[wq.1,seval,u31],by simp only[wq.1,↓reduceIte],by simp only[wq.1,ud],?_⟩;rw[hft,zql];rfl
   ·have hi:i=c.gates.length:=by have:=of_decide_eq_false hlt;omega
    subst hrow;subst hi;simp only[wq.1,seval,u1,u3,ud];exact⟨[],rfl⟩
 ·refine vn ?_;simp only[wq.1,seval,hBX];rw[<-hBX];refine aH ?_;refine aK (fun m f h=>∃(i:Nat)(X:H),m+i=c.lat.length/\i<=c.lat.length/\f.t 1= .lp 0 0/\f.t 3= .ls 1 1 0 (RL i).length (RL i).length/\f.t 15=vM c.lat/\f.t 16=vi c.lat.length/\f.t 17=vi i/\f.d=[]/\h=[BX,.cells ((RL i).map V.str)]++X) c.lat.length ⟨0,[],by omega,by omega,by simp only[wq.1,seval],by simp only[wq.1,seval],by simp only[wq.1,seval],by simp only[wq.1,seval],by simp only[wq.1,↓reduceIte];rfl,by simp only[wq.1],rfl⟩ ?_;rintro m f h ⟨i,X,hm,hil,t1,t3,t30,t31,t32,hd,rfl⟩;obtain⟨row,hrow⟩:∃row,row=RL i:=⟨_,rfl⟩;have hrwl:row.length<=400+200*2:=by rw[hrow];exact RLl i
  rw[<-hrow]at t3 ⊢;refine dP (h0:=[BX,.cells (row.map V.str)]) (by rw[hd];simp) ?_;rw[hcl];obtain⟨f',hf'⟩:∃f',f'=f.drop (Abs.dV ([BX,.cells (row.map V.str)]:H).length):=⟨_,rfl⟩;have u1:f'.t 1= .lp 0 0:=by rw[hf'];show(f.t 1).drop _=_;rw[t1];rfl
  have u3:f'.t 3= .ls 1 1 0 row.length row.length:=by rw[hf'];show(f.t 3).drop _=_;rw[t3];rfl
  have u30:f'.t 15=vM c.lat:=by rw[hf'];show(f.t 15).drop _=_;rw[t30];rfl
  have u31:f'.t 16=vi c.lat.length:=by rw[hf'];show(f.t 16).drop _=_;rw[t31];rfl
  have u32:f'.t 17=vi i:=by rw[hf'];show(f.t 17).drop _=_;rw[t32];rfl
  have ud:f'.d=[]:=by rw[hf'];exact hd
  rw[<-hf'];clear hf' hd t1 t3 t30 t31 t32 X;have hw:=aB (show i<maxLen by omega);have dR:∀p,V.drops p (row.map V.str)=row.map V.str:=fun p=>aA;refine vn ?_;simp only[wq.1,Nat.reduceLT,u31,u32];refine vn ?_;simp only[wq.1,↓reduceIte];refine vcB.mk (fun hlt=> ?_) (fun hlt=> ?_)
  ·have hlt:i<c.lat.length:=by have:=zqs hlt;omega
   have hft:=RLs i hlt;rw[<-hrow]at hft;obtain⟨q,hq⟩:∃q,q=c.lat[i]:=⟨_,rfl⟩;have hgg:=Jg hlt .any;rw[<-hq]at hgg hft;simp only[wq.1];refine vn ?_;simp only[wq.1,↓reduceIte,Nat.reduceEqDiff,Nat.reduceLT,Nat.reduceLeDiff,Nat.reduceAdd,reduceCtorEq,Nat.reduceMul,u3,u30,u32,ud,hgg,hBX];rw[<-hBX];refine⟨⟨by omega,by omega⟩,⟨rfl,by decide⟩,⟨by omega,by omega,by omega⟩,?_⟩;refine vm ?_;simp only[wq.1,seval,u32,hw];refine .inl ⟨m-1,by omega,i+1,[O.cells [.str q.name,.str q.next,vi q.init]],by omega,by omega,by simp only[wq.1,seval,u1],by simp only[wq.1,seval,hft],by simp only[wq.1,seval,u30],by simp only[wq.1,seval,u31],by simp only[wq.1,↓reduceIte],by simp only[wq.1,ud],?_⟩;rw[hft,zql];rfl
  ·have hi:i=c.lat.length:=by have:=of_decide_eq_false hlt;omega
   subst hrow;subst hi;simp only[wq.1,seval,u1,u3,ud];exact⟨[],rfl⟩
theorem PU[MO](c:Ci)(hl:LimC c):Ev TE 57 [c.v] (aW (iW c)):=(Na c hl).ev (fun _ he=>by rw[show aW (iW c)= .is false 1 [] by rw[List.map_eq_nil_iff.1 he];rfl];exact VLe.nils) (fun h' id cap _ hid=>aY hid rfl) (fun _ he _=>by rw[List.map_eq_nil_iff.1 he];exact az.nils)
theorem Nb[MO](c:Ci)(hl:LimC c):EvF TE 60 [c.v] 1 (fU c).length ((fU c).map V.str):=by
 have hM:=mLx;obtain⟨l1,l2,l3,l4,l5⟩:=hl;have hL:∀i,((c.lat.take i).flatMap (fun q=>[q.name])).length<=200*1:=fun i=>Nat.le_trans (dY (k:=1) _ fun x _=>(by simp)) (Nat.mul_le_mul_right _ (by rw[zrl];omega));have hG:∀i,((c.gates.take i).flatMap (fun g=>[g.name])).length<=200*1:=fun i=>Nat.le_trans (dY (k:=1) _ (qG fun x hx=>by have:=l5 x hx;simp;try omega)) (Nat.mul_le_mul_right _ (by rw[zrl];omega));obtain⟨r0,hr0⟩:∃r0:List S,r0=c.ins:=⟨_,rfl⟩;have hrl:r0.length<=400:=by rw[hr0];omega
 obtain⟨RL,hRL⟩:∃RL:Nat->List S,RL=fun i=>r0++(c.lat.take i).flatMap (fun q=>[q.name]):=⟨_,rfl⟩;have R12:RL 0=r0:=by rw[hRL];simp
 have RLl:∀i,(RL i).length<=400+200*1:=fun i=>by have:=hL i;rw[hRL];simp only[zqa];omega
 have RLs:∀i (h:i<c.lat.length),RL (i+1)=RL i++(fun q=>[q.name]) c.lat[i]:=fun i h=>by rw[hRL];simp only[kE h,zqc]
 obtain⟨RG,hRG⟩:∃RG:Nat->List S,RG=fun i=>RL c.lat.length++(c.gates.take i).flatMap (fun g=>[g.name]):=⟨_,rfl⟩;have R25:RG 0=RL c.lat.length:=by rw[hRG];simp
 have RGl:∀i,(RG i).length<=400+200*1+200*1:=fun i=>by have:=hG i;have:=RLl c.lat.length;rw[hRG];simp only[zqa];omega
 have RGs:∀i (h:i<c.gates.length),RG (i+1)=RG i++(fun g=>[g.name]) c.gates[i]:=fun i h=>by rw[hRG];simp only[kE h,zqc]
 have hdef:RG c.gates.length=fU c:=by rw[hRG,hRL,hr0];simp only[zrx];simp[fU,List.flatMap_singleton',<-List.map_eq_flatMap]
 obtain⟨DD,hDD⟩:∃DD,DD=fU c:=⟨_,rfl⟩;rw[<-hDD]at hdef ⊢;clear hRL hRG hL hG hDD;obtain⟨BX,hBX⟩:∃BX:O,BX= .cells [aW c.ins,aW c.outs,vM c.lat,jD c.gates]:=⟨_,rfl⟩;have hBd:∀p,BX.drop p=BX:=fun p=>by rw[hBX];rfl
 have hcl:∀(p:Nat->Bool)(row:List S),([BX,.cells (row.map V.str)]:H).map (O.drop p)=[BX,.cells (row.map V.str)]:=fun p row=>by show [BX.drop p,O.cells (V.drops p (row.map V.str))]=_;rw[hBd,aA]
 unfold EvF;refine ax Tryz.func60 rfl (by simp[nts]) ?_;refine vn ?_;simp only[wq.1,Nat.reduceLT,Tryz.results60];refine vn ?_;simp only[wq.1,seval];refine qp (wX c.ins (by omega)) (by simp only[V.dats,V.dat,aJ,zre]) aJ ?_;simp only[wq.1,seval];rw[<-hBX,<-hr0];rw[<-R12];refine au (bg (Q:=fun xe f h=>xe= .normal/\∃X,f.t 1= .lp 0 0/\f.t 3= .ls 1 1 0 (RL c.lat.length).length (RL c.lat.length).length/\f.d=[]/\h=[BX,.cells ((RL c.lat.length).map V.str)]++X) ?_ ?_)
 ·rintro xe f h ⟨rfl,X,t1,t3,hd,rfl⟩;show awp _ _ _ _ _ _ _;refine au (bg (Q:=fun xe f h=>xe= .normal/\∃X,f.t 1= .lp 0 0/\f.t 3= .ls 1 1 0 (RG c.gates.length).length (RG c.gates.length).length/\f.d=[]/\h=[BX,.cells ((RG c.gates.length).map V.str)]++X) ?_ ?_)
  ·rintro xe f h ⟨rfl,X,t1,t3,hd,rfl⟩;show awp _ _ _ _ _ _ _;rw[hdef]at t3 ⊢;refine vm ?_;simp only[wq.1,seval,t3,hd];exact .inr ⟨1,_,rfl,zrb _,rfl⟩
  ·rw[<-R25]at t3 ⊢;refine vn ?_;simp only[wq.1,seval,t1,hBX];rw[<-hBX];refine aH ?_;refine aK (fun m f h=>∃(i:Nat)(X:H),m+i=c.gates.length/\i<=c.gates.length/\f.t 1= .lp 0 0/\f.t 3= .ls 1 1 0 (RG i).length (RG i).length/\f.t 25=jD c.gates/\f.t 26=vi c.gates.length/\f.t 27=vi i/\f.d=[]/\h=[BX,.cells ((RG i).map V.str)]++X) c.gates.length ⟨0,X,by omega,by omega,by simp only[wq.1,seval,t1],by simp only[wq.1,seval,t3],by simp only[wq.1,seval],by simp only[wq.1,seval],by simp only[wq.1,↓reduceIte];rfl,by simp only[wq.1,hd],rfl⟩ ?_;clear t1 t3 hd X;rintro m f h ⟨i,X,hm,hil,t1,t3,t25,t26,t27,hd,rfl⟩;obtain⟨row,hrow⟩:∃row,row=RG i:=⟨_,rfl⟩;have hrwl:row.length<=400+200*1+200*1:=by rw[hrow];exact RGl i
   rw[<-hrow]at t3 ⊢;refine dP (h0:=[BX,.cells (row.map V.str)]) (by rw[hd];simp) ?_;rw[hcl];obtain⟨f',hf'⟩:∃f',f'=f.drop (Abs.dV ([BX,.cells (row.map V.str)]:H).length):=⟨_,rfl⟩;have u1:f'.t 1= .lp 0 0:=by rw[hf'];show(f.t 1).drop _=_;rw[t1];rfl
   have u3:f'.t 3= .ls 1 1 0 row.length row.length:=by rw[hf'];show(f.t 3).drop _=_;rw[t3];rfl
   have u25:f'.t 25=jD c.gates:=by rw[hf'];show(f.t 25).drop _=_;rw[t25];rfl
   have u26:f'.t 26=vi c.gates.length:=by rw[hf'];show(f.t 26).drop _=_;rw[t26];rfl
   have u27:f'.t 27=vi i:=by rw[hf'];show(f.t 27).drop _=_;rw[t27];rfl
   have ud:f'.d=[]:=by rw[hf'];exact hd
   rw[<-hf'];clear hf' hd t1 t3 t25 t26 t27 X;have hw:=aB (show i<maxLen by omega);have dR:∀p,V.drops p (row.map V.str)=row.map V.str:=fun p=>aA;refine vn ?_;simp only[wq.1,Nat.reduceLT,u26,u27];refine vn ?_;simp only[wq.1,↓reduceIte];refine vcB.mk (fun hlt=> ?_) (fun hlt=> ?_)
   ·have hlt:i<c.gates.length:=by have:=zqs hlt;omega
    have hft:=RGs i hlt;rw[<-hrow]at hft;obtain⟨g,hg⟩:∃g,g=c.gates[i]:=⟨_,rfl⟩;have hgg:=wF hlt .any;rw[<-hg]at hgg hft;have hg8:g.ins.length<=8:=by rw[hg];exact l5 _ (zqu hlt)
    have aI:=ng g.ins;have vI:=uQ g.ins;simp only[wq.1];refine vn ?_;simp only[wq.1,↓reduceIte,Nat.reduceEqDiff,Nat.reduceLT,Nat.reduceLeDiff,Nat.reduceAdd,reduceCtorEq,Nat.reduceMul,u3,u25,u27,ud,hgg,hBX];rw[<-hBX];refine⟨⟨by omega,by omega⟩,⟨rfl,by decide⟩,⟨by omega,by omega,by omega⟩,?_⟩;refine vm ?_;simp only[wq.1,seval,u27,hw];refine .inl ⟨m-1,by omega,i+1,[O.cells [.str g.name,vi g.op,aW g.ins,aW g.rows,.bool g.off]],by omega,by omega,by simp only[wq.1,seval,u1],by simp only[wq.1,seval,hft],by simp only[wq.1,seval,u25],by simp only[wq.1,seval,u26],by simp only[wq.1,↓reduceIte],by simp only[wq.1,ud],?_⟩;rw[hft,zql]
    all_goals rfl
   ·have hi:i=c.gates.length:=by have:=of_decide_eq_false hlt;omega
    subst hrow;subst hi;simp only[wq.1,seval,u1,u3,ud];exact⟨[],rfl⟩
 ·refine vn ?_;simp only[wq.1,seval,hBX];rw[<-hBX];refine aH ?_;refine aK (fun m f h=>∃(i:Nat)(X:H),m+i=c.lat.length/\i<=c.lat.length/\f.t 1= .lp 0 0/\f.t 3= .ls 1 1 0 (RL i).length (RL i).length/\f.t 12=vM c.lat/\f.t 13=vi c.lat.length/\f.t 14=vi i/\f.d=[]/\h=[BX,.cells ((RL i).map V.str)]++X) c.lat.length ⟨0,[],by omega,by omega,by simp only[wq.1,seval],by simp only[wq.1,seval],by simp only[wq.1,seval],by simp only[wq.1,seval],by simp only[wq.1,↓reduceIte];rfl,by simp only[wq.1],rfl⟩ ?_;rintro m f h ⟨i,X,hm,hil,t1,t3,t25,t26,t27,hd,rfl⟩;obtain⟨row,hrow⟩:∃row,row=RL i:=⟨_,rfl⟩;have hrwl:row.length<=400+200*1:=by rw[hrow];exact RLl i
  rw[<-hrow]at t3 ⊢;refine dP (h0:=[BX,.cells (row.map V.str)]) (by rw[hd];simp) ?_;rw[hcl];obtain⟨f',hf'⟩:∃f',f'=f.drop (Abs.dV ([BX,.cells (row.map V.str)]:H).length):=⟨_,rfl⟩;have u1:f'.t 1= .lp 0 0:=by rw[hf'];show(f.t 1).drop _=_;rw[t1];rfl
  have u3:f'.t 3= .ls 1 1 0 row.length row.length:=by rw[hf'];show(f.t 3).drop _=_;rw[t3];rfl
  have u25:f'.t 12=vM c.lat:=by rw[hf'];show(f.t 12).drop _=_;rw[t25];rfl
  have u26:f'.t 13=vi c.lat.length:=by rw[hf'];show(f.t 13).drop _=_;rw[t26];rfl
  have u27:f'.t 14=vi i:=by rw[hf'];show(f.t 14).drop _=_;rw[t27];rfl
  have ud:f'.d=[]:=by rw[hf'];exact hd
  rw[<-hf'];clear hf' hd t1 t3 t25 t26 t27 X;have hw:=aB (show i<maxLen by omega);have dR:∀p,V.drops p (row.map V.str)=row.map V.str:=fun p=>aA;refine vn ?_;simp only[wq.1,Nat.reduceLT,u26,u27];refine vn ?_;simp only[wq.1,↓reduceIte];refine vcB.mk (fun hlt=> ?_) (fun hlt=> ?_)
  ·have hlt:i<c.lat.length:=by have:=zqs hlt;omega
   have hft:=RLs i hlt;rw[<-hrow]at hft;obtain⟨q,hq⟩:∃q,q=c.lat[i]:=⟨_,rfl⟩;have hgg:=Jg hlt .any;rw[<-hq]at hgg hft;simp only[wq.1];refine vn ?_;simp only[wq.1,↓reduceIte,Nat.reduceEqDiff,Nat.reduceLT,Nat.reduceLeDiff,Nat.reduceAdd,reduceCtorEq,Nat.reduceMul,u3,u25,u27,ud,hgg,hBX];rw[<-hBX];refine⟨⟨by omega,by omega⟩,⟨rfl,by decide⟩,⟨by omega,by omega,by omega⟩,?_⟩;refine vm ?_;simp only[wq.1,seval,u27,hw];refine .inl ⟨m-1,by omega,i+1,[O.cells [.str q.name,.str q.next,vi q.init]],by omega,by omega,by simp only[wq.1,seval,u1],by simp only[wq.1,seval,hft],by simp only[wq.1,seval,u25],by simp only[wq.1,seval,u26],by simp only[wq.1,↓reduceIte],by simp only[wq.1,ud],?_⟩;rw[hft,zql];rfl
  ·have hi:i=c.lat.length:=by have:=of_decide_eq_false hlt;omega
   subst hrow;subst hi;simp only[wq.1,seval,u1,u3,ud];exact⟨[],rfl⟩
theorem PX[MO](c:Ci)(hl:LimC c):Ev TE 60 [c.v] (aW (fU c)):=(Nb c hl).ev (fun _ he=>by rw[show aW (fU c)= .is false 1 [] by rw[List.map_eq_nil_iff.1 he];rfl];exact VLe.nils) (fun h' id cap _ hid=>aY hid rfl) (fun _ he _=>by rw[List.map_eq_nil_iff.1 he];exact az.nils)
theorem Nc[MO](c:Ci)(hl:LimC c):EvF TE 61 [c.v] 1 (gq c).length ((gq c).map V.str):=by
 have hM:=mLx;obtain⟨l1,l2,l3,l4,l5⟩:=hl;have hL:∀i,((c.lat.take i).flatMap (fun q=>[q.next])).length<=200*1:=fun i=>Nat.le_trans (dY (k:=1) _ fun x _=>(by simp)) (Nat.mul_le_mul_right _ (by rw[zrl];omega));have hG:∀i,((c.gates.take i).flatMap (fun g=>g.ins)).length<=200*8:=fun i=>Nat.le_trans (dY (k:=8) _ (qG fun x hx=>by have:=l5 x hx;simp;try omega)) (Nat.mul_le_mul_right _ (by rw[zrl];omega));obtain⟨r0,hr0⟩:∃r0:List S,r0=c.outs:=⟨_,rfl⟩;have hrl:r0.length<=400:=by rw[hr0];omega
 obtain⟨RL,hRL⟩:∃RL:Nat->List S,RL=fun i=>r0++(c.lat.take i).flatMap (fun q=>[q.next]):=⟨_,rfl⟩;have R12:RL 0=r0:=by rw[hRL];simp
 have RLl:∀i,(RL i).length<=400+200*1:=fun i=>by have:=hL i;rw[hRL];simp only[zqa];omega
 have RLs:∀i (h:i<c.lat.length),RL (i+1)=RL i++(fun q=>[q.next]) c.lat[i]:=fun i h=>by rw[hRL];simp only[kE h,zqc]
 obtain⟨RG,hRG⟩:∃RG:Nat->List S,RG=fun i=>RL c.lat.length++(c.gates.take i).flatMap (fun g=>g.ins):=⟨_,rfl⟩;have R25:RG 0=RL c.lat.length:=by rw[hRG];simp
 have RGl:∀i,(RG i).length<=400+200*1+200*8:=fun i=>by have:=hG i;have:=RLl c.lat.length;rw[hRG];simp only[zqa];omega
 have RGs:∀i (h:i<c.gates.length),RG (i+1)=RG i++(fun g=>g.ins) c.gates[i]:=fun i h=>by rw[hRG];simp only[kE h,zqc]
 have hdef:RG c.gates.length=gq c:=by rw[hRG,hRL,hr0];simp only[zrx];simp[gq,List.flatMap_singleton',<-List.map_eq_flatMap]
 obtain⟨DD,hDD⟩:∃DD,DD=gq c:=⟨_,rfl⟩;rw[<-hDD]at hdef ⊢;clear hRL hRG hL hG hDD;obtain⟨BX,hBX⟩:∃BX:O,BX= .cells [aW c.ins,aW c.outs,vM c.lat,jD c.gates]:=⟨_,rfl⟩;have hBd:∀p,BX.drop p=BX:=fun p=>by rw[hBX];rfl
 have hcl:∀(p:Nat->Bool)(row:List S),([BX,.cells (row.map V.str)]:H).map (O.drop p)=[BX,.cells (row.map V.str)]:=fun p row=>by show [BX.drop p,O.cells (V.drops p (row.map V.str))]=_;rw[hBd,aA]
 unfold EvF;refine ax Tryz.func61 rfl (by simp[nts]) ?_;refine vn ?_;simp only[wq.1,Nat.reduceLT,Tryz.results61];refine vn ?_;simp only[wq.1,seval];refine qp (wX c.outs (by omega)) (by simp only[V.dats,V.dat,aJ,zre]) aJ ?_;simp only[wq.1,seval];rw[<-hBX,<-hr0];rw[<-R12];refine au (bg (Q:=fun xe f h=>xe= .normal/\∃X,f.t 1= .lp 0 0/\f.t 3= .ls 1 1 0 (RL c.lat.length).length (RL c.lat.length).length/\f.d=[]/\h=[BX,.cells ((RL c.lat.length).map V.str)]++X) ?_ ?_)
 ·rintro xe f h ⟨rfl,X,t1,t3,hd,rfl⟩;show awp _ _ _ _ _ _ _;refine au (bg (Q:=fun xe f h=>xe= .normal/\∃X,f.t 1= .lp 0 0/\f.t 3= .ls 1 1 0 (RG c.gates.length).length (RG c.gates.length).length/\f.d=[]/\h=[BX,.cells ((RG c.gates.length).map V.str)]++X) ?_ ?_)
  ·rintro xe f h ⟨rfl,X,t1,t3,hd,rfl⟩;show awp _ _ _ _ _ _ _;rw[hdef]at t3 ⊢;refine vm ?_;simp only[wq.1,seval,t3,hd];exact .inr ⟨1,_,rfl,zrb _,rfl⟩
  ·rw[<-R25]at t3 ⊢;refine vn ?_;simp only[wq.1,seval,t1,hBX];rw[<-hBX];refine aH ?_;refine aK (fun m f h=>∃(i:Nat)(X:H),m+i=c.gates.length/\i<=c.gates.length/\f.t 1= .lp 0 0/\f.t 3= .ls 1 1 0 (RG i).length (RG i).length/\f.t 25=jD c.gates/\f.t 26=vi c.gates.length/\f.t 27=vi i/\f.d=[]/\h=[BX,.cells ((RG i).map V.str)]++X) c.gates.length ⟨0,X,by omega,by omega,by simp only[wq.1,seval,t1],by simp only[wq.1,seval,t3],by simp only[wq.1,seval],by simp only[wq.1,seval],by simp only[wq.1,↓reduceIte];rfl,by simp only[wq.1,hd],rfl⟩ ?_;clear t1 t3 hd X;rintro m f h ⟨i,X,hm,hil,t1,t3,t25,t26,t27,hd,rfl⟩;obtain⟨row,hrow⟩:∃row,row=RG i:=⟨_,rfl⟩;have hrwl:row.length<=400+200*1+200*8:=by rw[hrow];exact RGl i
   rw[<-hrow]at t3 ⊢;refine dP (h0:=[BX,.cells (row.map V.str)]) (by rw[hd];simp) ?_;rw[hcl];obtain⟨f',hf'⟩:∃f',f'=f.drop (Abs.dV ([BX,.cells (row.map V.str)]:H).length):=⟨_,rfl⟩;have u1:f'.t 1= .lp 0 0:=by rw[hf'];show(f.t 1).drop _=_;rw[t1];rfl
   have u3:f'.t 3= .ls 1 1 0 row.length row.length:=by rw[hf'];show(f.t 3).drop _=_;rw[t3];rfl
   have u25:f'.t 25=jD c.gates:=by rw[hf'];show(f.t 25).drop _=_;rw[t25];rfl
   have u26:f'.t 26=vi c.gates.length:=by rw[hf'];show(f.t 26).drop _=_;rw[t26];rfl
   have u27:f'.t 27=vi i:=by rw[hf'];show(f.t 27).drop _=_;rw[t27];rfl
   have ud:f'.d=[]:=by rw[hf'];exact hd
   rw[<-hf'];clear hf' hd t1 t3 t25 t26 t27 X;have hw:=aB (show i<maxLen by omega);have dR:∀p,V.drops p (row.map V.str)=row.map V.str:=fun p=>aA;refine vn ?_;simp only[wq.1,Nat.reduceLT,u26,u27];refine vn ?_;simp only[wq.1,↓reduceIte];refine vcB.mk (fun hlt=> ?_) (fun hlt=> ?_)
   ·have hlt:i<c.gates.length:=by have:=zqs hlt;omega
    have hft:=RGs i hlt;rw[<-hrow]at hft;obtain⟨g,hg⟩:∃g,g=c.gates[i]:=⟨_,rfl⟩;have hgg:=wF hlt .any;rw[<-hg]at hgg hft;have hg8:g.ins.length<=8:=by rw[hg];exact l5 _ (zqu hlt)
    have aI:=ng g.ins;have vI:=uQ g.ins;simp only[wq.1];refine vn ?_;simp only[wq.1,seval,u3,u25,u27,ud,hgg,hBX];rw[<-hBX];refine⟨⟨by omega,by omega⟩,aI,⟨by omega,aI,by omega,by omega⟩,?_⟩;refine vm ?_;simp only[wq.1,seval,u27,hw];refine .inl ⟨m-1,by omega,i+1,[O.cells [.str g.name,vi g.op,aW g.ins,aW g.rows,.bool g.off]],by omega,by omega,by simp only[wq.1,seval,u1],by simp only[wq.1,seval,hft],by simp only[wq.1,seval,u25],by simp only[wq.1,seval,u26],by simp only[wq.1,↓reduceIte],by simp only[wq.1,ud],?_⟩;rw[hft,zql]
    all_goals rfl
   ·have hi:i=c.gates.length:=by have:=of_decide_eq_false hlt;omega
    subst hrow;subst hi;simp only[wq.1,seval,u1,u3,ud];exact⟨[],rfl⟩
 ·refine vn ?_;simp only[wq.1,seval,hBX];rw[<-hBX];refine aH ?_;refine aK (fun m f h=>∃(i:Nat)(X:H),m+i=c.lat.length/\i<=c.lat.length/\f.t 1= .lp 0 0/\f.t 3= .ls 1 1 0 (RL i).length (RL i).length/\f.t 12=vM c.lat/\f.t 13=vi c.lat.length/\f.t 14=vi i/\f.d=[]/\h=[BX,.cells ((RL i).map V.str)]++X) c.lat.length ⟨0,[],by omega,by omega,by simp only[wq.1,seval],by simp only[wq.1,seval],by simp only[wq.1,seval],by simp only[wq.1,seval],by simp only[wq.1,↓reduceIte];rfl,by simp only[wq.1],rfl⟩ ?_;rintro m f h ⟨i,X,hm,hil,t1,t3,t25,t26,t27,hd,rfl⟩;obtain⟨row,hrow⟩:∃row,row=RL i:=⟨_,rfl⟩;have hrwl:row.length<=400+200*1:=by rw[hrow];exact RLl i
  rw[<-hrow]at t3 ⊢;refine dP (h0:=[BX,.cells (row.map V.str)]) (by rw[hd];simp) ?_;rw[hcl];obtain⟨f',hf'⟩:∃f',f'=f.drop (Abs.dV ([BX,.cells (row.map V.str)]:H).length):=⟨_,rfl⟩;have u1:f'.t 1= .lp 0 0:=by rw[hf'];show(f.t 1).drop _=_;rw[t1];rfl
  have u3:f'.t 3= .ls 1 1 0 row.length row.length:=by rw[hf'];show(f.t 3).drop _=_;rw[t3];rfl
  have u25:f'.t 12=vM c.lat:=by rw[hf'];show(f.t 12).drop _=_;rw[t25];rfl
  have u26:f'.t 13=vi c.lat.length:=by rw[hf'];show(f.t 13).drop _=_;rw[t26];rfl
  have u27:f'.t 14=vi i:=by rw[hf'];show(f.t 14).drop _=_;rw[t27];rfl
  have ud:f'.d=[]:=by rw[hf'];exact hd
  rw[<-hf'];clear hf' hd t1 t3 t25 t26 t27 X;have hw:=aB (show i<maxLen by omega);have dR:∀p,V.drops p (row.map V.str)=row.map V.str:=fun p=>aA;refine vn ?_;simp only[wq.1,Nat.reduceLT,u26,u27];refine vn ?_;simp only[wq.1,↓reduceIte];refine vcB.mk (fun hlt=> ?_) (fun hlt=> ?_)
  ·have hlt:i<c.lat.length:=by have:=zqs hlt;omega
   have hft:=RLs i hlt;rw[<-hrow]at hft;obtain⟨q,hq⟩:∃q,q=c.lat[i]:=⟨_,rfl⟩;have hgg:=Jg hlt .any;rw[<-hq]at hgg hft;simp only[wq.1];refine vn ?_;simp only[wq.1,↓reduceIte,Nat.reduceEqDiff,Nat.reduceLT,Nat.reduceLeDiff,Nat.reduceAdd,reduceCtorEq,Nat.reduceMul,u3,u25,u27,ud,hgg,hBX];rw[<-hBX];refine⟨⟨by omega,by omega⟩,⟨rfl,by decide⟩,⟨by omega,by omega,by omega⟩,?_⟩;refine vm ?_;simp only[wq.1,seval,u27,hw];refine .inl ⟨m-1,by omega,i+1,[O.cells [.str q.name,.str q.next,vi q.init]],by omega,by omega,by simp only[wq.1,seval,u1],by simp only[wq.1,seval,hft],by simp only[wq.1,seval,u25],by simp only[wq.1,seval,u26],by simp only[wq.1,↓reduceIte],by simp only[wq.1,ud],?_⟩;rw[hft,zql];rfl
  ·have hi:i=c.lat.length:=by have:=of_decide_eq_false hlt;omega
   subst hrow;subst hi;simp only[wq.1,seval,u1,u3,ud];exact⟨[],rfl⟩
theorem PY[MO](c:Ci)(hl:LimC c):Ev TE 61 [c.v] (aW (gq c)):=(Nc c hl).ev (fun _ he=>by rw[show aW (gq c)= .is false 1 [] by rw[List.map_eq_nil_iff.1 he];rfl];exact VLe.nils) (fun h' id cap _ hid=>aY hid rfl) (fun _ he _=>by rw[List.map_eq_nil_iff.1 he];exact az.nils)
theorem oC{l:List S}{s:S}:(at? l s).isSome=l.contains s:=by
 rw[Bool.eq_iff_iff,List.contains_iff_mem];constructor
 ·intro h;obtain⟨n,hn⟩:=Option.isSome_iff_exists.1 h;obtain⟨h1,h2⟩:=ru hn;rw[<-h2];exact zqu h1
 ·intro h;obtain⟨n,hn⟩:=C9 h;rw[hn];rfl
theorem Nh{l:List S}{i:Nat}(h:i<l.length):wQ (l.take i) (l.drop i)=if(l.take i).contains l[i]=true then some l[i]else wQ (l.take (i+1)) (l.drop (i+1)):=by rw[List.drop_eq_getElem_cons h,wQ,List.take_succ_eq_append_getElem h]
theorem kF{p:Nat->Bool}:∀n,V.drops p (List.replicate n (.bool true))=List.replicate n (.bool true)
 |0=>rfl
 |n+1=>by rw[List.replicate_succ,V.drops,kF n];rfl
abbrev Ry(l:List S):O:= .map (l.map V.str) (List.replicate l.length (.bool true))
theorem bW{P:Program}{rs:List ResultVar}{R:AEnd->H->(Nat->Bool)->Prop}{f:Fr}{h:H}{v:V}(hd:f.d=[])(hr:R (.pan v) h f.k):oO P rs R (.pan v) f h:=by unfold oO;rw[hd];exact hr
theorem wZ[MO]{l:List S}{h:H}{R:AEnd->H->(Nat->Bool)->Prop}(hll:l.length<=1000000)(hok:wQ [] l=none->R (.ret (.lm h.length)) (h++[Ry l]) (fun _=>false))
 (hbad:∀s X,wQ [] l=some s->R (.pan (wY 5 s)) (h++X) (fun _=>false)):ag TE 59 [aW l] h R:=by
 have hM:=mLx;have hgE:∀x:O,(h++[x])[h.length]? =some x:=fun x=>by simp
 have hgS:∀x y:O,(h++[x]).set h.length y=h++[y]:=fun x y=>by simp
 have h0:wQ [] l=wQ (l.take 0) (l.drop 0):=rfl;obtain⟨D,hD⟩:∃D,D=wQ [] l:=⟨_,rfl⟩;rw[<-hD]at hok hbad h0;refine ax Tryz.func59 rfl (by simp[nts]) ?_;refine vn ?_;simp only[wq.1,Nat.reduceLT,Tryz.results59];refine vn ?_;simp only[wq.1,seval];refine vn ?_;simp only[wq.1,seval];refine aK (fun m f h'=>∃i,m+i=l.length/\i<=l.length/\D=wQ (l.take i) (l.drop i)/\f.t 3= .lm h.length/\f.t 7=aW l/\f.t 8=vi l.length/\f.t 9=vi i/\f.d=[]/\f.k=(fun _=>false)/\h'=h++[Ry (l.take i)]) l.length ⟨0,by omega,by omega,h0,by simp only[wq.1,seval],by simp only[wq.1,seval],by simp only[wq.1,seval],by simp only[wq.1,↓reduceIte];rfl,rfl,rfl,rfl⟩ ?_;rintro m f h' ⟨i,hm,hil,hdi,h3,h7,h8,h9,hd,hkf,rfl⟩;have hw:=aB (show i<maxLen by omega);have htl:(l.take i).length=i:=by rw[zrl];omega
 refine vn ?_;simp only[wq.1,Nat.reduceLT,h8,h9];refine vn ?_;simp only[wq.1,↓reduceIte];refine vcB.mk (fun hlt=> ?_) (fun hlt=> ?_)
 ·have hlt:i<l.length:=by have:=zqs hlt;omega
  rw[Nh hlt]at hdi;have hac:=oC (l:=l.take i) (s:=l[i]);cases hat:at? (l.take i) l[i]with
  |some n =>
   obtain⟨g1,g2⟩:=ru hat;have hn:n<i:=by simpa using(Nat.lt_of_lt_of_le g1 (by simp;omega))
   have hg:(List.replicate i (V.bool true)).getD n .any= .bool true:=by simp[zqg,hn]
   rw[hat]at hac;have hac:(l.take i).contains l[i]=true:=hac.symm;rw[if_pos hac]at hdi;simp only[wq.1];refine au (aH ?_);refine vm ?_;simp only[wq.1,seval,h3,h7,h9,Ko hlt,nU,dw,K.keyOk,hat,hg,hgE,htl];refine⟨⟨by omega,by omega⟩,gI _ _ _ (fun h=>by cases h) (fun _=> ?_)⟩;simp only[wq.1,dJ];simp only[XE.seq,XE.block];have hb:=hbad _ [Ry (l.take i)] hdi;refine bW (by simp only[wq.1,hd]) ?_;have hk2:∀f:Fr,f.k=(fun _=>false)->R (.pan (wY 5 l[i])) (h++[Ry (l.take i)]) f.k:=fun f hf=>by rw[hf];exact hb
   refine hk2 _ ?_;simp only[wq.1,hkf]
  |none=>rw[hat]at hac;have hac:(l.take i).contains l[i]=false:=hac.symm;rw[if_neg (by rw[hac];decide)]at hdi;simp only[wq.1];refine au (aH ?_);refine vm ?_;simp only[wq.1,seval,h3,h7,h9,Ko hlt,nU,dw,K.keyOk,hat,hgE];refine⟨⟨by omega,by omega⟩,gI _ _ _ (fun _=> ?_) (fun h=>by cases h)⟩;simp only[wq.1,seval,h3,OM,dw,K.keyOk,hat,hgE,hgS,htl];refine vm ?_;simp only[wq.1,seval,h9,hw];refine .inl ⟨m-1,by omega,i+1,by omega,by omega,hdi,by simp only[wq.1,seval,h3],by simp only[wq.1,seval,h7],by simp only[wq.1,seval,h8],by simp only[wq.1,↓reduceIte],by simp only[wq.1,hd],by simp only[wq.1,hkf],?_⟩;rw[List.take_succ_eq_append_getElem hlt];show _=h++[O.map _ _];rw[zql,zqa,htl,zrk,List.replicate_succ'];rfl
 ·have hi:i=l.length:=by have:=of_decide_eq_false hlt;omega
  rw[hi,List.drop_length,wQ]at hdi;rw[hi,zrx];refine vm ?_;simp only[wq.1,seval,h3,hd,hkf];exact hok hdi
theorem Dc[MO]{h:H}{K:H->(Nat->Bool)->Prop}(hK:∀X,K (h++[X]) (fun _=>false)):iC TE 53 [.lp 1 0,.lp 2 0] h K:=by
 have hgE:∀x:O,(h++[x])[h.length]? =some x:=fun x=>by simp
 have hgS:∀x y:O,(h++[x]).set h.length y=h++[y]:=fun x y=>by simp
 refine jM rfl Tryz.func53 rfl rfl (by simp[nts]) rfl (fun ev w=>rfl) rfl (by decide) ?_;simp only[nts];refine fQ rfl rfl ?_;refine jh (x:= .tmp 5) (t:=110) (q:=⟨.struct [(0,29),(1,9)],2,24,.agg [vi 0,.str []]⟩) rfl (by simp only[wq.1]) (by simp only[wq.1,↓reduceIte]) (by simp only[wq.1,↓reduceIte]) ?_;refine ay rfl rfl ?_;simp only[wq.1,↓reduceIte];refine ay rfl rfl ?_;simp only[wq.1,seval];refine ay rfl rfl ?_;simp only[wq.1,seval];refine ay rfl rfl ?_;simp only[wq.1];refine ay rfl rfl ?_;simp only[wq.1,seval,hgE,hgS];refine ay rfl rfl ?_;simp only[wq.1,seval];refine eP ?_;show awp _ _ _ _ _ _ _;refine vm ?_;simp only[wq.1,seval];exact hK _
def Ot:Plan:= .take 0<| .take 2<| .alt 1 (.alt 3 (.one 4<| .one 5<| .fin) (.one 4 (.one 3<| .one 5<| .fin))) (.one 3 (onZ [1,4,5]<| .fin))
theorem Df[MO]{a:O}{d1 d2:V}{G:H}{K:H->(Nat->Bool)->Prop}(e:Int)(s:S)(hK:∀X,K (a:: .cells [vi e]:: .cells [.str s]::(G++[X])) (fun _=>false)) :
 jf TE 53 [.lp 1 0,.lp 2 0] (wY e s) (a:: .cells [d1]:: .cells [d2]::G) K:=by
 have hgE:∀x:O,(G++[x])[G.length]? =some x:=fun x=>by simp
 have hgS:∀x y:O,(G++[x]).set G.length y=G++[y]:=fun x y=>by simp
 unfold wY;refine nR rfl Tryz.func53 rfl rfl (by simp[nts]) rfl (fun ev w=>rfl) rfl (by decide) ?_;simp only[nts];refine ay rfl rfl ?_;simp only[wq.1,↓reduceIte];refine⟨by decide,?_⟩;refine ay rfl rfl ?_;simp only[wq.1,↓reduceIte];refine ay rfl rfl ?_;simp only[wq.1,seval];refine ay rfl rfl ?_;simp only[wq.1,seval];refine ay rfl rfl ?_;simp only[wq.1];refine ay rfl rfl ?_;simp only[wq.1,seval,hgE,hgS];refine ay rfl rfl ?_;simp only[wq.1,seval];refine eP ?_;show awp _ _ _ _ _ _ _;refine vn ?_;simp only[wq.1,seval];refine vm ?_;simp only[wq.1,↓reduceIte];refine gV mixed Ot (fun f' h'=>f'.d=[]/\f'.k=(fun _=>false)/\∃X,h'=a:: .cells [vi e]:: .cells [.str s]::(G++[X])) (by rw[show TE.P=P from rfl];decide +kernel) (by decide +kernel) ?_ ?_
 ·simp only[wq.1,seval,Ot,hgE];exact⟨_,rfl⟩
 ·rintro f h ⟨hd,hk,X,rfl⟩;exact⟨.inl rfl,hd,by rw[hk];exact hK X⟩
theorem FX[MO](g:Ga):Ev TE 54 [g.v] (.bool (zT g)):=by have e1:decide ((8:Int)<(g.ins.length:Int))=decide (8<g.ins.length):=decide_eq_decide.2 (by omega);have e2:decide ((128:Int)<(g.rows.length:Int))=decide (128<g.rows.length):=decide_eq_decide.2 (by omega);refine ah Tryz.func54 rfl (by simp[nts]) (vm ?_);simp only[wq.1,seval,Tryz.results54,e1,e2];exact dN rfl rfl
theorem ny{α:Type}{l:List α}{p:α->Bool}{i:Nat}(h:i<l.length)(hn:∀x∈l.take i,p x=false)(hp:p l[i]=true):l.find? p=some l[i]:=by
 rw[List.find?_eq_some_iff_getElem];refine⟨hp,i,h,rfl,fun j hj=> ?_⟩;have:l[j]∈l.take i:=by
  rw[List.mem_take_iff_getElem];exact⟨j,by omega,rfl⟩
 rw[hn _ this];rfl
theorem jE{α:Type}{l:List α}{p:α->Bool}(hn:∀x∈l,p x=false):l.find? p=none:=by rw[List.find?_eq_none];intro x hx;rw[hn x hx];decide
theorem Nj{c:Ci}(h:LimC c):(iW c).length<=3000/\(fU c).length<=600/\(gq c).length<=3000:=by obtain⟨l1,l2,l3,l4,l5⟩:=h;have a1:=dY (k:=2) (F:=fun q:La=>[q.name,q.next]) c.lat (fun _ _=>by simp);have a2:=dY (k:=9) (F:=fun g:Ga=>g.name::g.ins) c.gates (fun g hg=>by have:=l5 g hg;simp;omega);have a3:=dY (k:=8) (F:=fun g:Ga=>g.ins) c.gates (fun g hg=>l5 g hg);unfold iW fU gq;simp only[zqa,zra];have:=Nat.mul_le_mul_right 9 l4;have:=Nat.mul_le_mul_right 8 l4;have:=Nat.mul_le_mul_right 2 l3;refine⟨by omega,by omega,by omega⟩
theorem Au[MO](c:Ci)(hsum:c.ins.length+c.lat.length+c.gates.length<=9000000000000000000):Ev TE 25 [c.v] (.tup [vi (lJ c).1,.str (lJ c).2]):=by
 have hM:=mLx;refine kU ?_;refine jK rfl Tryz.func25 rfl (by simp[nts]) fun ok pl0 w0=> ?_;simp only[nts];refine yf (Q:=fun _ _ _=>False) ?_ (fun _ _ _ h=>by obtain⟨_,_,_,_,_,_,h⟩:=h;exact h.elim);refine vm ?_;simp only[wq.1,seval];refine uu rfl (fn:=Tryz.f25) (q:=53) (caps:=[.lp 1 0,.lp 2 0]) (fx:= .tmp 14) rfl rfl (by simp only[wq.1,seval]) rfl rfl rfl rfl (by simp only[wq.1,seval]) (by simp only[wq.1,seval]) (by simp only[wq.1]) rfl fun dd=> ?_;simp only[nts];obtain⟨ee,hee⟩:∃ee:E,ee={TE with tl:=[dd]}:=⟨_,rfl⟩;have hP:ee.P=P:=by rw[hee];rfl
 have hmix:ee.P.follows .mixedOrders=true:=by rw[hP];exact mixed
 have hT:∀ {g:FuncId} {args:List V} {h:H} {R:AEnd->H->(Nat->Bool)->Prop},ag TE g args h R->ag ee g args h R:=fun hc=>by rw[hee];exact hc.tl _
 rw[<-hee];obtain⟨QP,eQP⟩:∃QP:XE->Fr->H->Prop,QP=fun xe f' h'=>f'.d=[]/\V.drops f'.k [V.lp 1 0,V.lp 2 0]=[V.lp 1 0,V.lp 2 0]/\(match xe with
  | .pan v=>jf TE 53 [V.lp 1 0,V.lp 2 0] v h' fun h'' p=>kT TE.P Tryz.f25.results.toList (fun v h k=>az TE h v (.tup [vi (lJ c).1,.str (lJ c).2])) (f'.drop p) h''
  | .ret=>iC TE 53 [V.lp 1 0,V.lp 2 0] h' fun h'' p=>kT TE.P Tryz.f25.results.toList (fun v h k=>az TE h v (.tup [vi (lJ c).1,.str (lJ c).2])) (f'.drop p) h''
  |_=>False):=⟨_,rfl⟩
 refine bg (Q:=QP) (fun xe f' h' hq=>by rw[eQP]at hq;exact hq) ?_;have hkd:∀ {k:Nat->Bool},(∀j,j<3->k j=false)->V.drops k [V.lp 1 0,V.lp 2 0]=[V.lp 1 0,V.lp 2 0]:=fun {k} h=>by
  have z1:=h 1 (by decide);have z2:=h 2 (by decide);simp only[V.drops,V.drop,z1,z2,if_false,zrm]
 have hpan:∀ {e:Int} {s:S} {f':Fr} {a:O} {d1 d2:V} {G:H},lJ c=(e,s)->f'.d=[]->(∀j,j<3->f'.k j=false)->f'.t 2= .lp 1 0->f'.t 3= .lp 2 0->QP (.pan (wY e s)) f' (a:: .cells [d1]:: .cells [d2]::G):=by intro e s f' a d1 d2 G hp hd hk t2 t3;rw[eQP];refine⟨hd,hkd hk,?_⟩;refine Df e s fun X=> ?_;rw[hp];simp only[Tryz.results25,nts];simp only[wq.1,↓reduceIte,hd,t2,t3];exact az.dat rfl
 have hret:∀ {f':Fr} {a:O} {G:H},lJ c=(0,[])->f'.d=[]->(∀j,j<3->f'.k j=false)->f'.t 2= .lp 1 0->f'.t 3= .lp 2 0->QP .ret f' (a:: .cells [vi 0]:: .cells [.str []]::G):=by intro f' a G hp hd hk t2 t3;rw[eQP];refine⟨hd,hkd hk,?_⟩;refine Dc fun X=> ?_;rw[hp];simp only[Tryz.results25,nts];simp only[wq.1,↓reduceIte,hd,t2,t3];exact az.dat rfl
 clear eQP;obtain⟨BX,hBX⟩:∃BX:O,BX= .cells [aW c.ins,aW c.outs,vM c.lat,jD c.gates]:=⟨_,rfl⟩;have hBd:∀p,BX.drop p=BX:=fun p=>by rw[hBX];rfl
 refine au (bD hmix _ _ _ _ ?_);simp only[wq.1,seval,hP];have w1:IntKind.i64.wrap ((c.ins.length:Int)+c.lat.length)=((c.ins.length+c.lat.length:Nat):Int):=by rw[gG (by omega) (by omega)];omega
 have w2:IntKind.i64.wrap (((c.ins.length+c.lat.length:Nat):Int)+c.gates.length)=((c.ins.length+c.lat.length+c.gates.length:Nat):Int):=by rw[gG (by omega) (by omega)];omega
 have eA:decide (((c.ins.length+c.lat.length+c.gates.length:Nat):Int)<=200)=decide (c.ins.length+c.lat.length+c.gates.length<=200):=decide_eq_decide.2 (by omega);have eB:decide ((c.outs.length:Int)<=200)=decide (c.outs.length<=200):=decide_eq_decide.2 (by omega);have hct:=Pz c.gates 54 [] zT rfl rfl fun g _=>FX g;have n0:Oh c=false->lJ c=(8,[]):=fun h=>by unfold lJ;rw[if_pos h]
 have hEv:∀ {g:FuncId} {args:List V} {r:V},Ev TE g args r->Ev ee g args r:=fun hv=>by rw[hee];exact fun ok w vs hs hl=>hv ok w vs (hs.tl TE.tl) hl
 have e39:((decide (c.ins.length+c.lat.length+c.gates.length<=200)&&decide (c.outs.length<=200))&& !(c.gates.any zT))=Oh c:=by unfold Oh;rw[Bool.and_assoc]
 refine au (bD hmix _ _ _ _ ?_);simp only[wq.1,seval,hP,w1,w2,eA,eB];refine zf.ev (q:=56) (vs:=[jD c.gates,.fn (.func 54) [] []]) (by simp only[wq.1,seval]) (by simp only[wq.1,seval]) (by rw[hP];rfl) (fun _=>hEv hct) (fun _=>by simp only[V.dats,V.dat,yC,zre]) ?_;simp only[wq.1,seval,hP,e39];rw[<-hBX];refine hT (gI (Oh c) 8 [] (fun hl=> ?_) (fun hl=> ?_))
 ·have hL:=Ti hl;obtain⟨tl1,tl2,tl3⟩:=Nj hL;have n1:∀s,(iW c).find? (fun s=> !bz s)=some s->lJ c=(4,s):=fun s h=>by unfold lJ;rw[if_neg (by rw[hl];decide),h]
  have htd:=PU c hL;have hnt:=PX c hL;have hus:=PY c hL;have hcd:=rq c;simp only[wq.1]
  -- names
  refine au (bg (Q:=fun xe f h=>(xe= .normal/\(∀s∈iW c,bz s=true)/\f.t 1= .lp 0 0/\f.t 2= .lp 1 0/\f.t 3= .lp 2 0/\f.d=[]/\(∀j,j<3->f.k j=false)/\h=[BX,.cells [vi 0],.cells [.str []]])\/(∃v,xe= .pan v/\QP (.pan v) f h)) ?_ ?_)
  ·rintro xe f h (⟨rfl,hnm,t1,t2,t3,hd,hk,rfl⟩|⟨v,rfl,hq⟩)
   rotate_left
   ·exact hq
   show awp _ _ _ _ _ _ _;have n2:(iW c).find? (fun s=> !bz s)=none:=jE fun s hs=>by rw[hnm s hs];rfl
   have n3:∀s,wQ [] (fU c)=some s->lJ c=(5,s):=fun s h=>by unfold lJ;rw[if_neg (by rw[hl];decide),n2];dsimp only;rw[h]
   refine au (bD hmix _ _ _ _ ?_);simp only[wq.1,seval,hP,t1,hBX];rw[<-hBX];refine hT (ag.ev hnt (by simp only[V.dats,Bool.and_true];exact hcd) ?_);simp only[wq.1,seval,hP];refine hT (wZ (by omega) (fun hdn=> ?_) (fun s X hdn=> ?_))
   rotate_left
   ·simp only[wq.1,dJ];simp only[XE.seq];exact hpan (n3 s hdn) (by simp only[wq.1,hd]) (fun j hj=>by simp only[wq.1,hk j hj]) (by simp only[wq.1,seval,t2]) (by simp only[wq.1,seval,t3])
   have n4:∀s,wQ [] c.outs=some s->lJ c=(5,s):=fun s h=>by unfold lJ;rw[if_neg (by rw[hl];decide),n2];dsimp only;rw[hdn];dsimp only;rw[h]
   simp only[wq.1,seval,hP];refine au (bD hmix _ _ _ _ ?_);simp only[wq.1,seval,hP,t1,hBX];rw[<-hBX];refine hT (wZ (by have:=hL.outs;omega) (fun hdo=> ?_) (fun s X hdo=> ?_))
   rotate_left
   ·simp only[wq.1,dJ];simp only[XE.seq];exact hpan (n4 s hdo) (by simp only[wq.1,hd]) (fun j hj=>by simp only[wq.1,hk j hj]) (by simp only[wq.1,seval,t2]) (by simp only[wq.1,seval,t3])
   have n5:∀q,c.lat.find? (fun q=> !o9 q)=some q->lJ c=(1,q.name):=fun q h=>by unfold lJ;rw[if_neg (by rw[hl];decide),n2];dsimp only;rw[hdn];dsimp only;rw[hdo];dsimp only;rw[h]
   simp only[wq.1,Nat.reduceAdd];obtain⟨N,hN⟩:∃N:O,N=Ry (fU c):=⟨_,rfl⟩;have hNd:∀p,N.drop p=N:=fun p=>by
    rw[hN];show O.map (V.drops p _) (V.drops p _)=_;rw[aA,kF]
   have hcl:∀p,([BX,.cells [vi 0],.cells [.str []],N]:H).map (O.drop p)=[BX,.cells [vi 0],.cells [.str []],N]:=fun p=>by show [BX.drop p,_,_,N.drop p]=_;rw[hBd,hNd];rfl
   have t1':f.t 1= .lp 0 0:=t1;rw[<-hN];refine Iu (fun f'=>f'.t 1= .lp 0 0/\f'.t 2= .lp 1 0/\f'.t 3= .lp 2 0/\f'.t 7= .lm 3/\f'.d=[]/\(∀j,j<3->f'.k j=false)) _ (fun hq=>hq _ ⟨by simp only[wq.1,seval,t1],by simp only[wq.1,seval,t2],by simp only[wq.1,seval,t3],by simp only[wq.1,seval],by simp only[wq.1,hd],fun j hj=>by simp only[wq.1,hk j hj]⟩) ?_;clear t1 t2 t3 hd hk t1' f;rintro f ⟨t1,t2,t3,t7,hd,hk⟩;refine au (bg (Q:=fun xe f h=>(xe= .normal/\(∀x∈c.lat,o9 x=true)/\f.t 1= .lp 0 0/\f.t 2= .lp 1 0/\f.t 3= .lp 2 0/\f.t 7= .lm 3/\f.d=[]/\(∀j,j<3->f.k j=false)/\∃X,h=[BX,.cells [vi 0],.cells [.str []],N]++X)\/(∃v,xe= .pan v/\QP (.pan v) f h)) ?_ ?_)
   ·rintro xe f h (⟨rfl,hla,t1,t2,t3,t7,hd,hk,X,rfl⟩|⟨v,rfl,hq⟩)
    rotate_left
    ·exact hq
    show awp _ _ _ _ _ _ _;have n5':c.lat.find? (fun q=> !o9 q)=none:=jE fun x hx=>by rw[hla x hx];rfl
    have n6:∀g,c.gates.find? (fun g=> !fK g)=some g->lJ c=(1,g.name):=fun g h=>by unfold lJ;rw[if_neg (by rw[hl];decide),n2];dsimp only;rw[hdn];dsimp only;rw[hdo];dsimp only;rw[n5'];dsimp only;rw[h]
    refine au (bg (Q:=fun xe f h=>(xe= .normal/\(∀x∈c.gates,fK x=true)/\f.t 1= .lp 0 0/\f.t 2= .lp 1 0/\f.t 3= .lp 2 0/\f.t 7= .lm 3/\f.d=[]/\(∀j,j<3->f.k j=false)/\∃X,h=[BX,.cells [vi 0],.cells [.str []],N]++X)\/(∃v,xe= .pan v/\QP (.pan v) f h)) ?_ ?_)
    ·rintro xe f h (⟨rfl,hga,t1,t2,t3,t7,hd,hk,X,rfl⟩|⟨v,rfl,hq⟩)
     rotate_left
     ·exact hq
     show awp _ _ _ _ _ _ _;have n6':c.gates.find? (fun g=> !fK g)=none:=jE fun x hx=>by rw[hga x hx];rfl
     have n7:∀s,(gq c).find? (fun s=> !(fU c).contains s)=some s->lJ c=(6,s):=fun s h=>by unfold lJ;rw[if_neg (by rw[hl];decide),n2];dsimp only;rw[hdn];dsimp only;rw[hdo];dsimp only;rw[n5'];dsimp only;rw[n6'];dsimp only;rw[h]
     refine au (bg (Q:=fun xe f h=>(xe= .normal/\(∀x∈gq c,(fU c).contains x=true)/\f.t 1= .lp 0 0/\f.t 2= .lp 1 0/\f.t 3= .lp 2 0/\f.t 7= .lm 3/\f.d=[]/\(∀j,j<3->f.k j=false)/\∃X,h=[BX,.cells [vi 0],.cells [.str []],N]++X)\/(∃v,xe= .pan v/\QP (.pan v) f h)) ?_ ?_)
     ·rintro xe f h (⟨rfl,husd,t1,t2,t3,t7,hd,hk,X,rfl⟩|⟨v,rfl,hq⟩)
      rotate_left
      ·exact hq
      show awp _ _ _ _ _ _ _;have n7':(gq c).find? (fun s=> !(fU c).contains s)=none:=jE fun x hx=>by rw[husd x hx];rfl
      have n8:(gq c).find? (fun s=> !(fU c).contains s)=none->lJ c=(0,[]):=fun h=>by unfold lJ;rw[if_neg (by rw[hl];decide),n2];dsimp only;rw[hdn];dsimp only;rw[hdo];dsimp only;rw[n5'];dsimp only;rw[n6'];dsimp only;rw[h]
      refine bD hmix _ _ _ _ ?_;simp only[wq.1,seval,hP,t2,t3];exact hret (n8 n7') (by simp only[wq.1,hd]) (fun j hj=>by simp only[wq.1,hk j hj]) (by simp only[wq.1,t2]) (by simp only[wq.1,t3])
     ·refine au (bD hmix _ _ _ _ ?_);simp only[wq.1,seval,hP,t1,hBX];rw[<-hBX];refine hT (ag.ev hus (by simp only[V.dats,Bool.and_true];exact hcd) ?_);simp only[wq.1,seval,hP];refine aH ?_;refine aK (fun m f h=>∃i:Nat,m+i=(gq c).length/\i<=(gq c).length/\(∀x∈(gq c).take i,(fU c).contains x=true)/\f.t 92=aW (gq c)/\f.t 93=vi (gq c).length/\f.t 94=vi i/\f.t 1= .lp 0 0/\f.t 2= .lp 1 0/\f.t 3= .lp 2 0/\f.t 7= .lm 3/\f.d=[]/\(∀j,j<3->f.k j=false)/\∃X,h=[BX,.cells [vi 0],.cells [.str []],N]++X) (gq c).length ⟨0,by omega,by omega,(fun x hx=>by simp at hx),by simp only[wq.1,seval],by simp only[wq.1,seval],by simp only[wq.1,↓reduceIte];rfl,by simp only[wq.1,seval,t1],by simp only[wq.1,seval,t2],by simp only[wq.1,seval,t3],by simp only[wq.1,seval,t7],by simp only[wq.1,hd],fun j hj=>by simp only[wq.1,hk j hj],_,rfl⟩ ?_;clear t1 t2 t3 t7 hd hk;rintro m f h ⟨i,hm,hil,hall,tA,tB,tC,t1,t2,t3,t7,hd,hk,X,rfl⟩;refine dP (h0:=[BX,.cells [vi 0],.cells [.str []],N]) (by rw[hd];simp) ?_;rw[hcl];obtain⟨f',hf'⟩:∃f',f'=f.drop (Abs.dV ([BX,.cells [vi 0],.cells [.str []],N]:H).length):=⟨_,rfl⟩;have u1:f'.t 1= .lp 0 0:=by rw[hf'];show(f.t 1).drop _=_;rw[t1];rfl
      have u2:f'.t 2= .lp 1 0:=by rw[hf'];show(f.t 2).drop _=_;rw[t2];rfl
      have u3:f'.t 3= .lp 2 0:=by rw[hf'];show(f.t 3).drop _=_;rw[t3];rfl
      have u7:f'.t 7= .lm 3:=by rw[hf'];show(f.t 7).drop _=_;rw[t7];rfl
      have uA:f'.t 92=aW (gq c):=by rw[hf'];show(f.t 92).drop _=_;rw[tA];rfl
      have uB:f'.t 93=vi (gq c).length:=by rw[hf'];show(f.t 93).drop _=_;rw[tB];rfl
      have uC:f'.t 94=vi i:=by rw[hf'];show(f.t 94).drop _=_;rw[tC];rfl
      have ud:f'.d=[]:=by rw[hf'];exact hd
      have uk:∀j,j<3->f'.k j=false:=fun j hj=>by rw[hf'];show(f.k j||Abs.dV 4 j)=false;rw[hk j hj];simp[Abs.dV];omega
      rw[<-hf'];clear hf' hd hk t1 t2 t3 t7 tA tB tC X;have hw:=aB (show i<maxLen by omega);refine au (bD hmix _ _ _ _ ?_);simp only[wq.1,Nat.reduceLT,hP,uB,uC];refine au (bD hmix _ _ _ _ ?_);simp only[wq.1,↓reduceIte];refine vcB.mk (fun hlt=> ?_) (fun hlt=> ?_)
      ·have hlt:i<(gq c).length:=by have:=zqs hlt;omega
       have hnext:(fU c).contains (gq c)[i]=true->∀x∈(gq c).take (i+1),(fU c).contains x=true:=fun hb=>cO hlt hall hb;have hbadE:(fU c).contains (gq c)[i]=false->(gq c).find? (fun x=> !(fU c).contains x)=some (gq c)[i]:=fun hb=>ny hlt (fun x hx=>by rw[hall x hx];rfl) (by rw[hb];rfl);simp only[wq.1];obtain⟨s,hs⟩:∃s,s=(gq c)[i]:=⟨_,rfl⟩;have hgg:=Ko hlt .any;rw[<-hs]at hgg hnext hbadE;have hac:=oC (l:=fU c) (s:=s);have hmg:nU .str (.str s) ((fU c).map V.str) (List.replicate (fU c).length (.bool true)) (.bool false) false=(True,.bool ((fU c).contains s)):=by
        rw[<-hac];simp only[nU,dw];cases hat:at? (fU c) s with
        |none=>rfl
        |some n =>
         obtain⟨g1,_⟩:=ru hat;have hg:(List.replicate (fU c).length (V.bool true)).getD n .any= .bool true:=by simp[zqg,g1]
         simp only[hg];rfl
       refine au (bD hmix _ _ _ _ ?_);simp only[wq.1,seval,hP,u7,uA,uC,hgg,hN,K.keyOk,hmg];rw[<-hN];refine⟨⟨by omega,by omega⟩,hT (gI _ 6 _ (fun hb=> ?_) (fun hb=> ?_))⟩
       ·simp only[wq.1];refine bD hmix _ _ _ _ ?_;simp only[wq.1,seval,hP,uC,hw];exact .inl ⟨m-1,by omega,i+1,by omega,by omega,hnext hb,by simp only[wq.1,seval,uA],by simp only[wq.1,seval,uB],by simp only[wq.1,↓reduceIte],by simp only[wq.1,seval,u1],by simp only[wq.1,seval,u2],by simp only[wq.1,seval,u3],by simp only[wq.1,seval,u7],by simp only[wq.1,ud],fun j hj=>by simp only[wq.1,uk j hj],_,rfl⟩
       ·simp only[wq.1,dJ];simp only[XE.seq,XE.block];refine .inr ⟨_,rfl,hpan (n7 _ (hbadE hb)) (by simp only[wq.1,ud]) (fun j hj=>by simp only[wq.1,uk j hj]) (by simp only[wq.1,seval,u2]) (by simp only[wq.1,seval,u3])⟩
      ·have hi:i=(gq c).length:=by have:=of_decide_eq_false hlt;omega
       rw[hi,zrx]at hall;simp only[wq.1,seval]
       first
       |exact .inl ⟨hall,u1,u2,u3,u7,ud,uk,[],rfl⟩
       |exact .inl ⟨hall,u1,u2,u3,u7,ud,uk⟩
    ·refine au (bD hmix _ _ _ _ ?_);simp only[wq.1,seval,hP,t1,hBX];rw[<-hBX];refine aH ?_;refine aK (fun m f h=>∃i:Nat,m+i=c.gates.length/\i<=c.gates.length/\(∀x∈(c.gates).take i,fK x=true)/\f.t 79=jD c.gates/\f.t 80=vi c.gates.length/\f.t 81=vi i/\f.t 1= .lp 0 0/\f.t 2= .lp 1 0/\f.t 3= .lp 2 0/\f.t 7= .lm 3/\f.d=[]/\(∀j,j<3->f.k j=false)/\∃X,h=[BX,.cells [vi 0],.cells [.str []],N]++X) c.gates.length ⟨0,by omega,by omega,(fun x hx=>by simp at hx),by simp only[wq.1,seval],by simp only[wq.1,seval],by simp only[wq.1,↓reduceIte];rfl,by simp only[wq.1,seval,t1],by simp only[wq.1,seval,t2],by simp only[wq.1,seval,t3],by simp only[wq.1,seval,t7],by simp only[wq.1,hd],fun j hj=>by simp only[wq.1,hk j hj],_,rfl⟩ ?_;clear t1 t2 t3 t7 hd hk;rintro m f h ⟨i,hm,hil,hall,tA,tB,tC,t1,t2,t3,t7,hd,hk,X,rfl⟩;refine dP (h0:=[BX,.cells [vi 0],.cells [.str []],N]) (by rw[hd];simp) ?_;rw[hcl];obtain⟨f',hf'⟩:∃f',f'=f.drop (Abs.dV ([BX,.cells [vi 0],.cells [.str []],N]:H).length):=⟨_,rfl⟩;have u1:f'.t 1= .lp 0 0:=by rw[hf'];show(f.t 1).drop _=_;rw[t1];rfl
     have u2:f'.t 2= .lp 1 0:=by rw[hf'];show(f.t 2).drop _=_;rw[t2];rfl
     have u3:f'.t 3= .lp 2 0:=by rw[hf'];show(f.t 3).drop _=_;rw[t3];rfl
     have u7:f'.t 7= .lm 3:=by rw[hf'];show(f.t 7).drop _=_;rw[t7];rfl
     have uA:f'.t 79=jD c.gates:=by rw[hf'];show(f.t 79).drop _=_;rw[tA];rfl
     have uB:f'.t 80=vi c.gates.length:=by rw[hf'];show(f.t 80).drop _=_;rw[tB];rfl
     have uC:f'.t 81=vi i:=by rw[hf'];show(f.t 81).drop _=_;rw[tC];rfl
     have ud:f'.d=[]:=by rw[hf'];exact hd
     have uk:∀j,j<3->f'.k j=false:=fun j hj=>by rw[hf'];show(f.k j||Abs.dV 4 j)=false;rw[hk j hj];simp[Abs.dV];omega
     rw[<-hf'];clear hf' hd hk t1 t2 t3 t7 tA tB tC X;have hw:=aB (show i<maxLen by omega);refine au (bD hmix _ _ _ _ ?_);simp only[wq.1,Nat.reduceLT,hP,uB,uC];refine au (bD hmix _ _ _ _ ?_);simp only[wq.1,↓reduceIte];refine vcB.mk (fun hlt=> ?_) (fun hlt=> ?_)
     ·have hlt:i<c.gates.length:=by have:=zqs hlt;omega
      have hnext:fK (c.gates)[i]=true->∀x∈(c.gates).take (i+1),fK x=true:=fun hb=>cO hlt hall hb;have hbadE:fK (c.gates)[i]=false->(c.gates).find? (fun x=> !fK x)=some (c.gates)[i]:=fun hb=>ny hlt (fun x hx=>by rw[hall x hx];rfl) (by rw[hb];rfl);simp only[wq.1];obtain⟨g,hg⟩:∃g,g=c.gates[i]:=⟨_,rfl⟩;have hgg:=wF hlt .any;rw[<-hg]at hgg hnext hbadE;have hev:=hEv (Es g);refine au (aH ?_);refine au (bD hmix _ _ _ _ ?_);simp only[wq.1,seval,hP,uA,uC,hgg];refine⟨⟨by omega,by omega⟩,?_⟩;refine mZ hmix (by decide +kernel) ?_;simp only[nts,List.size_toArray,zrt,List.length_nil,Nat.reduceAdd,Nat.reduceSub,List.take_succ_cons,List.take_zero];simp only[wq.1,seval,bM,bY,hP];refine BB.mk hev (by rw[hP];rfl) (by simp only[V.dats,V.dat,aJ,zre]) ?_;simp only[wq.1,seval];refine hT (gI _ 1 _ (fun hb=> ?_) (fun hb=> ?_))
      ·simp only[wq.1];refine bD hmix _ _ _ _ ?_;simp only[wq.1,seval,hP,uC,hw];exact .inl ⟨m-1,by omega,i+1,by omega,by omega,hnext hb,by simp only[wq.1,seval,uA],by simp only[wq.1,seval,uB],by simp only[wq.1,↓reduceIte],by simp only[wq.1,seval,u1],by simp only[wq.1,seval,u2],by simp only[wq.1,seval,u3],by simp only[wq.1,seval,u7],by simp only[wq.1,ud],fun j hj=>by simp only[wq.1,uk j hj],_,rfl⟩
      ·simp only[wq.1,dJ];simp only[XE.seq,XE.block];refine .inr ⟨_,rfl,hpan (n6 _ (hbadE hb)) (by simp only[wq.1,ud]) (fun j hj=>by simp only[wq.1,uk j hj]) (by simp only[wq.1,seval,u2]) (by simp only[wq.1,seval,u3])⟩
     ·have hi:i=c.gates.length:=by have:=of_decide_eq_false hlt;omega
      rw[hi,zrx]at hall;simp only[wq.1,seval]
      first
      |exact .inl ⟨hall,u1,u2,u3,u7,ud,uk,[],rfl⟩
      |exact .inl ⟨hall,u1,u2,u3,u7,ud,uk⟩
   ·refine au (bD hmix _ _ _ _ ?_);simp only[wq.1,seval,hP,t1,hBX];rw[<-hBX];refine aH ?_;refine aK (fun m f h=>∃i:Nat,m+i=c.lat.length/\i<=c.lat.length/\(∀x∈(c.lat).take i,o9 x=true)/\f.t 60=vM c.lat/\f.t 61=vi c.lat.length/\f.t 62=vi i/\f.t 1= .lp 0 0/\f.t 2= .lp 1 0/\f.t 3= .lp 2 0/\f.t 7= .lm 3/\f.d=[]/\(∀j,j<3->f.k j=false)/\∃X,h=[BX,.cells [vi 0],.cells [.str []],N]++X) c.lat.length ⟨0,by omega,by omega,(fun x hx=>by simp at hx),by simp only[wq.1,seval],by simp only[wq.1,seval],by simp only[wq.1,↓reduceIte];rfl,by simp only[wq.1,seval,t1],by simp only[wq.1,seval,t2],by simp only[wq.1,seval,t3],by simp only[wq.1,seval,t7],by simp only[wq.1,hd],fun j hj=>by simp only[wq.1,hk j hj],_,rfl⟩ ?_;clear t1 t2 t3 t7 hd hk;rintro m f h ⟨i,hm,hil,hall,tA,tB,tC,t1,t2,t3,t7,hd,hk,X,rfl⟩;refine dP (h0:=[BX,.cells [vi 0],.cells [.str []],N]) (by rw[hd];simp) ?_;rw[hcl];obtain⟨f',hf'⟩:∃f',f'=f.drop (Abs.dV ([BX,.cells [vi 0],.cells [.str []],N]:H).length):=⟨_,rfl⟩;have u1:f'.t 1= .lp 0 0:=by rw[hf'];show(f.t 1).drop _=_;rw[t1];rfl
    have u2:f'.t 2= .lp 1 0:=by rw[hf'];show(f.t 2).drop _=_;rw[t2];rfl
    have u3:f'.t 3= .lp 2 0:=by rw[hf'];show(f.t 3).drop _=_;rw[t3];rfl
    have u7:f'.t 7= .lm 3:=by rw[hf'];show(f.t 7).drop _=_;rw[t7];rfl
    have uA:f'.t 60=vM c.lat:=by rw[hf'];show(f.t 60).drop _=_;rw[tA];rfl
    have uB:f'.t 61=vi c.lat.length:=by rw[hf'];show(f.t 61).drop _=_;rw[tB];rfl
    have uC:f'.t 62=vi i:=by rw[hf'];show(f.t 62).drop _=_;rw[tC];rfl
    have ud:f'.d=[]:=by rw[hf'];exact hd
    have uk:∀j,j<3->f'.k j=false:=fun j hj=>by rw[hf'];show(f.k j||Abs.dV 4 j)=false;rw[hk j hj];simp[Abs.dV];omega
    rw[<-hf'];clear hf' hd hk t1 t2 t3 t7 tA tB tC X;have hw:=aB (show i<maxLen by omega);refine au (bD hmix _ _ _ _ ?_);simp only[wq.1,Nat.reduceLT,hP,uB,uC];refine au (bD hmix _ _ _ _ ?_);simp only[wq.1,↓reduceIte];refine vcB.mk (fun hlt=> ?_) (fun hlt=> ?_)
    ·have hlt:i<c.lat.length:=by have:=zqs hlt;omega
     have hnext:o9 (c.lat)[i]=true->∀x∈(c.lat).take (i+1),o9 x=true:=fun hb=>cO hlt hall hb;have hbadE:o9 (c.lat)[i]=false->(c.lat).find? (fun x=> !o9 x)=some (c.lat)[i]:=fun hb=>ny hlt (fun x hx=>by rw[hall x hx];rfl) (by rw[hb];rfl);simp only[wq.1];obtain⟨q,hq⟩:∃q,q=c.lat[i]:=⟨_,rfl⟩;have hgg:=Jg hlt .any;rw[<-hq]at hgg hnext hbadE;have eI:(decide (0<=q.init)&&decide (q.init<=2))=o9 q:=rfl;refine au (bD hmix _ _ _ _ ?_);simp only[wq.1,seval,hP,uA,uC,hgg,eI];refine⟨⟨by omega,by omega⟩,hT (gI _ 1 _ (fun hb=> ?_) (fun hb=> ?_))⟩
     ·simp only[wq.1];refine bD hmix _ _ _ _ ?_;simp only[wq.1,seval,hP,uC,hw];exact .inl ⟨m-1,by omega,i+1,by omega,by omega,hnext hb,by simp only[wq.1,seval,uA],by simp only[wq.1,seval,uB],by simp only[wq.1,↓reduceIte],by simp only[wq.1,seval,u1],by simp only[wq.1,seval,u2],by simp only[wq.1,seval,u3],by simp only[wq.1,seval,u7],by simp only[wq.1,ud],fun j hj=>by simp only[wq.1,uk j hj],_,rfl⟩
     ·simp only[wq.1,dJ];simp only[XE.seq,XE.block];refine .inr ⟨_,rfl,hpan (n5 _ (hbadE hb)) (by simp only[wq.1,ud]) (fun j hj=>by simp only[wq.1,uk j hj]) (by simp only[wq.1,seval,u2]) (by simp only[wq.1,seval,u3])⟩
    ·have hi:i=c.lat.length:=by have:=of_decide_eq_false hlt;omega
     rw[hi,zrx]at hall;simp only[wq.1,seval]
     first
     |exact .inl ⟨hall,u1,u2,u3,u7,ud,uk,[],rfl⟩
     |exact .inl ⟨hall,u1,u2,u3,u7,ud,uk⟩
  ·refine au (bD hmix _ _ _ _ ?_);simp only[wq.1,seval,hP,hBX];rw[<-hBX];refine hT (ag.ev htd (by simp only[V.dats,Bool.and_true];exact hcd) ?_);simp only[wq.1,seval,hP];refine aH ?_;refine aK (fun m f h=>∃i:Nat,m+i=(iW c).length/\i<=(iW c).length/\(∀x∈(iW c).take i,bz x=true)/\f.t 42=aW (iW c)/\f.t 43=vi (iW c).length/\f.t 44=vi i/\f.t 1= .lp 0 0/\f.t 2= .lp 1 0/\f.t 3= .lp 2 0/\f.d=[]/\(∀j,j<3->f.k j=false)/\h=[BX,.cells [vi 0],.cells [.str []]]) (iW c).length ⟨0,by omega,by omega,(fun x hx=>by simp at hx),by simp only[wq.1,seval],by simp only[wq.1,seval],by simp only[wq.1,↓reduceIte];rfl,by simp only[wq.1,seval],by simp only[wq.1,seval],by simp only[wq.1,seval],by simp only[wq.1],fun j hj=>by simp only[wq.1],rfl⟩ ?_;rintro m f h ⟨i,hm,hil,hall,uA,uB,uC,u1,u2,u3,ud,uk,rfl⟩;have hw:=aB (show i<maxLen by omega);refine au (bD hmix _ _ _ _ ?_);simp only[wq.1,Nat.reduceLT,hP,uB,uC];refine au (bD hmix _ _ _ _ ?_);simp only[wq.1,↓reduceIte];refine vcB.mk (fun hlt=> ?_) (fun hlt=> ?_)
   ·have hlt:i<(iW c).length:=by have:=zqs hlt;omega
    have hin:=sH (iW c)[i];simp only[wq.1];refine au (bD hmix _ _ _ _ ?_);simp only[wq.1,seval,hP,uA,uC,Ko hlt];refine⟨⟨by omega,by omega⟩,hT (ag.ev hin rfl ?_)⟩;simp only[wq.1,seval,hP];refine hT (gI _ 4 _ (fun hb=> ?_) (fun hb=> ?_))
    ·simp only[wq.1];refine bD hmix _ _ _ _ ?_;simp only[wq.1,seval,hP,uC,hw];exact .inl ⟨m-1,by omega,i+1,by omega,by omega,cO hlt hall hb,by simp only[wq.1,seval,uA],by simp only[wq.1,seval,uB],by simp only[wq.1,↓reduceIte],by simp only[wq.1,seval,u1],by simp only[wq.1,seval,u2],by simp only[wq.1,seval,u3],by simp only[wq.1,ud],fun j hj=>by simp only[wq.1,uk j hj],rfl⟩
    ·simp only[wq.1,dJ];simp only[XE.seq,XE.block];refine .inr ⟨_,rfl,hpan (n1 _ (ny hlt (fun x hx=>by rw[hall x hx];rfl) (by rw[hb];rfl))) (by simp only[wq.1,ud]) (fun j hj=>by simp only[wq.1,uk j hj]) (by simp only[wq.1,seval,u2]) (by simp only[wq.1,seval,u3])⟩
   ·have hi:i=(iW c).length:=by have:=of_decide_eq_false hlt;omega
    rw[hi,zrx]at hall;simp only[wq.1,seval];exact .inl ⟨hall,u1,u2,u3,ud,uk⟩
 ·simp only[wq.1,dJ];simp only[XE.seq];exact hpan (n0 hl) (by simp only[wq.1]) (fun j hj=>by simp only[wq.1]) (by simp only[wq.1,seval]) (by simp only[wq.1,seval])
end Go.Proofs.YtokppohljajhjaaGreatDoor
