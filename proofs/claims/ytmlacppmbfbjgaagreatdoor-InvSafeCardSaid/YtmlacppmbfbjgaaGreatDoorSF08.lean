/- Lemmas for this claim, part F08: each holds under what it names. -/
import Derived.Test.YtmlacppmbfbjgaaGreatDoorSF07
import Derived.Test.YtmlacppmbfbjgaaGreatDoorSA7
import Derived.Test.YtmlacppmbfbjgaaGreatDoorSA8
set_option linter.unusedVariables false
set_option linter.unusedSimpArgs false
set_option linter.unnecessarySimpa false
set_option maxRecDepth 20000
set_option maxHeartbeats 8000000
namespace Go.Proofs.YtmlacppmbfbjgaaGreatDoor
open Go Go.Proofs Go.Abs
def Vs (n:Int):Bool:=decide (n≤32)||decide (126<n)
theorem Vt (n:Int):Ev TE 103 [.int .i32 n] (.bool (Vs n)):=by refine ak Tryz.func103 rfl (by simp[nts]) (vm ?_);simp only[wq.1,seval,Tryz.results103];exact aQ rfl rfl
theorem MC {s:S} {i:Nat} (h:i<s.length) (hb:s[i].toNat<128):FD s i=(s[i].toNat,1):=by
 unfold FD Utf8.decode;have:((ByteArray.mk s.toArray).get! (i+0)).toNat=s[i].toNat:=by
  simp[ByteArray.get!,h]
 simp only[this];rw[if_pos hb]
theorem PO {s:S} {i:Nat} (h:i<s.length) (hb:¬s[i].toNat<128):128≤(FD s i).1:=by
 unfold FD Utf8.decode;have:((ByteArray.mk s.toArray).get! (i+0)).toNat=s[i].toNat:=by
  simp[ByteArray.get!,h]
 simp only[this];rw[if_neg hb]
 repeat' split
 all_goals first
  | (simp[Utf8.runeError];done)
  | (rename_i hc;simp only[zqf,zqb,ge_iff_le]at hc;dsimp only;omega)
  | (rename_i hc;simp only[ge_iff_le]at hc;dsimp only;omega)
theorem PP {s:S} {i:Nat} (h:i<s.length):Vs (FD s i).1= !jD s[i]:=by
 by_cases hb:s[i].toNat<128
 ·rw[MC h hb];refine Bool.eq_iff_iff.2 ?_;simp only[Vs,jD,Bool.or_eq_true,zqb,Bool.not_eq_true',Bool.and_eq_false_iff,zqd];omega
 ·have := PO h hb;have h1 : Vs (FD s i).1 = true := by simp only [Vs,Bool.or_eq_true,zqb];omega
  have h2:jD s[i]=false:=by simp only[jD,Bool.and_eq_false_iff,zqd];omega
  rw[h1,h2];rfl
def IZ (s:S):Option Nat:=s.findIdx? fun c=> !jD c
def QZ (s:S):Int:=match IZ s with | some i=>i | none=>-1
theorem MF {s:S} {i:Nat} (h:i<s.length) (hn:∀x∈s.take i,jD x=true) (hb:jD s[i]=false):QZ s=i:=by
 have:IZ s=some i:=by
  unfold IZ;rw[List.findIdx?_eq_some_iff_getElem];refine⟨h,by simp[hb],fun j hj=> ?_⟩;have:s[j]∈s.take i:=by
   rw[List.mem_take_iff_getElem];exact⟨j,by omega,rfl⟩
  simp[hn _ this]
 simp[QZ,this]
theorem Ci {s:S} (hn:∀x∈s,jD x=true):QZ s=-1:=by
 have:IZ s=none:=by unfold IZ;rw[List.findIdx?_eq_none_iff];simpa using hn
 simp[QZ,this]
theorem Vu (s:S):Ev TE 133 [.str s,.fn (.func 103) [] [],.bool true] (.int .i64 (QZ s)):=by
 refine Ev.bnd fun hb=> ?_;have hlen:s.length≤maxLen:=hb.1;refine ak Tryz.func133 rfl (by simp[nts]) (vm ?_);simp only[wq.1,seval,Tryz.results133];refine aC (fun m f h=>∃i,m+i=s.length∧f.t 1= .fn (.func 103) [] []∧f.t 2= .bool true∧f.t 10= .lp 0 0∧f.d=[]∧h=[.misc (.siter s i)]∧∀x∈s.take i,jD x=true) s.length ⟨0,by simp,rfl,rfl,rfl,rfl,rfl,by simp⟩ ?_;rintro m f h ⟨i,hm,h1,h2,h10,hd,rfl,hall⟩;refine vm ?_;simp only[wq.1,seval,h10];refine nY.mk (fun hc=> ?_) (fun hc=> ?_)
 ·simp only [zqb] at hc;simp only [wq.1,seval,h1,nY];refine ah.ev (Vt _) rfl ?_;rw [PP hc];simp only [wq.1,seval,h2];refine vcB.mk (fun hc' => ?_) (fun hc' => ?_)
  ·have hb : jD s[i] = false := by simpa using hc'
   simp only[wq.1,seval,hd];rw[MF hc hall hb];exact az.dat rfl
  ·have hb : jD s[i] = true := by simpa using hc'
   have h128:s[i].toNat<128:=by simp only[jD,zqf,zqb]at hb;omega
   simp only[wq.1,Int.reduceNeg];exact .inl ⟨m-1,by omega,i+1,by omega,h1,h2,h10,hd,by rw[MC hc h128],bF hc hall hb⟩
 ·simp only[zqd]at hc;simp only[wq.1,seval,hd,nY];rw[zqh (by omega)]at hall;rw[Ci hall];exact az.dat rfl
theorem Vw (s:S):Ev TE 104 [.str s,.fn (.func 103) [] []] (.int .i64 (QZ s)):=by refine ak Tryz.func104 rfl (by simp[nts]) (vm ?_);simp only[wq.1,seval,Tryz.results104];refine ah.ev (Vu s) rfl ?_;simp only[wq.1,seval];exact az.dat rfl
theorem PQ (s:S):decide (QZ s<0)=s.all jD:=by
 cases h:s.all jD with
 | true=>rw[Ci (by simpa using h)];rfl
 | false =>
  have:∃x∈s,jD x=false:=by simpa using h
  cases hb:IZ s with
  | none=>obtain⟨x,hx,hx2⟩:=this;have:=(List.findIdx?_eq_none_iff.1 hb) x hx;simp[hx2]at this
  | some i=>simp[QZ,hb]
theorem PR (s:S):Ev TE 69 [.str s] (.bool (bK s)):=by
 refine ak Tryz.func69 rfl (by simp[nts]) (vm ?_);simp only[wq.1,seval,Tryz.results69];refine DN.ev (q:=104) (vs:=[.str s,.fn (.func 103) [] []]) (by simp only[wq.1,seval]) (by simp only[wq.1,seval]) rfl (fun _=>Vw s) (fun _=>rfl) ?_;simp only[wq.1,seval];refine aQ rfl ?_;rw[PQ];unfold bK
 congr 1
 have h1:(!s==[])=decide (1≤s.length):=by cases s<;>simp
 have h2:decide ((s.length:Int)≤40)=decide (s.length≤40):=decide_eq_decide.2 (by omega);rw[h1,h2,Bool.and_comm]
theorem uC (s:S):Ev TE 37 [.str s] (.bool (bK s)):=by refine ak Tryz.func37 rfl (by simp[nts]) (vm ?_);simp only[wq.1,seval,Tryz.results37];refine ah.ev (PR s) rfl ?_;simp only[wq.1,seval];exact az.dat rfl
theorem Tj (s:S):Ev TE 54 [.str s] (.bool (!bK s)):=by refine ak Tryz.func54 rfl (by simp[nts]) (vm ?_);simp only[wq.1,seval,Tryz.results54];refine ah.ev (uC s) rfl ?_;simp only[wq.1,seval];exact az.dat rfl
def EP (l:List S):Int:=match l.findIdx? fun s=> !bK s with | some i=>i | none=>-1
theorem I4 {l:List S} {i:Nat} (h:i<l.length) (hn:∀x∈l.take i,bK x=true) (hb:bK l[i]=false):EP l=i:=by
 have:l.findIdx? (fun s=> !bK s)=some i:=by
  rw[List.findIdx?_eq_some_iff_getElem];refine⟨h,by simp[hb],fun j hj=> ?_⟩;have:l[j]∈l.take i:=by
   rw[List.mem_take_iff_getElem];exact⟨j,by omega,rfl⟩
  simp[hn _ this]
 simp[EP,this]
theorem yt {l:List S} (hn:∀x∈l,bK x=true):EP l=-1:=by
 have:l.findIdx? (fun s=> !bK s)=none:=by rw[List.findIdx?_eq_none_iff];simpa using hn
 simp[EP,this]
theorem MG (l:List S):decide (0≤EP l)= !(l.all bK):=by
 cases h:l.all bK with
 | true=>rw[yt (by simpa using h)];rfl
 | false =>
  have:∃x∈l,bK x=false:=by simpa using h
  unfold EP;cases hb:l.findIdx? (fun s=> !bK s)with
  | none=>obtain⟨x,hx,hx2⟩:=this;have:=(List.findIdx?_eq_none_iff.1 hb) x hx;simp[hx2]at this
  | some i=>simp
theorem Tm (l:List S):Ev TE 91 [dE l,.fn (.func 54) [] []] (.int .i64 (EP l)):=by
 refine Ev.bnd fun hb=> ?_;have hlen:=oM hb;refine ak Tryz.func91 rfl (by simp[nts]) (vm ?_);simp only[wq.1,seval,Tryz.results91];refine aC (fun m f h=>∃i,m+i=l.length∧f.t 0=dE l∧f.t 1= .fn (.func 54) [] []∧f.t 7= .int .i64 (l.length:Int)∧f.t 8= .int .i64 (i:Int)∧f.d=[]∧∀x∈l.take i,bK x=true) l.length ⟨0,by simp,rfl,rfl,rfl,rfl,rfl,by simp⟩ ?_;rintro m f h ⟨i,hm,h0,h1,h7,h8,hd,hall⟩;refine vm ?_;simp only[wq.1,seval,h7,h8];refine vcB.mk (fun hc=> ?_) (fun hc=> ?_)
 ·simp only [zqb,zqi] at hc;simp only [wq.1,seval,h0,h1,h8,IW hc];refine ⟨⟨by omega,by omega⟩,ah.ev (Tj _) rfl ?_⟩;simp only [wq.1,seval];refine vcB.mk (fun hc' => ?_) (fun hc' => ?_)
  ·have hb : bK l[i] = false := by simpa using hc'
   simp only[wq.1,seval,hd];rw[I4 hc hall hb];exact az.dat rfl
  ·have hb : bK l[i] = true := by simpa using hc'
   simp only[wq.1,seval,h8,aA (show i<maxLen by omega)];exact .inl ⟨m-1,by omega,i+1,by omega,h0,h1,h7,rfl,hd,bF hc hall hb⟩
 ·simp only[zqd,zqi]at hc;simp only[wq.1,seval,hd];rw[zqh (by omega)]at hall;rw[yt hall];exact az.dat rfl
theorem Gt (l:List S):Ev TE 55 [dE l,.fn (.func 54) [] []] (.bool (!(l.all bK))):=by refine ak Tryz.func55 rfl (by simp[nts]) (vm ?_);simp only[wq.1,seval,Tryz.results55];refine ah.ev (Tm l) rfl ?_;simp only[wq.1,seval];exact aQ rfl (by rw[MG])
theorem lZ {e:E} {h:H} {id len cap:Nat} {l:List Bool} (hc:h[id]? =some (.cells (l.map V.bool))) (hl:len=l.length):az e h (.ls id 1 0 len cap) (aY l) :=
 az.ls hc (aj.dat (FX l)) (SA l) (Lm l) (by simpa using hl)
theorem qV {e:E} {h:H} {id len cap:Nat} {l:Cl} (hc:h[id]? =some (.cells (l.map vi))) (hl:len=l.length):az e h (.ls id 1 0 len cap) (aF l) :=
 az.ls hc (aj.dat (vT l)) (Lj l) (EC l) (by simpa using hl)
abbrev Pq:=Int×Int
abbrev prV (p:Pq):V:= .agg [vi p.1,vi p.2]
abbrev prs (l:List Pq):V:= .is false 2 (l.map prV)
structure Gr where
 ins:Int
 next:Cl
 init:Cl
 ands:List Pq
 outs:Cl
abbrev Gr.v (g:Gr):V:= .agg [vi g.ins,aF g.next,aF g.init,prs g.ands,aF g.outs]
def Gr.first (g:Gr):Int:=1+g.ins+g.next.length
theorem Vx (c:Cl) (q:FuncId) (caps:List V) (p:Int→Bool) (he:ai P q=true) (hd:V.dats caps=true) (hq:∀x∈c,Ev TE q (vi x::caps) (.bool (p x))):Ev TE 157 [aF c,.fn (.func q) [] caps] (vi (idx c p)):=by
 refine Ev.bnd fun hb=> ?_;have hlen:=zK hb;refine ak Tryz.func157 rfl (by simp[nts]) (vm ?_);simp only[wq.1,seval,Tryz.results157];refine aC (fun m f h=>∃i,m+i=c.length∧f.t 0=aF c∧f.t 1= .fn (.func q) [] caps∧f.t 7= .int .i64 (c.length:Int)∧f.t 8= .int .i64 (i:Int)∧f.d=[]∧∀x∈c.take i,p x=false) c.length ⟨0,by simp,rfl,rfl,rfl,rfl,rfl,by simp⟩ ?_;rintro m f h ⟨i,hm,h0,h1,h7,h8,hdd,hall⟩;refine vm ?_;simp only[wq.1,seval,h7,h8];refine vcB.mk (fun hc=> ?_) (fun hc=> ?_)
 ·simp only [zqb,zqi] at hc;simp only [wq.1,seval,h0,h1,h8,IC hc,he];refine ⟨⟨by omega,by omega⟩,ah.ev (hq _ (zqu _)) (by simp [V.dats,V.dat,hd]) ?_⟩;simp only [wq.1,seval];refine vcB.mk (fun hc' => ?_) (fun hc' => ?_)
  ·simp only[wq.1,seval,hdd];rw[kP hc hall hc'];exact az.dat rfl
  ·simp only[wq.1,seval,h8,aA (show i<maxLen by omega)];exact .inl ⟨m-1,by omega,i+1,by omega,h0,h1,h7,rfl,hdd,bF hc hall hc'⟩
 ·simp only[zqd,zqi]at hc;simp only[wq.1,seval,hdd];rw[zqh (by omega)]at hall;rw[jK hall];exact az.dat rfl
theorem Gu (g:Gr) (h0:-1000000000≤g.ins) (h1:g.ins≤1000000000) (h2:g.next.length≤1000000000):Ev TE 125 [g.v] (vi g.first):=by
 unfold Gr.v Gr.first
 refine ak Tryz.func125 rfl (by simp[nts]) (vm ?_);simp only[wq.1,seval,Tryz.results125];rw[dN (n:=1+g.ins) (by omega) (by omega),dN (by omega) (by omega)];exact az.dat rfl
theorem Gv (c:Cl) (q:FuncId) (caps:List V) (p:Int→Bool) (he:ai P q=true) (hd:V.dats caps=true) (hq:∀x∈c,Ev TE q (vi x::caps) (.bool (p x))):Ev TE 128 [aF c,.fn (.func q) [] caps] (.bool (c.any p)):=by refine ak Tryz.func128 rfl (by simp[nts]) (vm ?_);simp only[wq.1,seval,Tryz.results128];refine ah.ev (Vx c q caps p he hd hq) (by simp[V.dats,V.dat,hd]) ?_;simp only[wq.1,seval];exact aQ rfl (by rw[pU])
def Q3 (all a:Int):Bool:=decide (a<0)||decide (all≤a)
theorem MH (all a:Int):Ev TE 126 [vi a,.ip (vi all)] (.bool (Q3 all a)):=by refine ak Tryz.func126 rfl (by simp[nts]) (vm ?_);simp only[wq.1,seval,Tryz.results126];exact aQ rfl rfl
def Gw (a:Int):Bool:=decide (a<0)||decide (2<a)
theorem Tn (a:Int):Ev TE 127 [vi a] (.bool (Gw a)):=by refine ak Tryz.func127 rfl (by simp[nts]) (vm ?_);simp only[wq.1,seval,Tryz.results127];exact aQ rfl rfl
def Gr.all (g:Gr):Int:=2*(g.first+g.ands.length)
def Xe (own:Int) (p:Pq):Bool:=decide (p.1<0)||decide (p.2<0)||decide (own≤p.1)||decide (own≤p.2)
def Gr.lim (g:Gr):Bool:=decide (g.ins<0)||decide (4000<g.ins)||decide (4000<g.ins+g.next.length+g.ands.length)||decide (4000<(g.outs.length:Int))
def Gr.oddR (g:Gr):Bool:=(g.init.length != g.next.length)||g.init.any Gw||g.next.any (Q3 g.all)||g.outs.any (Q3 g.all)
def Gr.oddAs (g:Gr) (n:Nat):Bool:=(List.range n).any fun i=>Xe (2*(g.first+i)) (g.ands.getD i (0,0))
def Gr.chk (g:Gr):Int:=if g.lim then 8 else if g.oddR then 1 else if g.oddAs g.ands.length then 1 else 0
structure Gr.Sm (g : Gr) : Prop where
 next:g.next.length≤200000000000000
 ands:g.ands.length≤200000000000000
def Vy:Plan:= .take 2<| .alt 0 (.alt 1 (.alt 3 (.alt 4 (.alt 5 (.alt 6 (.one 7<| .one 8<| .fin) (.one 7 (.one 6<| .one 8<| .fin))) (.one 7 (.one 5<| .one 6<| .one 8<| .fin))) (.one 7 (.one 4<| .one 5<| .one 6<| .one 8<| .fin))) (.one 7 (.one 3<| .one 4<| .one 5<| .one 6<| .one 8<| .fin))) (.alt 3 (.alt 1 (.alt 4 (.alt 5 (.alt 6 (.one 7<| .one 8<| .fin) (.one 7 (.one 6<| .one 8<| .fin))) (.one 7 (.one 5<| .one 6<| .one 8<| .fin))) (.one 7 (.one 4<| .one 5<| .one 6<| .one 8<| .fin))) (.alt 4 (.alt 1 (.alt 5 (.alt 6 (.one 7<| .one 8<| .fin) (.one 7 (.one 6<| .one 8<| .fin))) (.one 7 (.one 5<| .one 6<| .one 8<| .fin))) (.one 7 (.one 1<| .one 5<| .one 6<| .one 8<| .fin))) (.one 7 (.alt 1 (.one 4<| .one 5<| .one 6<| .one 8<| .fin) (.one 4 (.one 1<| .one 5<| .one 6<| .one 8<| .fin)))))) (.one 7 (.alt 1 (.one 3<| .one 4<| .one 5<| .one 6<| .one 8<| .fin) (.one 3 (.alt 1 (.one 4<| .one 5<| .one 6<| .one 8<| .fin) (.one 4 (.one 1<| .one 5<| .one 6<| .one 8<| .fin)))))))) (.alt 3 (.alt 0 (.alt 1 (.alt 4 (.alt 5 (.alt 6 (.one 7<| .one 8<| .fin) (.one 7 (.one 6<| .one 8<| .fin))) (.one 7 (.one 5<| .one 6<| .one 8<| .fin))) (.one 7 (.one 4<| .one 5<| .one 6<| .one 8<| .fin))) (.alt 4 (.alt 1 (.alt 5 (.alt 6 (.one 7<| .one 8<| .fin) (.one 7 (.one 6<| .one 8<| .fin))) (.one 7 (.one 5<| .one 6<| .one 8<| .fin))) (.one 7 (.one 1<| .one 5<| .one 6<| .one 8<| .fin))) (.one 7 (.alt 1 (.one 4<| .one 5<| .one 6<| .one 8<| .fin) (.one 4 (.one 1<| .one 5<| .one 6<| .one 8<| .fin)))))) (.alt 4 (.alt 0 (.alt 1 (.alt 5 (.alt 6 (.one 7<| .one 8<| .fin) (.one 7 (.one 6<| .one 8<| .fin))) (.one 7 (.one 5<| .one 6<| .one 8<| .fin))) (.one 7 (.one 1<| .one 5<| .one 6<| .one 8<| .fin))) (.one 7 (.one 0<| .one 1<| .one 5<| .one 6<| .one 8<| .fin))) (.one 7 (.alt 0 (.alt 1 (.one 4<| .one 5<| .one 6<| .one 8<| .fin) (.one 4 (.one 1<| .one 5<| .one 6<| .one 8<| .fin))) (.one 4 (.one 0<| .one 1<| .one 5<| .one 6<| .one 8<| .fin)))))) (.one 7 (.alt 0 (.alt 1 (.one 3<| .one 4<| .one 5<| .one 6<| .one 8<| .fin) (.one 3 (.alt 1 (.one 4<| .one 5<| .one 6<| .one 8<| .fin) (.one 4 (.one 1<| .one 5<| .one 6<| .one 8<| .fin))))) (.one 3 (.alt 0 (.alt 1 (.one 4<| .one 5<| .one 6<| .one 8<| .fin) (.one 4 (.one 1<| .one 5<| .one 6<| .one 8<| .fin))) (.one 4 (.one 0<| .one 1<| .one 5<| .one 6<| .one 8<| .fin)))))))
theorem sK (g:Gr) (hs:g.Sm):Ev TE 89 [g.v] (vi g.chk):=by
 obtain⟨hs1,hs2⟩:=hs;unfold Gr.v;refine ak Tryz.func89 rfl (by simp[nts]) (vm ?_);simp only[wq.1,seval,Tryz.results89];have hins:g.lim=false→0≤g.ins∧g.ins≤4000∧g.ins+g.next.length+g.ands.length≤4000∧(g.outs.length:Int)≤4000:=by intro h;simp only[Gr.lim,Bool.or_eq_false_iff,zqd]at h;omega
 have hl:(decide (g.ins<0)||decide (4000<g.ins)||decide (4000<IntKind.i64.wrap (IntKind.i64.wrap (g.ins+(g.next.length:Int))+(g.ands.length:Int)))||decide (4000<(g.outs.length:Int)))=g.lim:=by
  unfold Gr.lim;by_cases a1:g.ins<0
  ·simp[a1]
  by_cases a2:4000<g.ins
  ·simp[a2]
  rw[dN (n:=g.ins+(g.next.length:Int)) (by omega) (by omega),dN (by omega) (by omega)]
 rw[hl];refine vcB.mk (fun hc=> ?_) (fun hc=> ?_)
 ·simp only[wq.1,seval];exact aQ rfl (by unfold Gr.chk;rw[if_pos hc])
 ·obtain ⟨i0,i1,i2,i3⟩ := hins hc;simp only [wq.1];refine cu mixed Vy (fun f' h' => f'.t 1 = .lp 0 0 ∧ f'.t 3 = .lp 1 0 ∧ f'.d = [] ∧ h' = [.cells [vi g.ins,aF g.next,aF g.init,prs g.ands,aF g.outs],.cells [vi g.all]]) (by decide +kernel) (by decide +kernel) ?_ ?_
  ·simp only [wq.1,seval,Vy];have wf : g.first = 1 + g.ins + g.next.length := rfl
   have w1:IntKind.i64.wrap (g.first+(g.ands.length:Int))=g.first+g.ands.length:=dN (by omega) (by omega)
   have w2:IntKind.i64.wrap (2*(g.first+(g.ands.length:Int)))=g.all:=dN (by omega) (by omega);have hfi:=Gu g (by omega) (by omega) (by omega);unfold Gr.v at hfi;have dg:V.dats [.agg [vi g.ins,aF g.next,aF g.init,prs g.ands,aF g.outs]]=true:=by simp only[V.dats,V.dat,zre]
   repeat' apply And.intro
   all_goals (refine ah.ev hfi dg ?_)
   all_goals (simp only[wq.1,seval,w1,w2])
   all_goals (first | exact⟨rfl,rfl,rfl,rfl⟩ | trace_state)
  ·rintro f h ⟨h1,h3,hd,rfl⟩;have hlim : g.lim = false := hc;have fin1 : g.oddR = true → az TE [.cells [vi g.ins,aF g.next,aF g.init,prs g.ands,aF g.outs],.cells [vi g.all]] (vi 1) (vi g.chk) := fun h => aQ rfl (by unfold Gr.chk;rw [hlim,h];rfl);by_cases e : g.init.length = g.next.length
   ·have e1 : ((g.init.length : Int) != (g.next.length : Int)) = false := by simp [e]
    simp only[wq.1,seval,h1,h3,e1];refine ah.ev (Gv g.init 127 [] Gw rfl rfl fun x _=>Tn x) rfl ?_;cases hA:g.init.any Gw with
    | true=>simp only[wq.1,seval,h1];refine⟨.bool true,?_⟩;simp only[wq.1,seval];refine⟨.bool true,?_⟩;simp only[wq.1,seval,hd];exact fin1 (by simp[Gr.oddR,hA])
    | false =>
     simp only[wq.1,seval,h1];have rf:aj TE [.cells [vi g.ins,aF g.next,aF g.init,prs g.ands,aF g.outs],.cells [vi g.all]] [.fn (.func 126) [] [.lp 1 0]] [.fn (.func 126) [] [.ip (vi g.all)]] :=
      aj.cons (az.fn aj.nil (aj.cons (az.lp rfl (aj.dat rfl) rfl rfl (by simp[V.vc]) rfl) aj.nil)) aj.nil
     refine ah.lend (Gv g.next 126 [.ip (vi g.all)] (Q3 g.all) rfl rfl fun x _=>MH g.all x) (aj.cons (az.dat rfl) rf) rfl ?_;cases hB:g.next.any (Q3 g.all)with
     | true=>simp only[wq.1,seval,h1];refine⟨.bool true,?_⟩;simp only[wq.1,seval,hd];exact fin1 (by simp[Gr.oddR,hB])
     | false =>
      simp only[wq.1,seval,h1];refine ah.lend (Gv g.outs 126 [.ip (vi g.all)] (Q3 g.all) rfl rfl fun x _=>MH g.all x) (aj.cons (az.dat rfl) rf) rfl ?_;cases hC:g.outs.any (Q3 g.all)with
      | true=>simp only[wq.1,seval,hd];exact fin1 (by simp[Gr.oddR,hC])
      | false =>
       simp only[wq.1,seval,h1];refine aC (fun m f h=>∃i G,m+i=g.ands.length∧f.t 1= .lp 0 0∧f.t 70=prs g.ands∧f.t 71=vi g.ands.length∧f.t 72=vi i∧f.d=[]∧h=[.cells [vi g.ins,aF g.next,aF g.init,prs g.ands,aF g.outs],.cells [vi g.all]]++G∧g.oddAs i=false) g.ands.length ⟨0,[],by simp,by simp only[wq.1,seval,h1],by simp only[wq.1,seval],by simp only[wq.1,seval],rfl,by simp only[wq.1,hd],by simp,rfl⟩ ?_;rintro m f h ⟨i,G,hm,h1,h70,h71,h72,hd,rfl,hno⟩;refine vm ?_;simp only[wq.1,seval,h71,h72];refine vcB.mk (fun hlt=> ?_) (fun hlt=> ?_)
       ·simp only [zqb,zqi] at hlt;have hg : (g.ands.map prV).getD i .any = prV g.ands[i] := fO hlt _;have hM : maxLen = 9223372036854775807 := rfl;have hgE : ∀ x : O,(G ++ [x])[G.length]? = some x := fun x => by simp
        have hgS:∀x y:O,(G++[x]).set G.length y=G++[y]:=fun x y=>by simp
        have dg:V.dats [.agg [vi g.ins,aF g.next,aF g.init,prs g.ands,aF g.outs]]=true:=by simp only[V.dats,V.dat,zre]
        have wf:g.first=1+g.ins+g.next.length:=rfl
        have w1:IntKind.i64.wrap (g.first+(i:Int))=g.first+i:=dN (by omega) (by omega)
        have w2:IntKind.i64.wrap (2*(g.first+(i:Int)))=2*(g.first+i):=dN (by omega) (by omega);have hfi:=Gu g (by omega) (by omega) (by omega);unfold Gr.v at hfi;simp only[wq.1,seval,-Int.reduceNatCast,-Int.reduceNatCast',au,Tryz.results89,h1,h70,h71,h72,hd,hg,Int.toNat_natCast,hgE,hgS,List.drop_nil];refine⟨⟨by omega,by omega⟩,ah.ev hfi dg ?_⟩;simp only[wq.1,seval,-Int.reduceNatCast,-Int.reduceNatCast',au,Tryz.results89,aW,h1,h70,h71,h72,hd,w1,w2,hgE,hgS,aA (show i<maxLen by omega)];refine⟨by decide,fun _=>by decide,fun _=>by decide,fun _=>by decide,vcB.mk (fun hb=> ?_) (fun hb=> ?_)⟩
        ·simp only[wq.1,↓reduceIte,Nat.reduceLT,hd];refine aQ rfl ?_;unfold Gr.chk;rw[hlim,if_neg (by simp),if_neg (by simp[Gr.oddR,e,hA,hB,hC]),if_pos];simp only[Gr.oddAs,List.any_eq_true,List.mem_range];refine⟨i,hlt,?_⟩;rw[iU hlt];exact hb
        ·simp only[wq.1,seval,h72,aA (show i<maxLen by omega)];refine .inl ⟨m-1,by omega,i+1,G++[.cells [vi g.ands[i].1,vi g.ands[i].2]],by omega,h1,h70,h71,rfl,hd,rfl,?_⟩;simp only[Gr.oddAs,List.range_succ,List.any_append,List.any_cons,List.any_nil,Bool.or_false,Bool.or_eq_false_iff];refine⟨hno,?_⟩;rw[iU hlt];exact hb
       ·simp only [zqd,zqi] at hlt;simp only [wq.1,seval,hd];have hi : i = g.ands.length := by omega
        refine aQ rfl ?_;unfold Gr.chk;rw[hlim,if_neg (by simp),if_neg (by simp[Gr.oddR,e,hA,hB,hC]),←hi,hno];rfl
   ·have e1 : ((g.init.length : Int) != (g.next.length : Int)) = true := by simpa [Int.natCast_inj] using e
    simp only[wq.1,seval,h1,h3,e1];refine⟨.bool true,?_⟩;simp only[wq.1,seval,h1];refine⟨.bool true,?_⟩;simp only[wq.1,seval];refine⟨.bool true,?_⟩;simp only[wq.1,seval,hd];exact fin1 (by simp[Gr.oddR,e])
theorem I5 (n : Nat) (hn : n ≤ 1000000000) (h : H) (R : AEnd → H → (Nat → Bool) → Prop) (hr0 : n = 0 → R (.ret .nils) h (fun _ => false))
 (hr:0<n→R (.ret (.ls h.length 1 0 0 n)) (h++[.cells (List.replicate n (.str []))]) (fun _=>false)):ah TE 131 [.nils,vi n] h R:=by
 refine ax Tryz.func131 rfl (by simp[nts]) ?_;refine ag (vm ?_);simp only[wq.1,Nat.reduceLT,Tryz.results131];refine ag ?_;refine vm ?_;simp only[wq.1,seval];refine vcB.mk (fun hc=> ?_) (fun hc=> ?_)
 ·simp only[zqb]at hc;omega
 simp only[wq.1];refine ag (ag (fP ?_));refine aB rfl rfl ?_;simp only[wq.1,seval];refine aB rfl rfl ?_;simp only[wq.1,seval];refine dG rfl rfl ?_;have hq:ti TE.P 26=some ⟨.slice 9,1,24,.nils⟩:=by simp only[wq.1]
 have hqe:ti TE.P 9=some ⟨.str,1,16,.str []⟩:=by simp only[wq.1]
 have hqi:ti TE.P 3=some ⟨.int .i64,1,8,.int .i64 0⟩:=by simp only[wq.1]
 refine iH (t:=26) rfl rfl hq rfl trivial rfl ?_;refine aB rfl rfl ?_;simp only[wq.1,seval];refine aB rfl rfl ?_;simp only[wq.1,↓reduceIte];refine aB rfl rfl ?_;simp only[wq.1,seval];refine aB rfl rfl ?_;simp only[wq.1,seval];refine aB rfl rfl ?_;simp only[wq.1,↓reduceIte];have w0:IntKind.i64.wrap 0=0:=by decide
 have w1:IntKind.i64.wrap ((n:Int)-0)=n:=by rw[Int.sub_zero];exact dN (by omega) (by omega)
 refine fA ?_;simp only[wq.1,w0,w1];refine ag ?_;refine vm ?_;simp only[wq.1,seval];refine bD (b:=decide ((0:Int)<n)) (by simp only[wq.1,↓reduceIte]) (by simp only[wq.1,↓reduceIte]) (fun hb=> ?_) (fun hb=> ?_)
 ·have hpos : 0 < n := by simp only [zqb] at hb;omega
  refine fP ?_;refine aB rfl rfl ?_;simp only[wq.1,seval];refine aB rfl rfl ?_;simp only[wq.1,seval];refine dG rfl rfl ?_;refine iH (t:=26) rfl rfl hq rfl trivial rfl ?_;refine dG rfl rfl ?_;refine lq rfl hq rfl hqe (by simp only[wq.1,seval]) (by simp only[wq.1,seval]) (by simp only[wq.1,↓reduceIte]) (k:= .i64) (by simp only[wq.1,↓reduceIte]) ?_;refine aB rfl rfl ?_;simp only[wq.1,seval];refine dG rfl rfl ?_;refine jW (x:= .tmp 20) (y:= .tmp 21) (t:=26) (xt:=3) (el:=9) ⟨⟨_,rfl,rfl,rfl⟩,hq,rfl,hqe,rfl,rfl,Nat.zero_lt_one⟩ (by simp only[wq.1,seval]) (by simp only[wq.1,↓reduceIte]) (by simp only[wq.1,seval]) (by simp only[wq.1,↓reduceIte]) hqi rfl hpos (by omega) ?_ rfl (zv:= .str []) rfl ?_
  ·show n*16≤_;omega
  refine aB rfl rfl ?_;simp only[wq.1,seval];refine aB rfl rfl ?_;simp only[wq.1,↓reduceIte];refine aB rfl rfl ?_;simp only[wq.1,seval];refine⟨by omega,?_⟩;refine aB rfl rfl ?_;simp only[wq.1,↓reduceIte];refine fA ?_;simp only[wq.1];refine vm ?_;simp only[wq.1,seval];exact hr hpos
 ·have : n = 0 := by simp only [zqd] at hb;omega
  refine vm ?_;simp only[wq.1];refine vm ?_;simp only[wq.1,seval];exact hr0 this
theorem I7 {α:Type} (ls:List (List α)) (i:Nat):ls.flatten=(ls.take i).flatten++(ls.drop i).flatten:=by rw[←List.flatten_append,List.take_append_drop]
theorem fJ {α:Type} {ls:List (List α)} {i:Nat} (h:i<ls.length):(ls.take (i+1)).flatten=(ls.take i).flatten++ls[i]:=by rw[zrg,List.flatten_append];simp[h]
theorem oN {α:Type} {ls:List (List α)} {i:Nat} (h:i<ls.length):(ls.take i).flatten.length+ls[i].length≤ls.flatten.length:=by have h1:=congrArg List.length (I7 ls (i+1));rw[fJ h]at h1;simp only[zqa]at h1;omega
def Xf (n:Nat) (c:List S) (v:V) (h:H):Prop :=
 (c=[]∧v= .nils∧h=[]∧n=0)∨(c.length≤n∧v= .ls 0 1 0 c.length n∧h=[.cells (c.map V.str++List.replicate (n-c.length) (.str []))])
theorem PS (n:Nat) (hn:n≤1000000000) (R:AEnd→H→(Nat→Bool)→Prop) (hr:∀v h,Xf n [] v h→R (.ret v) h (fun _=>false)):ah TE 131 [.nils,vi n] [] R :=
 I5 n hn [] R (fun hz=>hr _ _ (.inl ⟨rfl,rfl,rfl,hz⟩)) (fun hz=>hr _ _ (.inr ⟨Nat.zero_le _,rfl,rfl⟩))
theorem Gx : ∀ l : List S,bC (l.map V.str) = true
 | []=>rfl
 | a::l=>by simp only[zrd,bC,Gx l,V.one,V.vc,zrk];rfl
theorem EQ (c l:List S) (n:Nat) (h:c.length+l.length≤n):bP (c.map V.str++List.replicate (n-c.length) (.str [])) c.length (l.map V.str)=(c++l).map V.str++List.replicate (n-(c++l).length) (.str []):=by
 unfold bP;have e1:(c.map V.str++List.replicate (n-c.length) (V.str [])).take c.length=c.map V.str:=by
  simp
 have e2:(c.map V.str++List.replicate (n-c.length) (V.str [])).drop (c.length+(l.map V.str).length)=List.replicate (n-(c++l).length) (V.str []):=by
  rw[List.drop_append];have:(c.map V.str).drop (c.length+(l.map V.str).length)=[]:=List.drop_of_length_le (by simp);rw[this,List.nil_append,List.drop_replicate]
  congr 1
  simp only[zra,zqa];omega
 rw[e1,e2,zql]
theorem ER (ls:List (List S)) (hn:ls.flatten.length≤1000000000) (hls:ls.length≤1000000000):EvF TE 99 [.is true 1 (ls.map dE)] 1 ls.flatten.length (ls.flatten.map V.str):=by
 have hM:maxLen=9223372036854775807:=rfl;have hget:∀ {i:Nat} (h:i<ls.length) (d:V),(ls.map dE).getD i d=dE ls[i]:=fun h d=>fO h d;unfold EvF;refine ax Tryz.func99 rfl (by simp[nts]) (vm ?_);simp only[wq.1,seval,Tryz.results99];refine aC (fun m f h=>∃i,m+i=ls.length∧f.t 0= .is true 1 (ls.map dE)∧f.t 3=vi (ls.take i).flatten.length∧f.t 9= .is true 1 (ls.map dE)∧f.t 10=vi ls.length∧f.t 11=vi i∧f.d=[]∧h=[]) ls.length ⟨0,by simp,rfl,rfl,rfl,by simp only[wq.1,seval],rfl,rfl,rfl⟩ ?_;rintro m f h ⟨i,hm,h0,h3,h9,h10,h11,hd,rfl⟩;refine vm ?_;simp only[wq.1,seval,h10,h11];refine vcB.mk (fun hc=> ?_) (fun hc=> ?_)
 ·simp only[zqb,zqi]at hc;have hfl:=oN hc;have hw:IntKind.i64.wrap (((ls.take i).flatten.length:Int)+(ls[i].length:Int))=((ls.take (i+1)).flatten.length:Int):=by
   rw[fJ hc,zqa,aZ (by omega) (by omega)];omega
  simp only[wq.1,seval,h3,h9,h11,hget hc,hw];refine⟨⟨by omega,by omega⟩,vcB.mk (fun hc'=> ?_) (fun hc'=> ?_)⟩
  ·simp only[zqb]at hc';omega
  ·simp only[wq.1,seval,h11,aA (show i<maxLen by omega)];exact .inl ⟨m-1,by omega,i+1,by omega,h0,rfl,h9,h10,rfl,hd,rfl⟩
 ·simp only [zqd,zqi] at hc;have hi : ls.take i = ls := zqh (by omega);rw [hi] at h3;simp only [wq.1,seval,h3];refine PS ls.flatten.length hn _ (fun v0 h0' hcat => ?_);simp only [wq.1,seval,h0];refine aC (fun m f h => ∃ i v,m + i = ls.length ∧ f.t 25 = .is true 1 (ls.map dE) ∧ f.t 26 = vi ls.length ∧ f.t 27 = vi i ∧ f.t 6 = v ∧ f.d = [] ∧ Xf ls.flatten.length (ls.take i).flatten v h) ls.length ⟨0,v0,by simp,by simp only [wq.1,seval],by simp only [wq.1,seval],rfl,rfl,by simp only [wq.1,hd],by simpa using hcat⟩ ?_;rintro m f h ⟨i,v,hm,h25,h26,h27,h6,hd,hcat⟩;refine vm ?_;simp only [wq.1,seval,h26,h27];refine vcB.mk (fun hc => ?_) (fun hc => ?_)
  ·simp only [zqb,zqi] at hc;have hfl := oN hc;have hnext : f.t 27 = vi i → IntKind.i64.wrap ((i : Int) + 1) = ((i + 1 : Nat) : Int) := fun _ => aA (by omega);rcases hcat with ⟨hc0,rfl,rfl,hn0⟩ | ⟨hcl,rfl,rfl⟩
   ·have hl0:ls[i]=[]:=List.eq_nil_of_length_eq_zero (by omega);simp only[wq.1,seval,h25,h27,h6,hget hc,hl0,aA (show i<maxLen by omega)];refine⟨⟨by omega,by omega⟩,by omega,.inl ⟨m-1,by omega,i+1,_,by omega,h25,h26,rfl,rfl,hd,?_⟩⟩;right;rw[fJ hc,hl0,hc0,hn0];exact⟨zrb _,rfl,rfl⟩
   ·by_cases hlt : (ls.take i).flatten.length < ls.flatten.length
    ·have hdt : decide ((ls.take i).flatten.length < ls.flatten.length) = true := by simpa using hlt
     simp only[wq.1,seval,h25,h27,h6,hget hc,aA (show i<maxLen by omega),Gx,hdt];refine⟨⟨by omega,by omega⟩,⟨by omega,by omega,by rw[List.length_replicate];omega⟩,.inl ⟨m-1,by omega,i+1,_,by omega,h25,h26,rfl,rfl,hd,?_⟩⟩;right;rw[fJ hc];refine⟨by rw[zqa];omega,by simp only[wq.1,seval],?_⟩;have hsp:=EQ (ls.take i).flatten ls[i] ls.flatten.length hfl;unfold bP at hsp;rw[zra]at hsp;rw[Nat.mul_one,hsp]
    ·have hdt : decide ((ls.take i).flatten.length < ls.flatten.length) = false := by simpa using hlt
     have hl0:ls[i]=[]:=List.eq_nil_of_length_eq_zero (by omega);have hne:(ls.take i).flatten.length=ls.flatten.length:=by omega
     simp only[wq.1,seval,h25,h27,h6,hd,hget hc,aA (show i<maxLen by omega),hdt,hl0];refine⟨⟨by omega,by omega⟩,⟨by rw[List.length_replicate];omega,by omega,by omega⟩,.inl ⟨m-1,by omega,i+1,_,by omega,by simp only[wq.1,seval,h25],by simp only[wq.1,seval,h26],rfl,rfl,hd,?_⟩⟩;right;rw[fJ hc,hl0,zqp,hne,Nat.sub_self];refine⟨zrb _,by simp only[wq.1,seval],?_⟩;simp only[List.replicate_zero,V.drops]
  ·simp only [zqd,zqi] at hc;have hi : ls.take i = ls := zqh (by omega);rw [hi] at hcat;simp only [wq.1,seval,h6,hd];rcases hcat with ⟨hc0,rfl,rfl,hn0⟩ | ⟨hcl,rfl,rfl⟩
   ·exact .inl ⟨rfl,hn0,by rw[hc0];rfl⟩
   ·rw[Nat.sub_self,List.replicate_zero,zqp];exact .inr ⟨0,_,rfl,zrb _,rfl⟩
theorem yu (ls:List (List S)) (hn:ls.flatten.length≤1000000000) (hls:ls.length≤1000000000):Ev TE 99 [.is true 1 (ls.map dE)] (dE ls.flatten):=by
 refine(ER ls hn hls).ev (fun _ hc=> ?_) (fun h' id cap _ hid=>kL hid rfl) (fun _ hc h'=> ?_)
 ·rw[List.map_eq_nil_iff.1 hc];exact jc
 ·rw[List.map_eq_nil_iff.1 hc];exact az.nils
theorem ES (n : Nat) (hn : n ≤ 1000000000) (h : H) (R : AEnd → H → (Nat → Bool) → Prop) (hr0 : n = 0 → R (.ret .nils) h (fun _ => false))
 (hr:0<n→R (.ret (.ls h.length 1 0 0 n)) (h++[.cells (List.replicate n (.bool false))]) (fun _=>false)):ah TE 129 [.nils,vi n] h R:=by
 refine ax Tryz.func129 rfl (by simp[nts]) ?_;refine ag (vm ?_);simp only[wq.1,Nat.reduceLT,Tryz.results129];refine ag ?_;refine vm ?_;simp only[wq.1,seval];refine vcB.mk (fun hc=> ?_) (fun hc=> ?_)
 ·simp only[zqb]at hc;omega
 simp only[wq.1];refine ag (ag (fP ?_));refine aB rfl rfl ?_;simp only[wq.1,seval];refine aB rfl rfl ?_;simp only[wq.1,seval];refine dG rfl rfl ?_;have hq:ti TE.P 32=some ⟨.slice 4,1,24,.nils⟩:=by simp only[wq.1]
 have hqe:ti TE.P 4=some ⟨.bool,1,1,.bool false⟩:=by simp only[wq.1]
 have hqi:ti TE.P 3=some ⟨.int .i64,1,8,.int .i64 0⟩:=by simp only[wq.1]
 refine iH (t:=32) rfl rfl hq rfl trivial rfl ?_;refine aB rfl rfl ?_;simp only[wq.1,seval];refine aB rfl rfl ?_;simp only[wq.1,↓reduceIte];refine aB rfl rfl ?_;simp only[wq.1,seval];refine aB rfl rfl ?_;simp only[wq.1,seval];refine aB rfl rfl ?_;simp only[wq.1,↓reduceIte];have w0:IntKind.i64.wrap 0=0:=by decide
 have w1:IntKind.i64.wrap ((n:Int)-0)=n:=by rw[Int.sub_zero];exact dN (by omega) (by omega)
 refine fA ?_;simp only[wq.1,w0,w1];refine ag ?_;refine vm ?_;simp only[wq.1,seval];refine bD (b:=decide ((0:Int)<n)) (by simp only[wq.1,↓reduceIte]) (by simp only[wq.1,↓reduceIte]) (fun hb=> ?_) (fun hb=> ?_)
 ·have hpos : 0 < n := by simp only [zqb] at hb;omega
  refine fP ?_;refine aB rfl rfl ?_;simp only[wq.1,seval];refine aB rfl rfl ?_;simp only[wq.1,seval];refine dG rfl rfl ?_;refine iH (t:=32) rfl rfl hq rfl trivial rfl ?_;refine dG rfl rfl ?_;refine lq rfl hq rfl hqe (by simp only[wq.1,seval]) (by simp only[wq.1,seval]) (by simp only[wq.1,↓reduceIte]) (k:= .i64) (by simp only[wq.1,↓reduceIte]) ?_;refine aB rfl rfl ?_;simp only[wq.1,seval];refine dG rfl rfl ?_;refine jW (x:= .tmp 20) (y:= .tmp 21) (t:=32) (xt:=3) (el:=4) ⟨⟨_,rfl,rfl,rfl⟩,hq,rfl,hqe,rfl,rfl,Nat.zero_lt_one⟩ (by simp only[wq.1,seval]) (by simp only[wq.1,↓reduceIte]) (by simp only[wq.1,seval]) (by simp only[wq.1,↓reduceIte]) hqi rfl hpos (by omega) ?_ rfl (zv:= .bool false) rfl ?_
  ·show n*1≤_;omega
  refine aB rfl rfl ?_;simp only[wq.1,seval];refine aB rfl rfl ?_;simp only[wq.1,↓reduceIte];refine aB rfl rfl ?_;simp only[wq.1,seval];refine⟨by omega,?_⟩;refine aB rfl rfl ?_;simp only[wq.1,↓reduceIte];refine fA ?_;simp only[wq.1];refine vm ?_;simp only[wq.1,seval];exact hr hpos
 ·have : n = 0 := by simp only [zqd] at hb;omega
  refine vm ?_;simp only[wq.1];refine vm ?_;simp only[wq.1,seval];exact hr0 this
def Vz (n:Nat) (c:List Bool) (v:V) (h:H):Prop :=
 (c=[]∧v= .nils∧h=[]∧n=0)∨(c.length≤n∧v= .ls 0 1 0 c.length n∧h=[.cells (c.map V.bool++List.replicate (n-c.length) (.bool false))])
theorem MI (n:Nat) (hn:n≤1000000000) (R:AEnd→H→(Nat→Bool)→Prop) (hr:∀v h,Vz n [] v h→R (.ret v) h (fun _=>false)):ah TE 129 [.nils,vi n] [] R :=
 ES n hn [] R (fun hz=>hr _ _ (.inl ⟨rfl,rfl,rfl,hz⟩)) (fun hz=>hr _ _ (.inr ⟨Nat.zero_le _,rfl,rfl⟩))
theorem nC {p : Nat → Bool} : ∀ l : List Bool,V.drops p (l.map V.bool) = l.map V.bool
 | []=>rfl
 | a::l=>by simp only[zrd,V.drops,V.drop,nC l]
theorem Cj : ∀ l : List Bool,bC (l.map V.bool) = true
 | []=>rfl
 | a::l=>by simp only[zrd,bC,Cj l,V.one,V.vc,zrk];rfl
theorem Cm (c l:List Bool) (n:Nat) (h:c.length+l.length≤n):bP (c.map V.bool++List.replicate (n-c.length) (.bool false)) c.length (l.map V.bool)=(c++l).map V.bool++List.replicate (n-(c++l).length) (.bool false):=by
 unfold bP;have e1:(c.map V.bool++List.replicate (n-c.length) (V.bool false)).take c.length=c.map V.bool:=by
  simp
 have e2:(c.map V.bool++List.replicate (n-c.length) (V.bool false)).drop (c.length+(l.map V.bool).length)=List.replicate (n-(c++l).length) (V.bool false):=by
  rw[List.drop_append];have:(c.map V.bool).drop (c.length+(l.map V.bool).length)=[]:=List.drop_of_length_le (by simp);rw[this,List.nil_append,List.drop_replicate]
  congr 1
  simp only[zra,zqa];omega
 rw[e1,e2,zql]
theorem CB (ls:List (List Bool)) (hn:ls.flatten.length≤1000000000) (hls:ls.length≤1000000000):EvF TE 90 [.is true 1 (ls.map aY)] 1 ls.flatten.length (ls.flatten.map V.bool):=by
 have hM:maxLen=9223372036854775807:=rfl;have hget:∀ {i:Nat} (h:i<ls.length) (d:V),(ls.map aY).getD i d=aY ls[i]:=fun h d=>fO h d;unfold EvF;refine ax Tryz.func90 rfl (by simp[nts]) (vm ?_);simp only[wq.1,seval,Tryz.results90];refine aC (fun m f h=>∃i,m+i=ls.length∧f.t 0= .is true 1 (ls.map aY)∧f.t 3=vi (ls.take i).flatten.length∧f.t 9= .is true 1 (ls.map aY)∧f.t 10=vi ls.length∧f.t 11=vi i∧f.d=[]∧h=[]) ls.length ⟨0,by simp,rfl,rfl,rfl,by simp only[wq.1,seval],rfl,rfl,rfl⟩ ?_;rintro m f h ⟨i,hm,h0,h3,h9,h10,h11,hd,rfl⟩;refine vm ?_;simp only[wq.1,seval,h10,h11];refine vcB.mk (fun hc=> ?_) (fun hc=> ?_)
 ·simp only[zqb,zqi]at hc;have hfl:=oN hc;have hw:IntKind.i64.wrap (((ls.take i).flatten.length:Int)+(ls[i].length:Int))=((ls.take (i+1)).flatten.length:Int):=by
   rw[fJ hc,zqa,aZ (by omega) (by omega)];omega
  simp only[wq.1,seval,h3,h9,h11,hget hc,hw];refine⟨⟨by omega,by omega⟩,vcB.mk (fun hc'=> ?_) (fun hc'=> ?_)⟩
  ·simp only[zqb]at hc';omega
  ·simp only[wq.1,seval,h11,aA (show i<maxLen by omega)];exact .inl ⟨m-1,by omega,i+1,by omega,h0,rfl,h9,h10,rfl,hd,rfl⟩
 ·simp only [zqd,zqi] at hc;have hi : ls.take i = ls := zqh (by omega);rw [hi] at h3;simp only [wq.1,seval,h3];refine MI ls.flatten.length hn _ (fun v0 h0' hcat => ?_);simp only [wq.1,seval,h0];refine aC (fun m f h => ∃ i v,m + i = ls.length ∧ f.t 25 = .is true 1 (ls.map aY) ∧ f.t 26 = vi ls.length ∧ f.t 27 = vi i ∧ f.t 6 = v ∧ f.d = [] ∧ Vz ls.flatten.length (ls.take i).flatten v h) ls.length ⟨0,v0,by simp,by simp only [wq.1,seval],by simp only [wq.1,seval],rfl,rfl,by simp only [wq.1,hd],by simpa using hcat⟩ ?_;rintro m f h ⟨i,v,hm,h25,h26,h27,h6,hd,hcat⟩;refine vm ?_;simp only [wq.1,seval,h26,h27];refine vcB.mk (fun hc => ?_) (fun hc => ?_)
  ·simp only [zqb,zqi] at hc;have hfl := oN hc;have hnext : f.t 27 = vi i → IntKind.i64.wrap ((i : Int) + 1) = ((i + 1 : Nat) : Int) := fun _ => aA (by omega);rcases hcat with ⟨hc0,rfl,rfl,hn0⟩ | ⟨hcl,rfl,rfl⟩
   ·have hl0:ls[i]=[]:=List.eq_nil_of_length_eq_zero (by omega);simp only[wq.1,seval,h25,h27,h6,hget hc,hl0,aA (show i<maxLen by omega)];refine⟨⟨by omega,by omega⟩,by omega,.inl ⟨m-1,by omega,i+1,_,by omega,h25,h26,rfl,rfl,hd,?_⟩⟩;right;rw[fJ hc,hl0,hc0,hn0];exact⟨zrb _,rfl,rfl⟩
   ·by_cases hlt : (ls.take i).flatten.length < ls.flatten.length
    ·have hdt : decide ((ls.take i).flatten.length < ls.flatten.length) = true := by simpa using hlt
     simp only[wq.1,seval,h25,h27,h6,hget hc,aA (show i<maxLen by omega),Cj,hdt];refine⟨⟨by omega,by omega⟩,⟨by omega,by omega,by rw[List.length_replicate];omega⟩,.inl ⟨m-1,by omega,i+1,_,by omega,h25,h26,rfl,rfl,hd,?_⟩⟩;right;rw[fJ hc];refine⟨by rw[zqa];omega,by simp only[wq.1,seval],?_⟩;have hsp:=Cm (ls.take i).flatten ls[i] ls.flatten.length hfl;unfold bP at hsp;rw[zra]at hsp;rw[Nat.mul_one,hsp]
    ·have hdt : decide ((ls.take i).flatten.length < ls.flatten.length) = false := by simpa using hlt
     have hl0:ls[i]=[]:=List.eq_nil_of_length_eq_zero (by omega);have hne:(ls.take i).flatten.length=ls.flatten.length:=by omega
     simp only[wq.1,seval,h25,h27,h6,hd,hget hc,aA (show i<maxLen by omega),hdt,hl0,nC];refine⟨⟨by omega,by omega⟩,⟨by rw[List.length_replicate];omega,by omega,by omega⟩,.inl ⟨m-1,by omega,i+1,_,by omega,by simp only[wq.1,seval,h25],by simp only[wq.1,seval,h26],rfl,rfl,hd,?_⟩⟩;right;rw[fJ hc,hl0,zqp,hne,Nat.sub_self];refine⟨zrb _,by simp only[wq.1,seval],?_⟩;simp only[List.replicate_zero,V.drops]
  ·simp only [zqd,zqi] at hc;have hi : ls.take i = ls := zqh (by omega);rw [hi] at hcat;simp only [wq.1,seval,h6,hd];rcases hcat with ⟨hc0,rfl,rfl,hn0⟩ | ⟨hcl,rfl,rfl⟩
   ·exact .inl ⟨rfl,hn0,by rw[hc0];rfl⟩
   ·rw[Nat.sub_self,List.replicate_zero,zqp];exact .inr ⟨0,_,rfl,zrb _,rfl⟩
theorem VA (c:List S) (q:FuncId) (caps:List V) (p:S→Bool) (he:ai P q=true) (hd:V.dats caps=true) (hq:∀x∈c,Ev TE q (.str x::caps) (.bool (p x))):Ev TE 91 [dE c,.fn (.func q) [] caps] (vi (idx c p)):=by
 refine Ev.bnd fun hb=> ?_;have hlen:=oM hb;refine ak Tryz.func91 rfl (by simp[nts]) (vm ?_);simp only[wq.1,seval,Tryz.results91];refine aC (fun m f h=>∃i,m+i=c.length∧f.t 0=dE c∧f.t 1= .fn (.func q) [] caps∧f.t 7= .int .i64 (c.length:Int)∧f.t 8= .int .i64 (i:Int)∧f.d=[]∧∀x∈c.take i,p x=false) c.length ⟨0,by simp,rfl,rfl,rfl,rfl,rfl,by simp⟩ ?_;rintro m f h ⟨i,hm,h0,h1,h7,h8,hdd,hall⟩;refine vm ?_;simp only[wq.1,seval,h7,h8];refine vcB.mk (fun hc=> ?_) (fun hc=> ?_)
 ·simp only [zqb,zqi] at hc;simp only [wq.1,seval,h0,h1,h8,IW hc,he];refine ⟨⟨by omega,by omega⟩,ah.ev (hq _ (zqu _)) (by simp [V.dats,V.dat,hd]) ?_⟩;simp only [wq.1,seval];refine vcB.mk (fun hc' => ?_) (fun hc' => ?_)
  ·simp only[wq.1,seval,hdd];rw[kP hc hall hc'];exact az.dat rfl
  ·simp only[wq.1,seval,h8,aA (show i<maxLen by omega)];exact .inl ⟨m-1,by omega,i+1,by omega,h0,h1,h7,rfl,hdd,bF hc hall hc'⟩
 ·simp only[zqd,zqi]at hc;simp only[wq.1,seval,hdd];rw[zqh (by omega)]at hall;rw[jK hall];exact az.dat rfl
theorem VB (c:List S) (q:FuncId) (caps:List V) (p:S→Bool) (he:ai P q=true) (hd:V.dats caps=true) (hq:∀x∈c,Ev TE q (.str x::caps) (.bool (p x))):Ev TE 55 [dE c,.fn (.func q) [] caps] (.bool (c.any p)):=by refine ak Tryz.func55 rfl (by simp[nts]) (vm ?_);simp only[wq.1,seval,Tryz.results55];refine ah.ev (VA c q caps p he hd hq) (by simp[V.dats,V.dat,hd]) ?_;simp only[wq.1,seval];exact aQ rfl (by rw[pU])
def qW (s:S):Bool:= !bK s
theorem PT (s:S):Ev TE 130 [.str s] (.bool (qW s)):=by refine ak Tryz.func130 rfl (by simp[nts]) (vm ?_);simp only[wq.1,seval,Tryz.results130];refine ah.ev (uC s) rfl ?_;simp only[wq.1,seval];exact az.dat rfl
theorem ET (l:List S):Ev TE 97 [dE l] (.bool (l.any qW)):=by refine ak Tryz.func97 rfl (by simp[nts]) (vm ?_);simp only[wq.1,seval,Tryz.results97];refine ah.ev (VB l 130 [] qW rfl rfl fun x _=>PT x) rfl ?_;simp only[wq.1,seval];exact az.dat rfl
def at? : List S → S → Option Nat
 | [],_=>none
 | x::l,s=>if x=s then some 0 else(at? l s).map (·+1)
theorem jh (s : S) : ∀ (ks : List S),jB .str (.str s) (ks.map V.str) = some (at? ks s)
 | []=>rfl
 | k::ks=>by
  simp only[zrd,jB,keq,at?];by_cases h:k=s
  ·subst h;simp
  ·have : (s == k) = false := by simpa using fun h' => h h'.symm
   rw[this,jh s ks,if_neg h];cases at? ks s<;>rfl
theorem o7 : ∀ {l : List S} {s : S} {n : Nat},at? l s = some n → ∃ h : n < l.length,l[n] = s
 | [],s,n,h=>by cases h
 | x::l,s,n,h=>by
  simp only[at?]at h;split at h
  ·rename_i he;cases h;exact⟨by simp,he⟩
  ·cases hl:at? l s with
   | none=>rw[hl]at h;cases h
   | some k=>rw[hl]at h;cases h;obtain⟨h1,h2⟩:=o7 hl;exact⟨by simpa using h1,by simpa using h2⟩
theorem zV : ∀ {l : List S} {s : S},s ∈ l → ∃ n,at? l s = some n
 | x::l,s,h=>by
  by_cases hx:x=s
  ·exact⟨0,by simp[at?,hx]⟩
  ·have:s∈l:=by
    rcases zrj.1 h with h | h
    ·exact absurd h.symm hx
    ·exact h
   obtain⟨n,hn⟩:=zV this;exact⟨n+1,by simp[at?,hx,hn]⟩
theorem PU {l:List S} {s:S} (h:s∉l):at? l s=none:=by
 cases hh:at? l s with
 | none=>rfl
 | some n=>obtain⟨h1,h2⟩:=o7 hh;exact absurd (h2▸zqu h1) h
def xG (l:List S):Bool:= !decide l.Nodup
theorem CE (l:List S):Ev TE 98 [dE l] (.bool (xG l)):=by
 refine Ev.bnd fun hb=> ?_;have hlen:=oM hb;refine ak Tryz.func98 rfl (by simp[nts]) (vm ?_);simp only[wq.1,seval,Tryz.results98];refine aC (fun m f h=>∃i,m+i=l.length∧f.t 3= .lm 0∧f.t 7=dE l∧f.t 8= .int .i64 (l.length:Int)∧f.t 9= .int .i64 (i:Int)∧f.d=[]∧h=[.map ((l.take i).map V.str) (List.replicate i (.bool true))]∧(l.take i).Nodup) l.length ⟨0,by simp,rfl,rfl,rfl,rfl,rfl,rfl,by simp⟩ ?_;rintro m f h ⟨i,hm,h3,h7,h8,h9,hd,rfl,hnd⟩;refine vm ?_;simp only[wq.1,seval,h8,h9];refine vcB.mk (fun hc=> ?_) (fun hc=> ?_)
 ·simp only [zqb,zqi] at hc;have hsucc : l.take (i + 1) = l.take i ++ [l[i]] := by rw [zrg];simp [hc]
  cases hat:at? (l.take i) l[i]with
  | some n =>
   obtain⟨g1,g2⟩:=o7 hat;have hn:n<i:=by simpa using(Nat.lt_of_lt_of_le g1 (by simp;omega))
   have hg:(List.replicate i (V.bool true)).getD n .any= .bool true:=by simp[zqg,hn]
   simp only[wq.1,seval,h3,h7,h9,hd,IW hc,uq,jh,K.keyOk,hat,hg];refine⟨⟨by omega,by omega⟩,?_⟩;have:¬l.Nodup:=by
    intro h;rw[←List.take_append_drop (i+1) l,hsucc]at h;have h2:=(List.nodup_append.1 (List.nodup_append.1 h).1).2.2;exact h2 l[i] (g2▸zqu g1) l[i] (by simp) rfl
   exact aQ rfl (by simp[xG,this])
  | none =>
   have hnm:l[i]∉l.take i:=fun h=>by obtain⟨n,hn⟩:=zV h;rw[hn]at hat;cases hat
   simp only[wq.1,seval,h3,h7,h9,IW hc,uq,Ju,jh,K.keyOk,hat];refine⟨⟨by omega,by omega⟩,.inl ⟨m-1,by omega,i+1,by omega,h3,h7,h8,by rw[aA (by omega)];rfl,hd,?_,?_⟩⟩
   ·rw[hsucc,zql,List.replicate_succ'];rfl
   ·rw[hsucc];refine List.nodup_append.2 ⟨hnd,by simp,fun a ha b hb h=> ?_⟩;simp only[zrc]at hb;exact hnm (by rw[←hb,←h];exact ha)
 ·simp only[zqd,zqi]at hc;simp only[wq.1,seval,hd];rw[zqh (by omega)]at hnd;exact aQ rfl (by simp[xG,hnd])
theorem MJ (c:List S) (s:S):Ev TE 132 [dE c,.str s] (vi (idx c (·==s))):=by
 refine Ev.bnd fun hb=> ?_;have hlen:=oM hb;refine ak Tryz.func132 rfl (by simp[nts]) (vm ?_);simp only[wq.1,seval,Tryz.results132];refine aC (fun m f h=>∃i,m+i=c.length∧f.t 0=dE c∧f.t 1= .str s∧f.t 7= .int .i64 (c.length:Int)∧f.t 8= .int .i64 (i:Int)∧f.d=[]∧∀x∈c.take i,(x==s)=false) c.length ⟨0,by simp,rfl,rfl,rfl,rfl,rfl,by simp⟩ ?_;rintro m f h ⟨i,hm,h0,h1,h7,h8,hdd,hall⟩;refine vm ?_;simp only[wq.1,seval,h7,h8];refine vcB.mk (fun hc=> ?_) (fun hc=> ?_)
 ·simp only [zqb,zqi] at hc;simp only [wq.1,seval,h0,h1,h8,IW hc];refine ⟨⟨by omega,by omega⟩,vcB.mk (fun hc' => ?_) (fun hc' => ?_)⟩
  ·simp only[wq.1,seval,hdd];rw[kP hc hall (by rw[beq_iff_eq]at hc' ⊢;exact hc'.symm)];exact az.dat rfl
  ·simp only[wq.1,seval,h8,aA (show i<maxLen by omega)];exact .inl ⟨m-1,by omega,i+1,by omega,h0,h1,h7,rfl,hdd,bF hc hall (by rw[beq_eq_false_iff_ne]at hc' ⊢;exact hc'.symm)⟩
 ·simp only[zqd,zqi]at hc;simp only[wq.1,↓reduceIte,Nat.reduceLT,Int.reduceNeg,hdd];rw[zqh (by omega)]at hall;rw[jK hall];exact az.dat rfl
structure Mo where
 g:Gr
 ins:List S
 lat:List S
 out:List S
abbrev Mo.v (m:Mo):V:= .agg [vi m.g.ins,aF m.g.next,aF m.g.init,prs m.g.ands,aF m.g.outs,dE m.ins,dE m.lat,dE m.out]
def Mo.place (m:Mo) (s:S):Int:=if idx (m.ins++m.lat) (·==s)<0 then -1 else idx (m.ins++m.lat) (·==s)+1
theorem Q4 {α:Type} (l:List α) (p:α→Bool):-1≤idx l p∧idx l p<l.length:=by
 unfold idx;cases h:l.findIdx? p with
 | none=>exact⟨Int.le_refl _,by show(-1:Int)<_;omega⟩
 | some i=>have:=(List.findIdx?_eq_some_iff_getElem.1 h).1;exact⟨by show(-1:Int)≤(i:Int);omega,by show(i:Int)<_;omega⟩
theorem MK (m:Mo) (s:S) (h1:m.ins.length+m.lat.length≤1000000):Ev TE 100 [m.v,.str s] (vi (m.place s)):=by
 have hcat:=yu [m.ins,m.lat] (by simp;omega) (by simp);have hfl:[m.ins,m.lat].flatten=m.ins++m.lat:=by simp
 rw[hfl]at hcat;have hi:=Q4 (m.ins++m.lat) (·==s);rw[zqa]at hi;unfold Mo.v;refine ak Tryz.func100 rfl (by simp[nts]) (vm ?_);simp only[wq.1,↓reduceIte,Nat.reduceEqDiff,Nat.reduceLT,Nat.reduceLeDiff,Nat.reduceAdd,Int.reduceNeg,reduceCtorEq,Nat.reduceMul,Tryz.results100];refine⟨⟨rfl,by decide⟩,ah.ev hcat rfl ?_⟩;simp only[wq.1,seval];refine ah.ev (MJ _ _) rfl ?_;unfold Mo.place;simp only[wq.1,seval];refine vcB.mk (fun hc=> ?_) (fun hc=> ?_)
 ·simp only[wq.1,seval];simp only[zqb]at hc;exact aQ rfl (by rw[if_pos hc])
 ·simp only[wq.1,seval];simp only[zqd]at hc;rw[dN (n:=idx (m.ins++m.lat) (fun x=>x==s)+1) (by omega) (by omega)];exact aQ rfl (by rw[if_neg hc])
def Mo.lens (m:Mo):Bool:=((m.ins.length:Int) != m.g.ins)||((m.lat.length:Int) != (m.g.next.length:Int))||((m.out.length:Int) != (m.g.outs.length:Int))
def Mo.names (m:Mo):Bool:=m.ins.any qW||m.lat.any qW||m.out.any qW
def Mo.twos (m:Mo):Bool:=xG (m.ins++m.lat)||xG m.out
def Mo.other (m:Mo) (n:Nat):Bool:=(List.range n).any fun i=>decide (0≤m.place (m.out.getD i []))&&m.g.outs.getD i 0 != 2*m.place (m.out.getD i [])
def Mo.chk (m:Mo):Int:=if m.g.chk≠0 then m.g.chk else if m.lens then 1 else if m.names then 4 else if m.twos then 5 else if m.other m.out.length then 5 else 0
structure Gr.Ok (g : Gr) : Prop where
 lim:g.lim=false
 i0:0≤g.ins
 i1:g.ins≤4000
 i2:g.ins+g.next.length+g.ands.length≤4000
 i3:(g.outs.length:Int)≤4000
 row:g.oddR=false
 ands:g.oddAs g.ands.length=false
theorem fE {g:Gr} (h:g.chk=0):g.Ok:=by
 unfold Gr.chk at h;split at h
 ·cases h
 ·rename_i h1;split at h
  ·cases h
  ·rename_i h2;split at h
   ·cases h
   ·rename_i h3;have h1 : g.lim = false := by simpa using h1
    have h2':=h1;simp only[Gr.lim,Bool.or_eq_false_iff,zqd]at h2';exact⟨h1,by omega,by omega,by omega,by omega,by simpa using h2,by simpa using h3⟩
theorem I8 {m:Mo} {i n:Nat} (h:i≤n) (ho:m.other i=true):m.other n=true:=by unfold Mo.other at ho ⊢;rw[List.any_eq_true]at ho ⊢;obtain⟨x,hx,h2⟩:=ho;exact⟨x,List.mem_range.2 (by have:=List.mem_range.1 hx;omega),h2⟩
theorem ML (m:Mo) (hs:m.g.Sm):Ev TE 60 [m.v] (vi m.chk):=by
 have hgc:=sK m.g hs;unfold Gr.v at hgc;unfold Mo.v;have dg:V.dats [.agg [vi m.g.ins,aF m.g.next,aF m.g.init,prs m.g.ands,aF m.g.outs]]=true:=by simp only[V.dats,V.dat,zre]
 refine ak Tryz.func60 rfl (by simp[nts]) (vm ?_);simp only[wq.1,seval,Tryz.results60];refine ah.ev hgc dg ?_;simp only[wq.1,seval];refine vcB.mk (fun hc=> ?_) (fun hc=> ?_)
 ·simp only[wq.1,seval];exact aQ rfl (by unfold Mo.chk;rw[if_pos (by simpa using hc)])
 ·have hg : m.g.chk = 0 := by simpa using hc
  have go:=fE hg;obtain⟨_,i0,i1,i2,i3,_,_⟩:=go;have fin1:m.lens=true→vi 1=vi m.chk:=fun h=>by unfold Mo.chk;rw[if_neg (by simp[hg]),if_pos h]
  cases hl1:(m.ins.length:Int) != m.g.ins with
  | true=>simp only[wq.1,seval,hl1];exact aQ rfl (fin1 (by simp[Mo.lens,hl1]))
  | false =>
   cases hl2:(m.lat.length:Int) != (m.g.next.length:Int)with
   | true=>simp only[wq.1,seval,hl1,hl2];exact aQ rfl (fin1 (by simp[Mo.lens,hl2]))
   | false =>
    cases hl3:(m.out.length:Int) != (m.g.outs.length:Int)with
    | true=>simp only[wq.1,seval,hl1,hl2,hl3];exact aQ rfl (fin1 (by simp[Mo.lens,hl3]))
    | false =>
     have hlens:m.lens=false:=by simp only[Mo.lens,hl1,hl2,hl3,Bool.or_false]
     have fin4:m.names=true→vi 4=vi m.chk:=fun h=>by unfold Mo.chk;rw[if_neg (by simp[hg]),if_neg (by simp[hlens]),if_pos h]
     simp only[bne_eq_false_iff_eq]at hl1 hl2 hl3;simp only[wq.1,seval,hl1,hl2,hl3,bne_self_eq_false];refine ah.ev (ET m.ins) rfl ?_;cases hn1:m.ins.any qW with
     | true=>simp only[wq.1,seval];exact aQ rfl (fin4 (by simp[Mo.names,hn1]))
     | false =>
      simp only[wq.1,seval];refine ah.ev (ET m.lat) rfl ?_;cases hn2:m.lat.any qW with
      | true=>simp only[wq.1,seval];exact aQ rfl (fin4 (by simp[Mo.names,hn2]))
      | false =>
       simp only[wq.1,seval];refine ah.ev (ET m.out) rfl ?_;cases hn3:m.out.any qW with
       | true=>simp only[wq.1,↓reduceIte,Nat.reduceLT];exact aQ rfl (fin4 (by simp[Mo.names,hn3]))
       | false =>
        have hnames:m.names=false:=by simp only[Mo.names,hn1,hn2,hn3,Bool.or_false]
        have fin5:m.twos=true→vi 5=vi m.chk:=fun h=>by unfold Mo.chk;rw[if_neg (by simp[hg]),if_neg (by simp[hlens]),if_neg (by simp[hnames]),if_pos h]
        have hcat:=yu [m.ins,m.lat] (by simp;omega) (by simp);rw[show [m.ins,m.lat].flatten=m.ins++m.lat by simp]at hcat;simp only[wq.1,↓reduceIte,Nat.reduceEqDiff,Nat.reduceLT,Nat.reduceLeDiff,Nat.reduceAdd,reduceCtorEq,Nat.reduceMul];refine⟨⟨rfl,by decide⟩,ah.ev hcat rfl ?_⟩;simp only[wq.1,seval];refine ah.ev (CE _) rfl ?_;cases ht1:xG (m.ins++m.lat)with
        | true=>simp only[wq.1,seval];exact aQ rfl (fin5 (by simp[Mo.twos,ht1]))
        | false =>
         simp only[wq.1,seval];refine ah.ev (CE _) rfl ?_;cases ht2:xG m.out with
         | true=>simp only[wq.1,seval];exact aQ rfl (fin5 (by simp[Mo.twos,ht2]))
         | false =>
          have htwos:m.twos=false:=by simp only[Mo.twos,ht1,ht2,Bool.or_false]
          simp only[wq.1,seval];refine aC (fun k f h=>∃i,k+i=m.out.length∧f.t 1= .lp 0 0∧f.t 60=dE m.out∧f.t 61=vi m.out.length∧f.t 62=vi i∧f.d=[]∧h= .cells [vi m.g.ins,aF m.g.next,aF m.g.init,prs m.g.ands,aF m.g.outs,dE m.ins,dE m.lat,dE m.out]::[]∧m.other i=false) m.out.length ⟨0,by simp,rfl,rfl,rfl,rfl,rfl,rfl,rfl⟩ ?_;rintro k f h ⟨i,hk,h1,h60,h61,h62,hd,rfl,hno⟩;refine vm ?_;simp only[wq.1,seval,h61,h62];have hM:maxLen=9223372036854775807:=rfl;refine vcB.mk (fun hc=> ?_) (fun hc=> ?_)
          ·simp only [zqb,zqi] at hc;have hc3 : i < m.g.outs.length := by omega
           have hpl:=Q4 (m.ins++m.lat) (·==m.out[i]);rw[zqa]at hpl;have hpr:-1≤m.place m.out[i]∧m.place m.out[i]≤4000:=by unfold Mo.place;split<;>omega
           have hgo:m.out.getD i []=m.out[i]:=iU hc;have hgg:m.g.outs.getD i 0=m.g.outs[i]:=iU hc3;have hplace:=MK m m.out[i] (by omega);have dm:V.dats [m.v,.str m.out[i]]=true:=by simp only[V.dats,V.dat,zre]
           unfold Mo.v at hplace dm;have w2:IntKind.i64.wrap (2*m.place m.out[i])=2*m.place m.out[i]:=dN (by omega) (by omega);simp only[wq.1,seval,h1,h60,h62,IW hc];refine⟨⟨by omega,by omega⟩,ah.ev hplace dm ?_⟩;have hother:m.other (i+1)=(m.other i||(decide (0≤m.place m.out[i])&&m.g.outs[i] != 2*m.place m.out[i])):=by
            unfold Mo.other;rw[List.range_succ,List.any_append,List.any_cons,List.any_nil,Bool.or_false,hgo,hgg]
           cases hp:decide (0≤m.place m.out[i])with
           | false=>rw[hp,hno]at hother;simp only[wq.1,seval,h1,h62,hp,IC hc3,aA (show i<maxLen by omega)];exact .inl ⟨k-1,by omega,i+1,by omega,h1,h60,h61,rfl,hd,rfl,hother⟩
           | true =>
            rw[hp,hno]at hother;cases hq:m.g.outs[i] != 2*m.place m.out[i]with
            | true=>simp only[wq.1,seval,h1,hd,hp,IC hc3,w2,hq];refine⟨⟨by omega,by omega⟩,aQ rfl ?_⟩;rw[hq]at hother;unfold Mo.chk;rw[if_neg (by simp[hg]),if_neg (by simp[hlens]),if_neg (by simp[hnames]),if_neg (by simp[htwos]),if_pos];refine I8 (by omega) (hother.trans rfl)
            | false=>rw[hq]at hother;simp only[wq.1,seval,h1,h62,hp,IC hc3,w2,hq,aA (show i<maxLen by omega)];refine⟨⟨by omega,by omega⟩,.inl ⟨k-1,by omega,i+1,by omega,h1,h60,h61,rfl,hd,rfl,hother⟩⟩
          ·simp only [zqd,zqi] at hc;have hi : i = m.out.length := by omega
           simp only[wq.1,seval,hd];refine aQ rfl ?_;unfold Mo.chk;rw[if_neg (by simp[hg]),if_neg (by simp[hlens]),if_neg (by simp[hnames]),if_neg (by simp[htwos]),←hi,if_neg (by simp[hno])]
structure Wi where
 bad:Int
 st:Cl
 steps:List Cl
abbrev Wi.v (w:Wi):V:= .agg [vi w.bad,aF w.st,cls w.steps]
theorem fM {g:Gr} (h:g.oddR=false):g.init.length=g.next.length∧(∀a∈g.init,0≤a∧a≤2)∧(∀a∈g.next,0≤a∧a<g.all)∧(∀a∈g.outs,0≤a∧a<g.all):=by simp only[Gr.oddR,Bool.or_eq_false_iff,bne_eq_false_iff_eq,List.any_eq_false,Gw,Q3,Bool.not_eq_true,zqd]at h;obtain⟨⟨⟨h1,h2⟩,h3⟩,h4⟩:=h;exact⟨h1,fun a ha=>by have:=h2 a ha;omega,fun a ha=>by have:=h3 a ha;omega,fun a ha=>by have:=h4 a ha;omega⟩
end Go.Proofs.YtmlacppmbfbjgaaGreatDoor
