/- Lemmas for this claim, part F01: each holds under what it names. -/
import Derived.Test.YtmlacppmbfbjgaaGreatDoorP0
import Derived.Test.YtmlacppmbfbjgaaGreatDoorA9
import Derived.Test.YtmlacppmbfbjgaaGreatDoorA7
import Derived.Test.YtmlacppmbfbjgaaGreatDoorA8
set_option linter.unusedVariables false
set_option linter.unusedSimpArgs false
set_option linter.unnecessarySimpa false
set_option maxRecDepth 20000
namespace Go.Proofs.YtmlacppmbfbjgaaGreatDoor
open Go Go.Proofs Go.Abs
abbrev Cl:=List Int
abbrev vi (n:Int):V:= .int .i64 n
abbrev aG (c:Cl):V:= .is false 1 (c.map vi)
abbrev cls (l:List Cl):V:= .is false 1 (l.map fun c=>aG c)
theorem Ff {l:Cl} {r:List V} (hb:V.bnds (aG l::r)):l.length≤maxLen:=by simp only[V.bnds,V.bnd,List.length_map]at hb;exact hb.1.1
theorem Rt {l:List Cl} {r:List V} (hb:V.bnds (cls l::r)):l.length≤maxLen:=by simp only[V.bnds,V.bnd,List.length_map]at hb;exact hb.1.1
theorem KJ {l:Cl} {i:Nat} (h:i<l.length) (d:V):(List.map vi l).getD i d=vi l[i]:=gy h _
theorem VT {l:List Cl} {i:Nat} (h:i<l.length) (d:V):(List.map (fun c=>aG c) l).getD i d=aG l[i]:=gy h _
def lit (vars a:Int):Bool:=decide (a≠0)&&(decide (-vars≤a)&&decide (a≤vars))
theorem dE {n:Int} (h1:-9223372036854775808≤n) (h2:n≤9223372036854775807):IntKind.i64.wrap n=n:=aX h1 (by omega)
theorem bM {α:Type} {l:List α} {i:Nat} (h:i<l.length) {P:α→Prop} (h1:∀s∈l.take i,P s) (h2:P l[i]):∀s∈l.take (i+1),P s:=by
 intro s hs;rw[List.take_add_one]at hs;simp only[h,List.getElem?_eq_getElem,Option.toList_some,List.mem_append,List.mem_singleton]at hs;rcases hs with hs | rfl
 ·exact h1 s hs
 ·exact h2
def chk (l:List Cl) (vars:Int):Int :=
 if(decide (vars<0)||decide (20000<vars)||decide (100000<l.length))=true then 8
 else if(l.all fun c=>c.all (lit vars))=true then 0 else 1
theorem Ru {l:List Cl} {vars:Int} (h:(decide (vars<0)||decide (20000<vars)||decide (100000<(l.length:Int)))=true):chk l vars=8:=by unfold chk;rw[if_pos];simp only[Bool.or_eq_true,decide_eq_true_eq]at h ⊢;omega
theorem OM {l:List Cl} {vars:Int} (h:(decide (vars<0)||decide (20000<vars)||decide (100000<(l.length:Int)))=false) :
 0≤vars∧vars≤20000∧chk l vars=if(l.all fun c=>c.all (lit vars))=true then 0 else 1:=by
 simp only[Bool.or_eq_false_iff,decide_eq_false_iff_not]at h;refine⟨by omega,by omega,?_⟩;unfold chk;rw[if_neg];simp only[Bool.or_eq_true,decide_eq_true_eq];omega
abbrev fV (l:List Bool):V:= .is false 1 (l.map V.bool)
theorem WA {l:List Bool} {i:Nat} (h:i<l.length) (d:V):(List.map V.bool l).getD i d= .bool l[i]:=gy h _
theorem jl {α:Type} {l:List α} {i:Nat} {d:α} (h:i<l.length):l.getD i d=l[i]:=by simp[List.getD_eq_getElem?_getD,h]
def hol (vs:List Bool) (a:Int):Bool:=if a<0 then !(vs.getD (-a-1).toNat false)else vs.getD (a-1).toNat false
theorem Rw {n a:Int} (h:lit n a=true):a≠0∧-n≤a∧a≤n:=by simpa [lit]using h
def sat (l:List Cl) (vs:List Bool):Bool:=l.all fun c=>c.any (hol vs)
def idx {α:Type} (l:List α) (p:α→Bool):Int:=match l.findIdx? p with | some i=>i | none=>-1
theorem kJ {α:Type} {l:List α} {p:α→Bool} {i:Nat} (h:i<l.length) (hn:∀x∈l.take i,p x=false) (hb:p l[i]=true):idx l p=i:=by
 have:l.findIdx? p=some i:=by
  rw[List.findIdx?_eq_some_iff_getElem];refine⟨h,hb,fun j hj=> ?_⟩;have:l[j]∈l.take i:=by
   rw[List.mem_take_iff_getElem];exact⟨j,by omega,rfl⟩
  simp[hn _ this]
 simp[idx,this]
theorem jE {α:Type} {l:List α} {p:α→Bool} (hn:∀x∈l,p x=false):idx l p=-1:=by
 have:l.findIdx? p=none:=by rw[List.findIdx?_eq_none_iff];simpa using hn
 simp[idx,this]
theorem pq {α:Type} (l:List α) (p:α→Bool):decide (0≤idx l p)=l.any p:=by
 cases h:l.any p with
 | false=>rw[jE (by simpa using h)];rfl
 | true =>
  have:∃x∈l,p x=true:=by simpa using h
  unfold idx;cases hb:l.findIdx? p with
  | none=>obtain⟨x,hx,hx2⟩:=this;have:=(List.findIdx?_eq_none_iff.1 hb) x hx;simp[hx2]at this
  | some i=>simp
theorem UJ (c:Cl) (q:FuncId) (caps:List V) (p:Int→Bool) (he:ai P q=true) (hd:V.dats caps=true) (hq:∀x∈c,Ev TE q (vi x::caps) (.bool (p x))):Ev TE 166 [aG c,.fn (.func q) [] caps] (vi (idx c p)):=by
 refine Ev.bnd fun hb=> ?_;have hlen:=Ff hb;refine ak Tryz.func166 rfl (by simp[nts]) (vm ?_);simp only[wq.1,seval,Tryz.results166];refine aA (fun m f h=>∃i,m+i=c.length∧f.t 0=aG c∧f.t 1= .fn (.func q) [] caps∧f.t 7= .int .i64 (c.length:Int)∧f.t 8= .int .i64 (i:Int)∧f.d=[]∧∀x∈c.take i,p x=false) c.length ⟨0,by simp,rfl,rfl,rfl,rfl,rfl,by simp⟩ ?_;rintro m f h ⟨i,hm,h0,h1,h7,h8,hdd,hall⟩;refine vm ?_;simp only[wq.1,seval,h7,h8];refine vcB.mk (fun hc=> ?_) (fun hc=> ?_)
 ·simp only [decide_eq_true_eq,Int.ofNat_lt] at hc;simp only [wq.1,seval,h0,h1,h8,KJ hc,he];refine ⟨⟨by omega,by omega⟩,ah.ev (hq _ (List.getElem_mem _)) (by simp [V.dats,V.dat,hd]) ?_⟩;simp only [wq.1,seval];refine vcB.mk (fun hc' => ?_) (fun hc' => ?_)
  ·simp only[wq.1,seval,hdd];rw[kJ hc hall hc'];exact az.dat rfl
  ·simp only[wq.1,seval,h8,aC (show i<maxLen by omega)];exact .inl ⟨m-1,by omega,i+1,by omega,h0,h1,h7,rfl,hdd,bM hc hall hc'⟩
 ·simp only[decide_eq_false_iff_not,Int.ofNat_lt]at hc;simp only[wq.1,seval,hdd];rw[List.take_of_length_le (by omega)]at hall;rw[jE hall];exact az.dat rfl
theorem UK (l:List Cl) (q:FuncId) (caps:List V) (p:Cl→Bool) (he:ai P q=true) (hd:V.dats caps=true) (hq:∀x∈l,Ev TE q (aG x::caps) (.bool (p x))):Ev TE 165 [cls l,.fn (.func q) [] caps] (vi (idx l p)):=by
 refine Ev.bnd fun hb=> ?_;have hlen:=Rt hb;refine ak Tryz.func165 rfl (by simp[nts]) (vm ?_);simp only[wq.1,seval,Tryz.results165];refine aA (fun m f h=>∃i,m+i=l.length∧f.t 0=cls l∧f.t 1= .fn (.func q) [] caps∧f.t 7= .int .i64 (l.length:Int)∧f.t 8= .int .i64 (i:Int)∧f.d=[]∧∀x∈l.take i,p x=false) l.length ⟨0,by simp,rfl,rfl,rfl,rfl,rfl,by simp⟩ ?_;rintro m f h ⟨i,hm,h0,h1,h7,h8,hdd,hall⟩;refine vm ?_;simp only[wq.1,seval,h7,h8];refine vcB.mk (fun hc=> ?_) (fun hc=> ?_)
 ·simp only [decide_eq_true_eq,Int.ofNat_lt] at hc;simp only [wq.1,seval,h0,h1,h8,VT hc,he];refine ⟨⟨by omega,by omega⟩,ah.ev (hq _ (List.getElem_mem _)) (by simp [V.dats,V.dat,hd]) ?_⟩;simp only [wq.1,seval];refine vcB.mk (fun hc' => ?_) (fun hc' => ?_)
  ·simp only[wq.1,seval,hdd];rw[kJ hc hall hc'];exact az.dat rfl
  ·simp only[wq.1,seval,h8,aC (show i<maxLen by omega)];exact .inl ⟨m-1,by omega,i+1,by omega,h0,h1,h7,rfl,hdd,bM hc hall hc'⟩
 ·simp only[decide_eq_false_iff_not,Int.ofNat_lt]at hc;simp only[wq.1,seval,hdd];rw[List.take_of_length_le (by omega)]at hall;rw[jE hall];exact az.dat rfl
theorem UL (c:Cl) (q:FuncId) (caps:List V) (p:Int→Bool) (he:ai P q=true) (hd:V.dats caps=true) (hq:∀x∈c,Ev TE q (vi x::caps) (.bool (p x))):Ev TE 146 [aG c,.fn (.func q) [] caps] (.bool (c.any p)):=by refine ak Tryz.func146 rfl (by simp[nts]) (vm ?_);simp only[wq.1,seval,Tryz.results146];refine ah.ev (UJ c q caps p he hd hq) (by simp[V.dats,V.dat,hd]) ?_;simp only[wq.1,seval];exact aQ rfl (by rw[pq])
theorem UM (l:List Cl) (q:FuncId) (caps:List V) (p:Cl→Bool) (he:ai P q=true) (hd:V.dats caps=true) (hq:∀x∈l,Ev TE q (aG x::caps) (.bool (p x))):Ev TE 144 [cls l,.fn (.func q) [] caps] (.bool (l.any p)):=by refine ak Tryz.func144 rfl (by simp[nts]) (vm ?_);simp only[wq.1,seval,Tryz.results144];refine ah.ev (UK l q caps p he hd hq) (by simp[V.dats,V.dat,hd]) ?_;simp only[wq.1,seval];exact aQ rfl (by rw[pq])
theorem Rx {vars a:Int} (h0:0≤vars) (h1:vars≤20000):(a==0||decide (a<IntKind.i64.wrap (0-vars))||decide (vars<a))= !lit vars a:=by
 rw[dE (n:=0-vars) (by omega) (by omega),Int.zero_sub];unfold lit;by_cases h:a=0
 ·subst h;simp
 ·have : (a == 0) = false := by simpa using h
  rw[this];simp only[ne_eq,h,not_false_eq_true,decide_true,Bool.false_or,Bool.true_and,Bool.not_and]
  congr 1
  ·rw[←decide_not];congr 1;simp
  ·rw[←decide_not];congr 1;simp
theorem KL (a vars:Int) (h0:0≤vars) (h1:vars≤20000):Ev TE 143 [vi a,.ip (vi vars)] (.bool (!lit vars a)):=by refine ak Tryz.func143 rfl (by simp[nts]) (vm ?_);simp only[wq.1,seval,Tryz.results143];exact aQ rfl (by rw[Rx h0 h1])
theorem Ry {c:Cl} {vars:Int}:(c.any fun a=> !lit vars a)= !(c.all (lit vars)):=by simp[List.not_all_eq_any_not]
theorem OO {l:List Cl} {vars:Int}:(l.any fun c=> !(c.all (lit vars)))= !(l.all fun c=>c.all (lit vars)):=by simp[List.not_all_eq_any_not]
theorem KN (c:Cl) (vars:Int) (h0:0≤vars) (h1:vars≤20000):Ev TE 145 [aG c,.ip (.fn (.func 143) [] [.ip (vi vars)])] (.bool (!(c.all (lit vars)))):=by refine ak Tryz.func145 rfl (by simp[nts]) (vm ?_);simp only[wq.1,seval,Tryz.results145];refine ah.ev (UL c 143 [.ip (vi vars)] (fun a=> !lit vars a) rfl rfl fun x _=>KL x vars h0 h1) rfl ?_;rw[Ry];simp only[wq.1,seval];exact az.dat rfl
theorem OQ (l:List Cl) (vars:Int):Ev TE 120 [cls l,vi vars] (vi (chk l vars)):=by
 refine ak Tryz.func120 rfl (by simp[nts]) (vm ?_);simp only[wq.1,seval,Tryz.results120];refine vcB.mk (fun hc=> ?_) (fun hc=> ?_)
 ·simp only[wq.1,seval];exact aQ rfl (by rw[Ru];simpa [Bool.or_assoc]using hc)
 ·obtain ⟨hv0,hv1,hr⟩ := OM (l := l) (vars := vars) (by simpa [Bool.or_assoc] using hc);rw [hr];simp only [wq.1,seval];refine ah.lend (UM l 145 [.ip (.fn (.func 143) [] [.ip (vi vars)])] (fun c => !(c.all (lit vars))) rfl rfl fun x _ => KN x vars hv0 hv1)
   (aj.cons (az.dat rfl) (aj.cons (az.fn aj.nil (aj.cons (az.lp rfl (aj.cons (az.fn aj.nil (aj.cons (az.lp rfl (aj.dat rfl) rfl rfl (by simp[V.vc]) rfl) aj.nil)) aj.nil) rfl rfl (by simp[V.vc]) rfl) aj.nil)) aj.nil)) rfl ?_
  rw[OO];simp only[wq.1,↓reduceIte];refine vcB.mk (fun hc'=> ?_) (fun hc'=> ?_)
  ·simp only[wq.1,seval];rw[if_neg (by simpa using hc')];exact az.dat rfl
  ·simp only[wq.1,seval];rw[if_pos (by simpa using hc')];exact az.dat rfl
theorem tX {l:List Cl} {vars:Int} (h:chk l vars=0):0≤vars∧vars≤20000∧l.length≤100000∧∀c∈l,∀a∈c,lit vars a=true:=by
 unfold chk at h;split at h
 ·cases h
 ·rename_i hh;simp only [Bool.or_eq_true,decide_eq_true_eq] at hh;split at h
  ·rename_i h2;refine⟨by omega,by omega,by omega,?_⟩;simpa using h2
  ·cases h
theorem Bg (a : Int) : ∀ (ks : Cl),ji (.int .i64) (vi a) (ks.map vi) = some (ks.findIdx? (· == a))
 | []=>rfl
 | k::ks=>by
  simp only[List.map_cons,ji,keq,List.findIdx?_cons];by_cases h:k=a
  ·subst h;simp
  ·have h1 : (a == k) = false := by simpa using fun h' => h h'.symm
   have h2:(k==a)=false:=by simpa using h
   have h3:(if True then some (a==k)else none)=some false:=by rw[if_pos trivial,h1]
   simp only[h3,Bg a ks,h2];cases ks.findIdx? (·==a)<;>rfl
theorem vC : ∀ l : Cl,V.dats (l.map vi) = true
 | []=>rfl
 | a::l=>by simp only[List.map_cons,V.dats,V.dat,vC l,Bool.and_self]
inductive Der (l : List Cl) (given : Cl) : Int → Prop
 | start (a:Int):a∈given→Der l given a
 | unit (c:Cl) (a:Int):c∈l→a∈c→(∀b∈c,b≠a→Der l given (-b))→Der l given a
def Bad (l:List Cl) (given:Cl):Prop:=(∃c∈l,∀b∈c,Der l given (-b))∨∃a,Der l given a∧Der l given (-a)
structure Good (l : List Cl) (given g : Cl) (ks : Cl) : Prop where
 der:∀a∈ks,Der l given a
 all:∀a∈g,a∈ks
 con:∀a∈ks,¬ -a∈ks
 rng:∀a∈ks,-20000≤a∧a≤20000∧a≠0
 nod:ks.Nodup
structure Fin (l : List Cl) (given ks : Cl) : Prop where
 iff:∀a,a∈ks↔Der l given a
 not:¬Bad l given
 rng:∀a∈ks,-20000≤a∧a≤20000∧a≠0
 nod:ks.Nodup
theorem KO : ∀ c : Cl,dN 1 (c.map vi) = true
 | []=>rfl
 | a::c=>by simp only[List.map_cons,dN,KO c,V.fit,V.vc,List.length_singleton];rfl
theorem Ea : ∀ c : Cl,(c.map vi).flatMap V.vc = c.map vi
 | []=>rfl
 | a::c=>by simp only[List.map_cons,List.flatMap_cons,V.vc,Ea c];rfl
theorem KP : ∀ l : List Cl,dN 1 (l.map fun c => aG c) = true
 | []=>rfl
 | a::l=>by simp only[List.map_cons,dN,KP l,V.fit,V.vc,List.length_singleton];rfl
theorem Fg : ∀ l : List Cl,(l.map fun c => aG c).flatMap V.vc = l.map fun c => aG c
 | []=>rfl
 | a::l=>by simp only[List.map_cons,List.flatMap_cons,V.vc,Fg l];rfl
theorem Fh : ∀ l : List Cl,V.dats (l.map fun c => aG c) = true
 | []=>rfl
 | a::l=>by simp only[List.map_cons,V.dats,V.dat,vC,Fh l,Bool.and_self]
theorem bg {p : Nat → Bool} : ∀ c : Cl,V.drops p (c.map vi) = c.map vi
 | []=>rfl
 | a::c=>by simp only[List.map_cons,V.drops,V.drop,bg c]
open Classical in
noncomputable def Qv (l:List Cl) (given:Cl):Bool:=decide (Bad l given)
theorem Bh {l:List Cl} {given:Cl} (h:Bad l given):Qv l given=true:=by simp[Qv,h]
def zo (c:Cl):Cl:=c.map fun a=>-a
theorem lH : ∀ l : Cl,bF (l.map vi) = true
 | []=>rfl
 | a::l=>by simp only[List.map_cons,bF,lH l,V.one,V.vc,List.length_singleton];rfl
noncomputable def Bi : List Cl → List Cl → Bool
 | all,[]=>Qv all []
 | all,c::s=>Qv all (zo c)&&Bi (all++[c]) s
theorem xP {l steps : List Cl} : ∀ {i : Nat},i ≤ steps.length → (∀ k (hk : k < steps.length),k < i → Qv (l ++ steps.take k) (zo steps[k]) = true) → Bi l steps = Bi (l ++ steps.take i) (steps.drop i)
 | 0,_,_=>by simp
 | i+1,hi,h=>by
  have hlt:i<steps.length:=by omega
  rw[xP (i:=i) (by omega) fun k hk hki=>h k hk (by omega),List.drop_eq_getElem_cons hlt,Bi,h i hlt (by omega),Bool.true_and]
  congr 1
  rw[List.take_add_one];simp[hlt]
def Eb (l:List Cl):Prop:=∀c∈l,∀b∈c,-20000≤b∧b≤20000∧b≠0
theorem Eb.take {l s:List Cl} {i:Nat} (h1:Eb l) (h2:Eb s):Eb (l++s.take i):=by
 intro c hc;rcases List.mem_append.1 hc with hc | hc
 ·exact h1 c hc
 ·exact h2 c (List.mem_of_mem_take hc)
theorem Eb.app {l s:List Cl} (h1:Eb l) (h2:Eb s):Eb (l++s):=by
 intro c hc;rcases List.mem_append.1 hc with hc | hc
 ·exact h1 c hc
 ·exact h2 c hc
theorem OT {c:Cl} (h:∀b∈c,-20000≤b∧b≤20000∧b≠0):∀b∈zo c,-20000≤b∧b≤20000∧b≠0:=by intro b hb;obtain⟨a,ha,rfl⟩:=List.mem_map.1 hb;have:=h a ha;omega
open Go.RowKit
theorem KQ : ∀ l : List Bool,V.dats (l.map V.bool) = true
 | []=>rfl
 | a::l=>by simp only[List.map_cons,V.dats,V.dat,KQ l,Bool.and_self]
theorem Rz : ∀ l : List Bool,dN 1 (l.map V.bool) = true
 | []=>rfl
 | a::l=>by simp only[List.map_cons,dN,Rz l,V.fit,V.vc,List.length_singleton];rfl
theorem KR : ∀ l : List Bool,(l.map V.bool).flatMap V.vc = l.map V.bool
 | []=>rfl
 | a::l=>by simp only[List.map_cons,List.flatMap_cons,V.vc,KR l];rfl
theorem pF {vs:List Bool} {a:Int} (h:a≠0):hol vs (-a)= !hol vs a:=by
 unfold hol;by_cases h0:a<0
 ·rw[if_neg (by omega),if_pos h0,Bool.not_not]
 ·rw[if_pos (by omega),if_neg h0,Int.neg_neg]
theorem Ec {l:List Cl} {given:Cl} {vs:List Bool} (hl:Eb l) (hs:sat l vs=true) (hg:∀a∈given,hol vs a=true):∀a,Der l given a→hol vs a=true:=by
 intro a h
 induction h with
 | start a h=>exact hg a h
 | unit c a h1 h2 h3 ih =>
  have hc:c.any (hol vs)=true:=List.all_eq_true.1 hs c h1;obtain⟨b,hb,hb2⟩:=List.any_eq_true.1 hc;by_cases hba:b=a
  ·subst hba;exact hb2
  ·have:=ih b hb hba;rw[pF (hl c h1 b hb).2.2,hb2]at this;cases this
theorem KT {l:List Cl} {given:Cl} {vs:List Bool} (hl:Eb l) (hr:∀a∈given,a≠0) (hs:sat l vs=true) (hb:Bad l given):¬ ∀a∈given,hol vs a=true:=by
 intro hg;rcases hb with⟨c,h1,h2⟩ | ⟨a,h1,h2⟩
 ·have hc:c.any (hol vs)=true:=List.all_eq_true.1 hs c h1;obtain⟨b,hb,hb2⟩:=List.any_eq_true.1 hc;have:=Ec hl hs hg _ (h2 b hb);rw[pF (hl c h1 b hb).2.2,hb2]at this;cases this
 ·have g1:=Ec hl hs hg _ h1;have g2:=Ec hl hs hg _ h2;have hz:a≠0:=by
   cases h1 with
   | start _ h=>exact hr a h
   | unit c _ h1 h2 _=>exact(hl c h1 a h2).2.2
  rw[pF hz,g1]at g2;cases g2
theorem KU {l:List Cl} {given:Cl} (h:Qv l given=true):Bad l given:=by simpa [Qv]using h
theorem RD {l:List Cl} {c:Cl} {vs:List Bool} (hl:Eb l) (hr:∀b∈c,-20000≤b∧b≤20000∧b≠0) (hs:sat l vs=true) (hb:Qv l (zo c)=true):c.any (hol vs)=true:=by
 have h1:=KT hl (fun a ha=>(OT hr a ha).2.2) hs (KU hb);rw[List.any_eq_true];apply Classical.byContradiction;intro hn;apply h1;intro a ha;obtain⟨b,hb,rfl⟩:=List.mem_map.1 ha;rw[pF (hr b hb).2.2];cases h:hol vs b with
 | false=>rfl
 | true=>exact absurd ⟨b,hb,h⟩ hn
theorem vF : ∀ {s all : List Cl} {vs : List Bool},Eb all → Eb s → Bi all s = true → sat all vs = false
 | [],all,vs,h1,_,h=>by
  unfold Bi at h;cases hs:sat all vs with
  | false=>rfl
  | true=>exact absurd (by simp) (KT h1 (by simp) hs (KU h))
 | c::s,all,vs,h1,h2,h=>by
  unfold Bi at h;rw[Bool.and_eq_true]at h;have hc:=h2 c (by simp);have hb:Eb (all++[c]):=h1.app (fun x hx=>by
   have:x=c:=by simpa using hx
   subst this;exact hc)
  have ih:=vF (vs:=vs) hb (fun x hx=>h2 x (by simp[hx])) h.2;cases hs:sat all vs with
  | false=>rfl
  | true =>
   have h3:=RD h1 hc hs h.1;have:sat (all++[c]) vs=true:=by unfold sat at hs ⊢;rw[List.all_append,hs];simp[h3]
   rw[this]at ih;cases ih
structure VS where
 value:Int
 level:Int
 reason:Option Nat
 last:Int
 score:Int
structure St where
 v:Nat→VS
 cl:Nat→Cl
 nc:Nat
 wt:Int→List Nat
 tr:Cl
 hd:Nat
 lv:List Nat
 ln:List Cl
 nx:List (Int×Int)
def upd {α:Type} (f:Nat→α) (i:Nat) (x:α):Nat→α:=fun j=>if j=i then x else f j
theorem aO {α:Type} (f:Nat→α) (i:Nat) (x:α):upd f i x i=x:=by simp[upd]
theorem aU {α:Type} {f:Nat→α} {i j:Nat} {x:α} (h:j≠i):upd f i x j=f j:=by simp[upd,h]
def lev (lv:List Nat) (p:Nat):Nat:=lv.countP fun x=>decide (x≤p)
def Du (tr:Cl) (i:Nat):Int:=if(i:Int)∈tr then 1 else if -(i:Int)∈tr then -1 else 0
def lh (S:St) (a:Int):Int:=if a<0 then -(S.v a.natAbs).value else(S.v a.natAbs).value
def eH (S:St) (a:Int):Int:=(S.v a.natAbs).level
structure Tr (n : Nat) (S : St) : Prop where
 nd:(S.tr.map Int.natAbs).Nodup
 rng:∀a∈S.tr,a≠0∧a.natAbs≤n
 val:∀i,1≤i→i≤n→(S.v i).value=Du S.tr i
 lvl:∀p (h:p<S.tr.length),eH S S.tr[p]=lev S.lv p
 lvs:S.lv.Pairwise (·<·)
 lvh:∀x∈S.lv,x≤S.hd
 hdl:S.hd≤S.tr.length
theorem vG : ∀ {l : Cl},(l.map Int.natAbs).Nodup → ∀ a ∈ l,a ≠ 0 → ¬ -a ∈ l
 | [],_,a,h,_,_=>by simp at h
 | x::l,hn,a,h,h0,hm=>by
  rw[List.map_cons,List.nodup_cons]at hn;obtain⟨h1,h2⟩:=hn;have k:∀b∈l,b.natAbs≠x.natAbs:=fun b hb he=>h1 (he▸List.mem_map_of_mem hb);rcases List.mem_cons.1 h with rfl | h
  ·rcases List.mem_cons.1 hm with hm | hm
   ·omega
   ·exact k _ hm (Int.natAbs_neg _)
  ·rcases List.mem_cons.1 hm with hm | hm
   ·exact k a h (by rw[←hm,Int.natAbs_neg])
   ·exact vG h2 a h h0 hm
theorem qB : ∀ {l : Cl},(l.map Int.natAbs).Nodup → ∀ a ∈ l,∀ b ∈ l,a.natAbs = b.natAbs → a = b
 | [],_,a,h,_,_,_=>by simp at h
 | x::l,hn,a,h,b,hb,he=>by
  rw[List.map_cons,List.nodup_cons]at hn;obtain⟨h1,h2⟩:=hn;have k:∀b∈l,b.natAbs≠x.natAbs:=fun b hb he=>h1 (he▸List.mem_map_of_mem hb);rcases List.mem_cons.1 h with h | h<;>rcases List.mem_cons.1 hb with hb | hb
  ·rw[h,hb]
  ·exact absurd (by rw[←he,h]) (k _ hb)
  ·exact absurd (by rw[he,hb]) (k _ h)
  ·exact qB h2 a h b hb he
section
variable {n:Nat} {S:St}
theorem Tr.con (t:Tr n S) {a:Int} (h:a∈S.tr):¬ -a∈S.tr:=vG t.nd a h (t.rng a h).1
theorem Tr.con' (t:Tr n S) {a:Int} (h:-a∈S.tr):¬a∈S.tr:=fun h2=>t.con h2 h
theorem vH {tr:Cl} {i:Nat} (h1:¬(i:Int)∈tr) (h:¬ -(i:Int)∈tr):Du tr i=0:=by simp[Du,h,h1]
theorem Tr.lval_eq (t:Tr n S) {a:Int} (h0:a≠0) (hn:a.natAbs≤n):lh S a=if a∈S.tr then 1 else if -a∈S.tr then -1 else 0:=by
 unfold lh;rw[t.val a.natAbs (by omega) hn];by_cases ha:a<0
 ·rw [if_pos ha];have e : ((a.natAbs : Nat) : Int) = -a := by omega
  unfold Du;rw[e,Int.neg_neg];by_cases h1:a∈S.tr
  ·rw[if_neg (t.con h1),if_pos h1,if_pos h1];rfl
  ·by_cases h2 : -a ∈ S.tr
   ·rw[if_pos h2,if_neg h1,if_pos h2]
   ·rw[if_neg h2,if_neg h1,if_neg h1,if_neg h2];rfl
 ·rw [if_neg ha];have e : ((a.natAbs : Nat) : Int) = a := by omega
  unfold Du;rw[e]
theorem Tr.lval_pos (t:Tr n S) {a:Int} (h0:a≠0) (hn:a.natAbs≤n):0<lh S a↔a∈S.tr:=by rw[t.lval_eq h0 hn];by_cases h1:a∈S.tr<;>by_cases h2:-a∈S.tr<;>simp[h1,h2]
theorem Tr.lval_neg (t:Tr n S) {a:Int} (h0:a≠0) (hn:a.natAbs≤n):lh S a<0↔-a∈S.tr:=by rw[t.lval_eq h0 hn];by_cases h1:a∈S.tr<;>by_cases h2:-a∈S.tr<;>simp[h1,h2];exact absurd h2 (t.con h1)
theorem Tr.lval_nn (t:Tr n S) {a:Int} (h0:a≠0) (hn:a.natAbs≤n):0≤lh S a↔¬ -a∈S.tr:=by rw[←t.lval_neg h0 hn,Int.not_lt]
theorem Tr.lval_zero (t:Tr n S) {a:Int} (h0:a≠0) (hn:a.natAbs≤n):lh S a=0↔¬a∈S.tr∧¬ -a∈S.tr:=by rw[t.lval_eq h0 hn];by_cases h1:a∈S.tr<;>by_cases h2:-a∈S.tr<;>simp[h1,h2]
theorem fD : ∀ {m : Nat} {l : List Nat},l.Nodup → (∀ x ∈ l,x < m) → l.length ≤ m
 | 0,[],_,_=>by simp
 | 0,x::l,_,h=>by have:=h x (by simp);omega
 | m+1,l,hn,h=>by
  by_cases hm:m∈l
  ·have h1:(l.erase m).Nodup:=hn.erase m;have h2:=fD (m:=m) h1 fun x hx=>by
    have h3:=h x (List.mem_of_mem_erase hx);have h4:x≠m:=fun he=>by rw[he,List.Nodup.mem_erase_iff hn]at hx;exact hx.1 rfl
    omega
   rw[List.length_erase_of_mem hm]at h2;omega
  ·have := fD (m := m) hn fun x hx => by have h3 := h x hx;have h4 : x ≠ m := fun he => hm (he ▸ hx);omega
   omega
theorem Tr.len (t:Tr n S):S.tr.length≤n:=by
 have h:=fD (m:=n) (l:=S.tr.map fun a=>a.natAbs-1) (by
  have:=t.nd;rw[List.Nodup,List.pairwise_map]at this ⊢;refine this.imp_of_mem fun {a b} ha hb hab=> ?_;have:=(t.rng a ha).1;have:=(t.rng b hb).1;omega) (by
  intro x hx;obtain⟨a,ha,rfl⟩:=List.mem_map.1 hx;have:=t.rng a ha;omega)
 simpa using h
theorem Tr.free (t:Tr n S) {a:Int} (h0:a≠0) (hn:a.natAbs≤n) (h1:¬a∈S.tr) (h2:¬ -a∈S.tr):S.tr.length<n:=by
 have h:=fD (m:=n) (l:=(a::S.tr).map fun a=>a.natAbs-1) (by
  have:=t.nd;rw[List.map_cons,List.nodup_cons];refine⟨fun hm=> ?_,?_⟩
  ·obtain ⟨b,hb,he⟩ := List.mem_map.1 hm;have := (t.rng b hb).1;rcases show b = a ∨ b = -a by omega with rfl | rfl
   ·exact h1 hb
   ·exact h2 hb
  ·rw[List.Nodup,List.pairwise_map]at this ⊢;refine this.imp_of_mem fun {a b} ha hb hab=> ?_;have:=(t.rng a ha).1;have:=(t.rng b hb).1;omega) (by
  intro x hx;obtain⟨b,hb,rfl⟩:=List.mem_map.1 hx;rcases List.mem_cons.1 hb with rfl | hb
  ·omega
  ·have:=t.rng b hb;omega)
 simp at h;omega
theorem Ed {lv:List Nat} {p:Nat} (h:∀x∈lv,x≤p):lev lv p=lv.length:=by unfold lev;rw[List.countP_eq_length];intro x hx;simpa using h x hx
theorem Fj (lv:List Nat) (p:Nat):lev lv p≤lv.length:=List.countP_le_length
theorem OU (lv:List Nat) {p q:Nat} (h:p≤q):lev lv p≤lev lv q:=by unfold lev;exact List.countP_mono_left fun x _ hx=>by simp at hx ⊢;omega
theorem Ee {lv:List Nat} {m p:Nat} (h:p<m):lev (lv++[m]) p=lev lv p:=by unfold lev;rw[List.countP_append];simp;omega
theorem Qw {lv:List Nat} (hs:lv.Pairwise (·<·)) {k p:Nat} (hk:k<lv.length):p<lv[k]↔lev lv p≤k:=by
 induction lv generalizing k with
 | nil=>simp at hk
 | cons x lv ih =>
  rw[List.pairwise_cons]at hs;unfold lev;rw[List.countP_cons];cases k with
  | zero =>
   rw[List.getElem_cons_zero];by_cases hx:x≤p
   ·simp[hx]
   ·have : lv.countP (fun x => decide (x ≤ p)) = 0 := by rw [List.countP_eq_zero];intro y hy;have := hs.1 y hy;simp;omega
    rw[this];simp[hx];omega
  | succ k =>
   rw[List.getElem_cons_succ];have h1:=ih hs.2 (k:=k) (by simpa using hk);unfold lev at h1;by_cases hx:x≤p
   ·simp only[hx,decide_true,if_true];omega
   ·have h2 : x < lv[k]'(by simpa using hk) := hs.1 _ (List.getElem_mem _);simp only [hx,decide_false,if_false];have : lv.countP (fun x => decide (x ≤ p)) = 0 := by rw [List.countP_eq_zero];intro y hy;have := hs.1 y hy;simp;omega
    simp only[this];simp;omega
theorem zq {lv:List Nat} (hs:lv.Pairwise (·<·)) {k p:Nat} (hk:k<lv.length) (hp:p<lv[k]):lev (lv.take k) p=lev lv p:=by
 have h:lv=lv.take k++lv.drop k:=(List.take_append_drop k lv).symm
 conv=>rhs;rw[h]
 unfold lev;rw[List.countP_append];have:(lv.drop k).countP (fun x=>decide (x≤p))=0:=by
  rw[List.countP_eq_zero];intro y hy;rw[List.drop_eq_getElem_cons hk]at hy;have hs2:=hs.sublist (List.drop_sublist k lv);rw[List.drop_eq_getElem_cons hk,List.pairwise_cons]at hs2;rcases List.mem_cons.1 hy with rfl | hy
  ·simp;omega
  ·have:=hs2.1 y hy;simp;omega
 omega
theorem iY {l:Cl} {a:Int} {k:Nat} (h:a∈l.take k):∃(p:Nat) (hp:p<l.length),p<k∧l[p]=a:=by obtain⟨p,hp,he⟩:=List.getElem_of_mem h;rw[List.length_take]at hp;exact⟨p,by omega,by omega,by rw[List.getElem_take]at he;exact he⟩
theorem jU {l:Cl} {k p:Nat} (hp:p<l.length) (hk:p<k):l[p]∈l.take k:=List.mem_take_iff_getElem.2 ⟨p,by omega,rfl⟩
theorem Tr.low (t:Tr n S) {a:Int} (ha:a∈S.tr) {k:Nat} (hk:k<S.lv.length):a∈S.tr.take S.lv[k]↔eH S a≤k:=by
 constructor
 ·intro h;obtain⟨p,hp,h1,rfl⟩:=iY h;rw[t.lvl p hp];have:=(Qw t.lvs hk).1 h1;omega
 ·intro h;obtain⟨p,hp,rfl⟩:=List.getElem_of_mem ha;rw[t.lvl p hp]at h;exact jU hp ((Qw t.lvs hk).2 (by omega))
theorem Tr.lev_rng (t:Tr n S) {a:Int} (ha:a∈S.tr):0≤eH S a∧eH S a≤S.lv.length:=by obtain⟨p,hp,rfl⟩:=List.getElem_of_mem ha;rw[t.lvl p hp];have:=Fj S.lv p;omega
theorem eP (S:St) (a:Int):eH S (-a)=eH S a:=by unfold eH;rw[Int.natAbs_neg]
end
structure Cls (n : Nat) (S : St) : Prop where
 c2:∀j,j<S.nc→2≤(S.cl j).length
 cnd:∀j,j<S.nc→((S.cl j).map Int.natAbs).Nodup
 crg:∀j,j<S.nc→∀a∈S.cl j,a≠0∧a.natAbs≤n
 wts:∀a j,j∈S.wt a→j<S.nc∧a∈(S.cl j).take 2
 wtc:∀j,j<S.nc→∀a∈(S.cl j).take 2,j∈S.wt a
 wnd:∀a,(S.wt a).Nodup
structure Rea (S : St) : Prop where
 rea:∀p (h:p<S.tr.length) j,(S.v (S.tr[p]).natAbs).reason=some j→j<S.nc∧S.tr[p]∈S.cl j∧∀b∈S.cl j,b≠S.tr[p]→-b∈S.tr.take p
 dec:∀p (h:p<S.tr.length),(S.v (S.tr[p]).natAbs).reason=none→lev S.lv p=0∨p∈S.lv
def Wat (q:Nat) (S:St) (j:Nat):Prop:=∀x∈(S.cl j).take 2,-x∈S.tr.take q→∃y∈(S.cl j).take 2,y∈S.tr∧eH S y≤eH S x
structure Nxt (n : Nat) (S : St) : Prop where
 all:∀i,1≤i→i≤n→(S.v i).value=0→((i:Int),(S.v i).score)∈S.nx
 rng:∀t∈S.nx,1≤t.1∧t.1≤n
structure Log (n : Nat) (l : List Cl) (S : St) : Prop where
 d0:∀p (h:p<S.tr.length),lev S.lv p=0→Der (l++S.ln) [] S.tr[p]
 src:∀j,j<S.nc→∃c∈l++S.ln,∀a,a∈S.cl j↔a∈c
 rup:∀k (h:k<S.ln.length),Bad (l++S.ln.take k) (zo S.ln[k])
 lrg:∀c∈S.ln,c≠[]∧(c.map Int.natAbs).Nodup∧∀a∈c,a≠0∧a.natAbs≤n
 lnew:S.ln.Pairwise fun c d=>¬ ∀a,a∈c↔a∈d
def Lcv (L:List Cl) (S:St):Prop:=∀c∈L,(∃a,c=[a]∧a∈S.tr∧eH S a=0)∨∃j,j<S.nc∧∀a,a∈S.cl j↔a∈c
def Cov (l:List Cl) (S:St):Prop:=∀c∈l,(∃a∈c,-a∈c)∨(∃a∈c,a∈S.tr∧eH S a=0)∨∃j,j<S.nc∧∀a,a∈S.cl j↔a∈c
def Lvt (S:St):Prop:=∀x∈S.lv,x<S.tr.length
def jF (S:St) (a:Int) (r:Option Nat):St :=
 {S with v:=upd S.v a.natAbs {S.v a.natAbs with value:=if a<0 then -1 else 1,level:=S.lv.length,reason:=r},tr:=S.tr++[a]}
section
variable {n:Nat} {l:List Cl} {S:St} {a:Int} {r:Option Nat}
theorem Fp (t:Tr n S) (h1:¬a∈S.tr) (h2:¬ -a∈S.tr) {b:Int} (hb:b∈S.tr):b.natAbs≠a.natAbs:=by
 intro he;rcases show b=a∨b=-a by omega with h | h
 ·exact h1 (h▸hb)
 ·exact h2 (h▸hb)
theorem sJ {i:Nat} (h:i≠a.natAbs):(jF S a r).v i=S.v i:=aU h
theorem mO:(jF S a r).v a.natAbs={S.v a.natAbs with value:=if a<0 then -1 else 1,level:=S.lv.length,reason:=r}:=aO _ _ _
theorem nV (t:Tr n S) (h1:¬a∈S.tr) (h2:¬ -a∈S.tr) {b:Int} (hb:b∈S.tr):eH (jF S a r) b=eH S b:=by unfold eH;rw[sJ (Fp t h1 h2 hb)]
theorem Ih (t:Tr n S) (h1:¬a∈S.tr) (h2:¬ -a∈S.tr) {b:Int} (hb:-b∈S.tr):eH (jF S a r) b=eH S b:=by rw[←eP,nV t h1 h2 hb,eP]
theorem tY:eH (jF S a r) a=S.lv.length:=by unfold eH;rw[mO]
theorem OV {tr:Cl} {i:Nat} (h:i≠a.natAbs):Du (tr++[a]) i=Du tr i:=by
 unfold Du;have h1:((i:Int)∈tr++[a])↔(i:Int)∈tr:=by
  simp only[List.mem_append,List.mem_singleton];refine⟨fun h2=>h2.resolve_right fun h3=>h (by omega),.inl⟩
 have h2:(-(i:Int)∈tr++[a])↔-(i:Int)∈tr:=by simp only[List.mem_append,List.mem_singleton];refine⟨fun h2=>h2.resolve_right fun h3=>h (by omega),.inl⟩
 simp only[h1,h2]
theorem Tr.letS (t : Tr n S) (h0 : a ≠ 0) (hn : a.natAbs ≤ n) (h1 : ¬ a ∈ S.tr) (h2 : ¬ -a ∈ S.tr) : Tr n (jF S a r) where
 nd:=by
  show((S.tr++[a]).map Int.natAbs).Nodup;rw[List.map_append,List.map_singleton,List.nodup_append];refine⟨t.nd,by simp,fun x hx y hy=> ?_⟩;obtain⟨b,hb,rfl⟩:=List.mem_map.1 hx;rw[List.mem_singleton.1 hy];exact Fp t h1 h2 hb
 rng b hb:=by
  rcases List.mem_append.1 (show b∈S.tr++[a]from hb)with hb | hb
  ·exact t.rng b hb
  ·rw[List.mem_singleton.1 hb];exact⟨h0,hn⟩
 val i hi hin:=by
  show _=Du (S.tr++[a]) i;by_cases he:i=a.natAbs
  ·subst he;rw [mO];dsimp only;by_cases hneg : a < 0
   ·rw [if_pos hneg];have e : ((a.natAbs : Nat) : Int) = -a := by omega
    unfold Du;rw[e,Int.neg_neg,if_neg (by simp[h2];omega),if_pos (by simp)]
   ·rw [if_neg hneg];have e : ((a.natAbs : Nat) : Int) = a := by omega
    unfold Du;rw[e,if_pos (by simp)]
  ·rw[sJ he,t.val i hi hin,OV he]
 lvl p h:=by
  have h':p<(S.tr++[a]).length:=h;show eH _ (S.tr++[a])[p]=lev S.lv p;by_cases hp:p<S.tr.length
  ·have e:(S.tr++[a])[p]=S.tr[p]:=List.getElem_append_left hp;rw[e,nV t h1 h2 (List.getElem_mem _),t.lvl p hp]
  ·have hp' : p = S.tr.length := by rw [List.length_append,List.length_singleton] at h';omega
   subst hp';rw[List.getElem_concat_length rfl,tY,Ed fun x hx=>Nat.le_trans (t.lvh x hx) t.hdl]
 lvs:=t.lvs
 lvh:=t.lvh
 hdl:=by
  show S.hd≤(S.tr++[a]).length;rw[List.length_append];have:=t.hdl;omega
theorem Cls.letS (c:Cls n S):Cls n (jF S a r):=⟨c.c2,c.cnd,c.crg,c.wts,c.wtc,c.wnd⟩
theorem Rea.letS (k : Rea S) (t : Tr n S) (h1 : ¬ a ∈ S.tr) (h2 : ¬ -a ∈ S.tr)
 (hr:∀j,r=some j→j<S.nc∧a∈S.cl j∧∀b∈S.cl j,b≠a→-b∈S.tr) (hd:r=none→S.lv.length=0∨S.tr.length∈S.lv):Rea (jF S a r) where
 rea p h j hj:=by
  have h':p<(S.tr++[a]).length:=h;have hj:((Go.Proofs.YtmlacppmbfbjgaaGreatDoor.jF S a r).v ((S.tr++[a])[p]).natAbs).reason=some j:=hj;show j<S.nc∧(S.tr++[a])[p]∈S.cl j∧∀b∈S.cl j,b≠(S.tr++[a])[p]→-b∈(S.tr++[a]).take p;by_cases hp:p<S.tr.length
  ·have e:(S.tr++[a])[p]=S.tr[p]:=List.getElem_append_left hp;rw[e]at hj ⊢;rw[sJ (Fp t h1 h2 (List.getElem_mem _))]at hj;rw[List.take_append_of_le_length (by omega)];exact k.rea p hp j hj
  ·have hp' : p = S.tr.length := by rw [List.length_append,List.length_singleton] at h';omega
   subst hp';rw[List.getElem_concat_length rfl]at hj ⊢;rw[mO]at hj;rw[List.take_left];exact hr j hj
 dec p h hj:=by
  have h':p<(S.tr++[a]).length:=h;have hj:((Go.Proofs.YtmlacppmbfbjgaaGreatDoor.jF S a r).v ((S.tr++[a])[p]).natAbs).reason=none:=hj;show lev S.lv p=0∨p∈S.lv;by_cases hp:p<S.tr.length
  ·have e:(S.tr++[a])[p]=S.tr[p]:=List.getElem_append_left hp;rw[e,sJ (Fp t h1 h2 (List.getElem_mem _))]at hj;exact k.dec p hp hj
  ·have hp' : p = S.tr.length := by rw [List.length_append,List.length_singleton] at h';omega
   subst hp';rw[List.getElem_concat_length rfl,mO]at hj;rcases hd hj with h3 | h3
   ·left;have:=Fj S.lv S.tr.length;omega
   ·exact .inr h3
theorem Wat.letS {q j:Nat} (w:Wat q S j) (t:Tr n S) (hq:q≤S.tr.length) (h1:¬a∈S.tr) (h2:¬ -a∈S.tr):Wat q (jF S a r) j:=by intro x hx hm;have hm:-x∈(S.tr++[a]).take q:=hm;rw[List.take_append_of_le_length hq]at hm;obtain⟨y,hy,hy2,hy3⟩:=w x hx hm;refine⟨y,hy,List.mem_append_left _ hy2,?_⟩;rw[nV t h1 h2 hy2,Ih t h1 h2 (List.mem_of_mem_take hm)];exact hy3
theorem Nxt.letS (k : Nxt n S) : Nxt n (jF S a r) where
 all i hi hin hv:=by
  by_cases he:i=a.natAbs
  ·subst he;rw[mO]at hv;exfalso;dsimp only at hv;split at hv<;>omega
  ·rw[sJ he]at hv ⊢;exact k.all i hi hin hv
 rng:=k.rng
theorem Log.letS (k : Log n l S) (t : Tr n S) (h1 : ¬ a ∈ S.tr) (h2 : ¬ -a ∈ S.tr) (hd : S.lv = [] → Der (l ++ S.ln) [] a) : Log n l (jF S a r) where
 d0 p h hl:=by
  have h':p<(S.tr++[a]).length:=h;have hl:lev S.lv p=0:=hl;show Der (l++S.ln) [] (S.tr++[a])[p];by_cases hp:p<S.tr.length
  ·rw[List.getElem_append_left hp];exact k.d0 p hp hl
  ·have hp' : p = S.tr.length := by rw [List.length_append,List.length_singleton] at h';omega
   subst hp';rw[List.getElem_concat_length rfl];rw[Ed fun x hx=>Nat.le_trans (t.lvh x hx) t.hdl]at hl;exact hd (List.length_eq_zero_iff.1 hl)
 src:=k.src
 rup:=k.rup
 lrg:=k.lrg
 lnew:=k.lnew
theorem Lcv.letS {L:List Cl} (k:Lcv L S) (t:Tr n S) (h1:¬a∈S.tr) (h2:¬ -a∈S.tr):Lcv L (jF S a r):=by
 intro c hc;rcases k c hc with⟨b,h3,h4,h5⟩ | h3
 ·exact .inl ⟨b,h3,List.mem_append_left _ h4,by rw[nV t h1 h2 h4];exact h5⟩
 ·exact .inr h3
theorem Cov.letS {d:List Cl} (k:Cov d S) (t:Tr n S) (h1:¬a∈S.tr) (h2:¬ -a∈S.tr):Cov d (jF S a r):=by
 intro c hc;rcases k c hc with h3 | ⟨b,h3,h4,h5⟩ | h3
 ·exact .inl h3
 ·exact .inr (.inl ⟨b,h3,List.mem_append_left _ h4,by rw[nV t h1 h2 h4];exact h5⟩)
 ·exact .inr (.inr h3)
theorem Lvt.letS (k:Lvt S):Lvt (jF S a r):=by intro x hx;have:=k x hx;show x<(S.tr++[a]).length;rw[List.length_append];omega
end
def dV (S:St) (k:Nat) (nx:List (Int×Int)):St :=
 {S with
  v:=fun i=>if i∈(S.tr.drop (S.lv.getD k 0)).map Int.natAbs then {S.v i with last:=(S.v i).value,value:=0,reason:=none} else S.v i
  tr:=S.tr.take (S.lv.getD k 0),lv:=S.lv.take k,hd:=S.lv.getD k 0,nx:=nx}
section
variable {n:Nat} {l:List Cl} {S:St} {k:Nat} {nx:List (Int×Int)}
theorem vI {tr:Cl} (h:(tr.map Int.natAbs).Nodup) (b:Nat) {a c:Int} (ha:a∈tr.take b) (hc:c∈tr.drop b):a.natAbs≠c.natAbs:=by rw[←List.take_append_drop b tr,List.map_append,List.nodup_append]at h;exact h.2.2 _ (List.mem_map_of_mem ha) _ (List.mem_map_of_mem hc)
theorem RG {a:Int} (t:Tr n S) (ha:a∈S.tr.take (S.lv.getD k 0)):(dV S k nx).v a.natAbs=S.v a.natAbs:=by show(if _ then _ else _)=_;rw[if_neg];intro hm;obtain⟨c,hc,he⟩:=List.mem_map.1 hm;exact vI t.nd _ ha hc he.symm
theorem lI {a:Int}:eH (dV S k nx) a=eH S a:=by unfold eH;show(if _ then _ else _:VS).level=_;split<;>rfl
theorem iP {lv:List Nat} (hk:k<lv.length):lv.getD k 0=lv[k]:=by simp[List.getD_eq_getElem?_getD,hk]
theorem Tr.backS (t : Tr n S) (hk : k < S.lv.length) (hl : Lvt S) : Tr n (dV S k nx) where
 nd:=by
  show((S.tr.take _).map Int.natAbs).Nodup;rw[List.map_take];exact t.nd.sublist (List.take_sublist _ _)
 rng a ha:=t.rng a (List.mem_of_mem_take ha)
 val i hi hin:=by
  show(if _ then _ else _:VS).value=Du (S.tr.take (S.lv.getD k 0)) i;by_cases hm:i∈(S.tr.drop (S.lv.getD k 0)).map Int.natAbs
  ·rw[if_pos hm];obtain⟨c,hc,rfl⟩:=List.mem_map.1 hm;rw[vH (fun h=>vI t.nd _ h hc (by simp)) (fun h=>vI t.nd _ h hc (by simp))]
  ·rw[if_neg hm,t.val i hi hin];have h1:∀x:Int,x.natAbs=i→(x∈S.tr↔x∈S.tr.take (S.lv.getD k 0)):=fun x hx=>by
    refine⟨fun h=> ?_,List.mem_of_mem_take⟩;rw[←List.take_append_drop (S.lv.getD k 0) S.tr]at h;rcases List.mem_append.1 h with h | h
    ·exact h
    ·exact absurd (List.mem_map.2 ⟨x,h,hx⟩) hm
   unfold Du;simp only[h1 (i:Int) (by simp),h1 (-(i:Int)) (by simp)]
 lvl p h:=by
  have h':p<(S.tr.take (S.lv.getD k 0)).length:=h;rw[List.length_take]at h';have e:(Go.Proofs.YtmlacppmbfbjgaaGreatDoor.dV S k nx).tr[p]=S.tr[p]'(by omega):=List.getElem_take;rw[e,lI,t.lvl p (by omega)];show _=((lev (S.lv.take k) p:Nat):Int);rw[iP hk]at h';rw[zq t.lvs hk (by omega)]
 lvs:=t.lvs.sublist (List.take_sublist _ _)
 lvh x hx:=by
  have hx:x∈S.lv.take k:=hx;show x≤S.lv.getD k 0;rw[iP hk];obtain⟨i,hi,rfl⟩:=List.getElem_of_mem hx;rw[List.length_take]at hi;rw[List.getElem_take];exact Nat.le_of_lt (List.pairwise_iff_getElem.1 t.lvs i k (by omega) hk (by omega))
 hdl:=by
  show S.lv.getD k 0≤(S.tr.take _).length;rw[List.length_take];have:=hl _ (List.getElem_mem hk);rw[iP hk];omega
theorem Cls.backS (c:Cls n S):Cls n (dV S k nx):=⟨c.c2,c.cnd,c.crg,c.wts,c.wtc,c.wnd⟩
theorem Rea.backS (c:Rea S) (t:Tr n S) (hk:k<S.lv.length):Rea (dV S k nx):=by
 have key:∀p (h:p<(Go.Proofs.YtmlacppmbfbjgaaGreatDoor.dV S k nx).tr.length),∃(h2:p<S.tr.length),p<S.lv.getD k 0∧(Go.Proofs.YtmlacppmbfbjgaaGreatDoor.dV S k nx).tr[p]=S.tr[p]∧((Go.Proofs.YtmlacppmbfbjgaaGreatDoor.dV S k nx).v ((Go.Proofs.YtmlacppmbfbjgaaGreatDoor.dV S k nx).tr[p]).natAbs).reason=(S.v (S.tr[p]).natAbs).reason:=by intro p h;have h':p<(S.tr.take (S.lv.getD k 0)).length:=h;rw[List.length_take]at h';have e:(Go.Proofs.YtmlacppmbfbjgaaGreatDoor.dV S k nx).tr[p]=S.tr[p]'(by omega):=List.getElem_take;refine⟨by omega,by omega,e,?_⟩;rw[e,RG t (jU (by omega) (by omega))]
 constructor
 ·intro p h j hj;obtain⟨h2,h3,h4,h5⟩:=key p h;rw[h5]at hj;obtain⟨h6,h7,h8⟩:=c.rea p h2 j hj;rw[h4];refine⟨h6,h7,fun b hb hne=> ?_⟩;show -b∈(S.tr.take (S.lv.getD k 0)).take p;rw[List.take_take,Nat.min_eq_left (by omega)];exact h8 b hb hne
 ·intro p h hj;obtain ⟨h2,h3,h4,h5⟩ := key p h;rw [h5] at hj;show lev (S.lv.take k) p = 0 ∨ p ∈ S.lv.take k;rw [iP hk] at h3;rw [zq t.lvs hk h3];rcases c.dec p h2 hj with h6 | h6
  ·exact .inl h6
  ·right;obtain⟨i,hi,he⟩:=List.getElem_of_mem h6;have hik:i<k:=by
    refine Classical.byContradiction fun hn=> ?_;by_cases hik:i=k
    ·subst hik;omega
    ·have:=List.pairwise_iff_getElem.1 t.lvs k i hk hi (by omega);omega
   exact List.mem_take_iff_getElem.2 ⟨i,by omega,he⟩
theorem Wat.backS {q j:Nat} (w:Wat q S j) (t:Tr n S) (hk:k<S.lv.length) (hq:S.lv.getD k 0≤q):Wat (S.lv.getD k 0) (dV S k nx) j:=by intro x hx hm;have hm:-x∈(S.tr.take (S.lv.getD k 0)).take (S.lv.getD k 0):=hm;rw[List.take_take,Nat.min_self]at hm;obtain⟨y,hy,hy2,hy3⟩:=w x hx ((List.take_subset_take_left S.tr hq) hm);refine⟨y,hy,?_,by rw[lI,lI];exact hy3⟩;show y∈S.tr.take (S.lv.getD k 0);rw[iP hk]at hm ⊢;have h1:=(t.low (List.mem_of_mem_take hm) hk).1 hm;rw[eP]at h1;exact(t.low hy2 hk).2 (by omega)
theorem Nxt.backS (c : Nxt n S) (t : Tr n S) (hnx : ∀ x ∈ S.nx,x ∈ nx) (hun : ∀ a ∈ S.tr.drop (S.lv.getD k 0),((a.natAbs : Int),(S.v a.natAbs).score) ∈ nx)
 (hr:∀x∈nx,x∈S.nx∨∃a∈S.tr.drop (S.lv.getD k 0),x.1=a.natAbs):Nxt n (dV S k nx) where
 all i hi hin hv:=by
  have hv:(if i∈(S.tr.drop (S.lv.getD k 0)).map Int.natAbs then {S.v i with last:=(S.v i).value,value:=0,reason:=none} else S.v i:VS).value=0:=hv;show((i:Int),(if i∈(S.tr.drop (S.lv.getD k 0)).map Int.natAbs then {S.v i with last:=(S.v i).value,value:=0,reason:=none} else S.v i:VS).score)∈nx;by_cases hm:i∈(S.tr.drop (S.lv.getD k 0)).map Int.natAbs
  ·rw[if_pos hm];obtain⟨a,ha,rfl⟩:=List.mem_map.1 hm;exact hun a ha
  ·rw[if_neg hm]at hv ⊢;exact hnx _ (c.all i hi hin hv)
 rng x hx:=by
  rcases hr x hx with h | ⟨a,ha,he⟩
  ·exact c.rng x h
  ·have:=t.rng a (List.mem_of_mem_drop ha);rw[he];omega
theorem Bj (t:Tr n S) (hk:k<S.lv.length) {a:Int} (ha:a∈S.tr) (hl:eH S a=0):a∈S.tr.take (S.lv.getD k 0):=by rw[iP hk];exact(t.low ha hk).2 (by omega)
theorem Log.backS (c : Log n l S) (t : Tr n S) (hk : k < S.lv.length) : Log n l (dV S k nx) where
 d0 p h hl:=by
  have h':p<(S.tr.take (S.lv.getD k 0)).length:=h;rw[List.length_take]at h';have e:(Go.Proofs.YtmlacppmbfbjgaaGreatDoor.dV S k nx).tr[p]=S.tr[p]'(by omega):=List.getElem_take;rw[e];refine c.d0 p (by omega) ?_;have hl:lev (S.lv.take k) p=0:=hl;rw[iP hk]at h';rw[←hl,zq t.lvs hk (by omega)]
 src:=c.src
 rup:=c.rup
 lrg:=c.lrg
 lnew:=c.lnew
theorem Lcv.backS {L:List Cl} (c:Lcv L S) (t:Tr n S) (hk:k<S.lv.length):Lcv L (dV S k nx):=by
 intro x hx;rcases c x hx with⟨b,h3,h4,h5⟩ | h3
 ·exact .inl ⟨b,h3,Bj t hk h4 h5,by rw[lI];exact h5⟩
 ·exact .inr h3
theorem Cov.backS {d:List Cl} (c:Cov d S) (t:Tr n S) (hk:k<S.lv.length):Cov d (dV S k nx):=by
 intro x hx;rcases c x hx with h3 | ⟨b,h3,h4,h5⟩ | h3
 ·exact .inl h3
 ·exact .inr (.inl ⟨b,h3,Bj t hk h4 h5,by rw[lI];exact h5⟩)
 ·exact .inr (.inr h3)
theorem Lvt.backS (c:Lvt S) (t:Tr n S) (hk:k<S.lv.length):Lvt (dV S k nx):=by intro x hx;have hx:x∈S.lv.take k:=hx;show x<(S.tr.take (S.lv.getD k 0)).length;rw[List.length_take,iP hk];obtain⟨i,hi,rfl⟩:=List.getElem_of_mem hx;rw[List.length_take]at hi;rw[List.getElem_take];have:=List.pairwise_iff_getElem.1 t.lvs i k (by omega) hk (by omega);have:=c _ (List.getElem_mem hk);omega
end
end Go.Proofs.YtmlacppmbfbjgaaGreatDoor
