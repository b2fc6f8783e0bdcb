/- Lemmas for this claim, part F01: each holds under what it names. -/
import Derived.Test.YthdidjjecjhenaaGreatAP0
import Derived.Test.YthdidjjecjhenaaGreatAA8
import Derived.Test.YthdidjjecjhenaaGreatAA7
set_option linter.all false
set_option maxRecDepth 20000
namespace Go.Proofs.YthdidjjecjhenaaGreat
open Go Go.Proofs Go.Abs
open List renaming length → aa, replicate → aD
open Bool renaming true → ab, false → am
open Option renaming some → ar, none → aL
open Decidable renaming decide → aM
open Go.IntKind renaming wrap → a5
open Go.Result renaming andThen → a8
open Go.Abs.O renaming cells → aw
open Go.Abs.V renaming drops → aE, dat → a6, dats → a7
abbrev Cl:=List Int
abbrev vi(n:Int):V:= .int .i64 n
abbrev az(c:Cl):V:= .is am 1 (c.map vi)
abbrev cls(l:List Cl):V:= .is am 1 (l.map λc=>az c)
variable{r:List V}
theorem Dj{l:Cl}(hb:V.bnds (az l::r)):aa l<=maxLen:=by simp only[V.bnds,V.bnd,zra]at hb;exact hb.1.1
variable{l:List Cl}
theorem Vx(hb:V.bnds (cls l::r)):aa l<=maxLen:=by simp only[V.bnds,V.bnd,zra]at hb;exact hb.1.1
variable{i:Nat}
theorem sU{l:Cl}(h:i<aa l)(d:V):(List.map vi l).getD i d=vi l[i]:=iO h _
theorem YG(h:i<aa l)(d:V):(List.map (λc=>az c) l).getD i d=az l[i]:=iO h _
def lit(vars a:Int):Bool:=aM (a≠0)&&(aM (-vars<=a)&&aM (a<=vars))
theorem fM{n:Int}(h1:-9223372036854775808<=n)(h2:n<=9223372036854775807):a5 .i64 n=n:=aV h1 (by omega)
theorem dF{α:Type}{l:List α}(h:i<aa l){P:α->Prop}(h1:∀s∈l.take i,P s)(h2:P l[i]):∀s∈l.take (i+1),P s:=by
 intro s hs;rw[zrg]at hs;simp only[h,zqk,Option.toList_some,zrf,zrc]at hs;rcases hs with hs|rfl
 ·exact h1 s hs
 ·exact h2
def chk(l:List Cl)(vars:Int):Int :=
 if(aM (vars<0)||aM (20000<vars)||aM (100000<aa l))=ab then 8
 else if(l.all λc=>c.all (lit vars))=ab then 0 else 1
variable{vars:Int}
theorem Vy(h:(aM (vars<0)||aM (20000<vars)||aM (100000<(aa l:Int)))=ab):chk l vars=8:=by unfold chk;rw[if_pos];simp only[Bool.or_eq_true,zqb]at h ⊢;omega
theorem SK(h:(aM (vars<0)||aM (20000<vars)||aM (100000<(aa l:Int)))=am) :
 0<=vars/\vars<=20000/\chk l vars=if(l.all λc=>c.all (lit vars))=ab then 0 else 1:=by
 simp only[zsf,zqd]at h;refine⟨by omega,by omega,?_⟩;unfold chk;rw[if_neg];simp only[Bool.or_eq_true,zqb];omega
abbrev aI(l:List Bool):V:= .is am 1 (l.map V.bool)
theorem ES{l:List Bool}(hb:V.bnds (aI l::r)):aa l<=maxLen:=by simp only[V.bnds,V.bnd,zra]at hb;exact hb.1.1
theorem GZ{l:List Bool}(h:i<aa l)(d:V):(List.map V.bool l).getD i d= .bool l[i]:=iO h _
theorem aP{α:Type}{l:List α}{d:α}(h:i<aa l):l.getD i d=l[i]:=by simp[zqg,h]
def hol(vs:List Bool)(a:Int):Bool:=if a<0 then !(vs.getD (-a-1).toNat am)else vs.getD (a-1).toNat am
variable{a:Int}
theorem O1{n:Int}(h:lit n a=ab):a≠0/\-n<=a/\a<=n:=by simpa [lit]using h
def sat(l:List Cl)(vs:List Bool):Bool:=l.all λc=>c.any (hol vs)
def hld(on:Cl)(a:Int):Bool:=if a<0 then on.getD (-a).toNat 0==-1 else on.getD a.toNat 0==1
def idx{α:Type}(l:List α)(p:α->Bool):Int:=match l.findIdx? p with|some i=>i|none=>-1
theorem oL{α:Type}{l:List α}{p:α->Bool}(h:i<aa l)(hn:∀x∈l.take i,p x=am)(hb:p l[i]=ab):idx l p=i:=by
 have:l.findIdx? p=ar i:=by
  rw[List.findIdx?_eq_some_iff_getElem];refine⟨h,hb,λj hj=> ?_⟩;have:l[j]∈l.take i:=by
   rw[List.mem_take_iff_getElem];exact⟨j,by omega,rfl⟩
  simp[hn _ this]
 simp[idx,this]
theorem mi{α:Type}{l:List α}{p:α->Bool}(hn:∀x∈l,p x=am):idx l p=-1:=by
 have:l.findIdx? p=aL:=by rw[List.findIdx?_eq_none_iff];simpa using hn
 simp[idx,this]
theorem yT{α:Type}(l:List α)(p:α->Bool):aM (0<=idx l p)=l.any p:=by
 cases h:l.any p with
 |false=>rw[mi (by simpa using h)];rfl
 |true =>
  have:∃x∈l,p x=ab:=by simpa using h
  unfold idx;cases hb:l.findIdx? p with
  |none=>obtain⟨x,hx,hx2⟩:=this;have:=(List.findIdx?_eq_none_iff.1 hb) x hx;simp[hx2]at this
  |some i=>simp
theorem XF(c:Cl)(q:FuncId)(caps:List V)(p:Int->Bool)(he:au P q=ab)(hd:a7 caps=ab)(hq:∀x∈c,Ev TE q (vi x::caps) (.bool (p x))):Ev TE 114 [az c,.fn (.func q) [] caps] (vi (idx c p)):=by
 refine Ev.bnd λhb=> ?_;have hlen:=Dj hb;refine aC Tryz.func114 rfl (by simp[nts]) (vm ?_);simp only[wq.1,seval,Tryz.results114];refine aA (λm f h=>∃i,m+i=aa c/\f.t 0=az c/\f.t 1= .fn (.func q) [] caps/\f.t 7= .int .i64 (aa c:Int)/\f.t 8= .int .i64 (i:Int)/\f.d=[]/\∀x∈c.take i,p x=am) (aa c) ⟨0,by simp,rfl,rfl,rfl,rfl,rfl,by simp⟩ ?_;rintro m f h ⟨i,hm,h0,h1,h7,h8,hdd,hall⟩;refine vm ?_;simp only[wq.1,seval,h7,h8];refine vcB.mk (λhc=> ?_) (λhc=> ?_)
 ·simp only[zqb,zqi]at hc;simp only[wq.1,seval,h0,h1,h8,sU hc,he];refine⟨⟨by omega,by omega⟩,ag.ev (hq _ (zqu _)) (by simp[a7,a6,hd]) ?_⟩;simp only[wq.1,seval];refine vcB.mk (λhc'=> ?_) (λhc'=> ?_)
  ·simp only[wq.1,seval,hdd];rw[oL hc hall hc'];exact aH.dat rfl
  ·simp only[wq.1,seval,h8,ax (show i<maxLen by omega)];exact .inl ⟨m-1,by omega,i+1,by omega,h0,h1,h7,rfl,hdd,dF hc hall hc'⟩
 ·simp only[zqd,zqi]at hc;simp only[wq.1,seval,hdd];rw[zqh (by omega)]at hall;rw[mi hall];exact aH.dat rfl
theorem XG(l:List Cl)(q:FuncId)(caps:List V)(p:Cl->Bool)(he:au P q=ab)(hd:a7 caps=ab)(hq:∀x∈l,Ev TE q (az x::caps) (.bool (p x))):Ev TE 113 [cls l,.fn (.func q) [] caps] (vi (idx l p)):=by
 refine Ev.bnd λhb=> ?_;have hlen:=Vx hb;refine aC Tryz.func113 rfl (by simp[nts]) (vm ?_);simp only[wq.1,seval,Tryz.results113];refine aA (λm f h=>∃i,m+i=aa l/\f.t 0=cls l/\f.t 1= .fn (.func q) [] caps/\f.t 7= .int .i64 (aa l:Int)/\f.t 8= .int .i64 (i:Int)/\f.d=[]/\∀x∈l.take i,p x=am) (aa l) ⟨0,by simp,rfl,rfl,rfl,rfl,rfl,by simp⟩ ?_;rintro m f h ⟨i,hm,h0,h1,h7,h8,hdd,hall⟩;refine vm ?_;simp only[wq.1,seval,h7,h8];refine vcB.mk (λhc=> ?_) (λhc=> ?_)
 ·simp only[zqb,zqi]at hc;simp only[wq.1,seval,h0,h1,h8,YG hc,he];refine⟨⟨by omega,by omega⟩,ag.ev (hq _ (zqu _)) (by simp[a7,a6,hd]) ?_⟩;simp only[wq.1,seval];refine vcB.mk (λhc'=> ?_) (λhc'=> ?_)
  ·simp only[wq.1,seval,hdd];rw[oL hc hall hc'];exact aH.dat rfl
  ·simp only[wq.1,seval,h8,ax (show i<maxLen by omega)];exact .inl ⟨m-1,by omega,i+1,by omega,h0,h1,h7,rfl,hdd,dF hc hall hc'⟩
 ·simp only[zqd,zqi]at hc;simp only[wq.1,seval,hdd];rw[zqh (by omega)]at hall;rw[mi hall];exact aH.dat rfl
theorem XH(c:Cl)(q:FuncId)(caps:List V)(p:Int->Bool)(he:au P q=ab)(hd:a7 caps=ab)(hq:∀x∈c,Ev TE q (vi x::caps) (.bool (p x))):Ev TE 93 [az c,.fn (.func q) [] caps] (.bool (c.any p)):=by refine aC Tryz.func93 rfl (by simp[nts]) (vm ?_);simp only[wq.1,seval,Tryz.results93];refine ag.ev (XF c q caps p he hd hq) (by simp[a7,a6,hd]) ?_;simp only[wq.1,seval];exact aH.eq rfl (by rw[yT])
theorem XI(l:List Cl)(q:FuncId)(caps:List V)(p:Cl->Bool)(he:au P q=ab)(hd:a7 caps=ab)(hq:∀x∈l,Ev TE q (az x::caps) (.bool (p x))):Ev TE 91 [cls l,.fn (.func q) [] caps] (.bool (l.any p)):=by refine aC Tryz.func91 rfl (by simp[nts]) (vm ?_);simp only[wq.1,seval,Tryz.results91];refine ag.ev (XG l q caps p he hd hq) (by simp[a7,a6,hd]) ?_;simp only[wq.1,seval];exact aH.eq rfl (by rw[yT])
theorem Vz(h0:0<=vars)(h1:vars<=20000):(a==0||aM (a<a5 .i64 (0-vars))||aM (vars<a))= !lit vars a:=by
 rw[fM (n:=0-vars) (by omega) (by omega),Int.zero_sub];unfold lit;by_cases h:a=0
 ·subst h;simp
 ·have:(a==0)=am:=by simpa using h
  rw[this];simp only[ne_eq,h,not_false_eq_true,decide_true,Bool.false_or,Bool.true_and,Bool.not_and]
  congr 1
  ·rw[<-decide_not];congr 1;simp
  ·rw[<-decide_not];congr 1;simp
theorem O3(a vars:Int)(h0:0<=vars)(h1:vars<=20000):Ev TE 90 [vi a,.ip (vi vars)] (.bool (!lit vars a)):=by refine aC Tryz.func90 rfl (by simp[nts]) (vm ?_);simp only[wq.1,seval,Tryz.results90];exact aH.eq rfl (by rw[Vz h0 h1])
variable{c:Cl}
theorem VA:(c.any λa=> !lit vars a)= !(c.all (lit vars)):=by simp[List.not_all_eq_any_not]
theorem SL:(l.any λc=> !(c.all (lit vars)))= !(l.all λc=>c.all (lit vars)):=by simp[List.not_all_eq_any_not]
theorem O4(c:Cl)(vars:Int)(h0:0<=vars)(h1:vars<=20000):Ev TE 92 [az c,.ip (.fn (.func 90) [] [.ip (vi vars)])] (.bool (!(c.all (lit vars)))):=by refine aC Tryz.func92 rfl (by simp[nts]) (vm ?_);simp only[wq.1,seval,Tryz.results92];refine ag.ev (XH c 90 [.ip (vi vars)] (λa=> !lit vars a) rfl rfl λx _=>O3 x vars h0 h1) rfl ?_;rw[VA];simp only[wq.1,seval];exact aH.dat rfl
theorem SN(l:List Cl)(vars:Int):Ev TE 64 [cls l,vi vars] (vi (chk l vars)):=by
 refine aC Tryz.func64 rfl (by simp[nts]) (vm ?_);simp only[wq.1,seval,Tryz.results64];refine vcB.mk (λhc=> ?_) (λhc=> ?_)
 ·simp only[wq.1,seval];exact aH.eq rfl (by rw[Vy];simpa [Bool.or_assoc]using hc)
 ·obtain ⟨hv0,hv1,hr⟩ := SK (l := l) (vars := vars) (by simpa [Bool.or_assoc] using hc);rw [hr];simp only [wq.1,seval];refine ag.lend (XI l 92 [.ip (.fn (.func 90) [] [.ip (vi vars)])] (λc => !(c.all (lit vars))) rfl rfl λx _ => O4 x vars hv0 hv1)
   (aj.cons (aH.dat rfl) (aj.cons (aH.fn aj.nil (aj.cons (aH.lp rfl (aj.cons (aH.fn aj.nil (aj.cons (aH.lp rfl (aj.dat rfl) rfl rfl (by simp[V.vc]) rfl) aj.nil)) aj.nil) rfl rfl (by simp[V.vc]) rfl) aj.nil)) aj.nil)) rfl ?_
  rw[SL];simp only[wq.1,↓reduceIte];refine vcB.mk (λhc'=> ?_) (λhc'=> ?_)
  ·simp only[wq.1,seval];rw[if_neg (by simpa using hc')];exact aH.dat rfl
  ·simp only[wq.1,seval];rw[if_pos (by simpa using hc')];exact aH.dat rfl
theorem uj(h:chk l vars=0):0<=vars/\vars<=20000/\aa l<=100000/\∀c∈l,∀a∈c,lit vars a=ab:=by
 unfold chk at h;split at h
 ·cases h
 ·rename_i hh;simp only[Bool.or_eq_true,zqb]at hh;split at h
  ·rename_i h2;refine⟨by omega,by omega,by omega,?_⟩;simpa using h2
  ·cases h
theorem ET(a:Int):∀(ks:Cl),kF (.int .i64) (vi a) (ks.map vi)=ar (ks.findIdx? (·==a))
 |[]=>rfl
 |k::ks=>by
  simp only[zrd,kF,keq,List.findIdx?_cons];by_cases h:k=a
  ·subst h;simp
  ·have h1:(a==k)=am:=by simpa using λh'=>h h'.symm
   have h2:(k==a)=am:=by simpa using h
   have h3:(if True then ar (a==k)else aL)=ar am:=by rw[if_pos trivial,h1]
   simp only[h3,ET a ks,h2];cases ks.findIdx? (·==a)<;>rfl
theorem jP:∀l:Cl,a7 (l.map vi)=ab
 |[]=>rfl
 |a::l=>by simp only[zrd,a7,a6,jP l,zre]
inductive Der (l : List Cl) (given : Cl) : Int -> Prop
 |start (a:Int):a∈given->Der l given a
 |unit (c:Cl) (a:Int):c∈l->a∈c->(∀b∈c,b≠a->Der l given (-b))->Der l given a
def Bad(l:List Cl)(given:Cl):Prop:=(∃c∈l,∀b∈c,Der l given (-b))\/∃a,Der l given a/\Der l given (-a)
structure Good(l:List Cl)(given g:Cl)(ks:Cl):Prop where
 der:∀a∈ks,Der l given a
 all:∀a∈g,a∈ks
 con:∀a∈ks,¬ -a∈ks
 rng:∀a∈ks,-20000<=a/\a<=20000/\a≠0
 nod:ks.Nodup
structure Fin(l:List Cl)(given ks:Cl):Prop where
 iff:∀a,a∈ks↔Der l given a
 not:¬Bad l given
 rng:∀a∈ks,-20000<=a/\a<=20000/\a≠0
 nod:ks.Nodup
theorem Jj:∀c:Cl,fH 1 (c.map vi)=ab
 |[]=>rfl
 |a::c=>by simp only[zrd,fH,Jj c,V.fit,V.vc,zrk];rfl
theorem Dk:∀c:Cl,(c.map vi).flatMap V.vc=c.map vi
 |[]=>rfl
 |a::c=>by simp only[zrd,List.flatMap_cons,V.vc,Dk c];rfl
theorem H8:∀l:List Cl,fH 1 (l.map λc=>az c)=ab
 |[]=>rfl
 |a::l=>by simp only[zrd,fH,H8 l,V.fit,V.vc,zrk];rfl
theorem Dl:∀l:List Cl,(l.map λc=>az c).flatMap V.vc=l.map λc=>az c
 |[]=>rfl
 |a::l=>by simp only[zrd,List.flatMap_cons,V.vc,Dl l];rfl
theorem ul:∀l:List Cl,a7 (l.map λc=>az c)=ab
 |[]=>rfl
 |a::l=>by simp only[zrd,a7,a6,jP,ul l,zre]
theorem aN{p:Nat->Bool}:∀c:Cl,aE p (c.map vi)=c.map vi
 |[]=>rfl
 |a::c=>by simp only[zrd,aE,V.drop,aN c]
theorem nJ{p:Nat->Bool}:∀l:List Cl,aE p (l.map λc=>az c)=l.map λc=>az c
 |[]=>rfl
 |a::c=>by simp only[zrd,aE,V.drop,nJ c]
open Classical in
noncomputable def UF(l:List Cl)(given:Cl):Bool:=aM (Bad l given)
variable{given:Cl}
theorem EU(h:Bad l given):UF l given=ab:=by simp[UF,h]
def Dn(c:Cl):Cl:=c.map λa=>-a
theorem Bq:∀l:List Cl,dD (l.map λc=>az c)=ab
 |[]=>rfl
 |a::l=>by simp only[zrd,dD,Bq l,V.one,V.vc,zrk];rfl
theorem qg:∀l:Cl,dD (l.map vi)=ab
 |[]=>rfl
 |a::l=>by simp only[zrd,dD,qg l,V.one,V.vc,zrk];rfl
noncomputable def EW : List Cl -> List Cl -> Bool
 |all,[]=>UF all []
 |all,c::s=>UF all (Dn c)&&EW (all++[c]) s
theorem Bv{l steps:List Cl}:∀ {i:Nat},i<=aa steps->(∀k (hk:k<aa steps),k<i->UF (l++steps.take k) (Dn steps[k])=ab)->EW l steps=EW (l++steps.take i) (steps.drop i)
 |0,_,_=>by simp
 |i+1,hi,h=>by
  have hlt:i<aa steps:=by omega
  rw[Bv (i:=i) (by omega) λk hk hki=>h k hk (by omega),List.drop_eq_getElem_cons hlt,EW,h i hlt (by omega),Bool.true_and]
  congr 1
  rw[zrg];simp[hlt]
def G5(l:List Cl):Prop:=∀c∈l,∀b∈c,-20000<=b/\b<=20000/\b≠0
variable{s:List Cl}
theorem G5.take(h1:G5 l)(h2:G5 s):G5 (l++s.take i):=by
 intro c hc;rcases zrf.1 hc with hc|hc
 ·exact h1 c hc
 ·exact h2 c (zsh hc)
theorem G5.app(h1:G5 l)(h2:G5 s):G5 (l++s):=by
 intro c hc;rcases zrf.1 hc with hc|hc
 ·exact h1 c hc
 ·exact h2 c hc
theorem SQ(h:∀b∈c,-20000<=b/\b<=20000/\b≠0):∀b∈Dn c,-20000<=b/\b<=20000/\b≠0:=by intro b hb;obtain⟨a,ha,rfl⟩:=zrh.1 hb;have:=h a ha;omega
open Go.RowKit
theorem qJ:∀l:List Bool,dD (l.map V.bool)=ab
 |[]=>rfl
 |a::l=>by simp only[zrd,dD,qJ l,V.one,V.vc,zrk];rfl
theorem lK:∀l:List Bool,a7 (l.map V.bool)=ab
 |[]=>rfl
 |a::l=>by simp only[zrd,a7,a6,lK l,zre]
theorem VB:∀l:List Bool,fH 1 (l.map V.bool)=ab
 |[]=>rfl
 |a::l=>by simp only[zrd,fH,VB l,V.fit,V.vc,zrk];rfl
theorem O5:∀l:List Bool,(l.map V.bool).flatMap V.vc=l.map V.bool
 |[]=>rfl
 |a::l=>by simp only[zrd,List.flatMap_cons,V.vc,O5 l];rfl
theorem eU{p:Nat->Bool}:∀l:List Bool,aE p (l.map V.bool)=l.map V.bool
 |[]=>rfl
 |a::l=>by simp only[zrd,aE,V.drop,eU l]
variable{vs:List Bool}
theorem jQ(h:a≠0):hol vs (-a)= !hol vs a:=by
 unfold hol;by_cases h0:a<0
 ·rw[if_neg (by omega),if_pos h0,Bool.not_not]
 ·rw[if_pos (by omega),if_neg h0,Int.neg_neg]
theorem H9(hl:G5 l)(hs:sat l vs=ab)(hg:∀a∈given,hol vs a=ab):∀a,Der l given a->hol vs a=ab:=by
 intro a h
 induction h with
 |start a h=>exact hg a h
 |unit c a h1 h2 h3 ih =>
  have hc:c.any (hol vs)=ab:=zrs.1 hs c h1;obtain⟨b,hb,hb2⟩:=List.any_eq_true.1 hc;by_cases hba:b=a
  ·subst hba;exact hb2
  ·have:=ih b hb hba;rw[jQ (hl c h1 b hb).2.2,hb2]at this;cases this
theorem O6(hl:G5 l)(hr:∀a∈given,a≠0)(hs:sat l vs=ab)(hb:Bad l given):¬ ∀a∈given,hol vs a=ab:=by
 intro hg;rcases hb with⟨c,h1,h2⟩|⟨a,h1,h2⟩
 ·have hc:c.any (hol vs)=ab:=zrs.1 hs c h1;obtain⟨b,hb,hb2⟩:=List.any_eq_true.1 hc;have:=H9 hl hs hg _ (h2 b hb);rw[jQ (hl c h1 b hb).2.2,hb2]at this;cases this
 ·have g1:=H9 hl hs hg _ h1;have g2:=H9 hl hs hg _ h2;have hz:a≠0:=by
   cases h1 with
   |start _ h=>exact hr a h
   |unit c _ h1 h2 _=>exact(hl c h1 a h2).2.2
  rw[jQ hz,g1]at g2;cases g2
theorem O7(h:UF l given=ab):Bad l given:=by simpa [UF]using h
theorem VC(hl:G5 l)(hr:∀b∈c,-20000<=b/\b<=20000/\b≠0)(hs:sat l vs=ab)(hb:UF l (Dn c)=ab):c.any (hol vs)=ab:=by
 have h1:=O6 hl (λa ha=>(SQ hr a ha).2.2) hs (O7 hb);rw[List.any_eq_true];apply Classical.byContradiction;intro hn;apply h1;intro a ha;obtain⟨b,hb,rfl⟩:=zrh.1 ha;rw[jQ (hr b hb).2.2];cases h:hol vs b with
 |false=>rfl
 |true=>exact absurd ⟨b,hb,h⟩ hn
theorem yU:∀ {s all:List Cl} {vs:List Bool},G5 all->G5 s->EW all s=ab->sat all vs=am
 |[],all,vs,h1,_,h=>by
  unfold EW at h;cases hs:sat all vs with
  |false=>rfl
  |true=>exact absurd (by simp) (O6 h1 (by simp) hs (O7 h))
 |c::s,all,vs,h1,h2,h=>by
  unfold EW at h;rw[zqf]at h;have hc:=h2 c (by simp);have hb:G5 (all++[c]):=h1.app (λx hx=>by
   have:x=c:=by simpa using hx
   subst this;exact hc)
  have ih:=yU (vs:=vs) hb (λx hx=>h2 x (by simp[hx])) h.2;cases hs:sat all vs with
  |false=>rfl
  |true =>
   have h3:=VC h1 hc hs h.1;have:sat (all++[c]) vs=ab:=by unfold sat at hs ⊢;rw[List.all_append,hs];simp[h3]
   rw[this]at ih;cases ih
structure VS where
 value:Int
 level:Int
 reason:Option Nat
 last:Int
 score:Int
structure St where
 v:Nat->VS
 cl:Nat->Cl
 nc:Nat
 wt:Int->List Nat
 tr:Cl
 hd:Nat
 lv:List Nat
 ln:List Cl
 nx:List (Int×Int)
def upd{α:Type}(f:Nat->α)(i:Nat)(x:α):Nat->α:=λj=>if j=i then x else f j
theorem bD{α:Type}(f:Nat->α)(i:Nat)(x:α):upd f i x i=x:=by simp[upd]
variable{j:Nat}
theorem bM{α:Type}{f:Nat->α}{x:α}(h:j≠i):upd f i x j=f j:=by simp[upd,h]
def lev(lv:List Nat)(p:Nat):Nat:=lv.countP λx=>aM (x<=p)
def G6(tr:Cl)(i:Nat):Int:=if(i:Int)∈tr then 1 else if -(i:Int)∈tr then -1 else 0
def mY(S:St)(a:Int):Int:=if a<0 then -(S.v a.natAbs).value else(S.v a.natAbs).value
def gG(S:St)(a:Int):Int:=(S.v a.natAbs).level
structure Tr(n:Nat)(S:St):Prop where
 nd:(S.tr.map Int.natAbs).Nodup
 rng:∀a∈S.tr,a≠0/\a.natAbs<=n
 val:∀i,1<=i->i<=n->(S.v i).value=G6 S.tr i
 lvl:∀p (h:p<aa S.tr),gG S S.tr[p]=lev S.lv p
 lvs:S.lv.Pairwise (·<·)
 lvh:∀x∈S.lv,x<=S.hd
 hdl:S.hd<=aa S.tr
theorem yV:∀ {l:Cl},(l.map Int.natAbs).Nodup->∀a∈l,a≠0->¬ -a∈l
 |[],_,a,h,_,_=>by simp at h
 |x::l,hn,a,h,h0,hm=>by
  rw[zrd,List.nodup_cons]at hn;obtain⟨h1,h2⟩:=hn;have k:∀b∈l,b.natAbs≠x.natAbs:=λb hb he=>h1 (he▸List.mem_map_of_mem hb);rcases zrj.1 h with rfl|h
  ·rcases zrj.1 hm with hm|hm
   ·omega
   ·exact k _ hm (Int.natAbs_neg _)
  ·rcases zrj.1 hm with hm|hm
   ·exact k a h (by rw[<-hm,Int.natAbs_neg])
   ·exact yV h2 a h h0 hm
theorem um:∀ {l:Cl},(l.map Int.natAbs).Nodup->∀a∈l,∀b∈l,a.natAbs=b.natAbs->a=b
 |[],_,a,h,_,_,_=>by simp at h
 |x::l,hn,a,h,b,hb,he=>by
  rw[zrd,List.nodup_cons]at hn;obtain⟨h1,h2⟩:=hn;have k:∀b∈l,b.natAbs≠x.natAbs:=λb hb he=>h1 (he▸List.mem_map_of_mem hb);rcases zrj.1 h with h|h<;>rcases zrj.1 hb with hb|hb
  ·rw[h,hb]
  ·exact absurd (by rw[<-he,h]) (k _ hb)
  ·exact absurd (by rw[he,hb]) (k _ h)
  ·exact um h2 a h b hb he
section
variable{n:Nat}{S:St}
theorem Tr.con(t:Tr n S){a:Int}(h:a∈S.tr):¬ -a∈S.tr:=yV t.nd a h (t.rng a h).1
theorem Tr.con'(t:Tr n S){a:Int}(h:-a∈S.tr):¬a∈S.tr:=λh2=>t.con h2 h
variable{tr:Cl}
theorem yX(h1:¬(i:Int)∈tr)(h:¬ -(i:Int)∈tr):G6 tr i=0:=by simp[G6,h,h1]
theorem Tr.lval_eq(t:Tr n S){a:Int}(h0:a≠0)(hn:a.natAbs<=n):mY S a=if a∈S.tr then 1 else if -a∈S.tr then -1 else 0:=by
 unfold mY;rw[t.val a.natAbs (by omega) hn];by_cases ha:a<0
 ·rw[if_pos ha];have e:((a.natAbs:Nat):Int)=-a:=by omega
  unfold G6;rw[e,Int.neg_neg];by_cases h1:a∈S.tr
  ·rw[if_neg (t.con h1),if_pos h1,if_pos h1];rfl
  ·by_cases h2:-a∈S.tr
   ·rw[if_pos h2,if_neg h1,if_pos h2]
   ·rw[if_neg h2,if_neg h1,if_neg h1,if_neg h2];rfl
 ·rw[if_neg ha];have e:((a.natAbs:Nat):Int)=a:=by omega
  unfold G6;rw[e]
theorem Tr.lval_pos(t:Tr n S){a:Int}(h0:a≠0)(hn:a.natAbs<=n):0<mY S a↔a∈S.tr:=by rw[t.lval_eq h0 hn];by_cases h1:a∈S.tr<;>by_cases h2:-a∈S.tr<;>simp[h1,h2]
theorem Tr.lval_neg(t:Tr n S){a:Int}(h0:a≠0)(hn:a.natAbs<=n):mY S a<0↔-a∈S.tr:=by rw[t.lval_eq h0 hn];by_cases h1:a∈S.tr<;>by_cases h2:-a∈S.tr<;>simp[h1,h2];exact absurd h2 (t.con h1)
theorem Tr.lval_nn(t:Tr n S){a:Int}(h0:a≠0)(hn:a.natAbs<=n):0<=mY S a↔¬ -a∈S.tr:=by rw[<-t.lval_neg h0 hn,Int.not_lt]
theorem Tr.lval_zero(t:Tr n S){a:Int}(h0:a≠0)(hn:a.natAbs<=n):mY S a=0↔¬a∈S.tr/\¬ -a∈S.tr:=by rw[t.lval_eq h0 hn];by_cases h1:a∈S.tr<;>by_cases h2:-a∈S.tr<;>simp[h1,h2]
theorem gY:∀ {m:Nat} {l:List Nat},l.Nodup->(∀x∈l,x<m)->aa l<=m
 |0,[],_,_=>by simp
 |0,x::l,_,h=>by have:=h x (by simp);omega
 |m+1,l,hn,h=>by
  by_cases hm:m∈l
  ·have h1:(l.erase m).Nodup:=hn.erase m;have h2:=gY (m:=m) h1 λx hx=>by
    have h3:=h x (List.mem_of_mem_erase hx);have h4:x≠m:=λhe=>by rw[he,List.Nodup.mem_erase_iff hn]at hx;exact hx.1 rfl
    omega
   rw[List.length_erase_of_mem hm]at h2;omega
  ·have:=gY (m:=m) hn λx hx=>by have h3:=h x hx;have h4:x≠m:=λhe=>hm (he▸hx);omega
   omega
theorem Tr.len(t:Tr n S):aa S.tr<=n:=by
 have h:=gY (m:=n) (l:=S.tr.map λa=>a.natAbs-1) (by
  have:=t.nd;rw[List.Nodup,List.pairwise_map]at this ⊢;refine this.imp_of_mem λ{a b} ha hb hab=> ?_;have:=(t.rng a ha).1;have:=(t.rng b hb).1;omega) (by
  intro x hx;obtain⟨a,ha,rfl⟩:=zrh.1 hx;have:=t.rng a ha;omega)
 simpa using h
theorem Tr.free(t:Tr n S){a:Int}(h0:a≠0)(hn:a.natAbs<=n)(h1:¬a∈S.tr)(h2:¬ -a∈S.tr):aa S.tr<n:=by
 have h:=gY (m:=n) (l:=(a::S.tr).map λa=>a.natAbs-1) (by
  have:=t.nd;rw[zrd,List.nodup_cons];refine⟨λhm=> ?_,?_⟩
  ·obtain⟨b,hb,he⟩:=zrh.1 hm;have:=(t.rng b hb).1;rcases show b=a\/b=-a by omega with rfl|rfl
   ·exact h1 hb
   ·exact h2 hb
  ·rw[List.Nodup,List.pairwise_map]at this ⊢;refine this.imp_of_mem λ{a b} ha hb hab=> ?_;have:=(t.rng a ha).1;have:=(t.rng b hb).1;omega) (by
  intro x hx;obtain⟨b,hb,rfl⟩:=zrh.1 hx;rcases zrj.1 hb with rfl|hb
  ·omega
  ·have:=t.rng b hb;omega)
 simp at h;omega
variable{lv:List Nat}{p:Nat}
theorem Ia(h:∀x∈lv,x<=p):lev lv p=aa lv:=by unfold lev;rw[List.countP_eq_length];intro x hx;simpa using h x hx
theorem Jk(lv:List Nat)(p:Nat):lev lv p<=aa lv:=List.countP_le_length
theorem SS(lv:List Nat){p q:Nat}(h:p<=q):lev lv p<=lev lv q:=by unfold lev;exact List.countP_mono_left λx _ hx=>by simp at hx ⊢;omega
theorem Ib{m:Nat}(h:p<m):lev (lv++[m]) p=lev lv p:=by unfold lev;rw[List.countP_append];simp;omega
theorem UG(hs:lv.Pairwise (·<·)){k p:Nat}(hk:k<aa lv):p<lv[k]↔lev lv p<=k:=by
 induction lv generalizing k with
 |nil=>simp at hk
 |cons x lv ih =>
  rw[List.pairwise_cons]at hs;unfold lev;rw[List.countP_cons];cases k with
  |zero =>
   rw[List.getElem_cons_zero];by_cases hx:x<=p
   ·simp[hx]
   ·have:lv.countP (λx=>aM (x<=p))=0:=by rw[List.countP_eq_zero];intro y hy;have:=hs.1 y hy;simp;omega
    rw[this];simp[hx];omega
  |succ k =>
   rw[List.getElem_cons_succ];have h1:=ih hs.2 (k:=k) (by simpa using hk);unfold lev at h1;by_cases hx:x<=p
   ·simp only[hx,decide_true,if_true];omega
   ·have h2:x<lv[k]'(by simpa using hk):=hs.1 _ (zqu _);simp only[hx,decide_false,if_false];have:lv.countP (λx=>aM (x<=p))=0:=by rw[List.countP_eq_zero];intro y hy;have:=hs.1 y hy;simp;omega
    simp only[this];simp;omega
theorem Dp(hs:lv.Pairwise (·<·)){k p:Nat}(hk:k<aa lv)(hp:p<lv[k]):lev (lv.take k) p=lev lv p:=by
 have h:lv=lv.take k++lv.drop k:=(List.take_append_drop k lv).symm
 conv=>rhs;rw[h]
 unfold lev;rw[List.countP_append];have:(lv.drop k).countP (λx=>aM (x<=p))=0:=by
  rw[List.countP_eq_zero];intro y hy;rw[List.drop_eq_getElem_cons hk]at hy;have hs2:=hs.sublist (List.drop_sublist k lv);rw[List.drop_eq_getElem_cons hk,List.pairwise_cons]at hs2;rcases zrj.1 hy with rfl|hy
  ·simp;omega
  ·have:=hs2.1 y hy;simp;omega
 omega
theorem jR{l:Cl}{k:Nat}(h:a∈l.take k):∃(p:Nat)(hp:p<aa l),p<k/\l[p]=a:=by obtain⟨p,hp,he⟩:=List.getElem_of_mem h;rw[zrl]at hp;exact⟨p,by omega,by omega,by rw[List.getElem_take]at he;exact he⟩
theorem lM{l:Cl}{k:Nat}(hp:p<aa l)(hk:p<k):l[p]∈l.take k:=List.mem_take_iff_getElem.2 ⟨p,by omega,rfl⟩
theorem Tr.low(t:Tr n S){a:Int}(ha:a∈S.tr){k:Nat}(hk:k<aa S.lv):a∈S.tr.take S.lv[k]↔gG S a<=k:=by
 constructor
 ·intro h;obtain⟨p,hp,h1,rfl⟩:=jR h;rw[t.lvl p hp];have:=(UG t.lvs hk).1 h1;omega
 ·intro h;obtain⟨p,hp,rfl⟩:=List.getElem_of_mem ha;rw[t.lvl p hp]at h;exact lM hp ((UG t.lvs hk).2 (by omega))
theorem Tr.lev_rng(t:Tr n S){a:Int}(ha:a∈S.tr):0<=gG S a/\gG S a<=aa S.lv:=by obtain⟨p,hp,rfl⟩:=List.getElem_of_mem ha;rw[t.lvl p hp];have:=Jk S.lv p;omega
theorem gI(S:St)(a:Int):gG S (-a)=gG S a:=by unfold gG;rw[Int.natAbs_neg]
end
structure Cls(n:Nat)(S:St):Prop where
 c2:∀j,j<S.nc->2<=aa (S.cl j)
 cnd:∀j,j<S.nc->((S.cl j).map Int.natAbs).Nodup
 crg:∀j,j<S.nc->∀a∈S.cl j,a≠0/\a.natAbs<=n
 wts:∀a j,j∈S.wt a->j<S.nc/\a∈(S.cl j).take 2
 wtc:∀j,j<S.nc->∀a∈(S.cl j).take 2,j∈S.wt a
 wnd:∀a,(S.wt a).Nodup
structure Rea(S:St):Prop where
 rea:∀p (h:p<aa S.tr) j,(S.v (S.tr[p]).natAbs).reason=ar j->j<S.nc/\S.tr[p]∈S.cl j/\∀b∈S.cl j,b≠S.tr[p]->-b∈S.tr.take p
 dec:∀p (h:p<aa S.tr),(S.v (S.tr[p]).natAbs).reason=aL->lev S.lv p=0\/p∈S.lv
def Wat(q:Nat)(S:St)(j:Nat):Prop:=∀x∈(S.cl j).take 2,-x∈S.tr.take q->∃y∈(S.cl j).take 2,y∈S.tr/\gG S y<=gG S x
structure Nxt(n:Nat)(S:St):Prop where
 all:∀i,1<=i->i<=n->(S.v i).value=0->((i:Int),(S.v i).score)∈S.nx
 rng:∀t∈S.nx,1<=t.1/\t.1<=n
structure Log(n:Nat)(l:List Cl)(S:St):Prop where
 d0:∀p (h:p<aa S.tr),lev S.lv p=0->Der (l++S.ln) [] S.tr[p]
 src:∀j,j<S.nc->∃c∈l++S.ln,∀a,a∈S.cl j↔a∈c
 rup:∀k (h:k<aa S.ln),Bad (l++S.ln.take k) (Dn S.ln[k])
 lrg:∀c∈S.ln,c≠[]/\(c.map Int.natAbs).Nodup/\∀a∈c,a≠0/\a.natAbs<=n
 lnew:S.ln.Pairwise λc d=>¬ ∀a,a∈c↔a∈d
def Lcv(L:List Cl)(S:St):Prop:=∀c∈L,(∃a,c=[a]/\a∈S.tr/\gG S a=0)\/∃j,j<S.nc/\∀a,a∈S.cl j↔a∈c
def Cov(l:List Cl)(S:St):Prop:=∀c∈l,(∃a∈c,-a∈c)\/(∃a∈c,a∈S.tr/\gG S a=0)\/∃j,j<S.nc/\∀a,a∈S.cl j↔a∈c
def Lvt(S:St):Prop:=∀x∈S.lv,x<aa S.tr
def kR(S:St)(a:Int)(r:Option Nat):St :=
 {S with v:=upd S.v a.natAbs {S.v a.natAbs with value:=if a<0 then -1 else 1,level:=aa S.lv,reason:=r},tr:=S.tr++[a]}
section
variable{n:Nat}{l:List Cl}{S:St}{a:Int}{r:Option Nat}
theorem Jl(t:Tr n S)(h1:¬a∈S.tr)(h2:¬ -a∈S.tr){b:Int}(hb:b∈S.tr):b.natAbs≠a.natAbs:=by
 intro he;rcases show b=a\/b=-a by omega with h|h
 ·exact h1 (h▸hb)
 ·exact h2 (h▸hb)
theorem wO(h:i≠a.natAbs):(kR S a r).v i=S.v i:=bM h
theorem oM:(kR S a r).v a.natAbs={S.v a.natAbs with value:=if a<0 then -1 else 1,level:=aa S.lv,reason:=r}:=bD _ _ _
theorem qh(t:Tr n S)(h1:¬a∈S.tr)(h2:¬ -a∈S.tr){b:Int}(hb:b∈S.tr):gG (kR S a r) b=gG S b:=by unfold gG;rw[wO (Jl t h1 h2 hb)]
theorem LQ(t:Tr n S)(h1:¬a∈S.tr)(h2:¬ -a∈S.tr){b:Int}(hb:-b∈S.tr):gG (kR S a r) b=gG S b:=by rw[<-gI,qh t h1 h2 hb,gI]
theorem xI:gG (kR S a r) a=aa S.lv:=by unfold gG;rw[oM]
variable{tr:Cl}
theorem SV(h:i≠a.natAbs):G6 (tr++[a]) i=G6 tr i:=by
 unfold G6;have h1:((i:Int)∈tr++[a])↔(i:Int)∈tr:=by
  simp only[zrf,zrc];refine⟨λh2=>h2.resolve_right λh3=>h (by omega),.inl⟩
 have h2:(-(i:Int)∈tr++[a])↔-(i:Int)∈tr:=by simp only[zrf,zrc];refine⟨λh2=>h2.resolve_right λh3=>h (by omega),.inl⟩
 simp only[h1,h2]
theorem Tr.letS(t:Tr n S)(h0:a≠0)(hn:a.natAbs<=n)(h1:¬a∈S.tr)(h2:¬ -a∈S.tr):Tr n (kR S a r) where
 nd:=by
  show((S.tr++[a]).map Int.natAbs).Nodup;rw[zql,List.map_singleton,List.nodup_append];refine⟨t.nd,by simp,λx hx y hy=> ?_⟩;obtain⟨b,hb,rfl⟩:=zrh.1 hx;rw[zrc.1 hy];exact Jl t h1 h2 hb
 rng b hb:=by
  rcases zrf.1 (show b∈S.tr++[a]from hb)with hb|hb
  ·exact t.rng b hb
  ·rw[zrc.1 hb];exact⟨h0,hn⟩
 val i hi hin:=by
  show _=G6 (S.tr++[a]) i;by_cases he:i=a.natAbs
  ·subst he;rw[oM];dsimp only;by_cases hneg:a<0
   ·rw[if_pos hneg];have e:((a.natAbs:Nat):Int)=-a:=by omega
    unfold G6;rw[e,Int.neg_neg,if_neg (by simp[h2];omega),if_pos (by simp)]
   ·rw[if_neg hneg];have e:((a.natAbs:Nat):Int)=a:=by omega
    unfold G6;rw[e,if_pos (by simp)]
  ·rw[wO he,t.val i hi hin,SV he]
 lvl p h:=by
  have h':p<aa (S.tr++[a]):=h;show gG _ (S.tr++[a])[p]=lev S.lv p;by_cases hp:p<aa S.tr
  ·have e:(S.tr++[a])[p]=S.tr[p]:=List.getElem_append_left hp;rw[e,qh t h1 h2 (zqu _),t.lvl p hp]
  ·have hp':p=aa S.tr:=by rw[zqa,zrk]at h';omega
   subst hp';rw[List.getElem_concat_length rfl,xI,Ia λx hx=>Nat.le_trans (t.lvh x hx) t.hdl]
 lvs:=t.lvs
 lvh:=t.lvh
 hdl:=by
  show S.hd<=aa (S.tr++[a]);rw[zqa];have:=t.hdl;omega
theorem Cls.letS(c:Cls n S):Cls n (kR S a r):=⟨c.c2,c.cnd,c.crg,c.wts,c.wtc,c.wnd⟩
theorem Rea.letS(k:Rea S)(t:Tr n S)(h1:¬a∈S.tr)(h2:¬ -a∈S.tr)
 (hr:∀j,r=ar j->j<S.nc/\a∈S.cl j/\∀b∈S.cl j,b≠a->-b∈S.tr) (hd:r=aL->aa S.lv=0\/aa S.tr∈S.lv):Rea (kR S a r) where
 rea p h j hj:=by
  have h':p<aa (S.tr++[a]):=h;have hj:((Go.Proofs.YthdidjjecjhenaaGreat.kR S a r).v ((S.tr++[a])[p]).natAbs).reason=ar j:=hj;show j<S.nc/\(S.tr++[a])[p]∈S.cl j/\∀b∈S.cl j,b≠(S.tr++[a])[p]->-b∈(S.tr++[a]).take p;by_cases hp:p<aa S.tr
  ·have e:(S.tr++[a])[p]=S.tr[p]:=List.getElem_append_left hp;rw[e]at hj ⊢;rw[wO (Jl t h1 h2 (zqu _))]at hj;rw[List.take_append_of_le_length (by omega)];exact k.rea p hp j hj
  ·have hp':p=aa S.tr:=by rw[zqa,zrk]at h';omega
   subst hp';rw[List.getElem_concat_length rfl]at hj ⊢;rw[oM]at hj;rw[List.take_left];exact hr j hj
 dec p h hj:=by
  have h':p<aa (S.tr++[a]):=h;have hj:((Go.Proofs.YthdidjjecjhenaaGreat.kR S a r).v ((S.tr++[a])[p]).natAbs).reason=aL:=hj;show lev S.lv p=0\/p∈S.lv;by_cases hp:p<aa S.tr
  ·have e:(S.tr++[a])[p]=S.tr[p]:=List.getElem_append_left hp;rw[e,wO (Jl t h1 h2 (zqu _))]at hj;exact k.dec p hp hj
  ·have hp':p=aa S.tr:=by rw[zqa,zrk]at h';omega
   subst hp';rw[List.getElem_concat_length rfl,oM]at hj;rcases hd hj with h3|h3
   ·left;have:=Jk S.lv (aa S.tr);omega
   ·exact .inr h3
variable{q:Nat}
theorem Wat.letS(w:Wat q S j)(t:Tr n S)(hq:q<=aa S.tr)(h1:¬a∈S.tr)(h2:¬ -a∈S.tr):Wat q (kR S a r) j:=by intro x hx hm;have hm:-x∈(S.tr++[a]).take q:=hm;rw[List.take_append_of_le_length hq]at hm;obtain⟨y,hy,hy2,hy3⟩:=w x hx hm;refine⟨y,hy,List.mem_append_left _ hy2,?_⟩;rw[qh t h1 h2 hy2,LQ t h1 h2 (zsh hm)];exact hy3
theorem Nxt.letS(k:Nxt n S):Nxt n (kR S a r) where
 all i hi hin hv:=by
  by_cases he:i=a.natAbs
  ·subst he;rw[oM]at hv;exfalso;dsimp only at hv;split at hv<;>omega
  ·rw[wO he]at hv ⊢;exact k.all i hi hin hv
 rng:=k.rng
theorem Log.letS(k:Log n l S)(t:Tr n S)(h1:¬a∈S.tr)(h2:¬ -a∈S.tr)(hd:S.lv=[]->Der (l++S.ln) [] a):Log n l (kR S a r) where
 d0 p h hl:=by
  have h':p<aa (S.tr++[a]):=h;have hl:lev S.lv p=0:=hl;show Der (l++S.ln) [] (S.tr++[a])[p];by_cases hp:p<aa S.tr
  ·rw[List.getElem_append_left hp];exact k.d0 p hp hl
  ·have hp':p=aa S.tr:=by rw[zqa,zrk]at h';omega
   subst hp';rw[List.getElem_concat_length rfl];rw[Ia λx hx=>Nat.le_trans (t.lvh x hx) t.hdl]at hl;exact hd (zse hl)
 src:=k.src
 rup:=k.rup
 lrg:=k.lrg
 lnew:=k.lnew
variable{L:List Cl}
theorem Lcv.letS(k:Lcv L S)(t:Tr n S)(h1:¬a∈S.tr)(h2:¬ -a∈S.tr):Lcv L (kR S a r):=by
 intro c hc;rcases k c hc with⟨b,h3,h4,h5⟩|h3
 ·exact .inl ⟨b,h3,List.mem_append_left _ h4,by rw[qh t h1 h2 h4];exact h5⟩
 ·exact .inr h3
variable{d:List Cl}
theorem Cov.letS(k:Cov d S)(t:Tr n S)(h1:¬a∈S.tr)(h2:¬ -a∈S.tr):Cov d (kR S a r):=by
 intro c hc;rcases k c hc with h3|⟨b,h3,h4,h5⟩|h3
 ·exact .inl h3
 ·exact .inr (.inl ⟨b,h3,List.mem_append_left _ h4,by rw[qh t h1 h2 h4];exact h5⟩)
 ·exact .inr (.inr h3)
theorem Lvt.letS(k:Lvt S):Lvt (kR S a r):=by intro x hx;have:=k x hx;show x<aa (S.tr++[a]);rw[zqa];omega
end
def fV(S:St)(k:Nat)(nx:List (Int×Int)):St :=
 {S with
  v:=λi=>if i∈(S.tr.drop (S.lv.getD k 0)).map Int.natAbs then {S.v i with last:=(S.v i).value,value:=0,reason:=aL} else S.v i
  tr:=S.tr.take (S.lv.getD k 0),lv:=S.lv.take k,hd:=S.lv.getD k 0,nx:=nx}
section
variable{n:Nat}{l:List Cl}{S:St}{k:Nat}{nx:List (Int×Int)}
variable{tr:Cl}
theorem yY(h:(tr.map Int.natAbs).Nodup)(b:Nat){a c:Int}(ha:a∈tr.take b)(hc:c∈tr.drop b):a.natAbs≠c.natAbs:=by rw[<-List.take_append_drop b tr,zql,List.nodup_append]at h;exact h.2.2 _ (List.mem_map_of_mem ha) _ (List.mem_map_of_mem hc)
theorem VD(t:Tr n S)(ha:a∈S.tr.take (S.lv.getD k 0)):(fV S k nx).v a.natAbs=S.v a.natAbs:=by show(if _ then _ else _)=_;rw[if_neg];intro hm;obtain⟨c,hc,he⟩:=zrh.1 hm;exact yY t.nd _ ha hc he.symm
theorem nK:gG (fV S k nx) a=gG S a:=by unfold gG;show(if _ then _ else _:VS).level=_;split<;>rfl
variable{lv:List Nat}
theorem jH(hk:k<aa lv):lv.getD k 0=lv[k]:=by simp[zqg,hk]
theorem Tr.backS(t:Tr n S)(hk:k<aa S.lv)(hl:Lvt S):Tr n (fV S k nx) where
 nd:=by
  show((S.tr.take _).map Int.natAbs).Nodup;rw[List.map_take];exact t.nd.sublist (List.take_sublist _ _)
 rng a ha:=t.rng a (zsh ha)
 val i hi hin:=by
  show(if _ then _ else _:VS).value=G6 (S.tr.take (S.lv.getD k 0)) i;by_cases hm:i∈(S.tr.drop (S.lv.getD k 0)).map Int.natAbs
  ·rw[if_pos hm];obtain⟨c,hc,rfl⟩:=zrh.1 hm;rw[yX (λh=>yY t.nd _ h hc (by simp)) (λh=>yY t.nd _ h hc (by simp))]
  ·rw[if_neg hm,t.val i hi hin];have h1:∀x:Int,x.natAbs=i->(x∈S.tr↔x∈S.tr.take (S.lv.getD k 0)):=λx hx=>by
    refine⟨λh=> ?_,zsh⟩;rw[<-List.take_append_drop (S.lv.getD k 0) S.tr]at h;rcases zrf.1 h with h|h
    ·exact h
    ·exact absurd (zrh.2 ⟨x,h,hx⟩) hm
   unfold G6;simp only[h1 (i:Int) (by simp),h1 (-(i:Int)) (by simp)]
 lvl p h:=by
  have h':p<aa (S.tr.take (S.lv.getD k 0)):=h;rw[zrl]at h';have e:(Go.Proofs.YthdidjjecjhenaaGreat.fV S k nx).tr[p]=S.tr[p]'(by omega):=List.getElem_take;rw[e,nK,t.lvl p (by omega)];show _=((lev (S.lv.take k) p:Nat):Int);rw[jH hk]at h';rw[Dp t.lvs hk (by omega)]
 lvs:=t.lvs.sublist (List.take_sublist _ _)
 lvh x hx:=by
  have hx:x∈S.lv.take k:=hx;show x<=S.lv.getD k 0;rw[jH hk];obtain⟨i,hi,rfl⟩:=List.getElem_of_mem hx;rw[zrl]at hi;rw[List.getElem_take];exact Nat.le_of_lt (List.pairwise_iff_getElem.1 t.lvs i k (by omega) hk (by omega))
 hdl:=by
  show S.lv.getD k 0<=aa (S.tr.take _);rw[zrl];have:=hl _ (zqu hk);rw[jH hk];omega
theorem Cls.backS(c:Cls n S):Cls n (fV S k nx):=⟨c.c2,c.cnd,c.crg,c.wts,c.wtc,c.wnd⟩
theorem Rea.backS(c:Rea S)(t:Tr n S)(hk:k<aa S.lv):Rea (fV S k nx):=by
 have key:∀p (h:p<(Go.Proofs.YthdidjjecjhenaaGreat.fV S k nx).tr.length),∃(h2:p<aa S.tr),p<S.lv.getD k 0/\(Go.Proofs.YthdidjjecjhenaaGreat.fV S k nx).tr[p]=S.tr[p]/\((Go.Proofs.YthdidjjecjhenaaGreat.fV S k nx).v ((Go.Proofs.YthdidjjecjhenaaGreat.fV S k nx).tr[p]).natAbs).reason=(S.v (S.tr[p]).natAbs).reason:=by intro p h;have h':p<aa (S.tr.take (S.lv.getD k 0)):=h;rw[zrl]at h';have e:(Go.Proofs.YthdidjjecjhenaaGreat.fV S k nx).tr[p]=S.tr[p]'(by omega):=List.getElem_take;refine⟨by omega,by omega,e,?_⟩;rw[e,VD t (lM (by omega) (by omega))]
 constructor
 ·intro p h j hj;obtain⟨h2,h3,h4,h5⟩:=key p h;rw[h5]at hj;obtain⟨h6,h7,h8⟩:=c.rea p h2 j hj;rw[h4];refine⟨h6,h7,λb hb hne=> ?_⟩;show -b∈(S.tr.take (S.lv.getD k 0)).take p;rw[List.take_take,Nat.min_eq_left (by omega)];exact h8 b hb hne
 ·intro p h hj;obtain⟨h2,h3,h4,h5⟩:=key p h;rw[h5]at hj;show lev (S.lv.take k) p=0\/p∈S.lv.take k;rw[jH hk]at h3;rw[Dp t.lvs hk h3];rcases c.dec p h2 hj with h6|h6
  ·exact .inl h6
  ·right;obtain⟨i,hi,he⟩:=List.getElem_of_mem h6;have hik:i<k:=by
    refine Classical.byContradiction λhn=> ?_;by_cases hik:i=k
    ·subst hik;omega
    ·have:=List.pairwise_iff_getElem.1 t.lvs k i hk hi (by omega);omega
   exact List.mem_take_iff_getElem.2 ⟨i,by omega,he⟩
variable{q:Nat}
theorem Wat.backS(w:Wat q S j)(t:Tr n S)(hk:k<aa S.lv)(hq:S.lv.getD k 0<=q):Wat (S.lv.getD k 0) (fV S k nx) j:=by intro x hx hm;have hm:-x∈(S.tr.take (S.lv.getD k 0)).take (S.lv.getD k 0):=hm;rw[List.take_take,Nat.min_self]at hm;obtain⟨y,hy,hy2,hy3⟩:=w x hx ((List.take_subset_take_left S.tr hq) hm);refine⟨y,hy,?_,by rw[nK,nK];exact hy3⟩;show y∈S.tr.take (S.lv.getD k 0);rw[jH hk]at hm ⊢;have h1:=(t.low (zsh hm) hk).1 hm;rw[gI]at h1;exact(t.low hy2 hk).2 (by omega)
theorem Nxt.backS(c:Nxt n S)(t:Tr n S)(hnx:∀x∈S.nx,x∈nx)(hun:∀a∈S.tr.drop (S.lv.getD k 0),((a.natAbs:Int),(S.v a.natAbs).score)∈nx)
 (hr:∀x∈nx,x∈S.nx\/∃a∈S.tr.drop (S.lv.getD k 0),x.1=a.natAbs):Nxt n (fV S k nx) where
 all i hi hin hv:=by
  have hv:(if i∈(S.tr.drop (S.lv.getD k 0)).map Int.natAbs then {S.v i with last:=(S.v i).value,value:=0,reason:=aL} else S.v i:VS).value=0:=hv;show((i:Int),(if i∈(S.tr.drop (S.lv.getD k 0)).map Int.natAbs then {S.v i with last:=(S.v i).value,value:=0,reason:=aL} else S.v i:VS).score)∈nx;by_cases hm:i∈(S.tr.drop (S.lv.getD k 0)).map Int.natAbs
  ·rw[if_pos hm];obtain⟨a,ha,rfl⟩:=zrh.1 hm;exact hun a ha
  ·rw[if_neg hm]at hv ⊢;exact hnx _ (c.all i hi hin hv)
 rng x hx:=by
  rcases hr x hx with h|⟨a,ha,he⟩
  ·exact c.rng x h
  ·have:=t.rng a (List.mem_of_mem_drop ha);rw[he];omega
theorem EX(t:Tr n S)(hk:k<aa S.lv){a:Int}(ha:a∈S.tr)(hl:gG S a=0):a∈S.tr.take (S.lv.getD k 0):=by rw[jH hk];exact(t.low ha hk).2 (by omega)
theorem Log.backS(c:Log n l S)(t:Tr n S)(hk:k<aa S.lv):Log n l (fV S k nx) where
 d0 p h hl:=by
  have h':p<aa (S.tr.take (S.lv.getD k 0)):=h;rw[zrl]at h';have e:(Go.Proofs.YthdidjjecjhenaaGreat.fV S k nx).tr[p]=S.tr[p]'(by omega):=List.getElem_take;rw[e];refine c.d0 p (by omega) ?_;have hl:lev (S.lv.take k) p=0:=hl;rw[jH hk]at h';rw[<-hl,Dp t.lvs hk (by omega)]
 src:=c.src
 rup:=c.rup
 lrg:=c.lrg
 lnew:=c.lnew
variable{L:List Cl}
theorem Lcv.backS(c:Lcv L S)(t:Tr n S)(hk:k<aa S.lv):Lcv L (fV S k nx):=by
 intro x hx;rcases c x hx with⟨b,h3,h4,h5⟩|h3
 ·exact .inl ⟨b,h3,EX t hk h4 h5,by rw[nK];exact h5⟩
 ·exact .inr h3
variable{d:List Cl}
theorem Cov.backS(c:Cov d S)(t:Tr n S)(hk:k<aa S.lv):Cov d (fV S k nx):=by
 intro x hx;rcases c x hx with h3|⟨b,h3,h4,h5⟩|h3
 ·exact .inl h3
 ·exact .inr (.inl ⟨b,h3,EX t hk h4 h5,by rw[nK];exact h5⟩)
 ·exact .inr (.inr h3)
theorem Lvt.backS(c:Lvt S)(t:Tr n S)(hk:k<aa S.lv):Lvt (fV S k nx):=by intro x hx;have hx:x∈S.lv.take k:=hx;show x<aa (S.tr.take (S.lv.getD k 0));rw[zrl,jH hk];obtain⟨i,hi,rfl⟩:=List.getElem_of_mem hx;rw[zrl]at hi;rw[List.getElem_take];have:=List.pairwise_iff_getElem.1 t.lvs i k (by omega) hk (by omega);have:=c _ (zqu hk);omega
end
structure Inv(n:Nat)(l d L:List Cl)(S:St):Prop where
 t:Tr n S
 c:Cls n S
 r:Rea S
 x:Nxt n S
 g:Log n l S
 lc:Lcv L S
 cv:Cov d S
 lt:Lvt S
 w:∀j,j<S.nc->Wat S.hd S j
section
variable{n:Nat}{l d L:List Cl}{S:St}
theorem Inv.letS(i:Inv n l d L S){a:Int}{r:Option Nat}(h0:a≠0)(hn:a.natAbs<=n)(h1:¬a∈S.tr)(h2:¬ -a∈S.tr)
 (hr:∀j,r=ar j->j<S.nc/\a∈S.cl j/\∀b∈S.cl j,b≠a->-b∈S.tr) (hd:r=aL->S.lv=[]) (hder:r=aL->Der (l++S.ln) [] a):Inv n l d L (kR S a r) where
 t:=i.t.letS h0 hn h1 h2
 c:=i.c.letS
 r:=i.r.letS i.t h1 h2 hr λh=> .inl (by rw[hd h];rfl)
 x:=i.x.letS
 g:=i.g.letS i.t h1 h2 λhl=>by
  cases r with
  |none=>exact hder rfl
  |some j=>obtain⟨h3,h4,h5⟩:=hr j rfl;obtain⟨c,hc,he⟩:=i.g.src j h3;refine Der.unit c a hc ((he a).1 h4) λb hb hne=> ?_;obtain⟨p,hp,hb2⟩:=List.getElem_of_mem (h5 b ((he b).2 hb) hne);rw[<-hb2];exact i.g.d0 p hp (by rw[hl];rfl)
 lc:=i.lc.letS i.t h1 h2
 cv:=i.cv.letS i.t h1 h2
 lt:=i.lt.letS
 w j hj:=(i.w j hj).letS i.t i.t.hdl h1 h2
def clS(S:St)(cl':Nat->Cl)(wt':Int->List Nat):St:={S with cl:=cl',wt:=wt'}
theorem Rea.clS(k:Rea S){cl':Nat->Cl}{wt':Int->List Nat}(hp:∀j a,a∈cl' j↔a∈S.cl j):Rea (clS S cl' wt') where
 rea p h j hj:=by
  obtain⟨h1,h2,h3⟩:=k.rea p h j hj;exact⟨h1,(hp _ _).2 h2,λb hb=>h3 b ((hp _ _).1 hb)⟩
 dec:=k.dec
theorem Log.clS(k:Log n l S){cl':Nat->Cl}{wt':Int->List Nat}(hp:∀j a,a∈cl' j↔a∈S.cl j):Log n l (clS S cl' wt') where
 d0:=k.d0
 src j hj:=by
  obtain⟨c,h1,h2⟩:=k.src j hj;exact⟨c,h1,λa=>(hp j a).trans (h2 a)⟩
 rup:=k.rup
 lrg:=k.lrg
 lnew:=k.lnew
theorem Lcv.clS(k:Lcv L S){cl':Nat->Cl}{wt':Int->List Nat}(hp:∀j a,a∈cl' j↔a∈S.cl j):Lcv L (clS S cl' wt'):=by
 intro c hc;rcases k c hc with h|⟨j,h1,h2⟩
 ·exact .inl h
 ·exact .inr ⟨j,h1,λa=>(hp j a).trans (h2 a)⟩
theorem Cov.clS(k:Cov d S){cl':Nat->Cl}{wt':Int->List Nat}(hp:∀j a,a∈cl' j↔a∈S.cl j):Cov d (clS S cl' wt'):=by
 intro c hc;rcases k c hc with h|h|⟨j,h1,h2⟩
 ·exact .inl h
 ·exact .inr (.inl h)
 ·exact .inr (.inr ⟨j,h1,λa=>(hp j a).trans (h2 a)⟩)
def swS(S:St)(j:Nat)(c:Cl):St:=clS S (upd S.cl j c) S.wt
variable{x:Int}
theorem yZ{y:Int}{r:Cl}(hc:S.cl j=x::y::r):∀i a,a∈upd S.cl j (y::x::r) i↔a∈S.cl i:=by
 intro i a;unfold upd;split
 ·rename_i h;subst h;rw[hc];simp only[zrj];constructor<;>rintro(h|h|h)<;>simp[h]
 ·exact Iff.rfl
theorem Dq{y:Int}{r:Cl}(hc:S.cl j=x::y::r):∀i a,a∈(upd S.cl j (y::x::r) i).take 2↔a∈(S.cl i).take 2:=by
 intro i a;unfold upd;split
 ·rename_i h;subst h;rw[hc];simp only[List.take_succ_cons,List.take_zero,zrj,zrp,or_false];constructor<;>rintro(h|h)<;>simp[h]
 ·exact Iff.rfl
variable{q:Nat}
theorem Wat.two{cl':Nat->Cl}{wt':Int->List Nat}(w:Wat q S j)(h2:∀a,a∈(cl' j).take 2↔a∈(S.cl j).take 2):Wat q (clS S cl' wt') j:=by intro x hx hm;obtain⟨y,h3,h4⟩:=w x ((h2 x).1 hx) hm;exact⟨y,(h2 y).2 h3,h4⟩
theorem Inv.swS(i:Inv n l d L S){j:Nat}{x y:Int}{r:Cl}(hc:S.cl j=x::y::r):Inv n l d L (swS S j (y::x::r)) where
 t:=⟨i.t.nd,i.t.rng,i.t.val,i.t.lvl,i.t.lvs,i.t.lvh,i.t.hdl⟩
 c := {
  c2:=λk hk=>by
   show 2<=aa (upd S.cl j (y::x::r) k);unfold upd;split
   ·simp
   ·exact i.c.c2 k hk
  cnd:=λk hk=>by
   show((upd S.cl j (y::x::r) k).map Int.natAbs).Nodup;unfold upd;split
   ·rename_i h;subst h;have:=i.c.cnd k hk;rw[hc]at this;exact(List.Perm.swap _ _ _).nodup this
   ·exact i.c.cnd k hk
  crg:=λk hk a ha=>i.c.crg k hk a ((yZ hc k a).1 ha)
  wts:=λa k hk=>⟨(i.c.wts a k hk).1,(Dq hc k a).2 (i.c.wts a k hk).2⟩
  wtc:=λk hk a ha=>i.c.wtc k hk a ((Dq hc k a).1 ha)
  wnd:=i.c.wnd}
 r:=i.r.clS (yZ hc)
 x:=i.x.1 |> λh=>⟨h,i.x.2⟩
 g:=i.g.clS (yZ hc)
 lc:=i.lc.clS (yZ hc)
 cv:=i.cv.clS (yZ hc)
 lt:=i.lt
 w k hk:=(i.w k hk).two (Dq hc k)
def mvW(S:St)(j:Nat)(nt a:Int):Int->List Nat:=λb=>if b=nt then(S.wt nt).erase j else if b=a then S.wt a++[j]else S.wt b
def mvS(S:St)(j:Nat)(nt a:Int)(c:Cl):St:=clS S (upd S.cl j c) (mvW S j nt a)
variable{nt:Int}
theorem O8{r1 r2:Cl}:(x::a::(r1++nt::r2)).Perm (x::nt::(r1++a::r2)):=by refine List.Perm.cons _ ?_;refine(List.Perm.cons _ (List.perm_middle)).trans ?_;refine(List.Perm.swap _ _ _).trans ?_;exact List.Perm.cons _ (List.perm_middle.symm)
theorem XJ{r1 r2:Cl}(h:((x::nt::(r1++a::r2)).map Int.natAbs).Nodup):x≠nt/\x≠a/\a≠nt:=by simp only[zrd,zql,List.nodup_cons,zrj,zrf,not_or]at h;refine⟨λe=>h.1.1 (by rw[e]),λe=>h.1.2.2.1 (by rw[e]),λe=>h.2.1.2.1 (by rw[e])⟩
theorem Inv.mvS(i:Inv n l d L S){j:Nat}(hj:j<S.nc){x nt a:Int}{r1 r2:Cl}(hc:S.cl j=x::nt::(r1++a::r2))
 (hw:Wat S.hd (mvS S j nt a (x::a::(r1++nt::r2))) j):Inv n l d L (mvS S j nt a (x::a::(r1++nt::r2))):=by
 have hnd:=i.c.cnd j hj;rw[hc]at hnd;obtain⟨e1,e2,e3⟩:=XJ hnd;have hm:∀k b,b∈upd S.cl j (x::a::(r1++nt::r2)) k↔b∈S.cl k:=by
  intro k b;unfold upd;split
  ·rename_i h;subst h;rw[hc];exact O8.mem_iff
  ·exact Iff.rfl
 have hja:¬j∈S.wt a:=λh=>by
  have:=(i.c.wts a j h).2;rw[hc]at this;simp only[List.take_succ_cons,List.take_zero,zrj,zrp,or_false]at this;rcases this with h|h
  ·exact e2 h.symm
  ·exact e3 h
 refine⟨⟨i.t.nd,i.t.rng,i.t.val,i.t.lvl,i.t.lvs,i.t.lvh,i.t.hdl⟩,⟨?_,?_,λk hk b hb=>i.c.crg k hk b ((hm k b).1 hb),?_,?_,?_⟩,i.r.clS hm,⟨i.x.1,i.x.2⟩,i.g.clS hm,i.lc.clS hm,i.cv.clS hm,i.lt,?_⟩
 ·intro k hk;show 2<=aa (upd S.cl j (x::a::(r1++nt::r2)) k);unfold upd;split
  ·simp
  ·exact i.c.c2 k hk
 ·intro k hk;show((upd S.cl j (x::a::(r1++nt::r2)) k).map Int.natAbs).Nodup;unfold upd;split
  ·exact(O8.map _).symm.nodup hnd
  ·exact i.c.cnd k hk
 ·intro b k hk;have hk:k∈mvW S j nt a b:=hk;show k<S.nc/\b∈(upd S.cl j (x::a::(r1++nt::r2)) k).take 2;unfold mvW at hk;split at hk
  ·rename_i h;subst h;have h1:=(List.Nodup.mem_erase_iff (i.c.wnd b)).1 hk;rw[bM h1.1];exact i.c.wts b k h1.2
  ·split at hk
   ·rename_i h;subst h;rcases zrf.1 hk with h1|h1
    ·have:k≠j:=λe=>hja (e▸h1);rw[bM this];exact i.c.wts b k h1
    ·rw[zrc.1 h1,bD];exact⟨hj,by simp⟩
   ·rename_i h1 h2;obtain⟨h3,h4⟩:=i.c.wts b k hk;refine⟨h3,?_⟩;unfold upd;split
    ·rename_i h;subst h;rw[hc]at h4;simp only[List.take_succ_cons,List.take_zero,zrj,zrp,or_false]at h4 ⊢;rcases h4 with h4|h4
     ·exact .inl h4
     ·exact absurd h4 h1
    ·exact h4
 ·intro k hk b hb;have hb:b∈(upd S.cl j (x::a::(r1++nt::r2)) k).take 2:=hb;show k∈mvW S j nt a b;unfold mvW;by_cases h:k=j
  ·subst h;rw[bD]at hb;simp only[List.take_succ_cons,List.take_zero,zrj,zrp,or_false]at hb;rcases hb with rfl|rfl
   ·rw[if_neg e1,if_neg e2];exact i.c.wtc k hk b (by rw[hc];simp)
   ·rw[if_neg e3,if_pos rfl];simp
  ·rw[bM h]at hb;have h1:=i.c.wtc k hk b hb;split
   ·rename_i h2;subst h2;exact(List.Nodup.mem_erase_iff (i.c.wnd b)).2 ⟨h,h1⟩
   ·split
    ·rename_i h2;subst h2;exact List.mem_append_left _ h1
    ·exact h1
 ·intro b;show(mvW S j nt a b).Nodup;unfold mvW;split
  ·exact(i.c.wnd nt).erase j
  ·split
   ·rw[List.nodup_append];refine⟨i.c.wnd a,by simp,λy hy z hz=> ?_⟩;rw[zrc.1 hz];exact λe=>hja (e▸hy)
   ·exact i.c.wnd b
 ·intro k hk;by_cases h:k=j
  ·subst h;exact hw
  ·exact(i.w k hk).two λb=>by rw[bM h]
theorem Wat.weak{q':Nat}(w:Wat q S j)(h:q'<=q):Wat q' S j:=λx hx hm=>w x hx (List.take_subset_take_left S.tr h hm)
variable{tr:Cl}
theorem uo(h:q<aa tr){b:Int}(hb:b∈tr.take (q+1)):b∈tr.take q\/b=tr[q]:=by
 rw[zrg,zqk h,Option.toList_some]at hb;rcases zrf.1 hb with hb|hb
 ·exact .inl hb
 ·exact .inr (zrc.1 hb)
theorem Tr.top(t:Tr n S)(h:S.hd<aa S.tr):gG S S.tr[S.hd]=aa S.lv:=by rw[t.lvl _ h,Ia t.lvh]
theorem EY(t:Tr n S)(h:S.hd<aa S.tr){j:Nat}{x nt:Int}{r:Cl}(hc:S.cl j=x::nt::r)(hnt:S.tr[S.hd]=-nt)(hx:x∈S.tr):Wat (S.hd+1) S j:=by
 intro z hz hm;rw[hc]at hz ⊢;simp only[List.take_succ_cons,List.take_zero,zrj,zrp,or_false]at hz;rcases hz with rfl|rfl
 ·exact absurd (zsh hm) (t.con hx)
 ·refine⟨x,by simp,hx,?_⟩;have h1:=t.top h;rw[hnt,gI]at h1;have:=(t.lev_rng hx).2;omega
theorem SX(t:Tr n S)(h:S.hd<aa S.tr){j:Nat}{x nt a:Int}{r1 r2:Cl}(hc:S.cl j=x::nt::(r1++a::r2))(hne:x≠nt)(hnt:S.tr[S.hd]=-nt)
 (hw:Wat S.hd S j) (hx:¬x∈S.tr) (ha:¬ -a∈S.tr):Wat (S.hd+1) (mvS S j nt a (x::a::(r1++nt::r2))) j:=by
 intro z hz hm;have hz:z∈(upd S.cl j (x::a::(r1++nt::r2)) j).take 2:=hz;have hm:-z∈S.tr.take (S.hd+1):=hm;exfalso;rw[bD]at hz;simp only[List.take_succ_cons,List.take_zero,zrj,zrp,or_false]at hz;rcases hz with rfl|rfl
 ·rcases uo h hm with h1|h1
  ·obtain⟨y,hy,hy2,_⟩:=hw z (by rw[hc];simp) h1;rw[hc]at hy;simp only[List.take_succ_cons,List.take_zero,zrj,zrp,or_false]at hy;rcases hy with rfl|rfl
   ·exact hx hy2
   ·exact t.con hy2 (hnt▸zqu h)
  ·rw[hnt]at h1;exact hne (by omega)
 ·exact ha (zsh hm)
theorem O9(h:S.hd<aa S.tr){j:Nat}{nt:Int}(hnt:S.tr[S.hd]=-nt)(hw:Wat S.hd S j)(hn:¬nt∈(S.cl j).take 2):Wat (S.hd+1) S j:=by
 intro z hz hm;rcases uo h hm with h1|h1
 ·exact hw z hz h1
 ·exfalso;rw[hnt]at h1;exact hn (by rw[show nt=z by omega];exact hz)
def Ic(S:St):St:={S with hd:=S.hd+1}
theorem Inv.nextS(i:Inv n l d L S)(h:S.hd<aa S.tr)(hw:∀j,j<S.nc->Wat (S.hd+1) S j):Inv n l d L (Ic S) :=
 ⟨⟨i.t.nd,i.t.rng,i.t.val,i.t.lvl,i.t.lvs,λx hx=>Nat.le_succ_of_le (i.t.lvh x hx),h⟩,⟨i.c.c2,i.c.cnd,i.c.crg,i.c.wts,i.c.wtc,i.c.wnd⟩,⟨i.r.rea,i.r.dec⟩,⟨i.x.1,i.x.2⟩,⟨i.g.d0,i.g.src,i.g.rup,i.g.lrg,i.g.lnew⟩,i.lc,i.cv,i.lt,hw⟩
def Nu(S:St)(a:Int):St:=kR {S with lv:=S.lv++[aa S.tr]} a aL
theorem Inv.decS(i:Inv n l d L S)(hh:S.hd=aa S.tr){a:Int}(h0:a≠0)(hn:a.natAbs<=n)(h1:¬a∈S.tr)(h2:¬ -a∈S.tr):Inv n l d L (Nu S a):=by
 have t1:Tr n {S with lv:=S.lv++[aa S.tr]}:=by
  refine⟨i.t.nd,i.t.rng,i.t.val,λp h=> ?_,?_,?_,i.t.hdl⟩
  ·show gG S S.tr[p]=((lev (S.lv++[aa S.tr]) p:Nat):Int);rw[Ib h];exact i.t.lvl p h
  ·show(S.lv++[aa S.tr]).Pairwise (·<·);rw[List.pairwise_append];exact⟨i.t.lvs,by simp,λx hx y hy=>by rw[zrc.1 hy];exact i.lt x hx⟩
  ·intro x hx;rcases zrf.1 hx with hx|hx
   ·exact i.t.lvh x hx
   ·rw[zrc.1 hx];show aa S.tr<=S.hd;omega
 have r1:Rea {S with lv:=S.lv++[aa S.tr]}:=by
  refine⟨i.r.rea,λp h hj=> ?_⟩;show lev (S.lv++[aa S.tr]) p=0\/p∈S.lv++[aa S.tr];rw[Ib h];rcases i.r.dec p h hj with h3|h3
  ·exact .inl h3
  ·exact .inr (List.mem_append_left _ h3)
 have g1:Log n l {S with lv:=S.lv++[aa S.tr]}:=by
  refine⟨λp h hl=>i.g.d0 p h ?_,i.g.src,i.g.rup,i.g.lrg,i.g.lnew⟩;have hl:lev (S.lv++[aa S.tr]) p=0:=hl
  rwa [Ib h]at hl
 have c1:Cls n {S with lv:=S.lv++[aa S.tr]}:=⟨i.c.c2,i.c.cnd,i.c.crg,i.c.wts,i.c.wtc,i.c.wnd⟩;have x1:Nxt n {S with lv:=S.lv++[aa S.tr]}:=⟨i.x.1,i.x.2⟩;refine⟨t1.letS h0 hn h1 h2,c1.letS,r1.letS t1 h1 h2 (λj hj=>by cases hj) (λ_=> .inr (by simp)),x1.letS,g1.letS t1 h1 h2 (λh=>by simp at h),Lcv.letS (S:={S with lv:=S.lv++[aa S.tr]}) i.lc t1 h1 h2,Cov.letS (S:={S with lv:=S.lv++[aa S.tr]}) i.cv t1 h1 h2,?_,λj hj=>Wat.letS (S:={S with lv:=S.lv++[aa S.tr]}) (i.w j hj) t1 i.t.hdl h1 h2⟩;intro x hx;have hx:x∈S.lv++[aa S.tr]:=hx;show x<aa (S.tr++[a]);rw[zqa,zrk];rcases zrf.1 hx with hx|hx
 ·have:=i.lt x hx;omega
 ·rw[zrc.1 hx];omega
def mX(n:Nat)(S:St):List Bool:=(List.range n).map λi=>aM (0<(S.v (i+1)).value)
theorem uq(t:Tr n S){a:Int}(h0:a≠0)(hn:a.natAbs<=n)(ha:a∈S.tr\/-a∈S.tr):hol (mX n S) a=ab↔a∈S.tr:=by
 have hv:∀i:Nat,1<=i->i<=n->(mX n S).getD (i-1) am=aM ((i:Int)∈S.tr):=by
  intro i h1 h2;unfold mX;rw[zqg,zqo,List.getElem?_range (by omega),zrw,Option.getD_some,show i-1+1=i by omega,t.val i h1 h2];unfold G6;by_cases h3:(i:Int)∈S.tr
  ·simp[h3]
  ·rw[if_neg h3];split<;>simp[h3]
 unfold hol;by_cases hneg:a<0
 ·rw[if_pos hneg,show(-a-1).toNat=a.natAbs-1 by omega,hv _ (by omega) hn,show((a.natAbs:Nat):Int)=-a by omega];rcases ha with ha|ha
  ·have:=t.con ha;simp[ha,this]
  ·have:=t.con' ha;simp[ha,this]
 ·rw[if_neg hneg,show(a-1).toNat=a.natAbs-1 by omega,hv _ (by omega) hn,show((a.natAbs:Nat):Int)=a by omega];simp
theorem Inv.some(i:Inv n l l L S)(hh:S.hd=aa S.tr)(hx:S.nx=[])(hl:∀c∈l,∀a∈c,a≠0/\a.natAbs<=n):sat l (mX n S)=ab:=by
 have hall:∀a:Int,a≠0->a.natAbs<=n->a∈S.tr\/-a∈S.tr:=by
  intro a h0 hn;refine Classical.byContradiction λhno=> ?_;rw[not_or]at hno;have hz:(S.v a.natAbs).value=0:=by
   rw[i.t.val _ (by omega) hn];rcases show((a.natAbs:Nat):Int)=a\/((a.natAbs:Nat):Int)=-a by omega with e|e
   ·exact yX (by rw[e];exact hno.1) (by rw[e];exact hno.2)
   ·exact yX (by rw[e];exact hno.2) (by rw[e,Int.neg_neg];exact hno.1)
  have:=i.x.all a.natAbs (by omega) hn hz;rw[hx]at this;cases this
 unfold sat;rw[zrs];intro c hc;rw[List.any_eq_true];rcases i.cv c hc with⟨a,h1,h2⟩|⟨a,h1,h2,_⟩|⟨j,hj,he⟩
 ·obtain⟨h3,h4⟩:=hl c hc a h1;rcases hall a h3 h4 with h5|h5
  ·exact⟨a,h1,(uq i.t h3 h4 (.inl h5)).2 h5⟩
  ·exact⟨-a,h2,(uq i.t (by omega) (by rw[Int.natAbs_neg];exact h4) (.inl h5)).2 h5⟩
 ·obtain⟨h3,h4⟩:=hl c hc a h1;exact⟨a,h1,(uq i.t h3 h4 (.inl h2)).2 h2⟩
 ·have h2:=i.c.c2 j hj;have hw:=i.w j hj;have he2:=i.c.crg j hj;rcases hcl:S.cl j with _|⟨x,_|⟨y,r⟩⟩
  ·rw[hcl]at h2;simp at h2
  ·rw[hcl]at h2;simp at h2
  ·obtain⟨h3,h4⟩:=he2 x (by rw[hcl];simp);rcases hall x h3 h4 with h5|h5
   ·exact⟨x,(he x).1 (by rw[hcl];simp),(uq i.t h3 h4 (.inl h5)).2 h5⟩
   ·obtain⟨z,hz,hz2,_⟩:=hw x (by rw[hcl];simp) (by rw[hh,zrx];exact h5);have hz3:=zsh hz;obtain⟨h6,h7⟩:=he2 z hz3;exact⟨z,(he z).1 hz3,(uq i.t h6 h7 (.inl hz2)).2 hz2⟩
theorem Inv.none(i:Inv n l d L S)(hl:S.lv=[]){j:Nat}(hj:j<S.nc)(hf:∀a∈S.cl j,-a∈S.tr):Bad (l++S.ln) []:=by obtain⟨c,hc,he⟩:=i.g.src j hj;refine .inl ⟨c,hc,λb hb=> ?_⟩;obtain⟨p,hp,e⟩:=List.getElem_of_mem (hf b ((he b).2 hb));rw[<-e];exact i.g.d0 p hp (by rw[hl];rfl)
end
end Go.Proofs.YthdidjjecjhenaaGreat
