/- Lemmas for this claim, part F16: each holds under what it names. -/
import Derived.Test.YtmlacppmbfbjgaaGreatDoorSF15
set_option linter.unusedVariables false
set_option linter.unusedSimpArgs false
set_option linter.unnecessarySimpa false
set_option maxRecDepth 20000
set_option maxHeartbeats 16000000
namespace Go.Proofs.YtmlacppmbfbjgaaGreatDoor
open Go Go.Proofs Go.Abs
theorem Oe {m:Mo} {l:List (List Lt)} {bad bud:Int} {a:Ve×Int} (h:jy m l bad bud a) (h2:a.2≠0):a.1.res=0:=by
 unfold jy at h;split at h
 ·rw[h];rfl
 split at h
 ·rw[h];rfl
 have go:∀(qs:List Qn) (r:Ve×Int),DZ m bud qs r→r.2≠0→r.1.res=0:=by
  intro qs
  induction qs with
  | nil=>intro r h _;rw[show r=(Ve.z,0)from h];rfl
  | cons q qs ih =>
   rintro r ⟨x,hx,⟨_,rfl⟩ | ⟨_,hr⟩⟩ h2
   ·rcases hx with ⟨_,rfl⟩ | ⟨_,⟨_,rfl⟩ | ⟨_,res,vals,ln,ok,rfl⟩⟩
    ·rfl
    ·rfl
    ·exact absurd rfl h2
   ·exact ih r hr h2
 exact go _ _ h h2
theorem Jr {m:Mo} {l:List (List Lt)} {bad bud:Int} {a:Ve×Int} (h:jy m l bad bud a) (h2:a.2=0) (h3:a.1.res=0) :
 m.chk=0∧(∀c∈l,∀x∈c,dF m x.1=true)∧-1≤bad∧bad<m.out.length∧∀q∈qns m l bad,∀vs,sat (q.cl m) vs=false:=by
 unfold jy at h;split at h
 ·rename_i hp;rw[h]at h2;exact absurd h2 hp
 rename_i hp;split at h
 ·rw[h]at h2;cases h2
 rename_i hb;have hm:m.chk=0∧jo m l=true:=by
  unfold bY at hp;split at hp
  ·rename_i hz;exact absurd hz hp
  ·rename_i hz;split at hp
   ·rename_i hk;exact⟨by simpa using hz,hk⟩
   ·exact absurd (by decide) hp
 refine⟨hm.1,fun c hc x hx=>zrs.1 (zrs.1 hm.2 c hc) x hx,by omega,by omega,fun q hq vs=>(DZ.none h h2 h3 q hq).2 vs⟩
theorem Og {m:Mo} {l:List (List Lt)} {bad:Int} {c:List Lt} (h:c∈l):∃i,qn0 m i c∈qns m l bad∧qn1 m l i c∈qns m l bad:=by
 obtain⟨i,hi,rfl⟩:=List.mem_iff_getElem.1 h;have e:l.getD i []=l[i]:=by simp[zqg,hi]
 refine⟨i,?_,?_⟩
 ·unfold qns;refine zrf.2 (.inl (zrh.2 ⟨i,List.mem_range.2 hi,by rw[e]⟩))
 ·unfold qns;refine zrf.2 (.inr (zrf.2 (.inl (zrh.2 ⟨i,List.mem_range.2 hi,by rw[e]⟩))))
theorem Ur {m:Mo} {l:List (List Lt)} {bad:Int} (h:0≤bad):qn2 m l bad∈qns m l bad:=by unfold qns;rw[if_pos h];exact zrf.2 (.inr (zrf.2 (.inr (by simp))))
theorem Js {m:Mo} {l:List (List Lt)} {bad:Int} {st:List Bool} (hm:m.chk=0) (hk:∀c∈l,∀x∈c,dF m x.1=true) (hun:∀q∈qns m l bad,∀vs,sat (q.cl m) vs=false) (hst:stM m.g.init st):l.any (iZ m st)=false:=by rw[List.any_eq_false];intro c hc;obtain⟨i,h1,_⟩:=Og (m:=m) (bad:=bad) hc;rw[WW hm (hk c hc) (hun _ h1) hst];decide
theorem Oh {m : Mo} {l : List (List Lt)} {bad : Int} {st x : List Bool} (hm : m.chk = 0) (hk : ∀ c ∈ l,∀ x ∈ c,dF m x.1 = true) (hun : ∀ q ∈ qns m l bad,∀ vs,sat (q.cl m) vs = false)
 (hst:st.length=m.lat.length) (hx:x.length=m.g.ins.toNat) (hall:l.any (iZ m st)=false):l.any (iZ m (nx m.g st x))=false:=by
 rw[List.any_eq_false];intro c hc;obtain⟨i,_,h1⟩:=Og (m:=m) (bad:=bad) hc;rw[WX hm hk (hk c hc) (hun _ h1) hst hx hall];decide
theorem Jt {m:Mo} {l:List (List Lt)} {st:List Bool} (hm:m.chk=0) (hk:∀c∈l,∀x∈c,dF m x.1=true) (hst:st.length=m.lat.length) (hall:l.any (iZ m st)=false):yB m l st=(true,0):=by
 have ep:(bY m l).2=0:=by unfold bY;rw[if_neg (by simpa using hm),if_pos (show jo m l=true from zrs.2 fun c hc=>zrs.2 fun x hx=>hk c hc x hx)]
 unfold yB;rw[if_neg (by rw[ep];decide),if_neg (by simpa using hst),hall];rfl
def yJ (init:Cl) (picks:List Bool) (i:Nat):Bool:=init.getD i 0==1||((init.getD i 0==2&&decide ((i:Int)<picks.length))&&picks.getD i false)
def iM (init:Cl) (picks:List Bool) (n:Nat):List Bool:=(List.range n).map (yJ init picks)
theorem Fg {init:Cl} {picks:List Bool} {n:Nat}:iM init picks (n+1)=iM init picks n++[yJ init picks n]:=by unfold iM;rw[List.range_succ,zql];rfl
theorem mr {init:Cl} {picks:List Bool} {n:Nat}:(iM init picks n).length=n:=by simp[iM]
theorem Rt : ∀ {init : Cl} {st : List Bool},st.length = init.length → (∀ i (h : i < init.length),init[i] = 2 ∨ st.getD i false = decide (init[i] = 1)) → stM init st
 | [],[],_,_=>trivial
 | b::init,s::st,h,ha=>⟨ha 0 (by simp),Rt (by simpa using h) fun i hi=>ha (i+1) (by simpa using hi)⟩
 | [],_::_,h,_=>by cases h
 | _::_,[],h,_=>by cases h
theorem Oi {init:Cl} {picks:List Bool}:stM init (iM init picks init.length):=by
 refine Rt mr fun i hi=> ?_;have e:init.getD i 0=init[i]:=by simp[zqg,hi]
 have e2:(iM init picks init.length).getD i false=yJ init picks i:=by unfold iM;rw[zqg,zqo,List.getElem?_range hi];rfl
 by_cases h:init[i]=2
 ·exact .inl h
 ·refine .inr ?_;rw[e2];unfold yJ;rw[e,show(init[i]==2)=false from beq_eq_false_iff_ne.2 h,Bool.false_and,Bool.false_and,Bool.or_false];rfl
abbrev oMo (m:Mo):O:= .cells [vi m.g.ins,aF m.g.next,aF m.g.init,prs m.g.ands,aF m.g.outs,dE m.ins,dE m.lat,dE m.out]
abbrev oVe (a:Ve):O:= .cells [vi a.res,vi a.part,vi a.clause,aY a.state]
theorem Ho : ∀ l : List (List Bool),V.dats (l.map fun r => aY r) = true
 | []=>rfl
 | r::l=>by rw[zrd,V.dats,Ho l,Bool.and_true];simp only[V.dat,oQ]
theorem ev_isafe (m:Mo) (l:List (List Lt)) (bad:Int) (picks:List Bool) (seq:List (List Bool)):Ev TE 5 [m.v,lss l,vi bad,aY picks,rwI seq] (.bool true):=by
 have hM:maxLen=9223372036854775807:=rfl;have h11:=QF m;have hfw:=Qz l 12 (by decide);have hrw:=Oc seq 12 (by decide);have hck:=fun hs=>rC m l bad 2000 hs;have hho:=fun hs st=>Dc m hs l st;have hstp:=fun hs st x=>PW m.g st x hs;unfold Mo.v Gr.v at *;refine ak Tryz.func5 rfl (by simp[nts]) ?_;refine ag (vm ?_);simp only[wq.1,Nat.reduceLT,Tryz.results5];refine ag (vm ?_);simp only[wq.1,Nat.reduceLT];refine ah.ev Jq rfl ?_;simp only[wq.1,seval];refine ag (vm ?_);simp only[wq.1,seval];refine ag (vm ?_);simp only[wq.1,seval];refine ah.ev h11 rfl ?_;cases hmf:m.few with
 | false =>
  simp only[wq.1,seval]
  repeat(refine⟨.bool true,?_⟩;simp only[wq.1,seval])
  refine ag (vm ?_);simp only[wq.1,seval];exact az.dat rfl
 | true =>
 simp only[wq.1,seval];refine ah.ev hfw (by simp only[V.dats,V.dat,(gV l).1,zre]) ?_;cases hf:Rq l 12 with
 | false =>
  simp only[wq.1,seval]
  repeat(refine⟨.bool true,?_⟩;simp only[wq.1])
  refine ag (vm ?_);simp only[wq.1,seval];exact az.dat rfl
 | true =>
 simp only[wq.1,seval];refine ah.ev hrw (by simp only[V.dats,V.dat,Ho,zre]) ?_;simp only[wq.1,seval];refine ag (vm ?_);simp only[wq.1,seval];refine vcB.mk (fun hc=> ?_) (fun hc=> ?_)
 ·simp only[wq.1,seval];exact az.dat rfl
 simp only[Bool.or_eq_false_iff,Bool.not_eq_false',zqd]at hc;obtain⟨⟨hrf,hpk⟩,han⟩:=hc;obtain⟨hl,hcl⟩:=Uj hf;obtain⟨hsl,hsr⟩:=QG hrf;obtain⟨hsm,hlat,_⟩:=Wp hmf;have hc2:∀c∈l,c.length≤1000:=fun c hc=>by have:=(hcl c hc).1;omega
 have hc3:∀c∈l,c.length≤1000000:=fun c hc=>by have:=(hcl c hc).1;omega
 simp only[wq.1];refine ag (vm ?_);simp only[wq.1,seval];refine lK (hck hsm (by omega) (by omega) hc2 Dv) (by simp only[V.dats,V.dat,(gV l).1,zre]) fun r hr=> ?_;obtain⟨a,ha,rfl⟩:=hr;simp only[wq.1,seval];by_cases he:a.2=0
 case neg =>
  have e1:(a.2 != 0)=true:=by simpa using he
  have e2:(a.2==0)=false:=by simpa using he
  have e3:(a.1.res==0)=true:=by simpa using Oe ha he
  refine ag (vm ?_);simp only[wq.1,seval,e1,e2,e3]
  repeat(refine⟨.bool true,?_⟩;simp only[wq.1,seval,au,Tryz.results5,e1,e2,e3])
  exact az.dat rfl
 have e1:(a.2 != 0)=false:=by simpa using he
 have e2:(a.2==0)=true:=by simpa using he
 by_cases hr:a.1.res=0
 case neg =>
  have e3:(a.1.res != 0)=true:=by simpa using hr
  have e4:(a.1.res==0)=false:=by simpa using hr
  refine ag (vm ?_);simp only[wq.1,seval,e1,e2,e3,e4]
  repeat(refine⟨.bool true,?_⟩;simp only[wq.1,seval,au,Tryz.results5,e1,e2,e3,e4])
  exact az.dat rfl
 have e3:(a.1.res != 0)=false:=by simpa using hr
 obtain⟨hz,hk,hb0,hb1,hun⟩:=Jr ha he hr;obtain⟨hg,hil,hlt,hol⟩:=iY hz;obtain⟨hin,_⟩:=uH hz;have hst0:l.any (iZ m (iM m.g.init picks m.lat.length))=false:=Js hz hk hun (by rw[←hin];exact Oi);refine ag (vm ?_);simp only[wq.1,seval,e1,e3];refine mV (fun f'=>f'.t 1=lss l∧f'.t 2=vi bad∧f'.t 3=aY picks∧f'.t 4=rwI seq∧f'.t 5= .lp 0 0∧f'.t 11= .bool true∧f'.d=[]) _ (fun hk=>hk _ ⟨by simp only[wq.1,seval],by simp only[wq.1,seval],by simp only[wq.1,seval],by simp only[wq.1,seval],by simp only[wq.1,seval],by simp only[wq.1,seval],by simp only[wq.1]⟩) ?_;rintro f ⟨t1,t2,t3,t4,t5,t11,hd⟩;refine ag (vm ?_);simp only[wq.1,Nat.reduceLT];refine fH 15 1 (by simp only[wq.1,↓reduceIte]) ?_;refine ag ?_;refine ag (vm ?_);simp only[wq.1,seval,hd];refine aG ?_;refine aC (fun q f h=>∃i,q+i=m.lat.length∧f.t 1=lss l∧f.t 2=vi bad∧f.t 3=aY picks∧f.t 4=rwI seq∧f.t 5= .lp 0 0∧f.t 11= .bool true∧f.t 15= .ls 2 1 0 i i∧f.t 16=vi i∧f.d=[]∧h=[oMo m,oVe a.1,.cells ((iM m.g.init picks i).map V.bool)]) m.lat.length ⟨0,by omega,t1,t2,t3,t4,t5,t11,by simp only[wq.1,seval],by simp only[wq.1,↓reduceIte];rfl,by simp only[wq.1],rfl⟩ ?_;clear t1 t2 t3 t4 t5 t11 hd f;rintro q f h ⟨i,hq,t1,t2,t3,t4,t5,t11,t15,t16,hd,rfl⟩;by_cases hlt:i<m.lat.length
 ·have d1 : decide ((i : Int) < (m.lat.length : Int)) = true := by rw [zqb];omega
  have hw:=aA (show i<maxLen by omega);have hii:i<m.g.init.length:=by omega
  have hgi:=IC hii .any;have hsl:(iM m.g.init picks i).length=i:=mr;have hel:((iM m.g.init picks i).map V.bool).length=i*1:=by rw[zra,mr];omega
  have dbs:∀p,V.drops p ((iM m.g.init picks i).map V.bool)=(iM m.g.init picks i).map V.bool:=fun p=>pV _;have hsu:∀b,yJ m.g.init picks i=b→(iM m.g.init picks i).map V.bool++[V.bool b]=(iM m.g.init picks (i+1)).map V.bool:=fun b h=>by rw[Fg,zql,h];rfl
  have eg:m.g.init.getD i 0=m.g.init[i]:=by simp[zqg,hii]
  unfold yJ at hsu;rw[eg]at hsu;refine ag ?_;refine ag (vm ?_);simp only[wq.1,seval,t5,t16,d1];refine vm ?_;simp only[wq.1,↓reduceIte];show awp _ _ _ _ _ _ _;refine ag (aG ?_);by_cases hp:i<picks.length
  ·have i3 : decide ((i : Int) < (picks.length : Int)) = true := by rw [zqb];omega
   have hgp:=Vd hp .any;have egp:picks.getD i false=picks[i]:=by simp[zqg,hp]
   rw[i3,egp]at hsu;cases i1:(m.g.init[i]==1)<;>cases i2:(m.g.init[i]==2)
   all_goals
    rw[i1,i2]at hsu;refine vm ?_;simp only[wq.1,↓reduceIte,Nat.reduceEqDiff,Nat.reduceLT,Nat.reduceLeDiff,Nat.reduceAdd,Nat.reduceSub,Int.reduceToNat,Nat.reduceDiv,Int.reduceLT,Int.reduceLE,Int.reduceNeg,Int.reduceBEq,Int.reduceBNe,Int.reduceAdd,Int.reduceSub,Nat.reduceBEq,reduceCtorEq,Nat.reduceMul,au,Tryz.results5,t1,t2,t3,t4,t5,t11,t15,t16,hd,hgi,i1,i2,i3,hgp,hel,dbs]
    repeat(refine⟨.bool true,?_⟩;simp only[wq.1,↓reduceIte,Nat.reduceEqDiff,Nat.reduceLT,Nat.reduceLeDiff,Nat.reduceAdd,Nat.reduceSub,Int.reduceToNat,Nat.reduceDiv,Int.reduceLT,Int.reduceLE,Int.reduceNeg,Int.reduceBEq,Int.reduceBNe,Int.reduceAdd,Int.reduceSub,Nat.reduceBEq,reduceCtorEq,Nat.reduceMul,au,Tryz.results5,t1,t2,t3,t4,t5,t11,t15,t16,hd,hgi,i1,i2,i3,hgp,hel,dbs])
    repeat(refine⟨⟨by omega,by omega⟩,?_⟩)
    try(refine⟨.bool true,?_⟩;simp only[wq.1,↓reduceIte,Nat.reduceEqDiff,Nat.reduceLT,Nat.reduceLeDiff,Nat.reduceAdd,Nat.reduceSub,Int.reduceToNat,Nat.reduceDiv,Int.reduceLT,Int.reduceLE,Int.reduceNeg,Int.reduceBEq,Int.reduceBNe,Int.reduceAdd,Int.reduceSub,Nat.reduceBEq,reduceCtorEq,Nat.reduceMul,au,Tryz.results5,t1,t2,t3,t4,t5,t11,t15,t16,hd,hgi,i1,i2,i3,hgp,hel,dbs])
    refine⟨⟨rfl,by decide⟩,⟨by omega,by omega,by omega⟩,?_⟩;refine vm ?_;simp only[wq.1,seval,t16,hw];refine .inl ⟨q-1,by omega,i+1,by omega,by simp only[wq.1,seval,t1],by simp only[wq.1,seval,t2],by simp only[wq.1,seval,t3],by simp only[wq.1,seval,t4],by simp only[wq.1,seval,t5],by simp only[wq.1,seval,t11],by simp only[wq.1,seval],by simp only[wq.1,↓reduceIte],by simp only[wq.1,hd],?_⟩;rw[hsu];simp
  ·have i3 : decide ((i : Int) < (picks.length : Int)) = false := by rw [zqd];omega
   have hgp:(List.map V.bool picks).getD i .any= .any:=by rw[zqg,List.getElem?_eq_none (by rw[zra];omega)];rfl
   rw[i3]at hsu;cases i1:(m.g.init[i]==1)<;>cases i2:(m.g.init[i]==2)
   all_goals
    rw[i1,i2]at hsu;refine vm ?_;simp only[wq.1,↓reduceIte,Nat.reduceEqDiff,Nat.reduceLT,Nat.reduceLeDiff,Nat.reduceAdd,Nat.reduceSub,Int.reduceToNat,Nat.reduceDiv,Int.reduceLT,Int.reduceLE,Int.reduceNeg,Int.reduceBEq,Int.reduceBNe,Int.reduceAdd,Int.reduceSub,Nat.reduceBEq,reduceCtorEq,Nat.reduceMul,au,Tryz.results5,t1,t2,t3,t4,t5,t11,t15,t16,hd,hgi,i1,i2,i3,hgp,hel,dbs]
    repeat(refine⟨.bool true,?_⟩;simp only[wq.1,↓reduceIte,Nat.reduceEqDiff,Nat.reduceLT,Nat.reduceLeDiff,Nat.reduceAdd,Nat.reduceSub,Int.reduceToNat,Nat.reduceDiv,Int.reduceLT,Int.reduceLE,Int.reduceNeg,Int.reduceBEq,Int.reduceBNe,Int.reduceAdd,Int.reduceSub,Nat.reduceBEq,reduceCtorEq,Nat.reduceMul,au,Tryz.results5,t1,t2,t3,t4,t5,t11,t15,t16,hd,hgi,i1,i2,i3,hgp,hel,dbs])
    repeat(refine⟨⟨by omega,by omega⟩,?_⟩)
    try(refine⟨.bool true,?_⟩;simp only[wq.1,↓reduceIte,Nat.reduceEqDiff,Nat.reduceLT,Nat.reduceLeDiff,Nat.reduceAdd,Nat.reduceSub,Int.reduceToNat,Nat.reduceDiv,Int.reduceLT,Int.reduceLE,Int.reduceNeg,Int.reduceBEq,Int.reduceBNe,Int.reduceAdd,Int.reduceSub,Nat.reduceBEq,reduceCtorEq,Nat.reduceMul,au,Tryz.results5,t1,t2,t3,t4,t5,t11,t15,t16,hd,hgi,i1,i2,i3,hgp,hel,dbs])
    refine⟨⟨rfl,by decide⟩,⟨by omega,by omega,by omega⟩,?_⟩;refine vm ?_;simp only[wq.1,seval,t16,hw];refine .inl ⟨q-1,by omega,i+1,by omega,by simp only[wq.1,seval,t1],by simp only[wq.1,seval,t2],by simp only[wq.1,seval,t3],by simp only[wq.1,seval,t4],by simp only[wq.1,seval,t5],by simp only[wq.1,seval,t11],by simp only[wq.1,seval],by simp only[wq.1,↓reduceIte],by simp only[wq.1,hd],?_⟩;rw[hsu];simp
 ·have : i = m.lat.length := by omega
  subst this;have d1:decide (((m.lat.length:Nat):Int)<(m.lat.length:Int))=false:=by rw[zqd];omega
  refine ag ?_;refine ag (vm ?_);simp only[wq.1,seval,t5,t16,d1];refine vm ?_;simp only[wq.1,↓reduceIte];show awp _ _ _ _ _ _ _;refine qK 2 15 (aY (iM m.g.init picks m.lat.length)) (by simp only[wq.1,seval,t15]) (by simp only[wq.1,seval,t15];exact lZ (by show some (O.cells (V.drops _ _))=_;rw[pV]) mr.symm) (by simp only[wq.1,hd]) ?_;rw[show iO (·==2) 0 [oMo m,oVe a.1,.cells ((iM m.g.init picks m.lat.length).map V.bool)]=[oMo m,oVe a.1,.dead] by simp[iO,O.drop,V.drops,V.drop]];refine mV (fun f'=>f'.t 1=lss l∧f'.t 2=vi bad∧f'.t 4=rwI seq∧f'.t 5= .lp 0 0∧f'.t 11= .bool true∧f'.t 15=aY (iM m.g.init picks m.lat.length)∧f'.d=[]) _ (fun hk=>hk _ ⟨by simp only[wq.1,seval,t1],by simp only[wq.1,seval,t2],by simp only[wq.1,seval,t4],by simp only[wq.1,seval,t5],by simp only[wq.1,seval,t11],by simp only[wq.1,↓reduceIte],hd⟩) ?_;clear t1 t2 t3 t4 t5 t11 t15 t16 hd f;rintro f ⟨t1,t2,t4,t5,t11,t15,hd⟩;refine ag ?_;refine ag (vm ?_);simp only[wq.1,Nat.reduceLT];refine aG ?_;refine aC (fun q f h=>∃t st,q+t=seq.length+1∧t≤seq.length∧st.length=m.lat.length∧l.any (iZ m st)=false∧f.t 1=lss l∧f.t 2=vi bad∧f.t 4=rwI seq∧f.t 5= .lp 0 0∧f.t 11= .bool true∧f.t 15=aY st∧f.t 17=vi t∧f.d=[]∧h=[oMo m,oVe a.1,.dead]) (seq.length+1) ⟨0,iM m.g.init picks m.lat.length,by omega,by omega,mr,hst0,t1,t2,t4,t5,t11,t15,by simp only[wq.1,↓reduceIte];rfl,hd,rfl⟩ ?_;clear t1 t2 t4 t5 t11 t15 hd f;rintro q f h ⟨t,st,hq,hts,hstl,hall,t1,t2,t4,t5,t11,t15,t17,hd,rfl⟩;have d1:decide ((t:Int)≤(seq.length:Int))=true:=by rw[zqb];omega
  have hw:=aA (show t<maxLen by omega);have eh:=hho hsm st (by omega) (by omega) hc3 (by omega);rw[Jt hz hk hstl hall]at eh;refine ag ?_;refine ag (vm ?_);simp only[wq.1,seval,t4,t17,d1];refine vm ?_;simp only[wq.1,↓reduceIte];show awp _ _ _ _ _ _ _;refine ag (aG ?_);refine ag (vm ?_);simp only[wq.1,seval,t1,t5,t15];refine ah.ev eh (by simp only[V.dats,V.dat,(gV l).1,oQ,zre]) ?_;simp only[wq.1,seval];refine ag (vm ?_);simp only[wq.1,seval];by_cases htl:t=seq.length
  ·have d2 : ((t : Int) == (seq.length : Int)) = true := by rw [beq_iff_eq];omega
   refine ag (vm ?_);simp only[wq.1,seval,t4,t11,t17,hd,d2];exact az.dat rfl
  have d2:((t:Int)==(seq.length:Int))=false:=by rw[beq_eq_false_iff_ne];omega
  have htl2:t<seq.length:=by omega
  have hgr:=Wq htl2 .any;have es:=hstp hsm st seq[t];obtain⟨x,hx⟩:∃x,x=seq[t]:=⟨_,rfl⟩;rw[←hx]at hgr es;refine ag (vm ?_);simp only[wq.1,seval,t4,t17,d2];refine ag (vm ?_);simp only[wq.1,seval,t4,t5,t15,t17,hgr];refine⟨by decide +kernel,⟨by omega,by omega⟩,Ef.mk es rfl (by simp only[V.dats,V.dat,oQ,zre]) ?_⟩;simp only[wq.1,seval];by_cases hv:m.g.valE st x=0
  case neg =>
   have e5:(m.g.valE st x != 0)=true:=by simpa using hv
   refine ag (vm ?_);simp only[wq.1,seval,t11,hd,e5];exact az.dat rfl
  have e5:(m.g.valE st x != 0)=false:=by simpa using hv
  have eo:m.g.out st x=m.g.outs.map (lv (m.g.vals st x)):=by unfold Gr.out;rw[if_pos hv]
  have en:m.g.nxt st x=nx m.g st x:=by unfold Gr.nxt;rw[if_pos hv];rfl
  have hxl:x.length=m.g.ins.toNat:=by
   unfold Gr.valE at hv;split at hv
   ·rename_i h1;exact absurd hv h1
   ·split at hv
    ·cases hv
    ·rename_i h2;simp only[Bool.or_eq_true,not_or,bne_iff_ne,ne_eq,Decidable.not_not]at h2;omega
  have hnl:(nx m.g st x).length=m.lat.length:=by unfold nx;rw[zra];omega
  have hsn:=Oh hz hk hun hstl hxl hall;have hoL:(m.g.out st x).length=m.out.length:=by rw[eo,zra];omega
  refine ag (vm ?_);simp only[wq.1,seval,e5];by_cases hb:0≤bad
  case neg =>
   have d3:decide (0≤bad)=false:=by rw[zqd];exact hb
   have d4:decide (((m.g.out st x).length:Int)≤bad)=false:=by rw[zqd];omega
   by_cases ho:bad.toNat<(m.g.out st x).length
   ·have hgo:=Vd ho .any;refine ag (vm ?_);simp only[wq.1,seval,t2,d3,d4,hgo];refine vm ?_;simp only[wq.1,seval];refine vm ?_;simp only[wq.1,seval,t17,hw];exact .inl ⟨q-1,by omega,t+1,nx m.g st x,by omega,by omega,hnl,hsn,t1,t2,t4,t5,t11,by rw[←en];simp only[wq.1,seval],by simp only[wq.1,↓reduceIte],hd,rfl⟩
   ·have hgo : (List.map V.bool (m.g.out st x)).getD bad.toNat .any = .any := by rw [zqg,List.getElem?_eq_none (by rw [zra];omega)];rfl
    refine ag (vm ?_);simp only[wq.1,seval,t2,d3,d4,hgo]
    repeat(refine⟨.bool true,?_⟩;simp only[wq.1,seval,au,Tryz.results5,t1,t2,t4,t5,t11,t15,t17,hd,d3,d4,hgo])
    refine vm ?_;simp only[wq.1,seval];refine vm ?_;simp only[wq.1,seval,t17,hw];exact .inl ⟨q-1,by omega,t+1,nx m.g st x,by omega,by omega,hnl,hsn,t1,t2,t4,t5,t11,by rw[←en];simp only[wq.1,seval],by simp only[wq.1,↓reduceIte],hd,rfl⟩
  obtain⟨k,rfl⟩:∃k:Nat,bad=k:=⟨bad.toNat,by omega⟩;have hkl:k<(m.g.out st x).length:=by omega
  have d3:decide (0≤(k:Int))=true:=by rw[zqb];omega
  have d4:decide (((m.g.out st x).length:Int)≤(k:Int))=false:=by rw[zqd];omega
  have hgo:=Vd hkl .any;have hob:(m.g.out st x)[k]=false:=by
   have h:=WY hz hk hb hb1 (hun _ (Ur hb)) hstl hxl hall;have hk2:k<m.g.outs.length:=by omega
   have e:m.g.outs.getD (k:Int).toNat 0=m.g.outs[k]:=by simp[zqg,hk2]
   rw[e]at h;rw[List.getElem_of_eq eo,List.getElem_map];exact h
  rw[hob]at hgo;refine ag (vm ?_);simp only[wq.1,seval,t2,d3,d4,hgo];refine⟨⟨by omega,by omega⟩,?_⟩;refine vm ?_;simp only[wq.1,seval];refine vm ?_;simp only[wq.1,seval,t17,hw];exact .inl ⟨q-1,by omega,t+1,nx m.g st x,by omega,by omega,hnl,hsn,t1,t2,t4,t5,t11,by rw[←en];simp only[wq.1,seval],by simp only[wq.1,↓reduceIte],hd,rfl⟩
end Go.Proofs.YtmlacppmbfbjgaaGreatDoor
