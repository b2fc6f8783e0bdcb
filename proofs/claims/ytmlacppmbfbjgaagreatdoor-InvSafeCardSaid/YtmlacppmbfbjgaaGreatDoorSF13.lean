/- Lemmas for this claim, part F13: each holds under what it names. -/
import Derived.Test.YtmlacppmbfbjgaaGreatDoorSF12
import Derived.Test.YtmlacppmbfbjgaaGreatDoorSA10
import Derived.Test.YtmlacppmbfbjgaaGreatDoorSA9
set_option linter.unusedVariables false
set_option linter.unusedSimpArgs false
set_option linter.unnecessarySimpa false
set_option maxRecDepth 20000
set_option maxHeartbeats 4000000
namespace Go.Proofs.YtmlacppmbfbjgaaGreatDoor
open Go Go.Proofs Go.Abs
def TY {α β : Type} (R : α → β → Prop) : List α → List β → Prop
 | [],[]=>True
 | x::c,y::d=>R x y∧TY R c d
 | _,_=>False
theorem TY.len {α β : Type} {R : α → β → Prop} : ∀ {c : List α} {d : List β},TY R c d → d.length = c.length
 | [],[],_=>rfl
 | x::c,y::d,h2=>by rw[zrt,zrt,TY.len h2.2]
 | [],_::_,h2=>h2.elim
 | _::_,[],h2=>h2.elim
theorem TY.mem {α β : Type} {R : α → β → Prop} : ∀ {c : List α} {d : List β},TY R c d → ∀ y ∈ d,∃ x ∈ c,R x y
 | [],[],_,y,hy=>by cases hy
 | x::c,z::d,h2,y,hy=>by
  rcases zrj.1 hy with rfl | hy
  ·exact⟨x,by simp,h2.1⟩
  ·obtain⟨x',h3,h4⟩:=TY.mem h2.2 y hy;exact⟨x',by simp[h3],h4⟩
 | [],_::_,h2,_,_=>h2.elim
 | _::_,[],h2,_,_=>h2.elim
theorem V3 {m:Mo} (h:m.chk=0):m.lat.Nodup:=by
 unfold Mo.chk at h;split at h
 ·rename_i h1;exact absurd h h1
 ·split at h
  ·cases h
  ·split at h
   ·cases h
   ·split at h
    ·cases h
    ·rename_i h4;have:xG (m.ins++m.lat)=false:=by
      cases e:xG (m.ins++m.lat)with
      | false=>rfl
      | true=>exact absurd (by unfold Mo.twos;rw[e];rfl) h4
     have:(m.ins++m.lat).Nodup:=by simpa [xG]using this
     exact(List.nodup_append.1 this).2.1
theorem NH {l : List S} (h : l.Nodup) : ∀ i,i ≤ l.length → kJ l i = (l.take i,(List.range i).map fun k : Nat => (k : Int))
 | 0,_=>by simp[kJ]
 | i+1,hi=>by
  have hg:l.getD i []=l[i]:=by rw[zqg,zqk (by omega)];rfl
  have hn:at? (l.take i) l[i]=none:=PU fun hm=>by obtain⟨j,hj,hx⟩:=List.mem_take_iff_getElem.1 hm;have:=(List.getElem_inj (h₀:=by omega) (h₁:=by omega) h).1 hx;omega
  rw[kJ,NH h i (by omega),hg];unfold Q7;rw[hn,zrg,zqk (by omega),List.range_succ,zql];rfl
theorem NI {l:List S} (h:l.Nodup) (s:S):l9 (kJ l l.length) s=idx l (·==s)∧((at? (kJ l l.length).1 s).isSome=true↔0≤idx l (·==s)):=by
 rw[NH h _ (zrb _)];unfold l9;dsimp only;rw[zrx];cases hm:at? l s with
 | none =>
  have hn:s∉l:=fun hs=>by obtain⟨n,hn⟩:=zV hs;rw[hm]at hn;cases hn
  rw[jK (p:=(·==s)) fun x hx=>by simp only[beq_eq_false_iff_ne];rintro rfl;exact hn hx];exact⟨rfl,by simp⟩
 | some n =>
  obtain⟨h1,h2⟩:=o7 hm;rw[kP (p:=(·==s)) h1 (fun x hx=>by
   simp only[beq_eq_false_iff_ne];rintro rfl;obtain⟨j,hj,hx⟩:=List.mem_take_iff_getElem.1 hx;have:=(List.getElem_inj (h₀:=by omega) (h₁:=by omega) h).1 (hx.trans h2.symm);omega) (by simpa using h2)]
  refine⟨?_,by simp⟩;dsimp only;rw[zqg,zqo,List.getElem?_range h1];rfl
theorem He {g : Gr} {u : US} (h : ∀ c ∈ u.cl,c.length ≤ 3) : ∀ {i : Nat},i ≤ g.ands.length → ∀ c ∈ (u.ands g i).cl,c.length ≤ 3
 | 0,_=>h
 | i+1,hi=>by
  rw[dh (by omega)];intro c hc;have hc:c∈(u.ands g i).cl++[_,_,_]:=hc;rcases zrf.1 hc with hc | hc
  ·exact He h (by omega) c hc
  ·simp only[zrj,zrp,or_false]at hc;rcases hc with rfl | rfl | rfl<;>simp
theorem NJ {g : Gr} {b : Cl} : ∀ k,∀ c ∈ (bV g b k).cl,c.length ≤ 3
 | 0=>fun c hc=>by have hc:c=[1]:=zrc.1 hc;subst hc;simp
 | k+1=>He (NJ k) (zrb _)
def nvU (m:Mo):Nat:=1+m.lat.length+(m.g.ins.toNat+m.g.ands.length)
theorem Rf {m:Mo} {b:Cl} {k:Nat} (hb:b.length=m.lat.length) (hb2:∀x∈b,0≤x∧x≤2) (hk:k≤1):(bV m.g b k).n≤nvU m:=by obtain⟨a1,a2,a3,a4⟩:=wM b (1,[]) hb2 (zrb _) (fun a ha=>by cases ha);have:(zW b).1≤1+b.length:=a2;have e:k*(m.g.ins.toNat+m.g.ands.length)≤1*(m.g.ins.toNat+m.g.ands.length):=Nat.mul_le_mul_right _ hk;rw[MV];unfold nvU;omega
theorem NK {m:Mo} (h:m.chk=0):nvU m≤4001∧0≤m.g.ins∧m.g.ins≤4000∧m.lat.length≤4000:=by obtain⟨hg,hi,hl,ho⟩:=iY h;obtain⟨_,i0,i1,i2,i3,i4,i5⟩:=fE hg;unfold nvU;omega
theorem Ag {m:Mo} {b:Cl} {k:Nat} (h:m.chk=0) (hb:b.length=m.lat.length) (hb2:∀x∈b,0≤x∧x≤2) (hk:k≤1):UOk m (eP m.g b k):=by
 obtain⟨n1,n2,n3,n4⟩:=NK h;obtain⟨hg,hi,hl,ho⟩:=iY h;have ok:=qZ hg (hb.trans hl) hb2 k;have hn:=Rf (m:=m) hb hb2 hk;have hin:∀ {x:Int},inU (bV m.g b k).n x→-1000000≤x∧x≤1000000:=fun {x} hx=>by have:=hx.2;omega
 refine⟨⟨n2,n3⟩,n4,fun r hr x hx=> ?_,by rw[wV];omega⟩;rcases zrf.1 hr with hr | hr
 ·exact hin ((ok.r r hr).1 x hx)
 ·rw [zrc.1 hr] at hx;rcases zrf.1 hx with hx | hx
  ·rcases zrj.1 hx with rfl | hx
   ·omega
   ·rcases zrf.1 hx with hx | hx
    ·rw[List.eq_of_mem_replicate hx];omega
    ·exact hin (ok.lo x hx)
  ·rw[List.eq_of_mem_replicate hx];omega
theorem E8 {m:Mo}:(nN m).length=m.lat.length:=List.length_replicate
structure QOk (m : Mo) (q : Qn) : Prop where
 b:q.beg.length=m.lat.length
 r:∀x∈q.beg,0≤x∧x≤2
 s:q.steps≤1
 c:∀c∈q.more,c.length≤1000
 n:q.more.length≤3000000
theorem uH {m:Mo} (h:m.chk=0):m.g.init.length=m.lat.length∧∀x∈m.g.init,0≤x∧x≤2:=by obtain⟨hg,hi,hl,ho⟩:=iY h;obtain⟨_,i0,i1,i2,i3,i4,i5⟩:=fE hg;obtain⟨r1,r2,r3,r4⟩:=fM i4;exact⟨by omega,r2⟩
theorem yC {m:Mo} {rows:List Cl} {t:Int} {c:List Lt}:∀d∈iF m rows t c,d.length≤1000:=fun d hd=>by obtain⟨x,_,rfl⟩:=zrh.1 hd;simp
theorem Du {m:Mo} {rows:List Cl} {l:List (List Lt)} (hc:∀c∈l,c.length≤1000):∀d∈qi m rows l,d.length≤1000:=fun d hd=>by obtain⟨x,hx,rfl⟩:=zrh.1 hd;simpa using hc x hx
theorem Xp {m:Mo} (h:m.chk=0) {i:Nat} {c:List Lt} (hc:c.length≤1000):QOk m (qn0 m i c):=by obtain⟨h1,h2⟩:=uH h;refine⟨h1,h2,Nat.zero_le _,yC,?_⟩;show(iF m _ 0 c).length≤_;unfold iF;rw[zra];omega
theorem Xq {m:Mo} {l:List (List Lt)} (hl:l.length≤1000000) (hcl:∀c∈l,c.length≤1000) {i:Nat} {c:List Lt} (hc:c.length≤1000):QOk m (qn1 m l i c):=by
 refine⟨E8,sZ,zrb _,fun d hd=> ?_,?_⟩
 ·rcases zrf.1 hd with hd | hd
  ·exact Du hcl d hd
  ·exact yC d hd
 ·show(qi m _ l++iF m _ 1 c).length≤_;unfold iF qi;rw[zqa,zra,zra];omega
theorem Xr {m:Mo} {l:List (List Lt)} (hl:l.length≤1000000) (hcl:∀c∈l,c.length≤1000) {bad:Int}:QOk m (qn2 m l bad):=by
 refine⟨E8,sZ,zrb _,fun d hd=> ?_,?_⟩
 ·rcases zrf.1 hd with hd | hd
  ·exact Du hcl d hd
  ·rw[zrc.1 hd];simp
 ·show(qi m _ l++[_]).length≤_;unfold qi;rw[zqa,zra];simp;omega
theorem TZ {m:Mo} {q:Qn} (h:QOk m q):∀c∈q.cl m,c.length≤1000:=fun c hc=>by
 rcases zrf.1 hc with hc | hc
 ·have:=NJ _ c hc;omega
 ·exact h.c c hc
def V4 (m:Mo) (bud:Int):Prop:=∀(cl:List Cl) (n:Nat),n≤nvU m→chk cl n=0→∃B,Big n cl (max bud 0) B
theorem Dv {m:Mo}:V4 m 2000:=fun cl n _ hz=>by obtain⟨v1,v2,v3,v4⟩:=oK hz;refine⟨2000,by omega,fun S _ h=>by omega,?_,by omega,by omega⟩;have:(n+1)*(2*2000+4)≤20001*(2*2000+4):=Nat.mul_le_mul_right _ (by omega);omega
theorem NL:V4 m0 1099511627776:=fun cl n hn hz=>by obtain⟨v1,v2,v3,v4⟩:=oK hz;have hn:n≤2:=hn;have h3:(3:Nat)^n≤3^2:=Nat.pow_le_pow_right (by decide) hn;refine⟨9,by omega,fun S i _=>by have:=i.g.few;omega,?_,by omega,by omega⟩;have:(n+1)*(2*9+4)≤3*(2*9+4):=Nat.mul_le_mul_right _ (by omega);omega
abbrev hQ3 (n:Int) (cl rows:List Cl):H:=[.cells [vi n,cls cl,cls rows]]
def bT (m:Mo) (l:List (List Lt)) (n:Int) (cl rows:List Cl) (k:Nat) (o z:Int) (A:List Cl):List (Nat×Nat×V):=[(0,5,.ip (kV m l)),(1,6,uV n cl rows),(3,8,uV n cl rows),(4,9,.ip (kV m l)),(5,10,.ip (kV m l)),(6,11,.ip (.agg [vi m.g.ins,aF m.g.next,aF m.g.init,prs m.g.ands,aF m.g.outs,dE m.ins,dE m.lat,dE m.out])),(7,12,.ip (.agg [vi m.g.ins,aF m.g.next,aF m.g.init,prs m.g.ands,aF m.g.outs])),(8,13,.ip (aF m.g.outs)),(9,14,aF m.g.outs),(10,15,vi k),(11,16,.ip (vi o)),(12,17,vi o),(13,18,vi z),(14,19,.is true 1 [vi z]),(15,20,.is true 1 [.is true 1 [vi z]]),(16,21,.ls 1 1 0 (A.length+1) (A.length+1)),(17,4,.ls 1 1 0 (A.length+1) (A.length+1))]
def Ah (m:Mo) (l:List (List Lt)) (n:Int) (cl rows:List Cl) (k:Nat):List (Nat×V):=[(1,.ip (.ip (kV m l))),(2,.ip (vi k)),(3,.lp 0 0)]
theorem Xt (m : Mo) (l : List (List Lt)) (n : Int) (cl rows : List Cl) (k : Nat) (o z : Int) (A : List Cl) (hA : EvF TE 83 [.ip (kV m l),uV n cl rows] 1 A.length (A.map fun c => aF c)) (hL : Ev TE 85 [uV n cl rows,vi 0,vi o] (vi z)) (hkl : k < m.g.outs.length) (hgo : (m.g.outs.map vi).getD k .any = vi o) (hAl : A.length ≤ 1000000) {r : Option Nat} {Q : XE → Fr → H → Prop} {f0 : Fr} (g0 : GA f0 (Ah m l n cl rows k)) (d0 : f0.d = [])
 (hk:∀f ,GA f (Ah m l n cl rows k)→f.d=[]→f.t 4= .ls 1 1 0 (A.length+1) (A.length+1)→Q .normal f (hQ3 n cl rows++[.cells (A.map (fun c=>aF c)++[xC [z]])])) :
 awp TE 22 r (.region 1 (Iz Tryz.f84 1) true) Q f0 (hQ3 n cl rows):=by
 simp only[Iz,Tryz.f84,xy,List.nil_append,zqp,List.headD_cons,Nat.reduceBEq,zrm,if_false,if_true,List.cons_append];have hM:maxLen=9223372036854775807:=rfl;obtain⟨I,hI⟩:∃I:Array Bool→Fr→H→Prop,∀L f h,I L f h↔(h=HN L (hQ3 n cl rows) 2 16 (A.map fun c=>aF c) (A.map (fun c=>aF c)++[xC [z]])∧FA L f (bT m l n cl rows k o z A)∧(L.getD 2 false=true→L.getD 16 false=false→f.t 7= .ls 1 1 0 A.length A.length)∧GA f (Ah m l n cl rows k)∧f.d=[]):=⟨_,fun _ _ _=>Iff.rfl⟩;refine zJ mixed I (by decide +kernel) ?_ ?_ ?_
 ·exact(hI _ _ _).2 ⟨(HN.none).symm,FA.none,fun h=>by exfalso;revert h;decide +kernel,g0,d0⟩
 ·intro L f h i hcl hII hi;obtain⟨rfl,hfa,hn,hg,hd⟩:=(hI _ _ _).1 hII;have t1:f.t 1= .ip (.ip (kV m l)):=hg (1,.ip (.ip (kV m l))) (by simp[Ah]);have t2:f.t 2= .ip (vi k):=hg (2,.ip (vi k)) (by simp[Ah]);have t3:f.t 3= .lp 0 0:=hg (3,.lp 0 0) (by simp[Ah]);have b0:(HN L (hQ3 n cl rows) 2 16 (A.map fun c=>aF c) (A.map (fun c=>aF c)++[xC [z]]))[0]? =some (.cells [vi n,cls cl,cls rows]):=HN.get (rfl);have hlt:i<18:=zI hi;have pu:∀(d:Nat) (v:V),(∀x∈(bT m l n cl rows k o z A),x.1=i→x.2.1=d∧x.2.2=v)→(∀x∈(bT m l n cl rows k o z A),x.2.1=d→x.1=i)→(decide (d∉([1,2,3,7]:List Nat))&&decide (i∉([2,16]:List Nat)))=true→I (L.setIfInBounds i true) (f.put (some d) v) (HN L (hQ3 n cl rows) 2 16 (A.map fun c=>aF c) (A.map (fun c=>aF c)++[xC [z]])):=by
   intro d v h1 h2 h3;rw[zqf,zqb,zqb]at h3;simp only[zrj,zrp,or_false,not_or,not_false_eq_true,and_true,true_and]at h3;refine(hI _ _ _).2 ⟨(HN.skip (by omega) (by omega)).symm,hfa.put h1 h2,(by rw[getD_set_ne false (by omega),getD_set_ne false (by omega)];exact fun h h2=>by have:=hn h h2;simpa [Fr.put,show ¬7=d by omega]using this),hg.put (by simp[Ah];omega),hd⟩
  match i,hlt with
  | 0,_ =>
   have pu:=pu 5 (.ip (kV m l)) (by simp[bT]) (by simp[bT]) (by decide);simp only[wq.1,Nat.reduceLT,t1]
   first | exact pu | exact⟨by decide,pu⟩ | exact⟨⟨rfl,by decide⟩,pu⟩
  | 1,_ =>
   have pu:=pu 6 (uV n cl rows) (by simp[bT]) (by simp[bT]) (by decide);simp only[wq.1,seval,t3,b0]
   first | exact pu | exact⟨by decide,pu⟩ | exact⟨⟨rfl,by decide⟩,pu⟩
  | 2,_=>have dp:=aJ hi (l:=[0,1]) (by decide +kernel);have e5:f.t 5= .ip (kV m l):=hfa (0,5,.ip (kV m l)) (by simp[bT]) (dp 0 (by simp));have e6:f.t 6=uV n cl rows:=hfa (1,6,uV n cl rows) (by simp[bT]) (dp 1 (by simp));have no:=jY hi;have n3:L.getD 16 false=false:=iT hcl no (by decide +kernel);rw[HN.old no];have b0:(hQ3 n cl rows)[0]? =some (.cells [vi n,cls cl,cls rows]):=rfl;simp only[wq.1,Nat.reduceLT,e5,e6];refine yc hA (by simp only[V.dats,V.dat,dO,zre]) (dO A) ?_;simp only[wq.1];refine(hI _ _ _).2 ⟨(HN.new (B:=(hQ3 n cl rows)) (jd hi) (by decide) n3).symm,hfa.put' rfl,fun _ _=>by simp[Fr.put],hg.put rfl,hd⟩
  | 3,_ =>
   have pu:=pu 8 (uV n cl rows) (by simp[bT]) (by simp[bT]) (by decide);simp only[wq.1,seval,t3,b0]
   first | exact pu | exact⟨by decide,pu⟩ | exact⟨⟨rfl,by decide⟩,pu⟩
  | 4,_ =>
   have pu:=pu 9 (.ip (kV m l)) (by simp[bT]) (by simp[bT]) (by decide);simp only[wq.1,Nat.reduceLT,t1]
   first | exact pu | exact⟨by decide,pu⟩ | exact⟨⟨rfl,by decide⟩,pu⟩
  | 5,_ =>
   have dp:=aJ hi (l:=[4]) (by decide +kernel);have e9:f.t 9= .ip (kV m l):=hfa (4,9,.ip (kV m l)) (by simp[bT]) (dp 4 (by simp));have pu:=pu 10 (.ip (kV m l)) (by simp[bT]) (by simp[bT]) (by decide);simp only[wq.1,Nat.reduceLT,e9]
   first | exact pu | exact⟨by decide,pu⟩ | exact⟨⟨rfl,by decide⟩,pu⟩
  | 6,_ =>
   have dp:=aJ hi (l:=[5]) (by decide +kernel);have e10:f.t 10= .ip (kV m l):=hfa (5,10,.ip (kV m l)) (by simp[bT]) (dp 5 (by simp));have pu:=pu 11 (.ip (.agg [vi m.g.ins,aF m.g.next,aF m.g.init,prs m.g.ands,aF m.g.outs,dE m.ins,dE m.lat,dE m.out])) (by simp[bT]) (by simp[bT]) (by decide);simp only[wq.1,seval,e10]
   first | exact pu | exact⟨by decide,pu⟩ | exact⟨⟨rfl,by decide⟩,pu⟩
  | 7,_ =>
   have dp:=aJ hi (l:=[6]) (by decide +kernel);have e11:f.t 11= .ip (.agg [vi m.g.ins,aF m.g.next,aF m.g.init,prs m.g.ands,aF m.g.outs,dE m.ins,dE m.lat,dE m.out]):=hfa (6,11,.ip (.agg [vi m.g.ins,aF m.g.next,aF m.g.init,prs m.g.ands,aF m.g.outs,dE m.ins,dE m.lat,dE m.out])) (by simp[bT]) (dp 6 (by simp));have pu:=pu 12 (.ip (.agg [vi m.g.ins,aF m.g.next,aF m.g.init,prs m.g.ands,aF m.g.outs])) (by simp[bT]) (by simp[bT]) (by decide);simp only[wq.1,seval,e11]
   first | exact pu | exact⟨by decide,pu⟩ | exact⟨⟨rfl,by decide⟩,pu⟩
  | 8,_ =>
   have dp:=aJ hi (l:=[7]) (by decide +kernel);have e12:f.t 12= .ip (.agg [vi m.g.ins,aF m.g.next,aF m.g.init,prs m.g.ands,aF m.g.outs]):=hfa (7,12,.ip (.agg [vi m.g.ins,aF m.g.next,aF m.g.init,prs m.g.ands,aF m.g.outs])) (by simp[bT]) (dp 7 (by simp));have pu:=pu 13 (.ip (aF m.g.outs)) (by simp[bT]) (by simp[bT]) (by decide);simp only[wq.1,seval,e12]
   first | exact pu | exact⟨by decide,pu⟩ | exact⟨⟨rfl,by decide⟩,pu⟩
  | 9,_ =>
   have dp:=aJ hi (l:=[8]) (by decide +kernel);have e13:f.t 13= .ip (aF m.g.outs):=hfa (8,13,.ip (aF m.g.outs)) (by simp[bT]) (dp 8 (by simp));have pu:=pu 14 (aF m.g.outs) (by simp[bT]) (by simp[bT]) (by decide);simp only[wq.1,Nat.reduceLT,e13]
   first | exact pu | exact⟨by decide,pu⟩ | exact⟨⟨rfl,by decide⟩,pu⟩
  | 10,_ =>
   have pu:=pu 15 (vi k) (by simp[bT]) (by simp[bT]) (by decide);simp only[wq.1,Nat.reduceLT,t2]
   first | exact pu | exact⟨by decide,pu⟩ | exact⟨⟨rfl,by decide⟩,pu⟩
  | 11,_=>have dp:=aJ hi (l:=[9,10]) (by decide +kernel);have e14:f.t 14=aF m.g.outs:=hfa (9,14,aF m.g.outs) (by simp[bT]) (dp 9 (by simp));have e15:f.t 15=vi k:=hfa (10,15,vi k) (by simp[bT]) (dp 10 (by simp));have pu:=pu 16 (.ip (vi o)) (by simp[bT]) (by simp[bT]) (by decide);simp only[wq.1,Nat.reduceLT,e14,e15,hgo];exact⟨⟨by omega,by omega⟩,pu⟩
  | 12,_ =>
   have dp:=aJ hi (l:=[11]) (by decide +kernel);have e16:f.t 16= .ip (vi o):=hfa (11,16,.ip (vi o)) (by simp[bT]) (dp 11 (by simp));have pu:=pu 17 (vi o) (by simp[bT]) (by simp[bT]) (by decide);simp only[wq.1,Nat.reduceLT,e16]
   first | exact pu | exact⟨by decide,pu⟩ | exact⟨⟨rfl,by decide⟩,pu⟩
  | 13,_ =>
   have dp:=aJ hi (l:=[3,12]) (by decide +kernel);have e8:f.t 8=uV n cl rows:=hfa (3,8,uV n cl rows) (by simp[bT]) (dp 3 (by simp));have e17:f.t 17=vi o:=hfa (12,17,vi o) (by simp[bT]) (dp 12 (by simp));have pu:=pu 18 (vi z) (by simp[bT]) (by simp[bT]) (by decide);simp only[wq.1,Nat.reduceLT,e8,e17];refine ah.ev (hL) (by simp only[V.dats,V.dat,dO,zre]) ?_;simp only[wq.1]
   first | exact pu | exact⟨by decide,pu⟩ | exact⟨⟨rfl,by decide⟩,pu⟩
  | 14,_ =>
   have dp:=aJ hi (l:=[13]) (by decide +kernel);have e18:f.t 18=vi z:=hfa (13,18,vi z) (by simp[bT]) (dp 13 (by simp));have pu:=pu 19 (.is true 1 [vi z]) (by simp[bT]) (by simp[bT]) (by decide);simp only[wq.1,seval,e18]
   first | exact pu | exact⟨by decide,pu⟩ | exact⟨⟨rfl,by decide⟩,pu⟩
  | 15,_ =>
   have dp:=aJ hi (l:=[14]) (by decide +kernel);have e19:f.t 19= .is true 1 [vi z]:=hfa (14,19,.is true 1 [vi z]) (by simp[bT]) (dp 14 (by simp));have pu:=pu 20 (.is true 1 [.is true 1 [vi z]]) (by simp[bT]) (by simp[bT]) (by decide);simp only[wq.1,seval,e19]
   first | exact pu | exact⟨by decide,pu⟩ | exact⟨⟨rfl,by decide⟩,pu⟩
  | 16,_ =>
   have dp:=aJ hi (l:=[15]) (by decide +kernel);have e20:f.t 20= .is true 1 [.is true 1 [vi z]]:=hfa (15,20,.is true 1 [.is true 1 [vi z]]) (by simp[bT]) (dp 15 (by simp));have dp:=aJ hi (l:=[2,15]) (by decide +kernel);have e20:f.t 20= .is true 1 [.is true 1 [vi z]]:=hfa (15,20,.is true 1 [.is true 1 [vi z]]) (by simp[bT]) (dp 15 (by simp));have no:=jY hi;have e7:=hn (dp 2 (by simp)) no;have hz:(hQ3 n cl rows++[.cells (A.map fun c=>aF c)]:H)[1]? =some (.cells (A.map fun c=>aF c)):=rfl;rw[HN.at (dp 2 (by simp)) no];have dcs:∀p,V.drops p (A.map fun c=>aF c)=A.map fun c=>aF c:=fun p=>mi _;have hel:(A.map fun c=>aF c).length=A.length*1:=by rw[zra];omega
   simp only[wq.1,seval,e20,e7,dcs];refine⟨⟨by omega,by omega,by omega,by rw[hd];simp⟩,?_⟩;have hdr:∀q∈bT m l n cl rows k o z A,q.1≠16→q.1≠17→q.2.2.drop (·==1)=q.2.2:=by
    intro q hq;simp only[bT,zrj,zrp,or_false]at hq;rcases hq with rfl | rfl | rfl | rfl | rfl | rfl | rfl | rfl | rfl | rfl | rfl | rfl | rfl | rfl | rfl | rfl | rfl
    all_goals first | (intro _ _;rfl) | (intro h _;exact absurd rfl h) | (intro _ h;exact absurd rfl h)
   have n17:L.getD 17 false=false:=iT hcl no (by decide +kernel);refine(hI _ _ _).2 ⟨(HN.fill (B:=(hQ3 n cl rows)) (dp 2 (by simp)) (jd hi) (by decide)).symm,fun q hq hl=> ?_,fun _ h=> ?_,GA.put (d:=21) (hg.drop ?_) rfl,hd⟩
   ·by_cases h16 : q.1 = 16
    ·simp only [bT,zrj,zrp,or_false] at hq;rcases hq with rfl | rfl | rfl | rfl | rfl | rfl | rfl | rfl | rfl | rfl | rfl | rfl | rfl | rfl | rfl | rfl | rfl
     all_goals first | (exfalso;revert h16;simp;done) | (simp[Fr.put];done)
    ·rw [getD_set_ne false (Ne.symm h16)] at hl;have h17 : q.1 ≠ 17 := fun h => by rw [h,n17] at hl;cases hl
     have h21:q.2.1≠21:=by
      simp only[bT,zrj,zrp,or_false]at hq;rcases hq with rfl | rfl | rfl | rfl | rfl | rfl | rfl | rfl | rfl | rfl | rfl | rfl | rfl | rfl | rfl | rfl | rfl
      all_goals first | exact absurd rfl h16 | exact absurd rfl h17 | simp
     have:=hfa q hq hl;show(if q.2.1=21 then _ else(f.t q.2.1).drop (·==1))=q.2.2;rw[if_neg h21,this,hdr q hq h16 h17]
   ·rw[mY (jd hi)]at h;cases h
   ·intro q hq;simp only [Ah,zrj,zrp,or_false] at hq;rcases hq with rfl | rfl | rfl
    all_goals rfl
  | 17,_ =>
   have dp:=aJ hi (l:=[16]) (by decide +kernel);have e21:f.t 21= .ls 1 1 0 (A.length+1) (A.length+1):=hfa (16,21,.ls 1 1 0 (A.length+1) (A.length+1)) (by simp[bT]) (dp 16 (by simp));have pu:=pu 4 (.ls 1 1 0 (A.length+1) (A.length+1)) (by simp[bT]) (by simp[bT]) (by decide);simp only[wq.1,Nat.reduceLT,e21]
   first | exact pu | exact⟨by decide,pu⟩ | exact⟨⟨rfl,by decide⟩,pu⟩
  | n+18,h=>exact absurd h (by omega)
 ·intro L f h hall hII;obtain⟨rfl,hfa,hn,hg,hd⟩:=(hI _ _ _).1 hII;have h9:=hfa (17,4,.ls 1 1 0 (A.length+1) (A.length+1)) (by simp[bT]) (hall 17 (by decide +kernel));rw[HN.done (hall 2 (by decide +kernel)) (hall 16 (by decide +kernel))];exact hk f hg hd h9
theorem V5 (m:Mo) (l:List (List Lt)) (n:Int) (cl rows:List Cl) (bad:Int) (hkl:∀c∈l,∀x∈c,dF m x.1=true) (u:UOk m rows) (hl:l.length≤1000000) (hcl:∀c∈l,c.length≤1000000) (b0:0≤bad) (b1:bad<m.g.outs.length) (ho:∀a∈m.g.outs,a≤1000000) :
 Ev TE 84 [uV n cl rows,.ip (.ip (kV m l)),.ip (vi bad)] (cls (qi m rows l++[[CS rows 0 (m.g.outs.getD bad.toNat 0)]])):=by
 obtain⟨k,rfl⟩:∃k:Nat,bad=k:=⟨bad.toNat,by omega⟩;have hk:k<m.g.outs.length:=by omega
 have hA:=GY m l n cl rows hkl u.i u.lat u.b u.r hl hcl;have hcL:=MR n cl rows 0 m.g.outs[k] u.b (ho _ (zqu hk)) u.r;rw[Int.toNat_natCast,iU hk];have hal:l.length=(qi m rows l).length:=by unfold qi;rw[zra]
 rw[hal]at hA hl;refine ak Tryz.func84 rfl (by simp[nts]) ?_;refine ag (vm ?_);simp only[wq.1,Nat.reduceLT,Tryz.results84];refine ag (vm ?_);refine Xt m l n cl rows k _ _ _ hA hcL hk (IC hk _) hl (by intro q hq;simp only[Ah,zrj,zrp,or_false]at hq;rcases hq with rfl | rfl | rfl<;>rfl) rfl (fun f hg hd t4=> ?_);show awp _ _ _ _ _ _ _;refine vm ?_;simp only[wq.1,t4,hd];refine az.ls (cs':=((qi m rows l++[[CS rows 0 m.g.outs[k]]]).map fun c=>aF c)) rfl ?_ (kG _).1 (kG _).2 (by simp);rw[zql];exact aj.append (aj.dat (dO _)) (uG [[CS rows 0 m.g.outs[k]]]) rfl
theorem Ua {n:Int} (h0:0≤n) (h1:n≤1000000):IntKind.u64.wrap n=n:=by
 simp only[IntKind.wrap,IntKind.signed,IntKind.bits]
 first | omega | (simp;omega)
theorem Qe (c:Nat) (hc:c≤1000000):Ev TE 141 [.int .u64 1,.int .u64 c] (.tup [.int .u64 0,.int .u64 c]):=by
 have e1:Int.fdiv 1 (2^min 32 IntKind.u64.bits)=0:=by decide
 have f0:Int.fdiv 0 (2^min 32 IntKind.u64.bits)=0:=by decide
 have e2:Int.fdiv c (2^min 32 IntKind.u64.bits)=0:=by show Int.fdiv c 4294967296=0;rw[Int.fdiv_eq_ediv_of_nonneg _ (by decide)];omega
 have e3:IntKind.u64.wrap ((BitVec.ofInt IntKind.u64.bits (c:Int) &&& BitVec.ofInt IntKind.u64.bits 4294967295).toNat:Int)=c:=by
  have h1:(BitVec.ofInt IntKind.u64.bits (c:Int) &&& BitVec.ofInt IntKind.u64.bits 4294967295).toNat=c:=by
   show(BitVec.ofInt 64 (c:Int) &&& BitVec.ofInt 64 4294967295).toNat=c;rw[BitVec.toNat_and];have h2:(BitVec.ofInt 64 (c:Int)).toNat=c:=by simp;omega
   have h3:(BitVec.ofInt 64 4294967295).toNat=2^32-1:=by decide
   rw[h2,h3,Nat.and_two_pow_sub_one_eq_mod];exact Nat.mod_eq_of_lt (by omega)
  rw[h1,Ua (by omega) (by omega)]
 have e4:IntKind.u64.wrap ((BitVec.ofInt IntKind.u64.bits 1 &&& BitVec.ofInt IntKind.u64.bits 4294967295).toNat:Int)=1:=by decide
 have e5:IntKind.u64.wrap ((BitVec.ofInt IntKind.u64.bits 0 &&& BitVec.ofInt IntKind.u64.bits 4294967295).toNat:Int)=0:=by decide
 have e6:IntKind.u64.wrap (c:Int)=c:=Ua (by omega) (by omega);have e7:IntKind.u64.wrap 0=0:=by decide
 refine ak Tryz.func141 rfl (by simp[nts]) (vm ?_);simp only[wq.1,seval,Tryz.results141,e1,e2,e3,e4,e5,e6,e7,f0,Int.zero_mul,Int.mul_zero,Int.one_mul,Int.add_zero];exact az.dat rfl
theorem V6 (c:Nat) (hc:c≤1000000):Ev TE 112 [.int .u64 1,.int .u64 c] (.tup [.int .u64 0,.int .u64 c]):=by refine ak Tryz.func112 rfl (by simp[nts]) (vm ?_);simp only[wq.1,seval,Tryz.results112];refine ah.ev (Qe c hc) rfl ?_;simp only[wq.1,seval];exact az.dat rfl
theorem Ub (h:H) (n:Int):uP P h 3 161 (.int .i64 n)=(True,.int .u64 (IntKind.u64.wrap n)):=by simp only[uP,tis]
theorem Uc (h:H) (n:Int):uP P h 161 3 (.int .u64 n)=(True,.int .i64 (IntKind.i64.wrap n)):=by simp only[uP,tis]
def Rh:Plan:= .take 0<| .take 1<| .take 2<| .take 3<| .take 4<| .take 5<| .take 6<| .one 7<| .one 8<| .take 9<| .fin
def ug (x:Int) (c k:Nat):Cl:=List.replicate k x++List.replicate (c-k) 0
theorem Hf {x:Int} {c k:Nat} (h:k≤c):(ug x c k).length=c:=by unfold ug;simp;omega
theorem E9 {x:Int} {c k n:Nat} (h:k+n≤c) (hn:n≤k):bP ((ug x c k).map vi) k ((((ug x c k).map vi).drop 0).take (n*1))=(ug x c (k+n)).map vi:=by
 have e1:(((ug x c k).map vi).drop 0).take (n*1)=(List.replicate n x).map vi:=by unfold ug;rw[List.drop_zero,Nat.mul_one,←List.map_take,List.take_append_of_le_length (by simpa using hn),List.take_replicate,Nat.min_eq_left hn]
 rw[e1];unfold bP;rw[←List.map_take,←List.map_drop,←zql,←zql]
 congr 1
 unfold ug;rw[List.take_append_of_le_length (by simp),zqh (by simp),zra,List.length_replicate,List.drop_append,List.length_replicate,List.drop_of_length_le (by simp),List.nil_append,show k+n-k=n by omega,List.drop_replicate,List.replicate_append_replicate,show c-k-n=c-(k+n) by omega]
theorem Xu (x:Int) (c:Nat):(List.range c).flatMap (fun _=>[vi 0])=(ug x c 0).map vi:=by
 unfold ug;rw[List.replicate_zero,List.nil_append,Nat.sub_zero,List.map_replicate]
 induction c with
 | zero=>rfl
 | succ c ih=>rw[List.range_succ,List.flatMap_append,ih,List.replicate_succ'];rfl
theorem Jj (x:Int) (c:Nat) (hc:c≤1000000):Ev TE 78 [aF [x],vi c] (aF (List.replicate c x)):=by
 have hM:maxLen=9223372036854775807:=rfl;have hn0:decide ((c:Int)<0)=false:=by rw[zqd];omega
 have hz:decide ((9223372036854775807:Int)<(c:Int))=false:=by rw[zqd];omega
 have wu:IntKind.u64.wrap (c:Int)=c:=Ua (by omega) (by omega);have wi:IntKind.i64.wrap (c:Int)=c:=dN (by omega) (by omega);refine ak Tryz.func78 rfl (by simp[nts]) ?_;refine ag (vm ?_);simp only[wq.1,Nat.reduceLT,Tryz.results78];refine ag (vm ?_);simp only[wq.1,seval,hn0];refine ag (vm ?_);have w1:IntKind.u64.wrap ((1:Nat):Int)=1:=by decide
 simp only[wq.1,seval,wu,Ub,w1];refine ah.ev (V6 c hc) rfl ?_;simp only[wq.1,seval];refine ag (vm ?_);simp only[wq.1,seval,hz];refine ag ?_;refine fP ?_;refine aB rfl rfl ?_;simp only[wq.1,seval];refine aB rfl rfl ?_;simp only[wq.1,↓reduceIte,Uc,wi];refine dG rfl rfl ?_;refine lg (t:=22) rfl (q:={kind:= .slice 3,size:=1,bytes:=24,zero:= .nils}) (by simp only[wq.1]) (el:=3) rfl (re:={kind:= .int .i64,size:=1,bytes:=8,zero:=vi 0}) (by simp only[wq.1]) rfl rfl (by decide) (by simp only[wq.1,↓reduceIte]) (by simp only[wq.1,↓reduceIte]) (k:= .i64) (k':= .i64) (m:=(c:Int)) (by simp only[wq.1,↓reduceIte]) (by simp only[wq.1,↓reduceIte]) (by omega) (by omega) (by decide) (by rw[Int.toNat_natCast];show c*1≤_;omega) ?_;rw[Int.toNat_natCast];simp only[wq.1];refine aB rfl rfl ?_;simp only[wq.1,↓reduceIte];refine fA ?_;have h0:=Xu x c;rw[h0];refine ag ?_;refine fP ?_;refine aB rfl rfl ?_;simp only[wq.1,↓reduceIte];refine aB rfl rfl ?_;simp only[wq.1,seval];refine dG rfl rfl ?_;have hsrc:jZ TE [O.cells ((ug x c 0).map vi)] 1 (aF [x]) 1 (min 1 c) ((List.replicate (min 1 c) x).map vi):=by
  by_cases h:c=0
  ·subst h;exact jZ.none
  ·rw[show min 1 c=1 by omega];exact jZ.all rfl rfl
 have hsp:bP ((ug x c 0).map vi) 0 ((List.replicate (min 1 c) x).map vi)=(ug x c (min 1 c)).map vi:=by
  by_cases h:c=0
  ·subst h;rfl
  ·obtain⟨d,rfl⟩:∃d,c=d+1:=⟨c-1,by omega⟩;rw[show min 1 (d+1)=1 by omega];unfold ug bP;simp[List.replicate_succ]
 refine FT (t:=22) (el:=3) rfl rfl (q:={kind:= .slice 3,size:=1,bytes:=24,zero:= .nils}) (by simp only[wq.1]) rfl (re:={kind:= .int .i64,size:=1,bytes:=8,zero:=vi 0}) (by simp only[wq.1]) (by simp only[wq.1,seval]) (by simp only[wq.1,↓reduceIte]) (id:=0) (off:=0) (len:=c) (cap:=c) (by simp only[wq.1,seval]) (cs0:=(ug x c 0).map vi) rfl (by rw[zra,Hf (by omega)];show 0+c*1≤c;omega) (m:=1) (n':=min 1 c) (cs:=(List.replicate (min 1 c) x).map vi) hsrc rfl (lN _) ?_;rw[hsp];simp only[wq.1];refine aB rfl rfl ?_;simp only[wq.1,↓reduceIte];refine fA ?_;simp only[wq.1];refine ag (vm ?_);simp only[wq.1];refine aC (fun m f h=>∃k,m+k=c∧(1≤k∨c=0)∧f.t 7= .ls 0 1 0 c c∧f.t 8=vi k∧f.d=[]∧h=[.cells ((ug x c k).map vi)]) (c-min 1 c) ⟨min 1 c,by omega,by omega,by simp only[wq.1,seval],by simp only[wq.1,↓reduceIte],by simp only[wq.1],rfl⟩ ?_;rintro m f h ⟨k,hm,hk1,t7,t8,hd,rfl⟩;refine ag (vm ?_);simp only[wq.1,seval,t7,t8];refine vcB.mk (fun hlt=> ?_) (fun hlt=> ?_)
 ·simp only [zqb,zqi] at hlt;have hkc : k ≤ c := by omega
  have hrl:(ug x c k).length=c:=Hf hkc;simp only[wq.1];refine aG ?_;refine BB mixed 7 Rh (fun f' h'=>f'.t 7= .ls 0 1 0 c c∧f'.t 8=vi ((k+min k (c-k):Nat):Int)∧f'.d=[]∧h'=[.cells ((ug x c (k+min k (c-k))).map vi)]) (by decide +kernel) (by decide +kernel) ?_ ?_
  ·intro K hK;simp only [wq.1,seval,Rh,mX,IA,t7,t8];obtain ⟨n,hn⟩ : ∃ n,n = min k (c - k) := ⟨_,rfl⟩;rw [← hn];have hw : IntKind.i64.wrap ((k : Int) + (n : Int)) = ((k + n : Nat) : Int) := by rw [dN (by omega) (by omega)];omega
   have hcs:iQ [O.cells ((ug x c k).map vi)] 1 (.ls 0 1 0 n c)=some (n,(((ug x c k).map vi).drop 0).take (n*1)):=by exact if_pos (show 1=1∧0+n*1≤((ug x c k).map vi).length from⟨rfl,by rw[zra,hrl];omega⟩)
   have hao:bC ((((ug x c k).map vi).drop 0).take (n*1))=true:=by rw[←List.map_drop,←List.map_take];exact lN _
   refine⟨⟨by omega,by omega⟩,⟨by omega,.inl (by omega)⟩,FQ (d:=45) rfl rfl rfl rfl fun r' o ho hod=> ?_⟩;refine FT (x:= .tmp 41) (y:= .tmp 44) (ts:=#[22,22]) (t:=22) (el:=3) (by subst ho;rfl) rfl (q:={kind:= .slice 3,size:=1,bytes:=24,zero:= .nils}) (by simp only[wq.1]) rfl (re:={kind:= .int .i64,size:=1,bytes:=8,zero:=vi 0}) (by simp only[wq.1]) (by simp only[wq.1,seval]) (by simp only[wq.1,↓reduceIte]) (id:=0) (off:=k) (len:=c-k) (cap:=c-k) (by simp only[wq.1,seval,Nat.mul_one]) (cs0:=(ug x c k).map vi) rfl (by rw[zra,hrl];show k+(c-k)*1≤c;omega) (m:=k) (n':=n) (cs:=(((ug x c k).map vi).drop 0).take (n*1)) (by simp only[wq.1,↓reduceIte];exact jZ.part (by omega) hcs) hn hao (hK _ _ _ ?_);rw[E9 (by omega) (by omega),hod];simp only[wq.1,seval,t7,hd,hw];exact⟨by rw[hn],by rw[hn]⟩
  ·rintro f h ⟨t7,t8,hd,rfl⟩;exact .inl ⟨c-(k+min k (c-k)),by omega,k+min k (c-k),by omega,by omega,t7,t8,hd,rfl⟩
 ·simp only [zqd,zqi] at hlt;simp only [wq.1];have hkc : k = c := by omega
  have hre:ug x c k=List.replicate c x:=by unfold ug;rw[hkc];simp
  rw[hre];show awp _ _ _ _ _ _ _;refine ag (vm ?_);simp only[wq.1,seval,t7];refine vm ?_;simp only[wq.1,↓reduceIte,hd];exact qV rfl (by simp)
abbrev hA1 (part clause:Int) (beg:Cl) (steps:Int) (fid:FuncId) (caps:List V):H:=[.cells [vi part,vi clause,aF beg,vi steps,.fn (.func fid) [] caps],.cells [vi 0,vi 0,vi 0,.nils]]
abbrev hA2 (part clause:Int) (beg:Cl) (steps:Int) (fid:FuncId) (caps:List V) (n:Int) (cl rows:List Cl):H:=[.cells [vi part,vi clause,aF beg,vi steps,.fn (.func fid) [] caps],.cells [vi 0,vi 0,vi 0,.nils],.cells [vi n,cls cl,cls rows]]
def WZ (l:List Cl) (n bud res:Int) (vals:List Bool) (nn:Int) (ln:List Cl) (e2:Int):Prop:=(chk l n≠0∧e2=chk l n∧res=0∧vals=[])∨(chk l n=0∧e2=0∧pY l n.toNat (max bud 0) res vals ln)
theorem Ud {l:List Cl} {n bud:Int} {r:V} (h:wH l n bud r):∃res vals nn ln e2,r= .tup [.agg [vi res,aY vals,vi nn,cls ln],vi e2]∧WZ l n bud res vals nn ln e2:=by
 rcases h with⟨h,rfl⟩ | ⟨h,res,vals,ln,rfl,ok⟩
 ·exact⟨0,[],0,[],_,rfl,.inl ⟨h,rfl,rfl,rfl⟩⟩
 ·exact⟨res,vals,_,ln,0,rfl,.inr ⟨h,rfl,ok⟩⟩
def dP (m:Mo) (l:List (List Lt)) (part clause:Int) (beg:Cl) (steps:Int) (fid:FuncId) (caps:List V) (bud n:Int) (cl rows:List Cl) (e:Int):List (Nat×Nat×V):=[(0,16,.ip (kV m l)),(1,17,.ip (kV m l)),(2,18,.ip (.agg [vi m.g.ins,aF m.g.next,aF m.g.init,prs m.g.ands,aF m.g.outs,dE m.ins,dE m.lat,dE m.out])),(3,19,.ip (.agg [vi m.g.ins,aF m.g.next,aF m.g.init,prs m.g.ands,aF m.g.outs])),(4,20,.agg [vi m.g.ins,aF m.g.next,aF m.g.init,prs m.g.ands,aF m.g.outs]),(5,21,.lp 0 2),(6,22,aF beg),(7,23,.lp 0 3),(8,24,vi steps),(9,25,.tup [uV n cl rows,vi e]),(10,15,.tup [uV n cl rows,vi e]),(11,26,uV n cl rows),(12,27,vi e),(15,9,vi e)]
def qj (m:Mo) (l:List (List Lt)) (part clause:Int) (beg:Cl) (steps:Int) (fid:FuncId) (caps:List V) (bud n:Int) (cl rows:List Cl):List (Nat×V):=[(0,.ip (kV m l)),(2,vi bud),(4,.lp 0 0),(6,.lp 1 0)]
theorem Xh (m : Mo) (l : List (List Lt)) (part clause : Int) (beg : Cl) (steps : Int) (fid : FuncId) (caps : List V) (bud n : Int) (cl rows : List Cl) (e : Int) (hu : Ev TE 86 [.agg [vi m.g.ins,aF m.g.next,aF m.g.init,prs m.g.ands,aF m.g.outs],aF beg,vi steps] (.tup [uV n cl rows,vi e])) {r : Option Nat} {Q : XE → Fr → H → Prop} {f0 : Fr} (g0 : GA f0 (qj m l part clause beg steps fid caps bud n cl rows)) (d0 : f0.d = [])
 (hk:∀f ,GA f (qj m l part clause beg steps fid caps bud n cl rows)→f.d=[]→f.t 8= .lp 2 0∧f.t 9=vi e→Q .normal f (hA2 part clause beg steps fid caps n cl rows)) :
 awp TE 95 r (.region 1 (Iz Tryz.f49 1) true) Q f0 (hA1 part clause beg steps fid caps):=by
 simp only[Iz,Tryz.f49,xy,List.nil_append,zqp,List.headD_cons,Nat.reduceBEq,zrm,if_false,if_true,List.cons_append];obtain⟨I,hI⟩:∃I:Array Bool→Fr→H→Prop,∀L f h,I L f h↔(h=HN L (hA1 part clause beg steps fid caps) 13 14 [vi 0,.nils,.nils] [vi n,cls cl,cls rows]∧FA L f (dP m l part clause beg steps fid caps bud n cl rows e)∧(L.getD 13 false=true→f.t 8= .lp 2 0)∧GA f (qj m l part clause beg steps fid caps bud n cl rows)∧f.d=[]):=⟨_,fun _ _ _=>Iff.rfl⟩;refine zJ mixed I (by decide +kernel) ?_ ?_ ?_
 ·exact(hI _ _ _).2 ⟨(HN.none).symm,FA.none,fun h=>by exfalso;revert h;decide +kernel,g0,d0⟩
 ·intro L f h i hcl hII hi;obtain⟨rfl,hfa,hn,hg,hd⟩:=(hI _ _ _).1 hII;have t0:f.t 0= .ip (kV m l):=hg (0,.ip (kV m l)) (by simp[qj]);have t2:f.t 2=vi bud:=hg (2,vi bud) (by simp[qj]);have t4:f.t 4= .lp 0 0:=hg (4,.lp 0 0) (by simp[qj]);have t6:f.t 6= .lp 1 0:=hg (6,.lp 1 0) (by simp[qj]);have b0:(HN L (hA1 part clause beg steps fid caps) 13 14 [vi 0,.nils,.nils] [vi n,cls cl,cls rows])[0]? =some (.cells [vi part,vi clause,aF beg,vi steps,.fn (.func fid) [] caps]):=HN.get (rfl);have hlt:i<16:=zI hi;have pu:∀(d:Nat) (v:V),(∀x∈(dP m l part clause beg steps fid caps bud n cl rows e),x.1=i→x.2.1=d∧x.2.2=v)→(∀x∈(dP m l part clause beg steps fid caps bud n cl rows e),x.2.1=d→x.1=i)→(decide (d∉([0,2,4,6,8]:List Nat))&&decide (i∉([13,14]:List Nat)))=true→I (L.setIfInBounds i true) (f.put (some d) v) (HN L (hA1 part clause beg steps fid caps) 13 14 [vi 0,.nils,.nils] [vi n,cls cl,cls rows]):=by
   intro d v h1 h2 h3;rw[zqf,zqb,zqb]at h3;simp only[zrj,zrp,or_false,not_or,not_false_eq_true,and_true,true_and]at h3;refine(hI _ _ _).2 ⟨(HN.skip (by omega) (by omega)).symm,hfa.put h1 h2,(by rw[getD_set_ne false (by omega)];exact fun h=>by have:=hn h;simpa [Fr.put,show ¬8=d by omega]using this),hg.put (by simp[qj];omega),hd⟩
  match i,hlt with
  | 0,_ =>
   have pu:=pu 16 (.ip (kV m l)) (by simp[dP]) (by simp[dP]) (by decide);simp only[wq.1,Nat.reduceLT,t0]
   first | exact pu | exact⟨by decide,pu⟩ | exact⟨⟨rfl,by decide⟩,pu⟩
  | 1,_ =>
   have dp:=aJ hi (l:=[0]) (by decide +kernel);have e16:f.t 16= .ip (kV m l):=hfa (0,16,.ip (kV m l)) (by simp[dP]) (dp 0 (by simp));have pu:=pu 17 (.ip (kV m l)) (by simp[dP]) (by simp[dP]) (by decide);simp only[wq.1,Nat.reduceLT,e16]
   first | exact pu | exact⟨by decide,pu⟩ | exact⟨⟨rfl,by decide⟩,pu⟩
  | 2,_ =>
   have dp:=aJ hi (l:=[1]) (by decide +kernel);have e17:f.t 17= .ip (kV m l):=hfa (1,17,.ip (kV m l)) (by simp[dP]) (dp 1 (by simp));have pu:=pu 18 (.ip (.agg [vi m.g.ins,aF m.g.next,aF m.g.init,prs m.g.ands,aF m.g.outs,dE m.ins,dE m.lat,dE m.out])) (by simp[dP]) (by simp[dP]) (by decide);simp only[wq.1,seval,e17]
   first | exact pu | exact⟨by decide,pu⟩ | exact⟨⟨rfl,by decide⟩,pu⟩
  | 3,_ =>
   have dp:=aJ hi (l:=[2]) (by decide +kernel);have e18:f.t 18= .ip (.agg [vi m.g.ins,aF m.g.next,aF m.g.init,prs m.g.ands,aF m.g.outs,dE m.ins,dE m.lat,dE m.out]):=hfa (2,18,.ip (.agg [vi m.g.ins,aF m.g.next,aF m.g.init,prs m.g.ands,aF m.g.outs,dE m.ins,dE m.lat,dE m.out])) (by simp[dP]) (dp 2 (by simp));have pu:=pu 19 (.ip (.agg [vi m.g.ins,aF m.g.next,aF m.g.init,prs m.g.ands,aF m.g.outs])) (by simp[dP]) (by simp[dP]) (by decide);simp only[wq.1,seval,e18]
   first | exact pu | exact⟨by decide,pu⟩ | exact⟨⟨rfl,by decide⟩,pu⟩
  | 4,_ =>
   have dp:=aJ hi (l:=[3]) (by decide +kernel);have e19:f.t 19= .ip (.agg [vi m.g.ins,aF m.g.next,aF m.g.init,prs m.g.ands,aF m.g.outs]):=hfa (3,19,.ip (.agg [vi m.g.ins,aF m.g.next,aF m.g.init,prs m.g.ands,aF m.g.outs])) (by simp[dP]) (dp 3 (by simp));have pu:=pu 20 (.agg [vi m.g.ins,aF m.g.next,aF m.g.init,prs m.g.ands,aF m.g.outs]) (by simp[dP]) (by simp[dP]) (by decide);simp only[wq.1,seval,e19]
   first | exact pu | exact⟨by decide,pu⟩ | exact⟨⟨rfl,by decide⟩,pu⟩
  | 5,_ =>
   have pu:=pu 21 (.lp 0 2) (by simp[dP]) (by simp[dP]) (by decide);simp only[wq.1,Nat.reduceLT,t4]
   first | exact pu | exact⟨by decide,pu⟩ | exact⟨⟨rfl,by decide⟩,pu⟩
  | 6,_ =>
   have dp:=aJ hi (l:=[5]) (by decide +kernel);have e21:f.t 21= .lp 0 2:=hfa (5,21,.lp 0 2) (by simp[dP]) (dp 5 (by simp));have pu:=pu 22 (aF beg) (by simp[dP]) (by simp[dP]) (by decide);simp only[wq.1,seval,b0,e21]
   first | exact pu | exact⟨by decide,pu⟩ | exact⟨⟨rfl,by decide⟩,pu⟩
  | 7,_ =>
   have pu:=pu 23 (.lp 0 3) (by simp[dP]) (by simp[dP]) (by decide);simp only[wq.1,Nat.reduceLT,t4]
   first | exact pu | exact⟨by decide,pu⟩ | exact⟨⟨rfl,by decide⟩,pu⟩
  | 8,_ =>
   have dp:=aJ hi (l:=[7]) (by decide +kernel);have e23:f.t 23= .lp 0 3:=hfa (7,23,.lp 0 3) (by simp[dP]) (dp 7 (by simp));have pu:=pu 24 (vi steps) (by simp[dP]) (by simp[dP]) (by decide);simp only[wq.1,seval,b0,e23]
   first | exact pu | exact⟨by decide,pu⟩ | exact⟨⟨rfl,by decide⟩,pu⟩
  | 9,_ =>
   have dp:=aJ hi (l:=[4,6,8]) (by decide +kernel);have e20:f.t 20= .agg [vi m.g.ins,aF m.g.next,aF m.g.init,prs m.g.ands,aF m.g.outs]:=hfa (4,20,.agg [vi m.g.ins,aF m.g.next,aF m.g.init,prs m.g.ands,aF m.g.outs]) (by simp[dP]) (dp 4 (by simp));have e22:f.t 22=aF beg:=hfa (6,22,aF beg) (by simp[dP]) (dp 6 (by simp));have e24:f.t 24=vi steps:=hfa (8,24,vi steps) (by simp[dP]) (dp 8 (by simp));have pu:=pu 25 (.tup [uV n cl rows,vi e]) (by simp[dP]) (by simp[dP]) (by decide);simp only[wq.1,Nat.reduceLT,e20,e22,e24];refine ah.ev (hu) (by simp only[V.dats,V.dat,zre]) ?_;simp only[wq.1]
   first | exact pu | exact⟨by decide,pu⟩ | exact⟨⟨rfl,by decide⟩,pu⟩
  | 10,_ =>
   have dp:=aJ hi (l:=[9]) (by decide +kernel);have e25:f.t 25= .tup [uV n cl rows,vi e]:=hfa (9,25,.tup [uV n cl rows,vi e]) (by simp[dP]) (dp 9 (by simp));have pu:=pu 15 (.tup [uV n cl rows,vi e]) (by simp[dP]) (by simp[dP]) (by decide);simp only[wq.1,Nat.reduceLT,e25]
   first | exact pu | exact⟨by decide,pu⟩ | exact⟨⟨rfl,by decide⟩,pu⟩
  | 11,_ =>
   have dp:=aJ hi (l:=[10]) (by decide +kernel);have e15:f.t 15= .tup [uV n cl rows,vi e]:=hfa (10,15,.tup [uV n cl rows,vi e]) (by simp[dP]) (dp 10 (by simp));have pu:=pu 26 (uV n cl rows) (by simp[dP]) (by simp[dP]) (by decide);simp only[wq.1,seval,e15]
   first | exact pu | exact⟨by decide,pu⟩ | exact⟨⟨rfl,by decide⟩,pu⟩
  | 12,_ =>
   have dp:=aJ hi (l:=[10]) (by decide +kernel);have e15:f.t 15= .tup [uV n cl rows,vi e]:=hfa (10,15,.tup [uV n cl rows,vi e]) (by simp[dP]) (dp 10 (by simp));have pu:=pu 27 (vi e) (by simp[dP]) (by simp[dP]) (by decide);simp only[wq.1,seval,e15]
   first | exact pu | exact⟨by decide,pu⟩ | exact⟨⟨rfl,by decide⟩,pu⟩
  | 13,_=>have no:=jY hi;have n3:L.getD 14 false=false:=iT hcl no (by decide +kernel);rw[HN.old no];simp only[wq.1,seval];refine(hI _ _ _).2 ⟨(HN.new (B:=(hA1 part clause beg steps fid caps)) (jd hi) (by decide) n3).symm,hfa.put' rfl,fun _=>by simp[Fr.put],hg.put rfl,hd⟩
  | 14,_=>have dp:=aJ hi (l:=[11]) (by decide +kernel);have e26:f.t 26=uV n cl rows:=hfa (11,26,uV n cl rows) (by simp[dP]) (dp 11 (by simp));have dp:=aJ hi (l:=[11,13]) (by decide +kernel);have e26:f.t 26=uV n cl rows:=hfa (11,26,uV n cl rows) (by simp[dP]) (dp 11 (by simp));have e8:=hn (dp 13 (by simp));have no:=jY hi;have hz:(hA1 part clause beg steps fid caps++[.cells [vi 0,.nils,.nils]]:H)[2]? =some (.cells [vi 0,.nils,.nils]):=rfl;rw[HN.at (dp 13 (by simp)) no];simp only[wq.1,Nat.reduceAdd,e8,e26];refine(hI _ _ _).2 ⟨(HN.fill (B:=(hA1 part clause beg steps fid caps)) (dp 13 (by simp)) (jd hi) (by decide)).symm,hfa.skip (by simp[dP]),fun _=>e8,hg,hd⟩
  | 15,_ =>
   have dp:=aJ hi (l:=[12]) (by decide +kernel);have e27:f.t 27=vi e:=hfa (12,27,vi e) (by simp[dP]) (dp 12 (by simp));have pu:=pu 9 (vi e) (by simp[dP]) (by simp[dP]) (by decide);simp only[wq.1,Nat.reduceLT,e27]
   first | exact pu | exact⟨by decide,pu⟩ | exact⟨⟨rfl,by decide⟩,pu⟩
  | n+16,h=>exact absurd h (by omega)
 ·intro L f h hall hII;obtain⟨rfl,hfa,hn,hg,hd⟩:=(hI _ _ _).1 hII;have h8:=hn (hall 13 (by decide +kernel));have h9:=hfa (15,9,vi e) (by simp[dP]) (hall 15 (by decide +kernel));rw[HN.done (hall 13 (by decide +kernel)) (hall 14 (by decide +kernel))];exact hk f hg hd ⟨h8,h9⟩
def dV (m:Mo) (l:List (List Lt)) (part clause:Int) (beg:Cl) (steps:Int) (fid:FuncId) (caps:List V) (bud n:Int) (cl rows:List Cl) (more:List Cl):List (Nat×Nat×V):=[(0,33,.lp 2 1),(1,34,cls cl),(2,35,.lp 0 4),(3,36,.fn (.func fid) [] caps),(4,37,uV n cl rows),(5,38,cls more),(6,39,.is true 1 [cls cl,cls more]),(7,40,cls (cl++more)),(8,41,.lp 2 0),(9,42,vi n),(10,43,vi bud)]
def eQ (res:Int) (vals:List Bool) (nn:Int) (ln:List Cl) (e2:Int):List (Nat×Nat×V):=[(11,44,.tup [.agg [vi res,aY vals,vi nn,cls ln],vi e2]),(12,32,.tup [.agg [vi res,aY vals,vi nn,cls ln],vi e2]),(13,45,.agg [vi res,aY vals,vi nn,cls ln]),(14,46,vi e2),(17,9,vi e2)]
def oV (m:Mo) (l:List (List Lt)) (part clause:Int) (beg:Cl) (steps:Int) (fid:FuncId) (caps:List V) (bud n:Int) (cl rows:List Cl):List (Nat×V):=[(0,.ip (kV m l)),(2,vi bud),(4,.lp 0 0),(6,.lp 1 0),(8,.lp 2 0)]
theorem Xv (m : Mo) (l : List (List Lt)) (part clause : Int) (beg : Cl) (steps : Int) (fid : FuncId) (caps : List V) (bud n : Int) (cl rows : List Cl) (more : List Cl) (hm : Ev TE fid (uV n cl rows :: caps) (cls more)) (he : ai P fid = true) (hc : V.dats caps = true) (hn1 : cl.length + more.length ≤ 1000000000) (hs : EvR TE 87 [cls (cl ++ more),vi n,vi bud] (wH (cl ++ more) n bud)) {r : Option Nat} {Q : XE → Fr → H → Prop} {f0 : Fr} (g0 : GA f0 (oV m l part clause beg steps fid caps bud n cl rows)) (d0 : f0.d = [])
 (hk:∀f (res:Int) (vals:List Bool) (nn:Int) (ln:List Cl) (e2:Int),WZ (cl++more) n bud res vals nn ln e2→GA f (oV m l part clause beg steps fid caps bud n cl rows)→f.d=[]→f.t 10= .lp 3 0∧f.t 9=vi e2→Q .normal f (hA2 part clause beg steps fid caps n cl rows++[.cells [vi res,aY vals,vi nn,cls ln]])) :
 awp TE 95 r (.region 4 (Iz Tryz.f49 4) true) Q f0 (hA2 part clause beg steps fid caps n cl rows):=by
 simp only[Iz,Tryz.f49,xy,List.nil_append,zqp,List.headD_cons,Nat.reduceBEq,zrm,if_false,if_true,List.cons_append];have hcc:=wU [cl,more] (by simp;omega) (by show 2≤1000000000;omega);rw[show [cl,more].flatten=cl++more by simp]at hcc;obtain⟨I,hI⟩:∃I:Array Bool→Fr→H→Prop,∀L f h,I L f h↔∃(res:Int) (vals:List Bool) (nn:Int) (ln:List Cl) (e2:Int),(h=HN L (hA2 part clause beg steps fid caps n cl rows) 15 16 [vi 0,.nils,vi 0,.nils] [vi res,aY vals,vi nn,cls ln]∧FA L f (dV m l part clause beg steps fid caps bud n cl rows more)∧FA L f (eQ res vals nn ln e2)∧(L.getD 11 false=true→WZ (cl++more) n bud res vals nn ln e2)∧(L.getD 15 false=true→f.t 10= .lp 3 0)∧GA f (oV m l part clause beg steps fid caps bud n cl rows)∧f.d=[]):=⟨_,fun _ _ _=>Iff.rfl⟩;refine zJ mixed I (by decide +kernel) ?_ ?_ ?_
 ·exact(hI _ _ _).2 ⟨0,[],0,[],0,(HN.none).symm,FA.none,FA.none,fun h=>by exfalso;revert h;decide +kernel,fun h=>by exfalso;revert h;decide +kernel,g0,d0⟩
 ·intro L f h i hcl hII hi;obtain⟨res,vals,nn,ln,e2,rfl,hfa,hfb,hS,hn,hg,hd⟩:=(hI _ _ _).1 hII;have t0:f.t 0= .ip (kV m l):=hg (0,.ip (kV m l)) (by simp[oV]);have t2:f.t 2=vi bud:=hg (2,vi bud) (by simp[oV]);have t4:f.t 4= .lp 0 0:=hg (4,.lp 0 0) (by simp[oV]);have t6:f.t 6= .lp 1 0:=hg (6,.lp 1 0) (by simp[oV]);have t8:f.t 8= .lp 2 0:=hg (8,.lp 2 0) (by simp[oV]);have b0:(HN L (hA2 part clause beg steps fid caps n cl rows) 15 16 [vi 0,.nils,vi 0,.nils] [vi res,aY vals,vi nn,cls ln])[0]? =some (.cells [vi part,vi clause,aF beg,vi steps,.fn (.func fid) [] caps]):=HN.get (rfl);have b2:(HN L (hA2 part clause beg steps fid caps n cl rows) 15 16 [vi 0,.nils,vi 0,.nils] [vi res,aY vals,vi nn,cls ln])[2]? =some (.cells [vi n,cls cl,cls rows]):=HN.get (rfl);have hlt:i<18:=zI hi;have pu:∀(d:Nat) (v:V),(∀x∈(dV m l part clause beg steps fid caps bud n cl rows more),x.1=i→x.2.1=d∧x.2.2=v)→(∀x∈(dV m l part clause beg steps fid caps bud n cl rows more),x.2.1=d→x.1=i)→(∀x∈(eQ res vals nn ln e2),x.1=i→x.2.1=d∧x.2.2=v)→(∀x∈(eQ res vals nn ln e2),x.2.1=d→x.1=i)→(decide (d∉([0,2,4,6,8,10]:List Nat))&&decide (i∉([15,16,11]:List Nat)))=true→I (L.setIfInBounds i true) (f.put (some d) v) (HN L (hA2 part clause beg steps fid caps n cl rows) 15 16 [vi 0,.nils,vi 0,.nils] [vi res,aY vals,vi nn,cls ln]):=by
   intro d v h1 h2 h4 h5 h3;rw[zqf,zqb,zqb]at h3;simp only[zrj,zrp,or_false,not_or,not_false_eq_true,and_true,true_and]at h3;refine(hI _ _ _).2 ⟨res,vals,nn,ln,e2,(HN.skip (by omega) (by omega)).symm,hfa.put h1 h2,hfb.put h4 h5,(by rw[getD_set_ne false (by omega)];exact hS),(by rw[getD_set_ne false (by omega)];exact fun h=>by have:=hn h;simpa [Fr.put,show ¬10=d by omega]using this),hg.put (by simp[oV];omega),hd⟩
  match i,hlt with
  | 0,_ =>
   have pu:=pu 33 (.lp 2 1) (by simp[dV]) (by simp[dV]) (by simp[eQ]) (by simp[eQ]) (by decide);simp only[wq.1,Nat.reduceLT,t8]
   first | exact pu | exact⟨by decide,pu⟩ | exact⟨⟨rfl,by decide⟩,pu⟩
  | 1,_ =>
   have dp:=aJ hi (l:=[0]) (by decide +kernel);have e33:f.t 33= .lp 2 1:=hfa (0,33,.lp 2 1) (by simp[dV]) (dp 0 (by simp));have pu:=pu 34 (cls cl) (by simp[dV]) (by simp[dV]) (by simp[eQ]) (by simp[eQ]) (by decide);simp only[wq.1,seval,b2,e33]
   first | exact pu | exact⟨by decide,pu⟩ | exact⟨⟨rfl,by decide⟩,pu⟩
  | 2,_ =>
   have pu:=pu 35 (.lp 0 4) (by simp[dV]) (by simp[dV]) (by simp[eQ]) (by simp[eQ]) (by decide);simp only[wq.1,Nat.reduceLT,t4]
   first | exact pu | exact⟨by decide,pu⟩ | exact⟨⟨rfl,by decide⟩,pu⟩
  | 3,_ =>
   have dp:=aJ hi (l:=[2]) (by decide +kernel);have e35:f.t 35= .lp 0 4:=hfa (2,35,.lp 0 4) (by simp[dV]) (dp 2 (by simp));have pu:=pu 36 (.fn (.func fid) [] caps) (by simp[dV]) (by simp[dV]) (by simp[eQ]) (by simp[eQ]) (by decide);simp only[wq.1,seval,b0,e35]
   first | exact pu | exact⟨by decide,pu⟩ | exact⟨⟨rfl,by decide⟩,pu⟩
  | 4,_ =>
   have pu:=pu 37 (uV n cl rows) (by simp[dV]) (by simp[dV]) (by simp[eQ]) (by simp[eQ]) (by decide);simp only[wq.1,seval,t8,b2]
   first | exact pu | exact⟨by decide,pu⟩ | exact⟨⟨rfl,by decide⟩,pu⟩
  | 5,_ =>
   have dp:=aJ hi (l:=[3,4]) (by decide +kernel);have e36:f.t 36= .fn (.func fid) [] caps:=hfa (3,36,.fn (.func fid) [] caps) (by simp[dV]) (dp 3 (by simp));have e37:f.t 37=uV n cl rows:=hfa (4,37,uV n cl rows) (by simp[dV]) (dp 4 (by simp));have pu:=pu 38 (cls more) (by simp[dV]) (by simp[dV]) (by simp[eQ]) (by simp[eQ]) (by decide);simp only[wq.1,Nat.reduceLT,e36,e37];refine⟨he,?_⟩;refine ah.ev (hm) (by simp only[V.dats,V.dat,dO,hc,zre]) ?_;simp only[wq.1]
   first | exact pu | exact⟨by decide,pu⟩ | exact⟨⟨rfl,by decide⟩,pu⟩
  | 6,_ =>
   have dp:=aJ hi (l:=[1,5]) (by decide +kernel);have e34:f.t 34=cls cl:=hfa (1,34,cls cl) (by simp[dV]) (dp 1 (by simp));have e38:f.t 38=cls more:=hfa (5,38,cls more) (by simp[dV]) (dp 5 (by simp));have pu:=pu 39 (.is true 1 [cls cl,cls more]) (by simp[dV]) (by simp[dV]) (by simp[eQ]) (by simp[eQ]) (by decide);simp only[wq.1,seval,e34,e38]
   first | exact pu | exact⟨by decide,pu⟩ | exact⟨⟨rfl,by decide⟩,pu⟩
  | 7,_ =>
   have dp:=aJ hi (l:=[6]) (by decide +kernel);have e39:f.t 39= .is true 1 [cls cl,cls more]:=hfa (6,39,.is true 1 [cls cl,cls more]) (by simp[dV]) (dp 6 (by simp));have pu:=pu 40 (cls (cl++more)) (by simp[dV]) (by simp[dV]) (by simp[eQ]) (by simp[eQ]) (by decide);simp only[wq.1,Nat.reduceLT,e39];refine ah.ev (hcc) (by simp only[V.dats,V.dat,dO,zre]) ?_;simp only[wq.1]
   first | exact pu | exact⟨by decide,pu⟩ | exact⟨⟨rfl,by decide⟩,pu⟩
  | 8,_ =>
   have pu:=pu 41 (.lp 2 0) (by simp[dV]) (by simp[dV]) (by simp[eQ]) (by simp[eQ]) (by decide);simp only[wq.1,Nat.reduceLT,t8]
   first | exact pu | exact⟨by decide,pu⟩ | exact⟨⟨rfl,by decide⟩,pu⟩
  | 9,_ =>
   have dp:=aJ hi (l:=[8]) (by decide +kernel);have e41:f.t 41= .lp 2 0:=hfa (8,41,.lp 2 0) (by simp[dV]) (dp 8 (by simp));have pu:=pu 42 (vi n) (by simp[dV]) (by simp[dV]) (by simp[eQ]) (by simp[eQ]) (by decide);simp only[wq.1,seval,b2,e41]
   first | exact pu | exact⟨by decide,pu⟩ | exact⟨⟨rfl,by decide⟩,pu⟩
  | 10,_ =>
   have pu:=pu 43 (vi bud) (by simp[dV]) (by simp[dV]) (by simp[eQ]) (by simp[eQ]) (by decide);simp only[wq.1,Nat.reduceLT,t2]
   first | exact pu | exact⟨by decide,pu⟩ | exact⟨⟨rfl,by decide⟩,pu⟩
  | 11,_ =>
   have dp:=aJ hi (l:=[7,9,10]) (by decide +kernel);have e40:f.t 40=cls (cl++more):=hfa (7,40,cls (cl++more)) (by simp[dV]) (dp 7 (by simp));have e42:f.t 42=vi n:=hfa (9,42,vi n) (by simp[dV]) (dp 9 (by simp));have e43:f.t 43=vi bud:=hfa (10,43,vi bud) (by simp[dV]) (dp 10 (by simp));have no:=jY hi;have n12:=iT hcl no (i:=12) (by decide +kernel);have n13:=iT hcl n12 (i:=13) (by decide +kernel);have n14:=iT hcl n12 (i:=14) (by decide +kernel);have n16:=iT hcl no (i:=16) (by decide +kernel);have n17:=iT hcl no (i:=17) (by decide +kernel);simp only[wq.1,Nat.reduceLT,e40,e42,e43];refine lK hs (by simp only[V.dats,V.dat,dO,zre]) fun rv hrv=> ?_;obtain⟨res2,vals2,nn2,ln2,e22,rfl,hA⟩:=Ud hrv;simp only[wq.1];refine(hI _ _ _).2 ⟨res2,vals2,nn2,ln2,e22,?_,hfa.put' (by simp[dV]),?_,fun _=>hA,(by rw[getD_set_ne false (by decide)];exact fun h=>by have:=hn h;simpa [Fr.put]using this),hg.put (by simp[oV]),hd⟩
   ·rw[HN.skip (by decide) (by decide)];unfold HN;rw[n16];rfl
   ·intro q hq hl;simp only [eQ,zrj,zrp,or_false] at hq;rcases hq with rfl | rfl | rfl | rfl | rfl
    ·simp[Fr.put]
    ·have hl:(L.setIfInBounds 11 true).getD 12 false=true:=hl;rw[getD_set_ne false (show(11:Nat)≠12 by decide),n12]at hl;cases hl
    ·have hl:(L.setIfInBounds 11 true).getD 13 false=true:=hl;rw[getD_set_ne false (show(11:Nat)≠13 by decide),n13]at hl;cases hl
    ·have hl:(L.setIfInBounds 11 true).getD 14 false=true:=hl;rw[getD_set_ne false (show(11:Nat)≠14 by decide),n14]at hl;cases hl
    ·have hl:(L.setIfInBounds 11 true).getD 17 false=true:=hl;rw[getD_set_ne false (show(11:Nat)≠17 by decide),n17]at hl;cases hl
  | 12,_ =>
   have dp:=aJ hi (l:=[11]) (by decide +kernel);have e44:f.t 44= .tup [.agg [vi res,aY vals,vi nn,cls ln],vi e2]:=hfb (11,44,.tup [.agg [vi res,aY vals,vi nn,cls ln],vi e2]) (by simp[eQ]) (dp 11 (by simp));have pu:=pu 32 (.tup [.agg [vi res,aY vals,vi nn,cls ln],vi e2]) (by simp[dV]) (by simp[dV]) (by simp[eQ]) (by simp[eQ]) (by decide);simp only[wq.1,Nat.reduceLT,e44]
   first | exact pu | exact⟨by decide,pu⟩ | exact⟨⟨rfl,by decide⟩,pu⟩
  | 13,_ =>
   have dp:=aJ hi (l:=[12]) (by decide +kernel);have e32:f.t 32= .tup [.agg [vi res,aY vals,vi nn,cls ln],vi e2]:=hfb (12,32,.tup [.agg [vi res,aY vals,vi nn,cls ln],vi e2]) (by simp[eQ]) (dp 12 (by simp));have pu:=pu 45 (.agg [vi res,aY vals,vi nn,cls ln]) (by simp[dV]) (by simp[dV]) (by simp[eQ]) (by simp[eQ]) (by decide);simp only[wq.1,seval,e32]
   first | exact pu | exact⟨by decide,pu⟩ | exact⟨⟨rfl,by decide⟩,pu⟩
  | 14,_ =>
   have dp:=aJ hi (l:=[12]) (by decide +kernel);have e32:f.t 32= .tup [.agg [vi res,aY vals,vi nn,cls ln],vi e2]:=hfb (12,32,.tup [.agg [vi res,aY vals,vi nn,cls ln],vi e2]) (by simp[eQ]) (dp 12 (by simp));have pu:=pu 46 (vi e2) (by simp[dV]) (by simp[dV]) (by simp[eQ]) (by simp[eQ]) (by decide);simp only[wq.1,seval,e32]
   first | exact pu | exact⟨by decide,pu⟩ | exact⟨⟨rfl,by decide⟩,pu⟩
  | 15,_=>have no:=jY hi;have n3:L.getD 16 false=false:=iT hcl no (by decide +kernel);rw[HN.old no];simp only[wq.1,seval];refine(hI _ _ _).2 ⟨res,vals,nn,ln,e2,(HN.new (B:=(hA2 part clause beg steps fid caps n cl rows)) (jd hi) (by decide) n3).symm,hfa.put' rfl,hfb.put' rfl,(by rw[getD_set_ne false (by decide)];exact hS),fun _=>by simp[Fr.put],hg.put rfl,hd⟩
  | 16,_=>have dp:=aJ hi (l:=[13]) (by decide +kernel);have e45:f.t 45= .agg [vi res,aY vals,vi nn,cls ln]:=hfb (13,45,.agg [vi res,aY vals,vi nn,cls ln]) (by simp[eQ]) (dp 13 (by simp));have dp:=aJ hi (l:=[13,15]) (by decide +kernel);have e45:f.t 45= .agg [vi res,aY vals,vi nn,cls ln]:=hfb (13,45,.agg [vi res,aY vals,vi nn,cls ln]) (by simp[eQ]) (dp 13 (by simp));have e10:=hn (dp 15 (by simp));have no:=jY hi;have hz:(hA2 part clause beg steps fid caps n cl rows++[.cells [vi 0,.nils,vi 0,.nils]]:H)[3]? =some (.cells [vi 0,.nils,vi 0,.nils]):=rfl;rw[HN.at (dp 15 (by simp)) no];simp only[wq.1,Nat.reduceAdd,e10,e45];refine(hI _ _ _).2 ⟨res,vals,nn,ln,e2,(HN.fill (B:=(hA2 part clause beg steps fid caps n cl rows)) (dp 15 (by simp)) (jd hi) (by decide)).symm,hfa.skip (by simp[dV]),hfb.skip (by simp[eQ]),(by rw[getD_set_ne false (by decide)];exact hS),fun _=>e10,hg,hd⟩
  | 17,_ =>
   have dp:=aJ hi (l:=[14]) (by decide +kernel);have e46:f.t 46=vi e2:=hfb (14,46,vi e2) (by simp[eQ]) (dp 14 (by simp));have pu:=pu 9 (vi e2) (by simp[dV]) (by simp[dV]) (by simp[eQ]) (by simp[eQ]) (by decide);simp only[wq.1,Nat.reduceLT,e46]
   first | exact pu | exact⟨by decide,pu⟩ | exact⟨⟨rfl,by decide⟩,pu⟩
  | n+18,h=>exact absurd h (by omega)
 ·intro L f h hall hII;obtain⟨res,vals,nn,ln,e2,rfl,hfa,hfb,hS,hn,hg,hd⟩:=(hI _ _ _).1 hII;have h8:=hn (hall 15 (by decide +kernel));have h9:=hfb (17,9,vi e2) (by simp[eQ]) (hall 17 (by decide +kernel));rw[HN.done (hall 15 (by decide +kernel)) (hall 16 (by decide +kernel))];exact hk f res vals nn ln e2 (hS (hall 11 (by decide +kernel))) hg hd ⟨h8,h9⟩
theorem Xw {vals:List Bool} {a:Int} (h:inU vals.length a):(vals.getD (max a (-a)-1).toNat false==decide (0<a))=hol vals a:=by
 obtain⟨h0,h1,h2⟩:=h;unfold hol;by_cases hp:0<a
 ·rw[if_neg (by omega),show max a (-a)-1=a-1 by omega,decide_eq_true hp];cases vals.getD (a-1).toNat false<;>rfl
 ·rw[if_pos (by omega),show max a (-a)-1=-a-1 by omega,decide_eq_false hp];cases vals.getD (-a-1).toNat false<;>rfl
theorem NM {m:Mo} (hm:m.chk=0) {s:S} (h:s∈m.lat):dF m s=true:=by unfold dF;rw[(NI (V3 hm) s).2];have:=pU m.lat (·==s);have h2:m.lat.any (·==s)=true:=List.any_eq_true.2 ⟨s,h,by simp⟩;rw[h2]at this;exact zqs this
theorem Qg {m:Mo} {q:Qn} {vals:List Bool} {i:Nat} (h:i<m.lat.length):(stK m q vals).take (i+1)=(stK m q vals).take i++[hol vals (qo m (eP m.g q.beg q.steps) 0 (m.lat[i],false))]:=by unfold stK;rw[zrg,zqo,zqk h];rfl
theorem mxI (a b:Int):uO [vi a,vi b]=(True,vi (max a b)):=by
 simp only[uO];split
 ·rw[show max a b=b by omega]
 ·rw[show max a b=a by omega]
theorem Qh {g:Gr} {b:Cl} {k:Nat}:(bV g b 0).n≤(bV g b k).n:=by rw[MV,MV,Nat.zero_mul];omega
abbrev hA5 (part clause:Int) (beg:Cl) (steps:Int) (fid:FuncId) (caps:List V) (n:Int) (cl rows:List Cl) (vals:List Bool) (nn:Int) (ln:List Cl) (st:List Bool):H :=
 hA2 part clause beg steps fid caps n cl rows++[.cells [vi 1,aY vals,vi nn,cls ln],.cells [vi 1,vi part,vi clause,.ls 5 1 0 st.length st.length],.cells (st.map V.bool)]
theorem V7 (m : Mo) (l : List (List Lt)) (q : Qn) (bud : Int) (fid : FuncId) (caps : List V) (hm : m.chk = 0) (hs : m.g.Sm) (ok : QOk m q) (hb : V4 m bud) (he : ai P fid = true) (hc : V.dats caps = true)
 (hmore:yw m.g q.beg q.steps=0→Ev TE fid (uV (q.n m) (bV m.g q.beg q.steps).cl (eP m.g q.beg q.steps)::caps) (cls q.more)) :
 EvR TE 49 [.ip (kV m l),.agg [vi q.part,vi q.clause,aF q.beg,vi q.steps,.fn (.func fid) [] caps],vi bud] (fun r=>∃a,VT m bud q a∧r= .tup [a.1.v,vi a.2]):=by
 have hM:maxLen=9223372036854775807:=rfl;obtain⟨nv,i0,i1,hlat⟩:=NK hm;obtain⟨hg,hi,hl,ho⟩:=iY hm;have hu:=MZ m.g q.beg q.steps hs (by rw[ok.b];omega);unfold Gr.v at hu;refine EvR.of_calls ?_;refine ax Tryz.func49 rfl (by simp[nts]) ?_;refine ag (vm ?_);simp only[wq.1,Nat.reduceLT,Tryz.results49];refine ag (vm ?_);by_cases hz:yw m.g q.beg q.steps=0
 ·have eU : qh m.g q.beg q.steps = uV (q.n m) (bV m.g q.beg q.steps).cl (eP m.g q.beg q.steps) := by unfold qh;rw [if_pos hz];rfl
  rw[eU,hz]at hu;have hmr:=hmore hz;have hnv:q.n m≤nvU m:=Rf ok.b ok.r ok.s;have hsv:EvR TE 87 [cls ((bV m.g q.beg q.steps).cl++q.more),vi (q.n m),vi bud] (wH ((bV m.g q.beg q.steps).cl++q.more) (q.n m) bud) :=
   PN _ _ _ (TZ ok) fun hz=>by rw[Int.toNat_natCast];exact hb _ _ hnv hz
  have hcl:(bV m.g q.beg q.steps).cl.length≤500000:=by rw[MW];have:q.steps*m.g.ands.length≤1*m.g.ands.length:=Nat.mul_le_mul_right _ ok.s;unfold nvU at nv;omega
  have hmn:=ok.n;obtain⟨n,hn⟩:∃n,n=q.n m:=⟨_,rfl⟩;obtain⟨cl,hcle⟩:∃cl,cl=(bV m.g q.beg q.steps).cl:=⟨_,rfl⟩;obtain⟨rows,hrows⟩:∃rows,rows=eP m.g q.beg q.steps:=⟨_,rfl⟩;rw[←hn,←hcle,←hrows]at hu hmr;rw[←hn,←hcle]at hsv;rw[←hcle]at hcl;refine Xh m l _ _ _ _ _ _ bud _ _ _ _ hu (by intro q hq;simp only[qj,zrj,zrp,or_false]at hq;rcases hq with rfl | rfl | rfl | rfl<;>rfl) rfl (fun f hG hd ⟨t8,t9⟩=> ?_);have t0:f.t 0= .ip (kV m l):=hG (0,.ip (kV m l)) (by simp[qj]);have t2:f.t 2=vi bud:=hG (2,vi bud) (by simp[qj]);have t4:f.t 4= .lp 0 0:=hG (4,.lp 0 0) (by simp[qj]);have t6:f.t 6= .lp 1 0:=hG (6,.lp 1 0) (by simp[qj]);show awp _ _ _ _ _ _ _;refine ag (vm ?_);simp only[wq.1,seval,t9];refine ag (vm ?_);refine Xv m l _ _ _ _ _ _ bud _ _ _ _ hmr he hc (by omega) hsv (by intro q hq;simp only[oV,zrj,zrp,or_false]at hq;rcases hq with rfl | rfl | rfl | rfl | rfl<;>simp only[wq.1,seval,t0,t2,t4,t6,t8]) (hd) (fun f res vals nn ln e2 hS hG hd ⟨t10,t9⟩=> ?_);clear t0 t2 t4 t6 t8;have t0:f.t 0= .ip (kV m l):=hG (0,.ip (kV m l)) (by simp[oV]);have t2:f.t 2=vi bud:=hG (2,vi bud) (by simp[oV]);have t4:f.t 4= .lp 0 0:=hG (4,.lp 0 0) (by simp[oV]);have t6:f.t 6= .lp 1 0:=hG (6,.lp 1 0) (by simp[oV]);have t8:f.t 8= .lp 2 0:=hG (8,.lp 2 0) (by simp[oV]);show awp _ _ _ _ _ _ _;rcases hS with⟨hz2,rfl,rfl,rfl⟩ | ⟨hz2,rfl,hok⟩
  ·have ez : (chk (cl ++ q.more) n != 0) = true := by simpa using hz2
   refine ag (vm ?_);simp only[wq.1,seval,t6,t9,hd,ez];refine⟨_,⟨(Ve.z,chk (cl++q.more) n),.inr ⟨hz,.inl ⟨by rw[←hn,Qn.cl,←hcle];exact hz2,by rw[←hn,Qn.cl,←hcle]⟩⟩,rfl⟩,?_⟩;exact az.tup (aj.cons (az.agg (aj.cons (az.dat rfl) (aj.cons (az.dat rfl) (aj.cons (az.dat rfl) (aj.cons az.nils aj.nil))))) (aj.cons (az.dat rfl) aj.nil))
  ·refine ag (vm ?_);simp only[wq.1,seval,t9];refine ag (vm ?_);simp only[wq.1,seval,t4,t10];have fin:∀st,st=(if res=1 then stK m q vals else [])→VT m bud q (⟨res,q.part,q.clause,st⟩,0):=fun st hst =>
    .inr ⟨hz,.inr ⟨by rw[←hn,Qn.cl,←hcle];exact hz2,res,vals,ln,by rw[←hn,Qn.cl,←hcle];exact hok,by rw[hst]⟩⟩
   by_cases h1:res=1
   ·subst h1;rw[if_pos rfl]at fin;have hvl:vals.length=n:=by
     rcases hok.2.2.2.2 with h | h | h
     ·exact absurd h.1 (by decide)
     ·exact h.2.1
     ·exact absurd h.1 (by decide)
    refine jI ?_;refine vI (h':=hA5 q.part q.clause q.beg q.steps fid caps n cl rows vals nn ln []) (HLe.set (i:=4) (o':= .cells [vi 1,vi q.part,vi q.clause,.ls 5 1 0 0 0]) rfl (OLe.cells (by simp) (gU.cons (VLe.refl _) (gU.cons (VLe.refl _) (gU.cons (VLe.refl _) (gU.cons gJ gU.nil)))))) ?_;refine ag (vm ?_);simp only[wq.1,seval,t0,t10];have hrl:UOk m rows:=by rw[hrows];exact Ag hm ok.b ok.r ok.s
    have hstl:(stK m q vals).length=m.lat.length:=by unfold stK;simp
    refine aC (fun q' f h=>∃i,q'+i=m.lat.length∧f.t 0= .ip (kV m l)∧f.t 6= .lp 1 0∧f.t 8= .lp 2 0∧f.t 10= .lp 3 0∧f.t 11= .lp 4 0∧f.t 65=dE m.lat∧f.t 66=vi m.lat.length∧f.t 67=vi i∧f.d=[]∧h=hA5 q.part q.clause q.beg q.steps fid caps n cl rows vals nn ln ((stK m q vals).take i)) m.lat.length ⟨0,by omega,t0,t6,t8,t10,by simp only[wq.1,seval],by simp only[wq.1,seval],by simp only[wq.1,seval],by simp only[wq.1,↓reduceIte];rfl,hd,rfl⟩ ?_;clear t0 t2 t4 t6 t8 t9 t10 hd hG;rintro q' f h ⟨i,hq',t0,t6,t8,t10,t11,t65,t66,t67,hd,rfl⟩;have htl:((stK m q vals).take i).length=min i m.lat.length:=by rw[zrl,hstl]
    refine ag (vm ?_);simp only[wq.1,Nat.reduceLT,t66,t67];refine ag (bD (b:=decide ((i:Int)<m.lat.length)) (by simp only[wq.1,↓reduceIte]) (by simp only[wq.1,↓reduceIte]) (fun hlt=> ?_) (fun hlt=> ?_))
    ·simp only [zqb,zqi] at hlt;have hw := aA (show i < maxLen by omega);have hmem : m.lat[i] ∈ m.lat := zqu hlt;have hkn := NM hm hmem;have hkl := EZ m l n cl rows 0 (m.lat[i],false) hkn hrl.i hrl.lat hrl.b hrl.r;have dK : V.dats [.ip (kV m l),V.agg [vi n,cls cl,cls rows],vi 0,V.agg [V.str m.lat[i],V.bool false]] = true := by simp only [V.dats,V.dat,dO,zre]
     have hsu:=Qg (q:=q) (vals:=vals) hlt;rw[←hrows]at hsu;have hin:=(Ae (vs:=vals) (qZ hg (by rw[ok.b];exact hl) ok.r) (Nat.zero_le q.steps) i0 hl hkn (x:=(m.lat[i],false))).1;have hin:inU vals.length (qo m rows 0 (m.lat[i],false)):=by rw[hvl,hn,hrows];exact hin.mono Qh
     have hgs:(m.lat.map V.str).getD i .any= .str m.lat[i]:=IW hlt _;obtain⟨a,ha⟩:∃a,a=qo m rows 0 (m.lat[i],false):=⟨_,rfl⟩;rw[←ha]at hkl hsu hin;obtain⟨st,hst⟩:∃st,st=(stK m q vals).take i:=⟨_,rfl⟩;rw[←hst]at hsu htl ⊢;have htl:st.length=i:=by omega
     refine vm ?_;simp only[wq.1];refine ag (aG ?_);refine ag (vm ?_);simp only[wq.1,seval,t65,t67,hgs];refine⟨⟨by omega,by omega⟩,?_⟩;refine ag (vm ?_);simp only[wq.1,seval,t0,t8];refine ah.ev hkl dK ?_;simp only[wq.1,↓reduceIte,Nat.reduceLT];have hal:a≤1000000∧-1000000≤a:=by have h1:=hin.1;have h2:=hin.2;omega
     obtain⟨p,hp⟩:∃p:Nat,max a (-a)-1=p:=⟨(max a (-a)-1).toNat,by have:=hin.1;omega⟩;have hpl:p<vals.length:=by have:=hin;unfold inU at this;omega
     have hw1:IntKind.i64.wrap (-a)=-a:=dN (by omega) (by omega);have hw0:IntKind.i64.wrap (0-a)=-a:=by rw[Int.zero_sub];exact hw1
     have hw2:IntKind.i64.wrap (max a (-a)-1)=p:=by rw[hp];exact dN (by omega) (by omega)
     have hgv:(vals.map V.bool).getD p .any= .bool vals[p]:=Vd hpl _;have hhol:(vals[p]==decide (0<a))=hol vals a:=by rw[←Xw hin,hp,Int.toNat_natCast,zqg,zqk hpl];rfl
     have dst:∀p,V.drops p (st.map V.bool)=st.map V.bool:=fun p=>nC _;have dcp:∀p,V.drops p caps=caps:=fun p=>qM.dats_drops _ hc;have hel:(st.map V.bool).length=st.length*1:=by rw[zra];omega
     refine Bz mixed 15 (.one 15<| .take 16<| .one 17<| .fin) (fun f' h'=>f'.t 0= .ip (kV m l)∧f'.t 6= .lp 1 0∧f'.t 8= .lp 2 0∧f'.t 10= .lp 3 0∧f'.t 11= .lp 4 0∧f'.t 65=dE m.lat∧f'.t 66=vi m.lat.length∧f'.t 67=vi i∧f'.d=[]∧h'=hA5 q.part q.clause q.beg q.steps fid caps n cl rows vals nn ln (st++[hol vals a])) (by decide +kernel) ?_ ?_
     ·intro K hK;simp only[List.take_succ_cons,List.take_zero];simp only[wq.1,↓reduceIte,Nat.reduceEqDiff,Nat.reduceLT,Nat.reduceLeDiff,Nat.reduceAdd,reduceCtorEq,Nat.reduceMul,t10,t11,hw0,hw2,hgv,hhol,mxI];refine⟨⟨by omega,by omega⟩,⟨rfl,by decide⟩,hK _ ?_⟩;simp only[wq.1,seval,t0,t6,t8,t10,t11,t65,t66,t67,hd,dst,dcp];exact⟨by omega,by omega,by omega⟩
     ·rintro f h ⟨t0,t6,t8,t10,t11,t65,t66,t67,hd,rfl⟩;show awp _ _ _ _ _ _ _;refine vm ?_;simp only[wq.1,seval,t67,hw];refine .inl ⟨q'-1,by omega,i+1,by omega,t0,t6,t8,t10,t11,t65,t66,by simp only[wq.1,↓reduceIte],hd,by rw[hsu];simp⟩
    ·simp only [zqd,zqi] at hlt;have hie : i = m.lat.length := by omega
     subst hie;rw[zqh (by omega)]at htl ⊢;refine vm ?_;simp only[wq.1];show awp _ _ _ _ _ _ _;refine ag (vm ?_);simp only[wq.1,seval,t6,t11];refine vm ?_;simp only[wq.1,seval,t6,hd];refine⟨_,⟨_,fin _ rfl,rfl⟩,?_⟩;exact az.tup (aj.cons (az.agg (aj.cons (az.dat rfl) (aj.cons (az.dat rfl) (aj.cons (az.dat rfl) (aj.cons (lZ rfl rfl) aj.nil))))) (aj.cons (az.dat rfl) aj.nil))
   ·have e1 : (res == 1) = false := by simpa using h1
    rw[if_neg h1]at fin;refine ag (vm ?_);simp only[wq.1,seval,t10,e1];refine vm ?_;simp only[wq.1,seval,t6,hd];refine⟨_,⟨_,fin [] rfl,rfl⟩,?_⟩;exact az.tup (aj.cons (az.agg (aj.cons (az.dat rfl) (aj.cons (az.dat rfl) (aj.cons (az.dat rfl) (aj.cons az.nils aj.nil))))) (aj.cons (az.dat rfl) aj.nil))
 ·have eU : qh m.g q.beg q.steps = uV 0 [] [] := by unfold qh;rw [if_neg hz]
  rw[eU]at hu;refine Xh m l _ _ _ _ _ _ bud _ _ _ _ hu (by intro q hq;simp only[qj,zrj,zrp,or_false]at hq;rcases hq with rfl | rfl | rfl | rfl<;>rfl) rfl (fun f hG hd ⟨t8,t9⟩=> ?_);have t6:f.t 6= .lp 1 0:=hG (6,.lp 1 0) (by simp[qj]);show awp _ _ _ _ _ _ _;have ez:(yw m.g q.beg q.steps != 0)=true:=by simpa using hz
  refine ag (vm ?_);simp only[wq.1,seval,t6,t9,hd,ez];refine⟨_,⟨(Ve.z,yw m.g q.beg q.steps),.inl ⟨hz,rfl⟩,rfl⟩,?_⟩;exact az.tup (aj.cons (az.agg (aj.cons (az.dat rfl) (aj.cons (az.dat rfl) (aj.cons (az.dat rfl) (aj.cons az.nils aj.nil))))) (aj.cons (az.dat rfl) aj.nil))
end Go.Proofs.YtmlacppmbfbjgaaGreatDoor
