/- Lemmas for this claim, part F12: each holds under what it names. -/
import Derived.Test.YtmlacppmbfbjgaaGreatDoorSF11
import Derived.Test.YtmlacppmbfbjgaaGreatDoorSA8
import Derived.Lib.Join
set_option linter.unusedVariables false
set_option linter.unusedSimpArgs false
set_option linter.unnecessarySimpa false
set_option maxRecDepth 20000
set_option maxHeartbeats 4000000
namespace Go.Proofs.YtmlacppmbfbjgaaGreatDoor
open Go Go.Proofs Go.Abs
theorem EX {l : List S} : ∀ i,i ≤ l.length → ∀ v ∈ (kJ l i).2,0 ≤ v ∧ v < i
 | 0,_,v,hv=>by simp[kJ]at hv
 | i+1,hi,v,hv=>by
  simp only[kJ,Q7]at hv;split at hv
  ·rcases List.mem_or_eq_of_mem_set hv with hv | hv
   ·have:=EX i (by omega) v hv;omega
   ·subst hv;simp;omega
  ·rcases zrf.1 hv with hv | hv
   ·have:=EX i (by omega) v hv;omega
   ·have : v = i := by simpa using hv
    subst this;omega
theorem Ad {l:List S} {s:S} (h:(at? (kJ l l.length).1 s).isSome=true):∃k:Nat,k<l.length∧l9 (kJ l l.length) s=k∧∃n,at? (kJ l l.length).1 s=some n∧∃hn:n<(kJ l l.length).2.length,(kJ l l.length).2[n]=k:=by
 obtain⟨n,hn⟩:=Option.isSome_iff_exists.1 h;obtain⟨h1,h2⟩:=o7 hn;have hl:=(Nb l l.length (zrb _)).len;have h3:n<(kJ l l.length).2.length:=by omega
 have hv:=EX l.length (zrb _) _ (zqu h3);refine⟨((kJ l l.length).2[n]).toNat,by omega,?_,n,hn,h3,by omega⟩;unfold l9;rw[hn];simp only[zqg,zqk h3,Option.getD_some];omega
def C9 (m:Mo) (st:List Bool) (x:Lt):Bool:=st.getD (l9 (ru m) x.1).toNat false != x.2
def iZ (m:Mo) (st:List Bool) (c:List Lt):Bool:= !c.any (C9 m st)
def yB (m:Mo) (l:List (List Lt)) (st:List Bool):Bool×Int :=
 if(bY m l).2≠0 then(false,(bY m l).2)else if st.length≠m.lat.length then(false,11)else(!l.any (iZ m st),0)
theorem GX {c:List Lt} {r:List V} (hb:V.bnds (iL c::r)):c.length≤maxLen:=by simp only[V.bnds,V.bnd,zra]at hb;exact hb.1.1
theorem oQ : ∀ l : List Bool,V.dats (l.map V.bool) = true
 | []=>rfl
 | a::l=>by show(V.dat (.bool a)&&V.dats (l.map V.bool))=true;rw[oQ l];rfl
theorem VN (m:Mo) (st:List Bool) (x:Lt) (hk:dF m x.1=true) (hl:st.length=m.lat.length):Ev TE 30 [DY x,.ip (aY st),.ip (imV (ru m))] (.bool (C9 m st x)):=by
 obtain⟨k,hk1,hk2,n,hn,hn2,hn3⟩:=Ad hk;have hg:((ru m).2.map (V.int .i64)).getD n .any=vi k:=by rw[fO hn2,hn3]
 have hs:(st.map V.bool).getD k .any= .bool (st.getD k false):=by rw[fO (by omega)];congr 1;rw[zqg,zqk (by omega)];rfl
 unfold C9;rw[hk2,Int.toNat_natCast];refine ak Tryz.func30 rfl (by simp[nts]) (vm ?_);simp only[wq.1,seval,Tryz.results30,imV,uq,jh,K.keyOk,hn,hg,hs];exact⟨by decide +kernel,⟨by omega,by omega⟩,aQ rfl (by cases st.getD k false<;>cases x.2<;>rfl)⟩
theorem TL (c:List Lt) (q:FuncId) (caps:List V) (p:Lt→Bool) (he:ai P q=true) (hd:V.dats caps=true) (hq:∀x∈c,Ev TE q (DY x::caps) (.bool (p x))):Ev TE 61 [iL c,.fn (.func q) [] caps] (vi (idx c p)):=by
 refine Ev.bnd fun hb=> ?_;have hlen:=GX hb;refine ak Tryz.func61 rfl (by simp[nts]) (vm ?_);simp only[wq.1,seval,Tryz.results61];refine aC (fun m f h=>∃i,m+i=c.length∧f.t 0=iL c∧f.t 1= .fn (.func q) [] caps∧f.t 7= .int .i64 (c.length:Int)∧f.t 8= .int .i64 (i:Int)∧f.d=[]∧∀x∈c.take i,p x=false) c.length ⟨0,by simp,rfl,rfl,rfl,rfl,rfl,by simp⟩ ?_;rintro m f h ⟨i,hm,h0,h1,h7,h8,hdd,hall⟩;refine vm ?_;simp only[wq.1,seval,h7,h8];refine vcB.mk (fun hc=> ?_) (fun hc=> ?_)
 ·simp only [zqb,zqi] at hc;simp only [wq.1,seval,h0,h1,h8,Ac hc,he];refine ⟨⟨by omega,by omega⟩,ah.ev (hq _ (zqu _)) (by simp [V.dats,V.dat,hd]) ?_⟩;simp only [wq.1,seval];refine vcB.mk (fun hc' => ?_) (fun hc' => ?_)
  ·simp only[wq.1,seval,hdd];rw[kP hc hall hc'];exact az.dat rfl
  ·simp only[wq.1,seval,h8,aA (show i<maxLen by omega)];exact .inl ⟨m-1,by omega,i+1,by omega,h0,h1,h7,rfl,hdd,bF hc hall hc'⟩
 ·simp only[zqd,zqi]at hc;simp only[wq.1,seval,hdd];rw[zqh (by omega)]at hall;rw[jK hall];exact az.dat rfl
theorem TM (c:List Lt) (q:FuncId) (caps:List V) (p:Lt→Bool) (he:ai P q=true) (hd:V.dats caps=true) (hq:∀x∈c,Ev TE q (DY x::caps) (.bool (p x))):Ev TE 32 [iL c,.fn (.func q) [] caps] (.bool (c.any p)):=by refine ak Tryz.func32 rfl (by simp[nts]) (vm ?_);simp only[wq.1,seval,Tryz.results32];refine ah.ev (TL c q caps p he hd hq) (by simp[V.dats,V.dat,hd,fK]) ?_;simp only[wq.1,seval];exact aQ rfl (by rw[pU])
theorem Nr {l:List (List Lt)} {r:List V} (hb:V.bnds (lss l::r)):l.length≤maxLen:=by simp only[V.bnds,V.bnd,zra]at hb;exact hb.1.1
theorem TN (c:List (List Lt)) (q:FuncId) (caps:List V) (p:List Lt→Bool) (he:ai P q=true) (hd:V.dats caps=true) (hq:∀x∈c,Ev TE q (iL x::caps) (.bool (p x))):Ev TE 62 [lss c,.fn (.func q) [] caps] (vi (idx c p)):=by
 refine Ev.bnd fun hb=> ?_;have hlen:=Nr hb;refine ak Tryz.func62 rfl (by simp[nts]) (vm ?_);simp only[wq.1,seval,Tryz.results62];refine aC (fun m f h=>∃i,m+i=c.length∧f.t 0=lss c∧f.t 1= .fn (.func q) [] caps∧f.t 7= .int .i64 (c.length:Int)∧f.t 8= .int .i64 (i:Int)∧f.d=[]∧∀x∈c.take i,p x=false) c.length ⟨0,by simp,rfl,rfl,rfl,rfl,rfl,by simp⟩ ?_;rintro m f h ⟨i,hm,h0,h1,h7,h8,hdd,hall⟩;refine vm ?_;simp only[wq.1,seval,h7,h8];refine vcB.mk (fun hc=> ?_) (fun hc=> ?_)
 ·simp only [zqb,zqi] at hc;simp only [wq.1,seval,h0,h1,h8,xI hc,he];refine ⟨⟨by omega,by omega⟩,ah.ev (hq _ (zqu _)) (by simp [V.dats,V.dat,hd,fK]) ?_⟩;simp only [wq.1,seval];refine vcB.mk (fun hc' => ?_) (fun hc' => ?_)
  ·simp only[wq.1,seval,hdd];rw[kP hc hall hc'];exact az.dat rfl
  ·simp only[wq.1,seval,h8,aA (show i<maxLen by omega)];exact .inl ⟨m-1,by omega,i+1,by omega,h0,h1,h7,rfl,hdd,bF hc hall hc'⟩
 ·simp only[zqd,zqi]at hc;simp only[wq.1,seval,hdd];rw[zqh (by omega)]at hall;rw[jK hall];exact az.dat rfl
theorem TP (c:List (List Lt)) (q:FuncId) (caps:List V) (p:List Lt→Bool) (he:ai P q=true) (hd:V.dats caps=true) (hq:∀x∈c,Ev TE q (iL x::caps) (.bool (p x))):Ev TE 33 [lss c,.fn (.func q) [] caps] (.bool (c.any p)):=by refine ak Tryz.func33 rfl (by simp[nts]) (vm ?_);simp only[wq.1,seval,Tryz.results33];refine ah.ev (TN c q caps p he hd hq) (by simp[V.dats,V.dat,hd,(gV c).1]) ?_;simp only[wq.1,seval];exact aQ rfl (by rw[pU])
def EY (m:Mo) (st:List Bool):V:= .fn (.func 30) [] [.ip (aY st),.ip (imV (ru m))]
theorem VO (m:Mo) (st:List Bool) (c:List Lt) (hk:∀x∈c,dF m x.1=true) (hl:st.length=m.lat.length):Ev TE 31 [iL c,.ip (EY m st)] (.bool (iZ m st c)):=by unfold EY iZ;refine ak Tryz.func31 rfl (by simp[nts]) (vm ?_);simp only[wq.1,seval,Tryz.results31];refine ah.ev (TM c 30 [.ip (aY st),.ip (imV (ru m))] (C9 m st) rfl (by simp[V.dats,V.dat,imV,gG,kH]) fun x hx=>VN m st x (hk x hx) hl) (by simp[V.dats,V.dat,imV,gG,kH,fK]) ?_;simp only[wq.1,seval];exact az.dat rfl
theorem Dc (m:Mo) (hs:m.g.Sm) (l:List (List Lt)) (st:List Bool) (hlat:m.lat.length≤1000000) (hl:l.length≤1000000) (hc:∀c∈l,c.length≤1000000) (hst:st.length≤1000000):Ev TE 12 [m.v,lss l,aY st] (.tup [.bool (yB m l st).1,vi (yB m l st).2]):=by
 have hM:maxLen=9223372036854775807:=rfl;have hpl:=yA m hs l hlat hl hc;have hbad:(bY m l).2=0→m.chk=0∧jo m l=true∧(bY m l).1=imV (ru m):=fun h=>by
  unfold bY at h ⊢;split at h
  ·rename_i hz;exact absurd h hz
  ·rename_i hz;rw [if_neg hz];split at h
   ·rename_i hk;rw[if_pos hk];exact⟨by simpa using hz,hk,rfl⟩
   ·cases h
 have hnil:(bY m l).2≠0→(bY m l).1= .nilm:=fun h=>by
  unfold bY at h ⊢;split at h
  ·rename_i hz;rw[if_pos hz]
  ·rename_i hz;rw [if_neg hz];split at h
   ·exact absurd rfl h
   ·rename_i hk;rw[if_neg hk]
 obtain⟨pv,hpv⟩:∃pv,pv=bY m l:=⟨_,rfl⟩;unfold yB;rw[←hpv]at hpl hbad hnil ⊢;obtain⟨p1,p2⟩:=pv;unfold Mo.v at hpl ⊢;have da:V.dats [V.agg [vi m.g.ins,aF m.g.next,aF m.g.init,prs m.g.ands,aF m.g.outs,dE m.ins,dE m.lat,dE m.out],lss l]=true:=by simp only[V.dats,V.dat,(gV l).1,zre]
 refine ak Tryz.func12 rfl (by simp[nts]) ?_;refine ag (vm ?_);simp only[wq.1,seval,Tryz.results12];by_cases hz:p2=0
 ·obtain ⟨hm0,hkn,rfl⟩ := hbad hz;rw [if_neg (fun h => h hz)];subst hz;refine ag (vm ?_);simp only [wq.1,seval];refine ah.ev hpl da ?_;simp only [wq.1,seval,imV];refine ag (vm ?_);simp only [wq.1,seval];refine ag (vm ?_);simp only [wq.1,seval];refine vcB.mk (fun hl2 => ?_) (fun hl2 => ?_)
  ·have hl2 : st.length ≠ m.lat.length := by simpa [Int.natCast_inj] using hl2
   rw[if_pos hl2];simp only[wq.1,seval];exact az.tup (aj.cons (az.dat rfl) (aj.cons (az.dat rfl) aj.nil))
  ·have hl2 : st.length = m.lat.length := by simpa [Int.natCast_inj] using hl2
   rw[if_neg (fun h=>h hl2)];simp only[wq.1];have hkn2:∀c∈l,∀x∈c,dF m x.1=true:=fun c hc x hx=>zrs.1 (zrs.1 hkn c hc) x hx;have dH:V.dat (EY m st)=true:=by simp only[EY,imV,V.dat,V.dats,gG,kH,zre]
   have hct:=TP l 31 [.ip (EY m st)] (iZ m st) rfl (by simp only[V.dats,V.dat,dH,zre]) fun c hc=>VO m st c (hkn2 c hc) hl2;refine ag (vm ?_);simp only[wq.1,seval];refine ag (vm ?_);simp only[wq.1,seval];refine vm ?_;simp only[wq.1,seval];have dI:V.dat (.im ((ru m).1.map V.str) ((ru m).2.map (V.int .i64)))=true:=by simp only[V.dat,gG,kH,zre]
   refine ah.lend hct (aj.cons (az.dat (by simp only[V.dat,(gV l).1])) (aj.cons (az.fn aj.nil (aj.cons (az.lp (cs':=[EY m st]) rfl (aj.cons (az.fn aj.nil (aj.cons (az.lp rfl (aj.dat (by simp only[V.dats,V.dat,oQ,zre])) rfl (by simp only[V.dat,oQ]) (by simp[V.vc]) rfl) (aj.cons (az.lp rfl (aj.dat (by simp only[V.dats,dI,zre])) rfl dI (by show 0<1;decide) rfl) aj.nil))) aj.nil) rfl dH (by simp[EY,V.vc]) rfl) aj.nil)) aj.nil)) rfl ?_;simp only[wq.1,seval];exact az.tup (aj.cons (az.dat rfl) (aj.cons (az.dat rfl) aj.nil))
 ·obtain rfl:=hnil hz;rw[if_pos hz];refine ag (vm ?_);simp only[wq.1,seval];refine ah.ev hpl da ?_;simp only[wq.1,seval];refine ag (vm ?_);simp only[wq.1,seval];refine vcB.mk (fun _=> ?_) (fun h=>absurd (by simpa using h) hz);simp only[wq.1,seval];exact az.tup (aj.cons (az.dat rfl) (aj.cons (az.dat rfl) aj.nil))
abbrev kV (m:Mo) (l:List (List Lt)):V:= .agg [vi m.g.ins,aF m.g.next,aF m.g.init,prs m.g.ands,aF m.g.outs,dE m.ins,dE m.lat,dE m.out,lss l,imV (ru m)]
abbrev uV (n:Int) (cl rows:List Cl):V:= .agg [vi n,cls cl,cls rows]
def qo (m:Mo) (rows:List Cl) (t:Int) (x:Lt):Int:=if x.2 then -CS rows t (2*(1+m.g.ins+l9 (ru m) x.1))else CS rows t (2*(1+m.g.ins+l9 (ru m) x.1))
theorem Ns {rows:List Cl} (hb:∀r∈rows,∀x∈r,-1000000≤x∧x≤1000000) (t a:Int):-1000000≤CS rows t a∧CS rows t a≤1000000:=by
 unfold CS;split
 ·omega
 ·rename_i h;have h1 : t.toNat < rows.length := by omega
  have h2:(a/2).toNat<(rows.getD t.toNat []).length:=by omega
  have hm:rows.getD t.toNat []∈rows:=by rw[iU h1];exact zqu h1
  have:=hb _ hm _ (qY h2);unfold sN;split<;>omega
theorem dO : ∀ l : List Cl,V.dats (l.map fun c => aF c) = true
 | []=>rfl
 | a::l=>by simp only[zrd,V.dats,V.dat,dO l,vT,zre]
theorem EZ (m:Mo) (l:List (List Lt)) (n:Int) (cl rows:List Cl) (t:Int) (x:Lt) (hk:dF m x.1=true) (hi:0≤m.g.ins∧m.g.ins≤4000) (hlat:m.lat.length≤4000) (hb:∀r∈rows,∀x∈r,-1000000≤x∧x≤1000000) (hr:rows.length≤1000) :
 Ev TE 88 [.ip (kV m l),uV n cl rows,vi t,DY x] (vi (qo m rows t x)):=by
 have hM:maxLen=9223372036854775807:=rfl;obtain⟨k,hk1,hk2,w,hw,hw2,hw3⟩:=Ad hk;have hg:((ru m).2.map (V.int .i64)).getD w .any=vi k:=by rw[fO hw2,hw3]
 have hcl:=MR n cl rows t (2*(1+m.g.ins+k)) hb (by omega) hr;have hbd:=Ns hb t (2*(1+m.g.ins+k));unfold qo;rw[hk2];have w1:IntKind.i64.wrap (1+m.g.ins)=1+m.g.ins:=dN (by omega) (by omega);have w2:IntKind.i64.wrap (1+m.g.ins+k)=1+m.g.ins+k:=dN (by omega) (by omega);have w3:IntKind.i64.wrap (2*(1+m.g.ins+k))=2*(1+m.g.ins+k):=dN (by omega) (by omega);obtain⟨a,ha⟩:∃a,a=CS rows t (2*(1+m.g.ins+k)):=⟨_,rfl⟩;rw[←ha]at hcl hbd ⊢;have w4:IntKind.i64.wrap (-a)=-a:=dN (by omega) (by omega);have w5:IntKind.i64.wrap (0-a)=-a:=by rw[Int.zero_sub];exact w4
 refine ak Tryz.func88 rfl (by simp[nts]) (vm ?_);simp only[wq.1,seval,Tryz.results88,imV,uq,jh,K.keyOk,hw,hg,w1,w2,w3];have dU:V.dats [V.agg [vi n,cls cl,cls rows],vi t,vi (2*(1+m.g.ins+k))]=true:=by simp only[V.dats,V.dat,(dO _),zre]
 refine⟨by decide +kernel,Ef.mk hcl rfl dU ?_⟩;cases hx:x.2 with
 | true=>simp only[wq.1,seval,w5];exact az.dat rfl
 | false=>simp only[wq.1,seval];exact az.dat rfl
def iF (m:Mo) (rows:List Cl) (t:Int) (c:List Lt):List Cl:=c.map fun x=>[-qo m rows t x]
theorem Jg {m:Mo} {rows:List Cl} {t:Int} {c:List Lt} {i:Nat} (h:i<c.length):iF m rows t (c.take (i+1))=iF m rows t (c.take i)++[[-qo m rows t c[i]]]:=by unfold iF;rw[zrg,zqk h,zql];rfl
theorem Df {m:Mo} {rows:List Cl} {t:Int} {c:List Lt} {i:Nat} (h:i≤c.length):(iF m rows t (c.take i)).length=i:=by unfold iF;simp;omega
theorem TQ {m:Mo} {rows:List Cl} (hb:∀r∈rows,∀x∈r,-1000000≤x∧x≤1000000) (t:Int) (x:Lt):-1000000≤qo m rows t x∧qo m rows t x≤1000000:=by have:=Ns hb t (2*(1+m.g.ins+l9 (ru m) x.1));unfold qo;split<;>omega
theorem Dh (m:Mo) (l:List (List Lt)) (n:Int) (cl rows:List Cl) (t:Int) (c:List Lt) (hk:∀x∈c,dF m x.1=true) (hi:0≤m.g.ins∧m.g.ins≤4000) (hlat:m.lat.length≤4000) (hb:∀r∈rows,∀x∈r,-1000000≤x∧x≤1000000) (hr:rows.length≤1000) (hc:c.length≤1000000) :
 Ev TE 80 [.ip (kV m l),uV n cl rows,vi t,iL c] (cls (iF m rows t c)):=by
 have hM:maxLen=9223372036854775807:=rfl;refine ak Tryz.func80 rfl (by simp[nts]) ?_;refine ag (vm ?_);simp only[wq.1,Nat.reduceLT,Tryz.results80];refine ag (vm ?_);simp only[wq.1,Nat.reduceLT];refine fH 9 1 (by simp only[wq.1,↓reduceIte]) ?_;refine ag (vm ?_);simp only[wq.1,seval];refine aC (fun q f h=>∃(i:Nat) (X:H),q+i=c.length∧f.t 0= .ip (kV m l)∧f.t 2=vi t∧f.t 5= .lp 0 0∧f.t 9= .ls 1 1 0 i i∧f.t 12=iL c∧f.t 13=vi c.length∧f.t 14=vi i∧f.d=[]∧h=[.cells [vi n,cls cl,cls rows],.cells ((iF m rows t (c.take i)).map xC)]++X) c.length ⟨0,[],by omega,by simp only[wq.1,seval],by simp only[wq.1,seval],by simp only[wq.1,seval],by simp only[wq.1,seval],by simp only[wq.1,seval],by simp only[wq.1,seval],rfl,by simp only[wq.1],rfl⟩ ?_;rintro q f h ⟨i,X,hq,t0,t2,t5,t9,t12,t13,t14,hd,rfl⟩;refine gZ (by rw[hd];simp) ?_;have cl1:([O.cells [vi n,cls cl,cls rows],O.cells ((iF m rows t (c.take i)).map xC)]:H).map (O.drop (aS ([O.cells [vi n,cls cl,cls rows],O.cells ((iF m rows t (c.take i)).map xC)]:H).length))=[.cells [vi n,cls cl,cls rows],.cells ((iF m rows t (c.take i)).map xC)]:=by show [O.cells [_,_,_],O.cells (V.drops _ _)]=_;rw[nG];rfl
 rw[cl1];refine ag (vm ?_);simp only[wq.1,seval,t13,t14];refine ag (bD (b:=decide ((i:Int)<c.length)) (by simp only[wq.1,↓reduceIte]) (by simp only[wq.1,↓reduceIte]) (fun hlt=> ?_) (fun hlt=> ?_))
 ·simp only [zqb,zqi] at hlt;have hw := aA (show i < maxLen by omega);have hgc := Ac hlt .any;have hsu := Jg (m := m) (rows := rows) (t := t) hlt;have hkx := hk _ (zqu hlt);have hfl := Df (m := m) (rows := rows) (t := t) (c := c) (i := i) (by omega);obtain ⟨x,hx⟩ : ∃ x,x = c[i] := ⟨_,rfl⟩;rw [← hx] at hgc hsu hkx;have hkl := EZ m l n cl rows t x hkx hi hlat hb hr;have hbd := TQ (m := m) hb t x;obtain ⟨a,ha⟩ : ∃ a,a = qo m rows t x := ⟨_,rfl⟩;rw [← ha] at hkl hbd hsu;have w4 : IntKind.i64.wrap (-a) = -a := dN (by omega) (by omega);have w5 : IntKind.i64.wrap (0 - a) = -a := by rw [Int.zero_sub];exact w4
  have hel:((iF m rows t (c.take i)).map xC).length=i*1:=by rw[zra];omega
  have dcs:∀p,V.drops p ((iF m rows t (c.take i)).map xC)=(iF m rows t (c.take i)).map xC:=fun p=>nG _;refine vm ?_;simp only[wq.1];refine vm ?_;simp only[wq.1,seval,t0,t2,t5,t9,t12,t14,hgc,aS];have dK:V.dats [.ip (kV m l),V.agg [vi n,cls cl,cls rows],vi t,V.agg [V.str x.1,V.bool x.2]]=true:=by simp only[V.dats,V.dat,dO,zre]
  refine⟨⟨by omega,by omega⟩,ah.ev hkl dK ?_⟩;simp only[wq.1,↓reduceIte,Nat.reduceEqDiff,Nat.reduceLT,Nat.reduceLeDiff,Nat.reduceAdd,Nat.reduceSub,Int.reduceToNat,Nat.reduceDiv,Int.reduceLT,Int.reduceLE,Int.reduceNeg,Int.reduceBEq,Int.reduceBNe,Int.reduceAdd,Int.reduceSub,Nat.reduceBEq,reduceCtorEq,Nat.reduceMul,au,Tryz.results80,aW,t0,t2,t5,t9,t12,t13,t14,hd,aS,w4,w5,hw,hel,dcs];refine⟨⟨rfl,by decide⟩,⟨rfl,by decide⟩,⟨by omega,by omega,by omega⟩,.inl ⟨q-1,by omega,i+1,[.cells [.str x.1,.bool x.2]],by omega,by simp only[wq.1,↓reduceIte,Nat.reduceEqDiff,Nat.reduceLT,Nat.reduceLeDiff,Nat.reduceAdd,Nat.reduceSub,Int.reduceToNat,Nat.reduceDiv,Int.reduceLT,Int.reduceLE,Int.reduceNeg,Int.reduceBEq,Int.reduceBNe,Int.reduceAdd,Int.reduceSub,Nat.reduceBEq,reduceCtorEq,Nat.reduceMul,au,Tryz.results80,t0],by simp only[wq.1,↓reduceIte,Nat.reduceEqDiff,Nat.reduceLT,Nat.reduceLeDiff,Nat.reduceAdd,Nat.reduceSub,Int.reduceToNat,Nat.reduceDiv,Int.reduceLT,Int.reduceLE,Int.reduceNeg,Int.reduceBEq,Int.reduceBNe,Int.reduceAdd,Int.reduceSub,Nat.reduceBEq,reduceCtorEq,Nat.reduceMul,au,Tryz.results80,t2],by simp only[wq.1,↓reduceIte,Nat.reduceEqDiff,Nat.reduceLT,Nat.reduceLeDiff,Nat.reduceAdd,Nat.reduceSub,Int.reduceToNat,Nat.reduceDiv,Int.reduceLT,Int.reduceLE,Int.reduceNeg,Int.reduceBEq,Int.reduceBNe,Int.reduceAdd,Int.reduceSub,Nat.reduceBEq,reduceCtorEq,Nat.reduceMul,au,Tryz.results80,t5,aS],by simp only[wq.1,↓reduceIte,Nat.reduceEqDiff,Nat.reduceLT,Nat.reduceLeDiff,Nat.reduceAdd,Nat.reduceSub,Int.reduceToNat,Nat.reduceDiv,Int.reduceLT,Int.reduceLE,Int.reduceNeg,Int.reduceBEq,Int.reduceBNe,Int.reduceAdd,Int.reduceSub,Nat.reduceBEq,reduceCtorEq,Nat.reduceMul,au,Tryz.results80],by simp only[wq.1,↓reduceIte,Nat.reduceEqDiff,Nat.reduceLT,Nat.reduceLeDiff,Nat.reduceAdd,Nat.reduceSub,Int.reduceToNat,Nat.reduceDiv,Int.reduceLT,Int.reduceLE,Int.reduceNeg,Int.reduceBEq,Int.reduceBNe,Int.reduceAdd,Int.reduceSub,Nat.reduceBEq,reduceCtorEq,Nat.reduceMul,au,Tryz.results80,t12],by simp only[wq.1,↓reduceIte,Nat.reduceEqDiff,Nat.reduceLT,Nat.reduceLeDiff,Nat.reduceAdd,Nat.reduceSub,Int.reduceToNat,Nat.reduceDiv,Int.reduceLT,Int.reduceLE,Int.reduceNeg,Int.reduceBEq,Int.reduceBNe,Int.reduceAdd,Int.reduceSub,Nat.reduceBEq,reduceCtorEq,Nat.reduceMul,au,Tryz.results80,t13],by simp only[wq.1,↓reduceIte,Nat.reduceEqDiff,Nat.reduceLT,Nat.reduceLeDiff,Nat.reduceAdd,Nat.reduceSub,Int.reduceToNat,Nat.reduceDiv,Int.reduceLT,Int.reduceLE,Int.reduceNeg,Int.reduceBEq,Int.reduceBNe,Int.reduceAdd,Int.reduceSub,Nat.reduceBEq,reduceCtorEq,Nat.reduceMul,au,Tryz.results80],by simp only[wq.1,↓reduceIte,Nat.reduceEqDiff,Nat.reduceLT,Nat.reduceLeDiff,Nat.reduceAdd,Nat.reduceSub,Int.reduceToNat,Nat.reduceDiv,Int.reduceLT,Int.reduceLE,Int.reduceNeg,Int.reduceBEq,Int.reduceBNe,Int.reduceAdd,Int.reduceSub,Nat.reduceBEq,reduceCtorEq,Nat.reduceMul,au,Tryz.results80,hd],?_⟩⟩;rw[hsu,zql];rfl
 ·simp only [zqd,zqi] at hlt;have : i = c.length := by omega
  subst this;rw[zrx];have hfl:=Df (m:=m) (rows:=rows) (t:=t) (c:=c) (i:=c.length) (zrb _);rw[zrx]at hfl;refine vm ?_;simp only[wq.1];refine vm ?_;simp only[wq.1,seval,t9,hd,aS];exact az.ls rfl (uG _) (kG _).1 (kG _).2 (by rw[zra];exact hfl.symm)
def qi (m:Mo) (rows:List Cl) (l:List (List Lt)):List Cl:=l.map fun c=>c.map (qo m rows 0)
abbrev hKa (n:Int) (cl rows:List Cl) (out:List Cl):H:=[.cells [vi n,cls cl,cls rows],.cells (out.map fun c=>aF c)]
abbrev hKb (n:Int) (cl rows:List Cl) (out:List Cl) (d:Cl):H:=[.cells [vi n,cls cl,cls rows],.cells (out.map fun c=>aF c),.cells (d.map vi)]
theorem mi {p : Nat → Bool} : ∀ l : List Cl,V.drops p (l.map fun c => aF c) = l.map fun c => aF c
 | []=>rfl
 | a::l=>by show V.drop p (aF a)::V.drops p (l.map fun c=>aF c)=_;rw[mi l];rfl
theorem Di {h:H} {id len cap:Nat} {l:List Cl} (hc:h[id]? =some (.cells (l.map fun c=>aF c))) (hl:len=l.length):az TE h (.ls id 1 0 len cap) (cls l) :=
 az.ls hc (aj.dat (dO _)) (kG _).1 (kG _).2 (by rw[zra];exact hl)
theorem GY (m:Mo) (l:List (List Lt)) (n:Int) (cl rows:List Cl) (hk:∀c∈l,∀x∈c,dF m x.1=true) (hi:0≤m.g.ins∧m.g.ins≤4000) (hlat:m.lat.length≤4000) (hb:∀r∈rows,∀x∈r,-1000000≤x∧x≤1000000) (hr:rows.length≤1000) (hl:l.length≤1000000) (hc:∀c∈l,c.length≤1000000) :
 EvF TE 83 [.ip (kV m l),uV n cl rows] 1 l.length ((qi m rows l).map fun c=>aF c):=by
 have hM:maxLen=9223372036854775807:=rfl;unfold EvF;refine ax Tryz.func83 rfl (by simp[nts]) ?_;refine ag (vm ?_);simp only[wq.1,Nat.reduceLT,Tryz.results83];refine ag (vm ?_);simp only[wq.1,Nat.reduceLT];refine fH 5 1 (by simp only[wq.1,↓reduceIte]) ?_;refine ag (vm ?_);simp only[wq.1,seval];refine aC (fun q f h=>∃(i:Nat) (X:H),q+i=l.length∧f.t 0= .ip (kV m l)∧f.t 3= .lp 0 0∧f.t 5= .ls 1 1 0 i i∧f.t 14=lss l∧f.t 15=vi l.length∧f.t 16=vi i∧f.d=[]∧h=hKa n cl rows (qi m rows (l.take i))++X) l.length ⟨0,[],by omega,by simp only[wq.1,seval],by simp only[wq.1,seval],by simp only[wq.1,seval],by simp only[wq.1,seval],by simp only[wq.1,seval],rfl,by simp only[wq.1],rfl⟩ ?_;rintro q f h ⟨i,X,hq,t0,t3,t5,t14,t15,t16,hd,rfl⟩;refine gZ (by rw[hd];simp) ?_;have cl1:∀out:List Cl,(hKa n cl rows out).map (O.drop (aS (hKa n cl rows out).length))=hKa n cl rows out:=fun out=>by show [O.cells [_,_,_],O.cells (V.drops _ _)]=_;rw[mi];rfl
 rw[cl1];have hol:(qi m rows (l.take i)).length=min i l.length:=by unfold qi;simp
 refine ag (vm ?_);simp only[wq.1,seval,t15,t16];refine ag (bD (b:=decide ((i:Int)<l.length)) (by simp only[wq.1,↓reduceIte]) (by simp only[wq.1,↓reduceIte]) (fun hlt=> ?_) (fun hlt=> ?_))
 ·simp only[zqb,zqi]at hlt;have hw:=aA (show i<maxLen by omega);have hgl:=xI hlt .any;have hcl:=hc _ (zqu hlt);have hkc:=hk _ (zqu hlt);have hsu:qi m rows (l.take (i+1))=qi m rows (l.take i)++[l[i].map (qo m rows 0)]:=by
   unfold qi;rw[zrg,zqk hlt,zql];rfl
  obtain⟨c,hce⟩:∃c,c=l[i]:=⟨_,rfl⟩;rw[←hce]at hgl hcl hkc hsu;obtain⟨outs,hos⟩:∃outs,outs=qi m rows (l.take i):=⟨_,rfl⟩;rw[←hos]at hsu hol ⊢;have hol:outs.length=i:=by omega
  refine vm ?_;simp only[wq.1];refine ag (aG ?_);refine ag (vm ?_);simp only[wq.1,seval,t14,t16,hgl];refine⟨⟨by omega,by omega⟩,?_⟩;refine ag (vm ?_);simp only[wq.1,Nat.reduceLT];refine fH 8 1 (by simp only[wq.1,↓reduceIte]) ?_;refine ag (vm ?_);simp only[wq.1,seval,hd,aS];refine aC (fun q' f h=>∃(j:Nat) (Y:H),q'+j=c.length∧f.t 0= .ip (kV m l)∧f.t 3= .lp 0 0∧f.t 5= .ls 1 1 0 i i∧f.t 8= .ls 2 1 0 j j∧f.t 14=lss l∧f.t 15=vi l.length∧f.t 16=vi i∧f.t 20=iL c∧f.t 21=vi c.length∧f.t 22=vi j∧f.d=[]∧h=hKb n cl rows outs ((c.take j).map (qo m rows 0))++Y) c.length ⟨0,[],by omega,by simp only[wq.1,seval,t0],by simp only[wq.1,seval,t3,aS],by simp only[wq.1,seval,t5,aS],by simp only[wq.1,seval],by simp only[wq.1,seval,t14],by simp only[wq.1,seval,t15],by simp only[wq.1,seval,t16],by simp only[wq.1,seval],by simp only[wq.1,seval],rfl,by simp only[wq.1],rfl⟩ ?_;clear t0 t3 t5 t14 t15 t16 hd f;rintro q' f h ⟨j,Y,hq',t0,t3,t5,t8,t14,t15,t16,t20,t21,t22,hd,rfl⟩;refine gZ (by rw[hd];simp) ?_;have cl2:∀d:Cl,(hKb n cl rows outs d).map (O.drop (aS (hKb n cl rows outs d).length))=hKb n cl rows outs d:=fun d=>by
   show [O.cells [_,_,_],O.cells (V.drops _ _),O.cells (V.drops _ _)]=_;rw[mi,bu];rfl
  rw[cl2];have dos:∀p,V.drops p (outs.map fun c=>aF c)=outs.map fun c=>aF c:=fun p=>mi _;refine ag (vm ?_);simp only[wq.1,seval,t21,t22];refine ag (bD (b:=decide ((j:Int)<c.length)) (by simp only[wq.1,↓reduceIte]) (by simp only[wq.1,↓reduceIte]) (fun hlt2=> ?_) (fun hlt2=> ?_))
  ·simp only[zqb,zqi]at hlt2;have hw2:=aA (show j<maxLen by omega);have hgc:=Ac hlt2 .any;have hkx:=hkc _ (zqu hlt2);have hsd:(c.take (j+1)).map (qo m rows 0)=(c.take j).map (qo m rows 0)++[qo m rows 0 c[j]]:=by
    rw[zrg,zqk hlt2,zql];rfl
   obtain⟨x,hx⟩:∃x,x=c[j]:=⟨_,rfl⟩;rw[←hx]at hgc hkx hsd;have hkl:=EZ m l n cl rows 0 x hkx hi hlat hb hr;have dK:V.dats [.ip (kV m l),V.agg [vi n,cls cl,cls rows],vi 0,V.agg [V.str x.1,V.bool x.2]]=true:=by simp only[V.dats,V.dat,dO,zre]
   have hdl:((c.take j).map (qo m rows 0)).length=j:=by simp;omega
   obtain⟨ds,hds⟩:∃ds,ds=(c.take j).map (qo m rows 0):=⟨_,rfl⟩;rw[←hds]at hsd hdl ⊢;have hel:(ds.map vi).length=j*1:=by rw[zra];omega
   have dcs:∀p,V.drops p (ds.map vi)=ds.map vi:=fun p=>bu _;refine vm ?_;simp only[wq.1];refine vm ?_;simp only[wq.1,seval,t0,t3,t8,t20,t22,hgc,aS];refine⟨⟨by omega,by omega⟩,ah.ev hkl dK ?_⟩;simp only[wq.1,↓reduceIte,Nat.reduceEqDiff,Nat.reduceLT,reduceCtorEq,Nat.reduceMul,t22,hd,hw2,dcs,dos];refine⟨⟨rfl,by decide⟩,⟨by omega,by omega,by omega⟩,.inl ⟨q'-1,by omega,j+1,[.cells [.str x.1,.bool x.2]],by omega,by simp only[wq.1,↓reduceIte,Nat.reduceEqDiff,Nat.reduceLT,Nat.reduceLeDiff,Nat.reduceAdd,Nat.reduceSub,Int.reduceToNat,Nat.reduceDiv,Int.reduceLT,Int.reduceLE,Int.reduceNeg,Int.reduceBEq,Int.reduceBNe,Int.reduceAdd,Int.reduceSub,Nat.reduceBEq,reduceCtorEq,Nat.reduceMul,au,Tryz.results83,t0],by simp only[wq.1,↓reduceIte,Nat.reduceEqDiff,Nat.reduceLT,Nat.reduceLeDiff,Nat.reduceAdd,Nat.reduceSub,Int.reduceToNat,Nat.reduceDiv,Int.reduceLT,Int.reduceLE,Int.reduceNeg,Int.reduceBEq,Int.reduceBNe,Int.reduceAdd,Int.reduceSub,Nat.reduceBEq,reduceCtorEq,Nat.reduceMul,au,Tryz.results83,t3,aS],by simp only[wq.1,↓reduceIte,Nat.reduceEqDiff,Nat.reduceLT,Nat.reduceLeDiff,Nat.reduceAdd,Nat.reduceSub,Int.reduceToNat,Nat.reduceDiv,Int.reduceLT,Int.reduceLE,Int.reduceNeg,Int.reduceBEq,Int.reduceBNe,Int.reduceAdd,Int.reduceSub,Nat.reduceBEq,reduceCtorEq,Nat.reduceMul,au,Tryz.results83,t5,aS],by simp only[wq.1,↓reduceIte,Nat.reduceEqDiff,Nat.reduceLT,Nat.reduceLeDiff,Nat.reduceAdd,Nat.reduceSub,Int.reduceToNat,Nat.reduceDiv,Int.reduceLT,Int.reduceLE,Int.reduceNeg,Int.reduceBEq,Int.reduceBNe,Int.reduceAdd,Int.reduceSub,Nat.reduceBEq,reduceCtorEq,Nat.reduceMul,au,Tryz.results83],by simp only[wq.1,↓reduceIte,Nat.reduceEqDiff,Nat.reduceLT,Nat.reduceLeDiff,Nat.reduceAdd,Nat.reduceSub,Int.reduceToNat,Nat.reduceDiv,Int.reduceLT,Int.reduceLE,Int.reduceNeg,Int.reduceBEq,Int.reduceBNe,Int.reduceAdd,Int.reduceSub,Nat.reduceBEq,reduceCtorEq,Nat.reduceMul,au,Tryz.results83,t14],by simp only[wq.1,↓reduceIte,Nat.reduceEqDiff,Nat.reduceLT,Nat.reduceLeDiff,Nat.reduceAdd,Nat.reduceSub,Int.reduceToNat,Nat.reduceDiv,Int.reduceLT,Int.reduceLE,Int.reduceNeg,Int.reduceBEq,Int.reduceBNe,Int.reduceAdd,Int.reduceSub,Nat.reduceBEq,reduceCtorEq,Nat.reduceMul,au,Tryz.results83,t15],by simp only[wq.1,↓reduceIte,Nat.reduceEqDiff,Nat.reduceLT,Nat.reduceLeDiff,Nat.reduceAdd,Nat.reduceSub,Int.reduceToNat,Nat.reduceDiv,Int.reduceLT,Int.reduceLE,Int.reduceNeg,Int.reduceBEq,Int.reduceBNe,Int.reduceAdd,Int.reduceSub,Nat.reduceBEq,reduceCtorEq,Nat.reduceMul,au,Tryz.results83,t16],by simp only[wq.1,↓reduceIte,Nat.reduceEqDiff,Nat.reduceLT,Nat.reduceLeDiff,Nat.reduceAdd,Nat.reduceSub,Int.reduceToNat,Nat.reduceDiv,Int.reduceLT,Int.reduceLE,Int.reduceNeg,Int.reduceBEq,Int.reduceBNe,Int.reduceAdd,Int.reduceSub,Nat.reduceBEq,reduceCtorEq,Nat.reduceMul,au,Tryz.results83,t20],by simp only[wq.1,↓reduceIte,Nat.reduceEqDiff,Nat.reduceLT,Nat.reduceLeDiff,Nat.reduceAdd,Nat.reduceSub,Int.reduceToNat,Nat.reduceDiv,Int.reduceLT,Int.reduceLE,Int.reduceNeg,Int.reduceBEq,Int.reduceBNe,Int.reduceAdd,Int.reduceSub,Nat.reduceBEq,reduceCtorEq,Nat.reduceMul,au,Tryz.results83,t21],by simp only[wq.1,↓reduceIte,Nat.reduceEqDiff,Nat.reduceLT,Nat.reduceLeDiff,Nat.reduceAdd,Nat.reduceSub,Int.reduceToNat,Nat.reduceDiv,Int.reduceLT,Int.reduceLE,Int.reduceNeg,Int.reduceBEq,Int.reduceBNe,Int.reduceAdd,Int.reduceSub,Nat.reduceBEq,reduceCtorEq,Nat.reduceMul,au,Tryz.results83],by simp only[wq.1,↓reduceIte,Nat.reduceEqDiff,Nat.reduceLT,Nat.reduceLeDiff,Nat.reduceAdd,Nat.reduceSub,Int.reduceToNat,Nat.reduceDiv,Int.reduceLT,Int.reduceLE,Int.reduceNeg,Int.reduceBEq,Int.reduceBNe,Int.reduceAdd,Int.reduceSub,Nat.reduceBEq,reduceCtorEq,Nat.reduceMul,au,Tryz.results83,hd],?_⟩⟩;rw[hsd,zql];rfl
  ·simp only [zqd,zqi] at hlt2;have : j = c.length := by omega
   subst this;rw[zrx];obtain⟨ds,hds⟩:∃ds,ds=c.map (qo m rows 0):=⟨_,rfl⟩;have hdl:ds.length=c.length:=by rw[hds];simp
   rw[←hds]at hsu ⊢;refine vm ?_;simp only[wq.1];show awp _ _ _ _ _ _ _;refine qK 2 8 (aF ds) (by simp only[wq.1,seval,t8,aS]) (by simp only[wq.1,seval,t8,aS];exact qV (by show some (O.cells (V.drops _ (ds.map vi)))=_;rw[bu]) hdl.symm) (by simp only[wq.1,hd]) ?_;rw[show iO (·==2) 0 (hKb n cl rows outs ds)=[.cells [vi n,cls cl,cls rows],.cells (outs.map fun c=>aF c),.dead] by simp[iO,O.drop,V.drops,V.drop,dos]];refine mV (fun f'=>f'.t 0= .ip (kV m l)∧f'.t 3= .lp 0 0∧f'.t 5= .ls 1 1 0 i i∧f'.t 8=aF ds∧f'.t 14=lss l∧f'.t 15=vi l.length∧f'.t 16=vi i∧f'.d=[]) _ (fun hk=>hk _ ⟨by simp only[wq.1,seval,t0],by simp only[wq.1,seval,t3,aS],by simp only[wq.1,seval,t5,aS],by simp only[wq.1,↓reduceIte],by simp only[wq.1,seval,t14],by simp only[wq.1,seval,t15],by simp only[wq.1,seval,t16],hd⟩) ?_;clear t0 t3 t5 t8 t14 t15 t16 t20 t21 t22 hd f;rintro f ⟨t0,t3,t5,t8,t14,t15,t16,hd⟩;have hel:(outs.map fun c=>aF c).length=i*1:=by rw[zra];omega
   refine vm ?_;simp only[wq.1,↓reduceIte,Nat.reduceEqDiff,Nat.reduceLT,reduceCtorEq,Nat.reduceMul,t5,t8,hd,dos];refine⟨⟨rfl,by decide⟩,⟨by omega,by omega,by omega⟩,?_⟩;refine vm ?_;simp only[wq.1,seval,t16,hw];refine .inl ⟨q-1,by omega,i+1,[.dead],by omega,by simp only[wq.1,seval,t0],by simp only[wq.1,seval,t3],by simp only[wq.1,seval],by simp only[wq.1,seval,t14],by simp only[wq.1,seval,t15],by simp only[wq.1,↓reduceIte],hd,by rw[hsu,zql];rfl⟩
 ·simp only [zqd,zqi] at hlt;have : i = l.length := by omega
  subst this;rw[zrx]at hol ⊢;refine vm ?_;simp only[wq.1];refine vm ?_;simp only[wq.1,seval,t5,hd,aS];exact .inr ⟨1,_,rfl,zrb _,rfl⟩
theorem TR (m:Mo) (l:List (List Lt)) (n:Int) (cl rows:List Cl) (hk:∀c∈l,∀x∈c,dF m x.1=true) (hi:0≤m.g.ins∧m.g.ins≤4000) (hlat:m.lat.length≤4000) (hb:∀r∈rows,∀x∈r,-1000000≤x∧x≤1000000) (hr:rows.length≤1000) (hl:l.length≤1000000) (hc:∀c∈l,c.length≤1000000) :
 Ev TE 83 [.ip (kV m l),uV n cl rows] (cls (qi m rows l)):=by
 refine(GY m l n cl rows hk hi hlat hb hr hl hc).ev (fun _ h=> ?_) (fun h' id cap _ hid=>Di hid (by unfold qi;simp)) (fun _ h h'=> ?_)
 ·rw[List.map_eq_nil_iff.1 h];exact jc
 ·rw[List.map_eq_nil_iff.1 h];exact az.nils
theorem E5 (n : Nat) (hn : n ≤ 1000000000) (h : H) (R : AEnd → H → (Nat → Bool) → Prop) (hr0 : n = 0 → R (.ret .nils) h (fun _ => false))
 (hr:0<n→R (.ret (.ls h.length 1 0 0 n)) (h++[.cells (List.replicate n (.nils))]) (fun _=>false)):ah TE 113 [.nils,vi n] h R:=by
 refine ax Tryz.func113 rfl (by simp[nts]) ?_;refine ag (vm ?_);simp only[wq.1,Nat.reduceLT,Tryz.results113];refine ag ?_;refine vm ?_;simp only[wq.1,seval];refine vcB.mk (fun hc=> ?_) (fun hc=> ?_)
 ·simp only[zqb]at hc;omega
 simp only[wq.1];refine ag (ag (fP ?_));refine aB rfl rfl ?_;simp only[wq.1,seval];refine aB rfl rfl ?_;simp only[wq.1,seval];refine dG rfl rfl ?_;have hq:ti TE.P 144=some ⟨.slice 150,1,24,.nils⟩:=by simp only[wq.1]
 have hqe:ti TE.P 150=some ⟨.slice 3,1,24,.nils⟩:=by simp only[wq.1]
 have hqi:ti TE.P 3=some ⟨.int .i64,1,8,.int .i64 0⟩:=by simp only[wq.1]
 refine iH (t:=144) rfl rfl hq rfl trivial rfl ?_;refine aB rfl rfl ?_;simp only[wq.1,seval];refine aB rfl rfl ?_;simp only[wq.1,↓reduceIte];refine aB rfl rfl ?_;simp only[wq.1,seval];refine aB rfl rfl ?_;simp only[wq.1,seval];refine aB rfl rfl ?_;simp only[wq.1,↓reduceIte];have w0:IntKind.i64.wrap 0=0:=by decide
 have w1:IntKind.i64.wrap ((n:Int)-0)=n:=by rw[Int.sub_zero];exact dN (by omega) (by omega)
 refine fA ?_;simp only[wq.1,w0,w1];refine ag ?_;refine vm ?_;simp only[wq.1,seval];refine bD (b:=decide ((0:Int)<n)) (by simp only[wq.1,↓reduceIte]) (by simp only[wq.1,↓reduceIte]) (fun hb=> ?_) (fun hb=> ?_)
 ·have hpos : 0 < n := by simp only [zqb] at hb;omega
  refine fP ?_;refine aB rfl rfl ?_;simp only[wq.1,seval];refine aB rfl rfl ?_;simp only[wq.1,seval];refine dG rfl rfl ?_;refine iH (t:=144) rfl rfl hq rfl trivial rfl ?_;refine dG rfl rfl ?_;refine lq rfl hq rfl hqe (by simp only[wq.1,seval]) (by simp only[wq.1,seval]) (by simp only[wq.1,↓reduceIte]) (k:= .i64) (by simp only[wq.1,↓reduceIte]) ?_;refine aB rfl rfl ?_;simp only[wq.1,seval];refine dG rfl rfl ?_;refine jW (x:= .tmp 20) (y:= .tmp 21) (t:=144) (xt:=3) (el:=150) ⟨⟨_,rfl,rfl,rfl⟩,hq,rfl,hqe,rfl,rfl,Nat.zero_lt_one⟩ (by simp only[wq.1,seval]) (by simp only[wq.1,↓reduceIte]) (by simp only[wq.1,seval]) (by simp only[wq.1,↓reduceIte]) hqi rfl hpos (by omega) ?_ rfl (zv:= .nils) rfl ?_
  ·show n*24≤_;omega
  refine aB rfl rfl ?_;simp only[wq.1,seval];refine aB rfl rfl ?_;simp only[wq.1,↓reduceIte];refine aB rfl rfl ?_;simp only[wq.1,seval];refine⟨by omega,?_⟩;refine aB rfl rfl ?_;simp only[wq.1,↓reduceIte];refine fA ?_;simp only[wq.1];refine vm ?_;simp only[wq.1,seval];exact hr hpos
 ·have : n = 0 := by simp only [zqd] at hb;omega
  refine vm ?_;simp only[wq.1];refine vm ?_;simp only[wq.1,seval];exact hr0 this
def VP (n:Nat) (c:List Cl) (v:V) (h:H):Prop :=
 (c=[]∧v= .nils∧h=[]∧n=0)∨(c.length≤n∧v= .ls 0 1 0 c.length n∧h=[.cells (c.map (fun c:Cl=>aF c)++List.replicate (n-c.length) (.nils))])
theorem Nu (n:Nat) (hn:n≤1000000000) (R:AEnd→H→(Nat→Bool)→Prop) (hr:∀v h,VP n [] v h→R (.ret v) h (fun _=>false)):ah TE 113 [.nils,vi n] [] R :=
 E5 n hn [] R (fun hz=>hr _ _ (.inl ⟨rfl,rfl,rfl,hz⟩)) (fun hz=>hr _ _ (.inr ⟨Nat.zero_le _,rfl,rfl⟩))
theorem wS {p : Nat → Bool} : ∀ l : List Cl,V.drops p (l.map (fun c : Cl => aF c)) = l.map (fun c : Cl => aF c)
 | []=>rfl
 | a::l=>by simp only[zrd,V.drops,V.drop,wS l]
theorem Dj : ∀ l : List Cl,bC (l.map (fun c : Cl => aF c)) = true
 | []=>rfl
 | a::l=>by simp only[zrd,bC,Dj l,V.one,V.vc,zrk];rfl
theorem Dk (c l:List Cl) (n:Nat) (h:c.length+l.length≤n):bP (c.map (fun c:Cl=>aF c)++List.replicate (n-c.length) (.nils)) c.length (l.map (fun c:Cl=>aF c))=(c++l).map (fun c:Cl=>aF c)++List.replicate (n-(c++l).length) (.nils):=by
 unfold bP;have e1:(c.map (fun c:Cl=>aF c)++List.replicate (n-c.length) (V.nils)).take c.length=c.map (fun c:Cl=>aF c):=by
  simp
 have e2:(c.map (fun c:Cl=>aF c)++List.replicate (n-c.length) (V.nils)).drop (c.length+(l.map (fun c:Cl=>aF c)).length)=List.replicate (n-(c++l).length) (V.nils):=by
  rw[List.drop_append];have:(c.map (fun c:Cl=>aF c)).drop (c.length+(l.map (fun c:Cl=>aF c)).length)=[]:=List.drop_of_length_le (by simp);rw[this,List.nil_append,List.drop_replicate]
  congr 1
  simp only[zra,zqa];omega
 rw[e1,e2,zql]
theorem Dl (ls:List (List Cl)) (hn:ls.flatten.length≤1000000000) (hls:ls.length≤1000000000):EvF TE 82 [.is true 1 (ls.map cls)] 1 ls.flatten.length (ls.flatten.map (fun c:Cl=>aF c)):=by
 have hM:maxLen=9223372036854775807:=rfl;have hget:∀ {i:Nat} (h:i<ls.length) (d:V),(ls.map cls).getD i d=cls ls[i]:=fun h d=>fO h d;unfold EvF;refine ax Tryz.func82 rfl (by simp[nts]) (vm ?_);simp only[wq.1,seval,Tryz.results82];refine aC (fun m f h=>∃i,m+i=ls.length∧f.t 0= .is true 1 (ls.map cls)∧f.t 3=vi (ls.take i).flatten.length∧f.t 9= .is true 1 (ls.map cls)∧f.t 10=vi ls.length∧f.t 11=vi i∧f.d=[]∧h=[]) ls.length ⟨0,by simp,rfl,rfl,rfl,by simp only[wq.1,seval],rfl,rfl,rfl⟩ ?_;rintro m f h ⟨i,hm,h0,h3,h9,h10,h11,hd,rfl⟩;refine vm ?_;simp only[wq.1,seval,h10,h11];refine vcB.mk (fun hc=> ?_) (fun hc=> ?_)
 ·simp only[zqb,zqi]at hc;have hfl:=oN hc;have hw:IntKind.i64.wrap (((ls.take i).flatten.length:Int)+(ls[i].length:Int))=((ls.take (i+1)).flatten.length:Int):=by
   rw[fJ hc,zqa,aZ (by omega) (by omega)];omega
  simp only[wq.1,seval,h3,h9,h11,hget hc,hw];refine⟨⟨by omega,by omega⟩,vcB.mk (fun hc'=> ?_) (fun hc'=> ?_)⟩
  ·simp only[zqb]at hc';omega
  ·simp only[wq.1,seval,h11,aA (show i<maxLen by omega)];exact .inl ⟨m-1,by omega,i+1,by omega,h0,rfl,h9,h10,rfl,hd,rfl⟩
 ·simp only [zqd,zqi] at hc;have hi : ls.take i = ls := zqh (by omega);rw [hi] at h3;simp only [wq.1,seval,h3];refine Nu ls.flatten.length hn _ (fun v0 h0' hcat => ?_);simp only [wq.1,seval,h0];refine aC (fun m f h => ∃ i v,m + i = ls.length ∧ f.t 25 = .is true 1 (ls.map cls) ∧ f.t 26 = vi ls.length ∧ f.t 27 = vi i ∧ f.t 6 = v ∧ f.d = [] ∧ VP ls.flatten.length (ls.take i).flatten v h) ls.length ⟨0,v0,by simp,by simp only [wq.1,seval],by simp only [wq.1,seval],rfl,rfl,by simp only [wq.1,hd],by simpa using hcat⟩ ?_;rintro m f h ⟨i,v,hm,h25,h26,h27,h6,hd,hcat⟩;refine vm ?_;simp only [wq.1,seval,h26,h27];refine vcB.mk (fun hc => ?_) (fun hc => ?_)
  ·simp only [zqb,zqi] at hc;have hfl := oN hc;have hnext : f.t 27 = vi i → IntKind.i64.wrap ((i : Int) + 1) = ((i + 1 : Nat) : Int) := fun _ => aA (by omega);rcases hcat with ⟨hc0,rfl,rfl,hn0⟩ | ⟨hcl,rfl,rfl⟩
   ·have hl0:ls[i]=[]:=List.eq_nil_of_length_eq_zero (by omega);simp only[wq.1,seval,h25,h27,h6,hget hc,hl0,aA (show i<maxLen by omega)];refine⟨⟨by omega,by omega⟩,by omega,.inl ⟨m-1,by omega,i+1,_,by omega,h25,h26,rfl,rfl,hd,?_⟩⟩;right;rw[fJ hc,hl0,hc0,hn0];exact⟨zrb _,rfl,rfl⟩
   ·by_cases hlt : (ls.take i).flatten.length < ls.flatten.length
    ·have hdt : decide ((ls.take i).flatten.length < ls.flatten.length) = true := by simpa using hlt
     simp only[wq.1,seval,h25,h27,h6,hget hc,aA (show i<maxLen by omega),Dj,hdt];refine⟨⟨by omega,by omega⟩,⟨by omega,by omega,by rw[List.length_replicate];omega⟩,.inl ⟨m-1,by omega,i+1,_,by omega,h25,h26,rfl,rfl,hd,?_⟩⟩;right;rw[fJ hc];refine⟨by rw[zqa];omega,by simp only[wq.1,seval],?_⟩;have hsp:=Dk (ls.take i).flatten ls[i] ls.flatten.length hfl;unfold bP at hsp;rw[zra]at hsp;rw[Nat.mul_one,hsp]
    ·have hdt : decide ((ls.take i).flatten.length < ls.flatten.length) = false := by simpa using hlt
     have hl0:ls[i]=[]:=List.eq_nil_of_length_eq_zero (by omega);have hne:(ls.take i).flatten.length=ls.flatten.length:=by omega
     simp only[wq.1,seval,h25,h27,h6,hd,hget hc,aA (show i<maxLen by omega),hdt,hl0,wS];refine⟨⟨by omega,by omega⟩,⟨by rw[List.length_replicate];omega,by omega,by omega⟩,.inl ⟨m-1,by omega,i+1,_,by omega,by simp only[wq.1,seval,h25],by simp only[wq.1,seval,h26],rfl,rfl,hd,?_⟩⟩;right;rw[fJ hc,hl0,zqp,hne,Nat.sub_self];refine⟨zrb _,by simp only[wq.1,seval],?_⟩;simp only[List.replicate_zero,V.drops]
  ·simp only [zqd,zqi] at hc;have hi : ls.take i = ls := zqh (by omega);rw [hi] at hcat;simp only [wq.1,seval,h6,hd];rcases hcat with ⟨hc0,rfl,rfl,hn0⟩ | ⟨hcl,rfl,rfl⟩
   ·exact .inl ⟨rfl,hn0,by rw[hc0];rfl⟩
   ·rw[Nat.sub_self,List.replicate_zero,zqp];exact .inr ⟨0,_,rfl,zrb _,rfl⟩
theorem wU (ls:List (List Cl)) (hn:ls.flatten.length≤1000000000) (hls:ls.length≤1000000000):Ev TE 82 [.is true 1 (ls.map cls)] (cls ls.flatten):=by
 refine(Dl ls hn hls).ev (fun _ hc=> ?_) (fun h' id cap _ hid=>Di hid (by simp)) (fun _ hc h'=> ?_)
 ·rw[List.map_eq_nil_iff.1 hc];exact jc
 ·rw[List.map_eq_nil_iff.1 hc];exact az.nils
structure UOk (m : Mo) (rows : List Cl) : Prop where
 i:0≤m.g.ins∧m.g.ins≤4000
 lat:m.lat.length≤4000
 b:∀r∈rows,∀x∈r,-1000000≤x∧x≤1000000
 r:rows.length≤1000
theorem VQ (m:Mo) (l:List (List Lt)) (n:Int) (cl rows:List Cl) (c:List Lt) (hk:∀x∈c,dF m x.1=true) (u:UOk m rows) (hc:c.length≤1000000) :
 Ev TE 79 [uV n cl rows,.ip (.ip (kV m l)),.ip (iL c)] (cls (iF m rows 0 c)):=by
 have hf:=Dh m l n cl rows 0 c hk u.i u.lat u.b u.r hc;have dK:V.dats [.ip (kV m l),V.agg [vi n,cls cl,cls rows],vi 0,iL c]=true:=by simp only[V.dats,V.dat,dO,fK,zre]
 refine ak Tryz.func79 rfl (by simp[nts]) (vm ?_);simp only[wq.1,seval,Tryz.results79];refine ah.ev hf dK ?_;simp only[wq.1,seval];exact az.dat (by simp only[V.dat,dO])
theorem VR (m:Mo) (l:List (List Lt)) (n:Int) (cl rows:List Cl) (c:List Lt) (hk:∀x∈c,dF m x.1=true) (hkl:∀c∈l,∀x∈c,dF m x.1=true) (u:UOk m rows) (hc:c.length≤1000000) (hl:l.length≤1000000) (hcl:∀c∈l,c.length≤1000000) :
 Ev TE 81 [uV n cl rows,.ip (.ip (kV m l)),.ip (iL c)] (cls (qi m rows l++iF m rows 1 c)):=by
 have hf:=Dh m l n cl rows 1 c hk u.i u.lat u.b u.r hc;have ha:=TR m l n cl rows hkl u.i u.lat u.b u.r hl hcl;have hlen:([qi m rows l,iF m rows 1 c]:List (List Cl)).flatten.length≤1000000000:=by simp[qi,iF];omega
 have hcc:=wU [qi m rows l,iF m rows 1 c] hlen (by simp);rw[show([qi m rows l,iF m rows 1 c]:List (List Cl)).flatten=qi m rows l++iF m rows 1 c by simp]at hcc;have dK:V.dats [.ip (kV m l),V.agg [vi n,cls cl,cls rows],vi 1,iL c]=true:=by simp only[V.dats,V.dat,dO,fK,zre]
 have dA:V.dats [.ip (kV m l),V.agg [vi n,cls cl,cls rows]]=true:=by simp only[V.dats,V.dat,dO,zre]
 refine ak Tryz.func81 rfl (by simp[nts]) (vm ?_);simp only[wq.1,seval,Tryz.results81];refine⟨by decide +kernel,Ef.mk ha rfl dA ?_⟩;simp only[wq.1,seval,-Int.reduceNatCast,-Int.reduceNatCast'];refine Ef.mk hf rfl dK ?_;simp only[wq.1,↓reduceIte,Nat.reduceEqDiff,Nat.reduceLT,reduceCtorEq,Nat.reduceMul];refine⟨⟨rfl,by decide⟩,Ef.mk hcc rfl (by simp only[V.dats,V.dat,dO,zre]) ?_⟩;simp only[wq.1,seval];exact az.dat (by simp only[V.dat,dO])
def TS (s p:S):Bool:=decide (p.length≤s.length)&&(s.drop (s.length-p.length)==p)
def UF (s p:S):Bool:=decide (p.length≤s.length)&&(s.take p.length==p)
theorem Nv (s p:S):Ev TE 72 [.str s,.str p] (.bool (TS s p)):=by
 unfold TS;refine Ev.bnd fun hb=> ?_;have hM:maxLen=9223372036854775807:=rfl;have hls:s.length≤maxLen:=by simp only[V.bnds,V.bnd]at hb;exact hb.1
 refine ak Tryz.func72 rfl (by simp[nts]) (vm ?_);by_cases hle:p.length≤s.length
 ·have e1 : decide ((p.length : Int) ≤ (s.length : Int)) = true := by simpa using hle
  have e2:decide (p.length≤s.length)=true:=by simpa using hle
  have w1:IntKind.i64.wrap ((s.length:Int)-p.length)=((s.length-p.length:Nat):Int):=by rw[dN (by omega) (by omega)];omega
  have e3:s.length-(s.length-p.length)=p.length:=by omega
  simp only[wq.1,seval,Tryz.results72,e1,e2,w1];exact⟨⟨by omega,by omega⟩,az.dat rfl⟩
 ·have e1 : decide ((p.length : Int) ≤ (s.length : Int)) = false := by simpa using hle
  have e2:decide (p.length≤s.length)=false:=by simpa using hle
  simp only[wq.1,seval,Tryz.results72,e1,e2];exact az.dat rfl
theorem TT (s p:S):Ev TE 42 [.str s,.str p] (.bool (TS s p)):=by refine ak Tryz.func42 rfl (by simp[nts]) (vm ?_);simp only[wq.1,seval,Tryz.results42];refine ah.ev (Nv s p) rfl ?_;simp only[wq.1,seval];exact az.dat rfl
theorem Jh (s p:S):Ev TE 111 [.str s,.str p] (.bool (UF s p)):=by
 unfold UF;refine ak Tryz.func111 rfl (by simp[nts]) (vm ?_);by_cases hle:p.length≤s.length
 ·have e1 : decide ((p.length : Int) ≤ (s.length : Int)) = true := by simpa using hle
  have e2:decide (p.length≤s.length)=true:=by simpa using hle
  simp only[wq.1,seval,Tryz.results111,e1,e2];exact⟨⟨by omega,by omega⟩,az.dat rfl⟩
 ·have e1 : decide ((p.length : Int) ≤ (s.length : Int)) = false := by simpa using hle
  have e2:decide (p.length≤s.length)=false:=by simpa using hle
  simp only[wq.1,seval,Tryz.results111,e1,e2];exact az.dat rfl
theorem GZ (s p:S):Ev TE 76 [.str s,.str p] (.bool (UF s p)):=by refine ak Tryz.func76 rfl (by simp[nts]) (vm ?_);simp only[wq.1,seval,Tryz.results76];refine ah.ev (Jh s p) rfl ?_;simp only[wq.1,seval];exact az.dat rfl
structure Qn where
 part:Int
 clause:Int
 beg:Cl
 steps:Nat
 more:List Cl
def nN (m:Mo):Cl:=List.replicate m.lat.length 2
def qn0 (m:Mo) (i:Nat) (c:List Lt):Qn:=⟨0,i,m.g.init,0,iF m (eP m.g m.g.init 0) 0 c⟩
def qn1 (m:Mo) (l:List (List Lt)) (i:Nat) (c:List Lt):Qn:=⟨1,i,nN m,1,qi m (eP m.g (nN m) 1) l++iF m (eP m.g (nN m) 1) 1 c⟩
def qn2 (m:Mo) (l:List (List Lt)) (bad:Int):Qn:=⟨2,0,nN m,1,qi m (eP m.g (nN m) 1) l++[[CS (eP m.g (nN m) 1) 0 (m.g.outs.getD bad.toNat 0)]]⟩
def qns (m:Mo) (l:List (List Lt)) (bad:Int):List Qn :=
 ((List.range l.length).map fun i=>qn0 m i (l.getD i []))++(((List.range l.length).map fun i=>qn1 m l i (l.getD i []))++if 0≤bad then [qn2 m l bad]else [])
structure Ve where
 res:Int
 part:Int
 clause:Int
 state:List Bool
def Ve.z:Ve:=⟨0,0,0,[]⟩
abbrev Ve.v (v:Ve):V:= .agg [vi v.res,vi v.part,vi v.clause,aY v.state]
def Qn.cl (m:Mo) (q:Qn):List Cl:=(bV m.g q.beg q.steps).cl++q.more
def Qn.n (m:Mo) (q:Qn):Nat:=(bV m.g q.beg q.steps).n
def stK (m:Mo) (q:Qn) (vals:List Bool):List Bool:=m.lat.map fun s=>hol vals (qo m (eP m.g q.beg q.steps) 0 (s,false))
def VT (m:Mo) (bud:Int) (q:Qn) (r:Ve×Int):Prop :=
 (yw m.g q.beg q.steps≠0∧r=(Ve.z,yw m.g q.beg q.steps)) ∨
 (yw m.g q.beg q.steps=0∧((chk (q.cl m) (q.n m)≠0∧r=(Ve.z,chk (q.cl m) (q.n m))) ∨
  (chk (q.cl m) (q.n m)=0∧∃res vals ln,pY (q.cl m) (q.n m) (max bud 0) res vals ln∧r=(⟨res,q.part,q.clause,if res=1 then stK m q vals else []⟩,0))))
def Nw (r:Ve×Int):Prop:=r.2≠0∨r.1.res=1∨r.1.res=2
def DZ (m : Mo) (bud : Int) : List Qn → Ve × Int → Prop
 | [],r=>r=(Ve.z,0)
 | q::qs,r=>∃a,VT m bud q a∧((Nw a∧r=a)∨(¬Nw a∧DZ m bud qs r))
def jy (m:Mo) (l:List (List Lt)) (bad bud:Int) (r:Ve×Int):Prop :=
 if(bY m l).2≠0 then r=(Ve.z,(bY m l).2)
 else if bad< -1∨(m.out.length:Int)≤bad∨200<l.length then r=(Ve.z,1)
 else DZ m bud (qns m l bad) r
theorem Ny {g : Gr} {u : US} {j : Nat} (hj : j < u.lat.length) : ∀ {i : Nat},i ≤ g.ands.length → (u.ands g i).row.getD (1 + g.ins.toNat + j) 0 = u.lat.getD j 0
 | 0,_=>by
  show(-1::(CJ u.n g.ins.toNat++u.lat)).getD _ 0=_;rw[show 1+g.ins.toNat+j=(g.ins.toNat+j)+1 by omega,List.getD_cons_succ,zqg,List.getElem?_append_right (by simp[CJ]),←zqg]
  congr 1
  simp[CJ]
 | i+1,h=>by have hl:=dR (u:=u) (g:=g) (i:=i) (by omega);rw[dh (by omega)];show((u.ands g i).row++[_]).getD _ 0=_;rw[zqg,zqj (by omega),←zqg];exact Ny hj (by omega)
theorem TU {g:Gr} {lat zs:Cl} {j:Nat} (hj:j<lat.length):(qg g lat++zs).getD (1+g.ins.toNat+j) 0=lat.getD j 0:=by
 unfold qg;rw[List.cons_append,show 1+g.ins.toNat+j=(g.ins.toNat+j)+1 by omega,List.getD_cons_succ,zqc,zqg,List.getElem?_append_right (by simp),List.length_replicate,
  zqj (by omega),←zqg]
 congr 1
 omega
theorem Nz {g : Gr} {b : Cl} {t : Nat} : ∀ {k : Nat},t < k → (bV g b k).rows.getD t [] = ((bV g b t).ands g g.ands.length).row
 | k+1,h=>by
  show((bV g b k).rows++[_]).getD t []=_;by_cases e:t=k
  ·subst e;rw[zqg,List.getElem?_append_right (by rw[jM];exact zrb _),jM,Nat.sub_self];rfl
  ·rw[zqg,zqj (by rw[jM];omega),←zqg];exact Nz (by omega)
theorem G5 {g:Gr} {b:Cl} {t k:Nat} (h:t<k):(eP g b k).getD t []=((bV g b t).ands g g.ands.length).row:=by unfold eP;rw[zqg,zqj (by rw[jM];omega),←zqg,Nz h]
theorem NC {g:Gr} {b:Cl} {k:Nat}:(eP g b k).getD k []=qg g (bV g b k).lat++List.replicate g.ands.length 0:=by unfold eP;rw[zqg,List.getElem?_append_right (by rw[jM];exact zrb _),jM,Nat.sub_self];rfl
theorem wV {g:Gr} {b:Cl} {k:Nat}:(eP g b k).length=k+1:=by unfold eP;rw[zqa,jM];rfl
theorem Qb {g:Gr} {b:Cl} {t k j:Nat} (ok:∀t,USok g (bV g b t)) (h:t≤k) (hi:0≤g.ins) (hj:j<g.next.length):CS (eP g b k) t (2*(1+g.ins+j))=(bV g b t).lat.getD j 0:=by
 have hl:=(ok t).l;have e2:(2*(1+g.ins+(j:Int))/2).toNat=1+g.ins.toNat+j:=by omega
 have e3:¬(2*(1+g.ins+(j:Int))%2=1):=by omega
 have key:1+g.ins.toNat+j<((eP g b k).getD t []).length∧((eP g b k).getD t []).getD (1+g.ins.toNat+j) 0=(bV g b t).lat.getD j 0:=by
  by_cases e:t=k
  ·subst e;rw[NC];refine⟨?_,TU (by omega)⟩;simp only[qg,zqa,zrt,List.length_replicate];omega
  ·rw[G5 (by omega)];refine⟨?_,Ny (by omega) (zrb _)⟩;rw[dR (zrb _)];omega
 unfold CS;rw[Int.toNat_natCast,if_neg (by rw[wV];omega)];unfold sN;rw[if_neg e3,e2,key.2]
theorem Qc {m:Mo} {x:S} (hm:m.lat.length=m.g.next.length) (hk:dF m x=true):∃k:Nat,k<m.g.next.length∧l9 (ru m) x=k:=by obtain⟨k,h1,h2,_⟩:=Ad hk;exact⟨k,by omega,h2⟩
theorem Ae {m:Mo} {b:Cl} {t k:Nat} {vs:List Bool} {x:Lt} (ok:∀t,USok m.g (bV m.g b t)) (h:t≤k) (hi:0≤m.g.ins) (hm:m.lat.length=m.g.next.length) (hk:dF m x.1=true) :
 inU (bV m.g b t).n (qo m (eP m.g b k) t x)∧hol vs (qo m (eP m.g b k) t x)=C9 m ((bV m.g b t).lat.map (hol vs)) x:=by
 obtain⟨j,hj,hp⟩:=Qc hm hk;have hu:=Qb (k:=k) ok h hi hj;have hjl:j<(bV m.g b t).lat.length:=by rw[(ok t).l];exact hj
 have hin:=(ok t).lo _ (qY hjl);have e:((bV m.g b t).lat.map (hol vs)).getD j false=hol vs ((bV m.g b t).lat.getD j 0):=by rw[zqg,zqo,zqk hjl,iU hjl];rfl
 unfold qo C9;rw[hp,hu,Int.toNat_natCast,e];cases hx:x.2 with
 | false=>rw[if_neg (by decide)];exact⟨hin,by simp⟩
 | true=>rw[if_pos rfl];exact⟨hin.neg,by rw[iV hin.1];simp⟩
theorem Dn {m:Mo} {b:Cl} {t k:Nat} {vs:List Bool} (ok:∀t,USok m.g (bV m.g b t)) (h:t≤k) (hi:0≤m.g.ins) (hm:m.lat.length=m.g.next.length) {c:List Lt} (hk:∀x∈c,dF m x.1=true) :
 sat (iF m (eP m.g b k) t c) vs=iZ m ((bV m.g b t).lat.map (hol vs)) c:=by
 unfold sat iF iZ;rw[List.all_map,Bool.eq_iff_iff,zrs,Bool.not_eq_true',List.any_eq_false];refine forall_congr' fun x=>forall_congr' fun hx=> ?_;obtain⟨h1,h2⟩:=Ae (vs:=vs) ok h hi hm (hk x hx);show([-qo m (eP m.g b k) t x].any (hol vs))=true↔_;rw[List.any_cons,List.any_nil,Bool.or_false,iV h1.1,h2];cases C9 m _ x<;>simp
theorem G6 {m:Mo} {b:Cl} {k:Nat} {vs:List Bool} (ok:∀t,USok m.g (bV m.g b t)) (hi:0≤m.g.ins) (hm:m.lat.length=m.g.next.length) {l:List (List Lt)} (hk:∀c∈l,∀x∈c,dF m x.1=true) :
 sat (qi m (eP m.g b k) l) vs= !l.any (iZ m ((bV m.g b 0).lat.map (hol vs))):=by
 unfold sat qi;rw[List.all_map,Bool.eq_iff_iff,zrs,Bool.not_eq_true',List.any_eq_false];refine forall_congr' fun c=>forall_congr' fun hc=> ?_;have:(c.map (qo m (eP m.g b k) 0)).any (hol vs)=c.any (C9 m ((bV m.g b 0).lat.map (hol vs))):=by
  rw[List.any_map,Bool.eq_iff_iff,List.any_eq_true,List.any_eq_true];refine exists_congr fun x=>and_congr_right fun hx=> ?_;show hol vs (qo m _ ((0:Nat):Int) x)=true↔_;rw[(Ae (vs:=vs) ok (Nat.zero_le k) hi hm (hk c hc x hx)).2]
 show(c.map (qo m (eP m.g b k) 0)).any (hol vs)=true↔_;rw[this];unfold iZ;cases c.any _<;>simp
theorem wW {a b:List Cl} {vs:List Bool}:sat (a++b) vs=(sat a vs&&sat b vs):=by unfold sat;rw[List.all_append]
theorem iY {m:Mo} (h:m.chk=0):m.g.chk=0∧(m.ins.length:Int)=m.g.ins∧m.lat.length=m.g.next.length∧m.out.length=m.g.outs.length:=by
 unfold Mo.chk at h;split at h
 ·rename_i h1;exact absurd h h1
 ·rename_i h1;split at h
  ·cases h
  ·rename_i h2;simp only[Mo.lens,Bool.not_eq_true,Bool.or_eq_false_iff,bne_eq_false_iff_eq]at h2;exact⟨by omega,h2.1.1,by omega,by omega⟩
theorem Qd {l:List Cl} {n:Nat} (h:chk l n=0):DU l:=fun c hc b hb=>by obtain⟨h1,h2,h3,h4⟩:=oK h;have:=Ld (h4 c hc b hb);omega
theorem ND {l ln:List Cl} (h1:∀m (hm:m<ln.length),Bad (l++ln.take m) (zL ln[m])) (h2:Bad (l++ln) []):BF l ln=true:=by rw[yh (zrb _) fun k hk _=>BD (h1 k hk),zrx,List.drop_length];exact BD h2
theorem NE {l:List Cl} {n:Nat} {bud res:Int} {vals:List Bool} {ln:List Cl} (ok:pY l n bud res vals ln) (hr:res=0) (hl:DU l) (hn:n≤20000) (vs:List Bool):sat l vs=false:=by
 obtain⟨h1,h2,h3,h4,h5⟩:=ok;rcases h5 with⟨_,_,hb⟩ | ⟨e,_⟩ | ⟨e,_⟩
 ·refine vU hl (fun c hc a ha=> ?_) (ND h2 hb);have:=(h3 c hc).2.2 a ha;omega
 ·omega
 ·omega
theorem DZ.none {m : Mo} {bud : Int} : ∀ {qs : List Qn} {r : Ve × Int},DZ m bud qs r → r.2 = 0 → r.1.res = 0 → ∀ q ∈ qs,yw m.g q.beg q.steps = 0 ∧ ∀ vs,sat (q.cl m) vs = false
 | [],_,_,_,_,q,hq=>by cases hq
 | q0::qs,r,⟨a,ha,hs⟩,h0,h1,q,hq=>by
  rcases hs with⟨hs,rfl⟩ | ⟨hs,hr⟩
  ·rcases hs with hs | hs | hs
   ·exact absurd h0 hs
   ·omega
   ·omega
  ·rcases zrj.1 hq with rfl | hq
   ·unfold Nw at hs;rcases ha with ⟨h,rfl⟩ | ⟨h,⟨h2,rfl⟩ | ⟨h2,res,vals,ln,ok,rfl⟩⟩
    ·exact absurd (.inl h) hs
    ·exact absurd (.inl h2) hs
    ·refine⟨h,fun vs=> ?_⟩;have hres:res=0:=by
      rcases ok.2.2.2.2 with h | h | h
      ·exact h.1
      ·exact absurd (.inr (.inl h.1)) hs
      ·exact absurd (.inr (.inr h.1)) hs
     have hv:=oK h2;exact NE ok hres (Qd h2) (by omega) vs
   ·exact DZ.none hr h0 h1 q hq
theorem NF : ∀ {n : Nat} {st : List Bool},st.length = n → stM (List.replicate n 2) st
 | 0,[],_=>trivial
 | n+1,b::st,h=>⟨.inl rfl,NF (by simpa using h)⟩
 | 0,_::_,h=>by cases h
 | _+1,[],h=>by cases h
theorem sZ {m:Mo}:∀x∈nN m,0≤x∧x≤2:=fun x hx=>by rw[List.eq_of_mem_replicate hx];omega
theorem WW {m:Mo} (hm:m.chk=0) {i:Nat} {c:List Lt} (hk:∀x∈c,dF m x.1=true) (hun:∀vs,sat ((qn0 m i c).cl m) vs=false) {st:List Bool} (hst:stM m.g.init st):iZ m st c=false:=by obtain⟨hg,hi,hl,ho⟩:=iY hm;obtain⟨_,i0,i1,i2,i3,i4,i5⟩:=fE hg;obtain⟨r1,r2,r3,r4⟩:=fM i4;have ok:=qZ hg r1 r2;obtain⟨vs,v1,v2,v3,v4,v5,v6⟩:=oz hg r1 r2 hst (seq:=[]) (by simp) 0 (zrb _);have:=hun vs;rw[show(qn0 m i c).cl m=(bV m.g m.g.init 0).cl++iF m (eP m.g m.g.init 0) ((0:Nat):Int) c from rfl,wW,v3,Bool.true_and,Dn ok (zrb 0) i0 hl hk,v6]at this;exact this
theorem G7 {m:Mo} (hm:m.chk=0) {st x:List Bool} (hst:st.length=m.lat.length) (hx:x.length=m.g.ins.toNat):∃vs,sat (bV m.g (nN m) 1).cl vs=true∧(bV m.g (nN m) 0).lat.map (hol vs)=st∧(bV m.g (nN m) 1).lat.map (hol vs)=nx m.g st x∧((bV m.g (nN m) 0).ands m.g m.g.ands.length).row.map (hol vs)=m.g.vals st x:=by
 obtain⟨hg,hi,hl,ho⟩:=iY hm;have hb:(nN m).length=m.g.next.length:=by unfold nN;rw[List.length_replicate];exact hl
 obtain⟨vs,v1,v2,v3,v4,v5,v6⟩:=oz hg hb sZ (NF hst) (seq:=[x]) (by simpa using hx) 1 (zrb _);refine⟨vs,v3,v4,v6,?_⟩;have e:(bV m.g (nN m) 1).rows=[((bV m.g (nN m) 0).ands m.g m.g.ands.length).row]:=rfl;rw[e]at v5;have v5:[((bV m.g (nN m) 0).ands m.g m.g.ands.length).row.map (hol vs)]=[m.g.vals st x]:=v5;exact List.head_eq_of_cons_eq v5
theorem WX {m : Mo} (hm : m.chk = 0) {l : List (List Lt)} {i : Nat} {c : List Lt} (hkl : ∀ c ∈ l,∀ x ∈ c,dF m x.1 = true) (hk : ∀ x ∈ c,dF m x.1 = true) (hun : ∀ vs,sat ((qn1 m l i c).cl m) vs = false) {st x : List Bool}
 (hst:st.length=m.lat.length) (hx:x.length=m.g.ins.toNat) (hall:l.any (iZ m st)=false):iZ m (nx m.g st x) c=false:=by
 obtain⟨hg,hi,hl,ho⟩:=iY hm;obtain⟨_,i0,i1,i2,i3,i4,i5⟩:=fE hg;have hb:(nN m).length=m.g.next.length:=by unfold nN;rw[List.length_replicate];exact hl
 have ok:=qZ hg hb sZ;obtain⟨vs,v1,v2,v3,v4⟩:=G7 hm hst hx;have:=hun vs;rw[show(qn1 m l i c).cl m=(bV m.g (nN m) 1).cl++(qi m (eP m.g (nN m) 1) l++iF m (eP m.g (nN m) 1) ((1:Nat):Int) c)from rfl,wW,wW,v1,Bool.true_and,Dn ok (zrb 1) i0 hl hk,G6 ok i0 hl hkl,v2,v3,hall]at this;simpa using this
theorem WY {m : Mo} (hm : m.chk = 0) {l : List (List Lt)} {bad : Int} (hkl : ∀ c ∈ l,∀ x ∈ c,dF m x.1 = true) (b0 : 0 ≤ bad) (b1 : bad < m.out.length) (hun : ∀ vs,sat ((qn2 m l bad).cl m) vs = false) {st x : List Bool}
 (hst:st.length=m.lat.length) (hx:x.length=m.g.ins.toNat) (hall:l.any (iZ m st)=false):lv (m.g.vals st x) (m.g.outs.getD bad.toNat 0)=false:=by
 obtain⟨hg,hi,hl,ho⟩:=iY hm;obtain⟨_,i0,i1,i2,i3,i4,i5⟩:=fE hg;obtain⟨r1,r2,r3,r4⟩:=fM i4;have hb:(nN m).length=m.g.next.length:=by unfold nN;rw[List.length_replicate];exact hl
 have ok:=qZ hg hb sZ;obtain⟨vs,v1,v2,v3,v4⟩:=G7 hm hst hx;have:=hun vs;have ha:=r4 _ (qY (row:=m.g.outs) (k:=bad.toNat) (by omega));obtain⟨a,hae⟩:∃a,a=m.g.outs.getD bad.toNat 0:=⟨_,rfl⟩;rw[←hae]at ha ⊢;have wf:m.g.first=1+m.g.ins+m.g.next.length:=rfl
 have wa:m.g.all=2*(m.g.first+m.g.ands.length):=rfl;have uok:=iK hg (ok 0) (zrb m.g.ands.length);have hlen:=dR (u:=bV m.g (nN m) 0) (g:=m.g) (zrb m.g.ands.length);have hlt:=(ok 0).l;have hlu:CS (eP m.g (nN m) 1) 0 a=sN ((bV m.g (nN m) 0).ands m.g m.g.ands.length).row a:=by have e0:=G5 (g:=m.g) (b:=nN m) (t:=0) (k:=1) (by decide);unfold CS;rw[show(0:Int).toNat=0 from rfl,e0,if_neg (by rw[wV];omega)]
 rw[show(qn2 m l bad).cl m=(bV m.g (nN m) 1).cl++(qi m (eP m.g (nN m) 1) l++[[CS (eP m.g (nN m) 1) 0 (m.g.outs.getD bad.toNat 0)]])from rfl,←hae,hlu,wW,wW,v1,Bool.true_and,G6 ok i0 hl hkl,v2,hall]at this;have h2:hol vs (sN ((bV m.g (nN m) 0).ands m.g m.g.ands.length).row a)=false:=by simpa [sat]using this
 rw[uF uok.r ha.1 (by omega),v4]at h2;exact h2
def m0:Mo:=⟨⟨0,[2],[0],[],[2]⟩,[],[[113]],[[122]]⟩
def Ap:List (List Lt):=[[([113],true)]]
theorem Dp {m:Mo} {bud:Int} {q:Qn} {r:Ve×Int} (h:VT m bud q r) (hc:yw m.g q.beg q.steps=0) (hk:chk (q.cl m) (q.n m)=0) (hn:q.n m≤2) (hb:9<bud) :
 ∃res vals ln,pY (q.cl m) (q.n m) (max bud 0) res vals ln∧r=(⟨res,q.part,q.clause,if res=1 then stK m q vals else []⟩,0)∧((res=0∧vals=[])∨(res=1∧vals.length=q.n m∧sat (q.cl m) vals=true)):=by
 rcases h with⟨h,_⟩ | ⟨_,⟨h,_⟩ | ⟨_,res,vals,ln,ok,rfl⟩⟩
 ·exact absurd hc h
 ·exact absurd hk h
 ·refine ⟨res,vals,ln,ok,rfl,?_⟩;obtain ⟨h1,h2,h3,h4,h5⟩ := ok;have h9 : (3 : Nat) ^ (q.n m) ≤ 3 ^ 2 := Nat.pow_le_pow_right (by decide) hn;rcases h5 with h | h | h
  ·exact .inl ⟨h.1,h.2.1⟩
  ·exact .inr h
  ·have:=h.2.2;omega
theorem NG {m:Mo} {bud:Int} {q:Qn} {r:Ve×Int} (h:VT m bud q r) (hc:yw m.g q.beg q.steps=0) (hk:chk (q.cl m) (q.n m)=0) (hn:q.n m≤2) (hb:9<bud) (hu:∀vs,sat (q.cl m) vs=false):¬Nw r:=by
 obtain⟨res,vals,ln,ok,rfl,h | h⟩:=Dp h hc hk hn hb
 ·rintro (h2 | h2 | h2)
  ·exact h2 rfl
  ·have h2:res=1:=h2;omega
  ·have h2:res=2:=h2;omega
 ·rw[hu]at h;cases h.2.2
theorem Af {m:Mo} {bud:Int} {q:Qn} {qs:List Qn} {r:Ve×Int} (h:DZ m bud (q::qs) r) (hc:yw m.g q.beg q.steps=0) (hk:chk (q.cl m) (q.n m)=0) (hn:q.n m≤2) (hb:9<bud) (hu:∀vs,sat (q.cl m) vs=false):DZ m bud qs r:=by
 obtain⟨a,ha,⟨hs,_⟩ | ⟨_,hr⟩⟩:=h
 ·exact absurd hs (NG ha hc hk hn hb hu)
 ·exact hr
theorem VU:(qn0 m0 0 [([113],true)]).cl m0=[[1],[-1]]:=by decide +kernel
theorem VV:(qn1 m0 Ap 0 [([113],true)]).cl m0=[[1],[-2],[2]]:=by decide +kernel
theorem VW:(qn2 m0 Ap 0).cl m0=[[1],[-2],[2]]:=by decide +kernel
theorem VX:(qn2 m0 [] 0).cl m0=[[1],[2]]:=by decide +kernel
theorem VY:qns m0 Ap 0=[qn0 m0 0 [([113],true)],qn1 m0 Ap 0 [([113],true)],qn2 m0 Ap 0]:=rfl
theorem VZ:qns m0 [] 0=[qn2 m0 [] 0]:=rfl
theorem Xo (vs:List Bool):sat [[1],[-1]] vs=false:=by have h1:hol vs (-1)= !hol vs 1:=iV (by decide);simp only[sat,List.all_cons,List.all_nil,List.any_cons,List.any_nil,h1];cases hol vs 1<;>rfl
theorem Xg (vs:List Bool):sat [[1],[-2],[2]] vs=false:=by have h1:hol vs (-2)= !hol vs 2:=iV (by decide);simp only[sat,List.all_cons,List.all_nil,List.any_cons,List.any_nil,h1];cases hol vs 1<;>cases hol vs 2<;>rfl
theorem TV {r:Ve×Int} (h:DZ m0 1099511627776 (qns m0 Ap 0) r):r=(Ve.z,0):=by rw[VY]at h;have h:=Af h (by decide +kernel) (by decide +kernel) (by decide +kernel) (by decide) (fun vs=>by rw[VU];exact Xo vs);have h:=Af h (by decide +kernel) (by decide +kernel) (by decide +kernel) (by decide) (fun vs=>by rw[VV];exact Xg vs);exact Af h (by decide +kernel) (by decide +kernel) (by decide +kernel) (by decide) (fun vs=>by rw[VW];exact Xg vs)
theorem TW {r:Ve×Int} (h:DZ m0 1099511627776 (qns m0 [] 0) r):r=(⟨1,2,0,[true]⟩,0):=by
 rw[VZ]at h;obtain⟨a,ha,hs⟩:=h;have hq:=VX;have hn:(qn2 m0 [] 0).n m0=2:=by decide +kernel
 obtain⟨res,vals,ln,ok,rfl,h | h⟩:=Dp ha (by decide +kernel) (by decide +kernel) (by rw[hn];decide) (by decide)
 ·have:=NE ok h.1 (by rw[hq];intro c hc b hb;simp only[zrj,zrp,or_false]at hc;rcases hc with rfl | rfl<;>(simp only[zrj,zrp,or_false]at hb;subst hb;omega)) (by rw[hn];decide) [true,true];rw[hq]at this;exact absurd this (by decide)
 ·obtain⟨h1,h2,h3⟩:=h;subst h1;rw[hn]at h2;rw[hq]at h3;have hst:stK m0 (qn2 m0 [] 0) vals=[true]:=by
   have e:qo m0 (eP m0.g (qn2 m0 [] 0).beg (qn2 m0 [] 0).steps) 0 ([113],false)=2:=by decide +kernel
   show [hol vals (qo m0 (eP m0.g (qn2 m0 [] 0).beg (qn2 m0 [] 0).steps) 0 ([113],false))]=[true];rw[e];have:hol vals 1=true∧hol vals 2=true:=by simpa [sat]using h3
   rw[this.2]
  rcases hs with⟨_,rfl⟩ | ⟨hs,_⟩
  ·rw[if_pos rfl,hst];rfl
  ·exact absurd (.inr (.inl rfl)) hs
def Aq (c : UInt8) : S → List S
 | []=>[[]]
 | x::s=>if x=c then []::Aq c s else match Aq c s with
  | w::ws=>(x::w)::ws
  | []=>[[x]]
def D5 (c : UInt8) : S → List S
 | []=>[[]]
 | x::s=>if x=c then [x]::D5 c s else match D5 c s with
  | w::ws=>(x::w)::ws
  | []=>[[x]]
def o8 : List S → Int → List Lt → List Lt × Int × Int
 | [],_,c=>(c,0,0)
 | w::ws,a,c=>if w.headD 0≠43∧w.headD 0≠45 then([],a,2)else if bK w.tail=false then([],a+1,4)else o8 ws (a+w.length+1) (c++[(w.tail,w.headD 0==45)])
def tq (s:S):List Lt×Int×Int:=if s=[]then([],0,0)else o8 (Aq 32 s) 0 []
def lw : List S → Int → List (List Lt) → List (List Lt) × Int × Int
 | [],_,l=>(l,0,0)
 | t::ts,a,l=>if t=[]then(l,0,0)else if(tq (t.take (t.length-1))).2.2≠0 then([],a+(tq (t.take (t.length-1))).2.1,(tq (t.take (t.length-1))).2.2)else lw ts (a+t.length) (l++[(tq (t.take (t.length-1))).1])
def ry (s:S):List (List Lt)×Int×Int:=if s≠[]∧TS s [10]=false then([],s.length,2)else lw (D5 10 s) 0 []
def xJ (c:List Lt):S:=Lib.join (c.map Nk) [32]++[10]
def okC (c:List Lt):Bool:=c.all fun x=>bK x.1
def wX (l:List (List Lt)):S×Int:=if l.all okC=true then(l.flatMap xJ,0)else([],4)
theorem Dq {c : UInt8} : ∀ {s : S},c ∉ s → Aq c s = [s]
 | [],_=>rfl
 | x::s,h=>by simp only[zrj,not_or]at h;rw[Aq,if_neg (fun e=>h.1 e.symm),Dq h.2]
theorem G8 {c : UInt8} {r : S} : ∀ {w : S},c ∉ w → Aq c (w ++ c :: r) = w :: Aq c r
 | [],_=>by rw[List.nil_append,Aq,if_pos rfl]
 | x::w,h=>by simp only[zrj,not_or]at h;rw[List.cons_append,Aq,if_neg (fun e=>h.1 e.symm),G8 h.2]
theorem Dt {c : UInt8} : ∀ {s : S},c ∉ s → D5 c s = [s]
 | [],_=>rfl
 | x::s,h=>by simp only[zrj,not_or]at h;rw[D5,if_neg (fun e=>h.1 e.symm),Dt h.2]
theorem G9 {c : UInt8} {r : S} : ∀ {w : S},c ∉ w → D5 c (w ++ c :: r) = (w ++ [c]) :: D5 c r
 | [],_=>by rw[List.nil_append,D5,if_pos rfl];rfl
 | x::w,h=>by simp only[zrj,not_or]at h;rw[List.cons_append,D5,if_neg (fun e=>h.1 e.symm),G9 h.2];rfl
theorem Ha {c : UInt8} : ∀ {s : S},c ∈ s → ∃ w r,s = w ++ c :: r ∧ c ∉ w
 | x::s,h=>by
  by_cases e:x=c
  ·exact⟨[],s,by rw[e];rfl,by simp⟩
  ·have:c∈s:=by
    rcases zrj.1 h with h | h
    ·exact absurd h.symm e
    ·exact h
   obtain⟨w,r,h1,h2⟩:=Ha this;exact⟨x::w,r,by rw[h1];rfl,by simp only[zrj,not_or];exact⟨fun h=>e h.symm,h2⟩⟩
theorem Ji {w v:S} {ws:List S} {c:UInt8}:Lib.join (w::v::ws) [c]=w++c::Lib.join (v::ws) [c]:=by rw[Lib.join_cons,Lib.join_cons];show w++(([c]++v)++_)=_;simp[Lib.joinTail]
end Go.Proofs.YtmlacppmbfbjgaaGreatDoor
