/- Lemmas for this claim, part F11: each holds under what it names. -/
import Derived.Test.YtmlacppmbfbjgaaGreatDoorTF10
import Derived.Test.YtmlacppmbfbjgaaGreatDoorTA8
set_option linter.unusedVariables false
set_option linter.unusedSimpArgs false
set_option linter.unnecessarySimpa false
set_option maxRecDepth 20000
set_option maxHeartbeats 4000000
namespace Go.Proofs.YtmlacppmbfbjgaaGreatDoor
open Go Go.Proofs Go.Abs
theorem EY {l : List S} : ∀ i,i ≤ l.length → ∀ v ∈ (kK l i).2,0 ≤ v ∧ v < i
 | 0,_,v,hv=>by simp[kK]at hv
 | i+1,hi,v,hv=>by
  simp only[kK,QW]at hv;split at hv
  ·rcases List.mem_or_eq_of_mem_set hv with hv | hv
   ·have:=EY i (by omega) v hv;omega
   ·subst hv;simp;omega
  ·rcases zrf.1 hv with hv | hv
   ·have:=EY i (by omega) v hv;omega
   ·have : v = i := by simpa using hv
    subst this;omega
theorem Ar {l:List S} {s:S} (h:(at? (kK l l.length).1 s).isSome=true):∃k:Nat,k<l.length∧lY (kK l l.length) s=k∧∃n,at? (kK l l.length).1 s=some n∧∃hn:n<(kK l l.length).2.length,(kK l l.length).2[n]=k:=by
 obtain⟨n,hn⟩:=Option.isSome_iff_exists.1 h;obtain⟨h1,h2⟩:=og hn;have hl:=(MZ l l.length (zrb _)).len;have h3:n<(kK l l.length).2.length:=by omega
 have hv:=EY l.length (zrb _) _ (zqu h3);refine⟨((kK l l.length).2[n]).toNat,by omega,?_,n,hn,h3,by omega⟩;unfold lY;rw[hn];simp only[zqg,zqk h3,Option.getD_some];omega
def Dk (m:Mo) (st:List Bool) (x:Lt):Bool:=st.getD (lY (qX m) x.1).toNat false != x.2
def yJ (m:Mo) (st:List Bool) (c:List Lt):Bool:= !c.any (Dk m st)
def kJ (m:Mo) (l:List (List Lt)) (st:List Bool):Bool×Int :=
 if(bK m l).2≠0 then(false,(bK m l).2)else if st.length≠m.lat.length then(false,11)else(!l.any (yJ m st),0)
theorem G6 {c:List Lt} {r:List V} (hb:V.bnds (fH c::r)):c.length≤maxLen:=by simp only[V.bnds,V.bnd,zra]at hb;exact hb.1.1
theorem iT : ∀ l : List Bool,V.dats (l.map V.bool) = true
 | []=>rfl
 | a::l=>by show(V.dat (.bool a)&&V.dats (l.map V.bool))=true;rw[iT l];rfl
theorem VB (m:Mo) (st:List Bool) (x:Lt) (hk:fJ m x.1=true) (hl:st.length=m.lat.length):Ev TE 30 [D5 x,.ip (eP st),.ip (imV (qX m))] (.bool (Dk m st x)):=by
 obtain⟨k,hk1,hk2,n,hn,hn2,hn3⟩:=Ar hk;have hg:((qX m).2.map (V.int .i64)).getD n .any=vi k:=by rw[fK hn2,hn3]
 have hs:(st.map V.bool).getD k .any= .bool (st.getD k false):=by rw[fK (by omega)];congr 1;rw[zqg,zqk (by omega)];rfl
 unfold Dk;rw[hk2,Int.toNat_natCast];refine ai Tryz.func30 rfl (by simp[nts]) (vm ?_);simp only[wq.1,seval,Tryz.results30,imV,ui,jd,K.keyOk,hn,hg,hs];exact⟨by decide +kernel,⟨by omega,by omega⟩,aG rfl (by cases st.getD k false<;>cases x.2<;>rfl)⟩
theorem Tt (c:List Lt) (q:FuncId) (caps:List V) (p:Lt→Bool) (he:aj P q=true) (hd:V.dats caps=true) (hq:∀x∈c,Ev TE q (D5 x::caps) (.bool (p x))):Ev TE 61 [fH c,.fn (.func q) [] caps] (vi (idx c p)):=by
 refine Ev.bnd fun hb=> ?_;have hlen:=G6 hb;refine ai Tryz.func61 rfl (by simp[nts]) (vm ?_);simp only[wq.1,seval,Tryz.results61];refine aB (fun m f h=>∃i,m+i=c.length∧f.t 0=fH c∧f.t 1= .fn (.func q) [] caps∧f.t 7= .int .i64 (c.length:Int)∧f.t 8= .int .i64 (i:Int)∧f.d=[]∧∀x∈c.take i,p x=false) c.length ⟨0,by simp,rfl,rfl,rfl,rfl,rfl,by simp⟩ ?_;rintro m f h ⟨i,hm,h0,h1,h7,h8,hdd,hall⟩;refine vm ?_;simp only[wq.1,seval,h7,h8];refine vcB.mk (fun hc=> ?_) (fun hc=> ?_)
 ·simp only [zqb,zqi] at hc;simp only [wq.1,seval,h0,h1,h8,pY hc,he];refine ⟨⟨by omega,by omega⟩,ah.ev (hq _ (zqu _)) (by simp [V.dats,V.dat,hd]) ?_⟩;simp only [wq.1,seval];refine vcB.mk (fun hc' => ?_) (fun hc' => ?_)
  ·simp only[wq.1,seval,hdd];rw[jk hc hall hc'];exact az.dat rfl
  ·simp only[wq.1,seval,h8,aA (show i<maxLen by omega)];exact .inl ⟨m-1,by omega,i+1,by omega,h0,h1,h7,rfl,hdd,aK hc hall hc'⟩
 ·simp only[zqd,zqi]at hc;simp only[wq.1,seval,hdd];rw[zqh (by omega)]at hall;rw[iP hall];exact az.dat rfl
theorem Tu (c:List Lt) (q:FuncId) (caps:List V) (p:Lt→Bool) (he:aj P q=true) (hd:V.dats caps=true) (hq:∀x∈c,Ev TE q (D5 x::caps) (.bool (p x))):Ev TE 32 [fH c,.fn (.func q) [] caps] (.bool (c.any p)):=by refine ai Tryz.func32 rfl (by simp[nts]) (vm ?_);simp only[wq.1,seval,Tryz.results32];refine ah.ev (Tt c q caps p he hd hq) (by simp[V.dats,V.dat,hd,eu]) ?_;simp only[wq.1,seval];exact aG rfl (by rw[pK])
theorem Nk {l:List (List Lt)} {r:List V} (hb:V.bnds (lss l::r)):l.length≤maxLen:=by simp only[V.bnds,V.bnd,zra]at hb;exact hb.1.1
theorem Tv (c:List (List Lt)) (q:FuncId) (caps:List V) (p:List Lt→Bool) (he:aj P q=true) (hd:V.dats caps=true) (hq:∀x∈c,Ev TE q (fH x::caps) (.bool (p x))):Ev TE 62 [lss c,.fn (.func q) [] caps] (vi (idx c p)):=by
 refine Ev.bnd fun hb=> ?_;have hlen:=Nk hb;refine ai Tryz.func62 rfl (by simp[nts]) (vm ?_);simp only[wq.1,seval,Tryz.results62];refine aB (fun m f h=>∃i,m+i=c.length∧f.t 0=lss c∧f.t 1= .fn (.func q) [] caps∧f.t 7= .int .i64 (c.length:Int)∧f.t 8= .int .i64 (i:Int)∧f.d=[]∧∀x∈c.take i,p x=false) c.length ⟨0,by simp,rfl,rfl,rfl,rfl,rfl,by simp⟩ ?_;rintro m f h ⟨i,hm,h0,h1,h7,h8,hdd,hall⟩;refine vm ?_;simp only[wq.1,seval,h7,h8];refine vcB.mk (fun hc=> ?_) (fun hc=> ?_)
 ·simp only [zqb,zqi] at hc;simp only [wq.1,seval,h0,h1,h8,oN hc,he];refine ⟨⟨by omega,by omega⟩,ah.ev (hq _ (zqu _)) (by simp [V.dats,V.dat,hd,eu]) ?_⟩;simp only [wq.1,seval];refine vcB.mk (fun hc' => ?_) (fun hc' => ?_)
  ·simp only[wq.1,seval,hdd];rw[jk hc hall hc'];exact az.dat rfl
  ·simp only[wq.1,seval,h8,aA (show i<maxLen by omega)];exact .inl ⟨m-1,by omega,i+1,by omega,h0,h1,h7,rfl,hdd,aK hc hall hc'⟩
 ·simp only[zqd,zqi]at hc;simp only[wq.1,seval,hdd];rw[zqh (by omega)]at hall;rw[iP hall];exact az.dat rfl
theorem Tz (c:List (List Lt)) (q:FuncId) (caps:List V) (p:List Lt→Bool) (he:aj P q=true) (hd:V.dats caps=true) (hq:∀x∈c,Ev TE q (fH x::caps) (.bool (p x))):Ev TE 33 [lss c,.fn (.func q) [] caps] (.bool (c.any p)):=by refine ai Tryz.func33 rfl (by simp[nts]) (vm ?_);simp only[wq.1,seval,Tryz.results33];refine ah.ev (Tv c q caps p he hd hq) (by simp[V.dats,V.dat,hd,(dV c).1]) ?_;simp only[wq.1,seval];exact aG rfl (by rw[pK])
def EZ (m:Mo) (st:List Bool):V:= .fn (.func 30) [] [.ip (eP st),.ip (imV (qX m))]
theorem VC (m:Mo) (st:List Bool) (c:List Lt) (hk:∀x∈c,fJ m x.1=true) (hl:st.length=m.lat.length):Ev TE 31 [fH c,.ip (EZ m st)] (.bool (yJ m st c)):=by unfold EZ yJ;refine ai Tryz.func31 rfl (by simp[nts]) (vm ?_);simp only[wq.1,seval,Tryz.results31];refine ah.ev (Tu c 30 [.ip (eP st),.ip (imV (qX m))] (Dk m st) rfl (by simp[V.dats,V.dat,imV,bV,kH]) fun x hx=>VB m st x (hk x hx) hl) (by simp[V.dats,V.dat,imV,bV,kH,eu]) ?_;simp only[wq.1,seval];exact az.dat rfl
theorem Dl (m:Mo) (hs:m.g.Sm) (l:List (List Lt)) (st:List Bool) (hlat:m.lat.length≤1000000) (hl:l.length≤1000000) (hc:∀c∈l,c.length≤1000000) (hst:st.length≤1000000):Ev TE 12 [m.v,lss l,eP st] (.tup [.bool (kJ m l st).1,vi (kJ m l st).2]):=by
 have hM:maxLen=9223372036854775807:=rfl;have hpl:=yI m hs l hlat hl hc;have hbad:(bK m l).2=0→m.chk=0∧jo m l=true∧(bK m l).1=imV (qX m):=fun h=>by
  unfold bK at h ⊢;split at h
  ·rename_i hz;exact absurd h hz
  ·rename_i hz;rw [if_neg hz];split at h
   ·rename_i hk;rw[if_pos hk];exact⟨by simpa using hz,hk,rfl⟩
   ·cases h
 have hnil:(bK m l).2≠0→(bK m l).1= .nilm:=fun h=>by
  unfold bK at h ⊢;split at h
  ·rename_i hz;rw[if_pos hz]
  ·rename_i hz;rw [if_neg hz];split at h
   ·exact absurd rfl h
   ·rename_i hk;rw[if_neg hk]
 obtain⟨pv,hpv⟩:∃pv,pv=bK m l:=⟨_,rfl⟩;unfold kJ;rw[←hpv]at hpl hbad hnil ⊢;obtain⟨p1,p2⟩:=pv;unfold Mo.v at hpl ⊢;have da:V.dats [V.agg [vi m.g.ins,aH m.g.next,aH m.g.init,prs m.g.ands,aH m.g.outs,bF m.ins,bF m.lat,bF m.out],lss l]=true:=by simp only[V.dats,V.dat,(dV l).1,zre]
 refine ai Tryz.func12 rfl (by simp[nts]) ?_;refine ag (vm ?_);simp only[wq.1,seval,Tryz.results12];by_cases hz:p2=0
 ·obtain ⟨hm0,hkn,rfl⟩ := hbad hz;rw [if_neg (fun h => h hz)];subst hz;refine ag (vm ?_);simp only [wq.1,seval];refine ah.ev hpl da ?_;simp only [wq.1,seval,imV];refine ag (vm ?_);simp only [wq.1,seval];refine ag (vm ?_);simp only [wq.1,seval];refine vcB.mk (fun hl2 => ?_) (fun hl2 => ?_)
  ·have hl2 : st.length ≠ m.lat.length := by simpa [Int.natCast_inj] using hl2
   rw[if_pos hl2];simp only[wq.1,seval];exact az.tup (ak.cons (az.dat rfl) (ak.cons (az.dat rfl) ak.nil))
  ·have hl2 : st.length = m.lat.length := by simpa [Int.natCast_inj] using hl2
   rw[if_neg (fun h=>h hl2)];simp only[wq.1];have hkn2:∀c∈l,∀x∈c,fJ m x.1=true:=fun c hc x hx=>zrs.1 (zrs.1 hkn c hc) x hx;have dH:V.dat (EZ m st)=true:=by simp only[EZ,imV,V.dat,V.dats,bV,kH,zre]
   have hct:=Tz l 31 [.ip (EZ m st)] (yJ m st) rfl (by simp only[V.dats,V.dat,dH,zre]) fun c hc=>VC m st c (hkn2 c hc) hl2;refine ag (vm ?_);simp only[wq.1,seval];refine ag (vm ?_);simp only[wq.1,seval];refine vm ?_;simp only[wq.1,seval];have dI:V.dat (.im ((qX m).1.map V.str) ((qX m).2.map (V.int .i64)))=true:=by simp only[V.dat,bV,kH,zre]
   refine ah.lend hct (ak.cons (az.dat (by simp only[V.dat,(dV l).1])) (ak.cons (az.fn ak.nil (ak.cons (az.lp (cs':=[EZ m st]) rfl (ak.cons (az.fn ak.nil (ak.cons (az.lp rfl (ak.dat (by simp only[V.dats,V.dat,iT,zre])) rfl (by simp only[V.dat,iT]) (by simp[V.vc]) rfl) (ak.cons (az.lp rfl (ak.dat (by simp only[V.dats,dI,zre])) rfl dI (by show 0<1;decide) rfl) ak.nil))) ak.nil) rfl dH (by simp[EZ,V.vc]) rfl) ak.nil)) ak.nil)) rfl ?_;simp only[wq.1,seval];exact az.tup (ak.cons (az.dat rfl) (ak.cons (az.dat rfl) ak.nil))
 ·obtain rfl:=hnil hz;rw[if_pos hz];refine ag (vm ?_);simp only[wq.1,seval];refine ah.ev hpl da ?_;simp only[wq.1,seval];refine ag (vm ?_);simp only[wq.1,seval];refine vcB.mk (fun _=> ?_) (fun h=>absurd (by simpa using h) hz);simp only[wq.1,seval];exact az.tup (ak.cons (az.dat rfl) (ak.cons (az.dat rfl) ak.nil))
abbrev kV (m:Mo) (l:List (List Lt)):V:= .agg [vi m.g.ins,aH m.g.next,aH m.g.init,prs m.g.ands,aH m.g.outs,bF m.ins,bF m.lat,bF m.out,lss l,imV (qX m)]
abbrev uV (n:Int) (cl rows:List Cl):V:= .agg [vi n,cls cl,cls rows]
def tJ (m:Mo) (rows:List Cl) (t:Int) (x:Lt):Int:=if x.2 then -GN rows t (2*(1+m.g.ins+lY (qX m) x.1))else GN rows t (2*(1+m.g.ins+lY (qX m) x.1))
theorem Nl {rows:List Cl} (hb:∀r∈rows,∀x∈r,-1000000≤x∧x≤1000000) (t a:Int):-1000000≤GN rows t a∧GN rows t a≤1000000:=by
 unfold GN;split
 ·omega
 ·rename_i h;have h1 : t.toNat < rows.length := by omega
  have h2:(a/2).toNat<(rows.getD t.toNat []).length:=by omega
  have hm:rows.getD t.toNat []∈rows:=by rw[iD h1];exact zqu h1
  have:=hb _ hm _ (Af h2);unfold xO;split<;>omega
theorem dM : ∀ l : List Cl,V.dats (l.map fun c => aH c) = true
 | []=>rfl
 | a::l=>by simp only[zrd,V.dats,V.dat,dM l,vM,zre]
theorem E5 (m:Mo) (l:List (List Lt)) (n:Int) (cl rows:List Cl) (t:Int) (x:Lt) (hk:fJ m x.1=true) (hi:0≤m.g.ins∧m.g.ins≤4000) (hlat:m.lat.length≤4000) (hb:∀r∈rows,∀x∈r,-1000000≤x∧x≤1000000) (hr:rows.length≤1000) :
 Ev TE 88 [.ip (kV m l),uV n cl rows,vi t,D5 x] (vi (tJ m rows t x)):=by
 have hM:maxLen=9223372036854775807:=rfl;obtain⟨k,hk1,hk2,w,hw,hw2,hw3⟩:=Ar hk;have hg:((qX m).2.map (V.int .i64)).getD w .any=vi k:=by rw[fK hw2,hw3]
 have hcl:=MQ n cl rows t (2*(1+m.g.ins+k)) hb (by omega) hr;have hbd:=Nl hb t (2*(1+m.g.ins+k));unfold tJ;rw[hk2];have w1:IntKind.i64.wrap (1+m.g.ins)=1+m.g.ins:=dh (by omega) (by omega);have w2:IntKind.i64.wrap (1+m.g.ins+k)=1+m.g.ins+k:=dh (by omega) (by omega);have w3:IntKind.i64.wrap (2*(1+m.g.ins+k))=2*(1+m.g.ins+k):=dh (by omega) (by omega);obtain⟨a,ha⟩:∃a,a=GN rows t (2*(1+m.g.ins+k)):=⟨_,rfl⟩;rw[←ha]at hcl hbd ⊢;have w4:IntKind.i64.wrap (-a)=-a:=dh (by omega) (by omega);have w5:IntKind.i64.wrap (0-a)=-a:=by rw[Int.zero_sub];exact w4
 refine ai Tryz.func88 rfl (by simp[nts]) (vm ?_);simp only[wq.1,seval,Tryz.results88,imV,ui,jd,K.keyOk,hw,hg,w1,w2,w3];have dU:V.dats [V.agg [vi n,cls cl,cls rows],vi t,vi (2*(1+m.g.ins+k))]=true:=by simp only[V.dats,V.dat,(dM _),zre]
 refine⟨by decide +kernel,ul.mk hcl rfl dU ?_⟩;cases hx:x.2 with
 | true=>simp only[wq.1,seval,w5];exact az.dat rfl
 | false=>simp only[wq.1,seval];exact az.dat rfl
def je (m:Mo) (rows:List Cl) (t:Int) (c:List Lt):List Cl:=c.map fun x=>[-tJ m rows t x]
theorem Jj {m:Mo} {rows:List Cl} {t:Int} {c:List Lt} {i:Nat} (h:i<c.length):je m rows t (c.take (i+1))=je m rows t (c.take i)++[[-tJ m rows t c[i]]]:=by unfold je;rw[zrg,zqk h,zql];rfl
theorem Dn {m:Mo} {rows:List Cl} {t:Int} {c:List Lt} {i:Nat} (h:i≤c.length):(je m rows t (c.take i)).length=i:=by unfold je;simp;omega
theorem TA {m:Mo} {rows:List Cl} (hb:∀r∈rows,∀x∈r,-1000000≤x∧x≤1000000) (t:Int) (x:Lt):-1000000≤tJ m rows t x∧tJ m rows t x≤1000000:=by have:=Nl hb t (2*(1+m.g.ins+lY (qX m) x.1));unfold tJ;split<;>omega
theorem Dp (m:Mo) (l:List (List Lt)) (n:Int) (cl rows:List Cl) (t:Int) (c:List Lt) (hk:∀x∈c,fJ m x.1=true) (hi:0≤m.g.ins∧m.g.ins≤4000) (hlat:m.lat.length≤4000) (hb:∀r∈rows,∀x∈r,-1000000≤x∧x≤1000000) (hr:rows.length≤1000) (hc:c.length≤1000000) :
 Ev TE 80 [.ip (kV m l),uV n cl rows,vi t,fH c] (cls (je m rows t c)):=by
 have hM:maxLen=9223372036854775807:=rfl;refine ai Tryz.func80 rfl (by simp[nts]) ?_;refine ag (vm ?_);simp only[wq.1,Nat.reduceLT,Tryz.results80];refine ag (vm ?_);simp only[wq.1,Nat.reduceLT];refine dC 9 1 (by simp only[wq.1,↓reduceIte]) ?_;refine ag (vm ?_);simp only[wq.1,seval];refine aB (fun q f h=>∃(i:Nat) (X:H),q+i=c.length∧f.t 0= .ip (kV m l)∧f.t 2=vi t∧f.t 5= .lp 0 0∧f.t 9= .ls 1 1 0 i i∧f.t 12=fH c∧f.t 13=vi c.length∧f.t 14=vi i∧f.d=[]∧h=[.cells [vi n,cls cl,cls rows],.cells ((je m rows t (c.take i)).map xC)]++X) c.length ⟨0,[],by omega,by simp only[wq.1,seval],by simp only[wq.1,seval],by simp only[wq.1,seval],by simp only[wq.1,seval],by simp only[wq.1,seval],by simp only[wq.1,seval],rfl,by simp only[wq.1],rfl⟩ ?_;rintro q f h ⟨i,X,hq,t0,t2,t5,t9,t12,t13,t14,hd,rfl⟩;refine dY (by rw[hd];simp) ?_;have cl1:([O.cells [vi n,cls cl,cls rows],O.cells ((je m rows t (c.take i)).map xC)]:H).map (O.drop (aT ([O.cells [vi n,cls cl,cls rows],O.cells ((je m rows t (c.take i)).map xC)]:H).length))=[.cells [vi n,cls cl,cls rows],.cells ((je m rows t (c.take i)).map xC)]:=by show [O.cells [_,_,_],O.cells (V.drops _ _)]=_;rw[ng];rfl
 rw[cl1];refine ag (vm ?_);simp only[wq.1,seval,t13,t14];refine ag (bG (b:=decide ((i:Int)<c.length)) (by simp only[wq.1,↓reduceIte]) (by simp only[wq.1,↓reduceIte]) (fun hlt=> ?_) (fun hlt=> ?_))
 ·simp only [zqb,zqi] at hlt;have hw := aA (show i < maxLen by omega);have hgc := pY hlt .any;have hsu := Jj (m := m) (rows := rows) (t := t) hlt;have hkx := hk _ (zqu hlt);have hfl := Dn (m := m) (rows := rows) (t := t) (c := c) (i := i) (by omega);obtain ⟨x,hx⟩ : ∃ x,x = c[i] := ⟨_,rfl⟩;rw [← hx] at hgc hsu hkx;have hkl := E5 m l n cl rows t x hkx hi hlat hb hr;have hbd := TA (m := m) hb t x;obtain ⟨a,ha⟩ : ∃ a,a = tJ m rows t x := ⟨_,rfl⟩;rw [← ha] at hkl hbd hsu;have w4 : IntKind.i64.wrap (-a) = -a := dh (by omega) (by omega);have w5 : IntKind.i64.wrap (0 - a) = -a := by rw [Int.zero_sub];exact w4
  have hel:((je m rows t (c.take i)).map xC).length=i*1:=by rw[zra];omega
  have dcs:∀p,V.drops p ((je m rows t (c.take i)).map xC)=(je m rows t (c.take i)).map xC:=fun p=>ng _;refine vm ?_;simp only[wq.1];refine vm ?_;simp only[wq.1,seval,t0,t2,t5,t9,t12,t14,hgc,aT];have dK:V.dats [.ip (kV m l),V.agg [vi n,cls cl,cls rows],vi t,V.agg [V.str x.1,V.bool x.2]]=true:=by simp only[V.dats,V.dat,dM,zre]
  refine⟨⟨by omega,by omega⟩,ah.ev hkl dK ?_⟩;simp only[wq.1,↓reduceIte,Nat.reduceEqDiff,Nat.reduceLT,Nat.reduceLeDiff,Nat.reduceAdd,Nat.reduceSub,Int.reduceToNat,Nat.reduceDiv,Int.reduceLT,Int.reduceLE,Int.reduceNeg,Int.reduceBEq,Int.reduceBNe,Int.reduceAdd,Int.reduceSub,Nat.reduceBEq,reduceCtorEq,Nat.reduceMul,ax,Tryz.results80,aX,t0,t2,t5,t9,t12,t13,t14,hd,aT,w4,w5,hw,hel,dcs];refine⟨⟨rfl,by decide⟩,⟨rfl,by decide⟩,⟨by omega,by omega,by omega⟩,.inl ⟨q-1,by omega,i+1,[.cells [.str x.1,.bool x.2]],by omega,by simp only[wq.1,↓reduceIte,Nat.reduceEqDiff,Nat.reduceLT,Nat.reduceLeDiff,Nat.reduceAdd,Nat.reduceSub,Int.reduceToNat,Nat.reduceDiv,Int.reduceLT,Int.reduceLE,Int.reduceNeg,Int.reduceBEq,Int.reduceBNe,Int.reduceAdd,Int.reduceSub,Nat.reduceBEq,reduceCtorEq,Nat.reduceMul,ax,Tryz.results80,t0],by simp only[wq.1,↓reduceIte,Nat.reduceEqDiff,Nat.reduceLT,Nat.reduceLeDiff,Nat.reduceAdd,Nat.reduceSub,Int.reduceToNat,Nat.reduceDiv,Int.reduceLT,Int.reduceLE,Int.reduceNeg,Int.reduceBEq,Int.reduceBNe,Int.reduceAdd,Int.reduceSub,Nat.reduceBEq,reduceCtorEq,Nat.reduceMul,ax,Tryz.results80,t2],by simp only[wq.1,↓reduceIte,Nat.reduceEqDiff,Nat.reduceLT,Nat.reduceLeDiff,Nat.reduceAdd,Nat.reduceSub,Int.reduceToNat,Nat.reduceDiv,Int.reduceLT,Int.reduceLE,Int.reduceNeg,Int.reduceBEq,Int.reduceBNe,Int.reduceAdd,Int.reduceSub,Nat.reduceBEq,reduceCtorEq,Nat.reduceMul,ax,Tryz.results80,t5,aT],by simp only[wq.1,↓reduceIte,Nat.reduceEqDiff,Nat.reduceLT,Nat.reduceLeDiff,Nat.reduceAdd,Nat.reduceSub,Int.reduceToNat,Nat.reduceDiv,Int.reduceLT,Int.reduceLE,Int.reduceNeg,Int.reduceBEq,Int.reduceBNe,Int.reduceAdd,Int.reduceSub,Nat.reduceBEq,reduceCtorEq,Nat.reduceMul,ax,Tryz.results80],by simp only[wq.1,↓reduceIte,Nat.reduceEqDiff,Nat.reduceLT,Nat.reduceLeDiff,Nat.reduceAdd,Nat.reduceSub,Int.reduceToNat,Nat.reduceDiv,Int.reduceLT,Int.reduceLE,Int.reduceNeg,Int.reduceBEq,Int.reduceBNe,Int.reduceAdd,Int.reduceSub,Nat.reduceBEq,reduceCtorEq,Nat.reduceMul,ax,Tryz.results80,t12],by simp only[wq.1,↓reduceIte,Nat.reduceEqDiff,Nat.reduceLT,Nat.reduceLeDiff,Nat.reduceAdd,Nat.reduceSub,Int.reduceToNat,Nat.reduceDiv,Int.reduceLT,Int.reduceLE,Int.reduceNeg,Int.reduceBEq,Int.reduceBNe,Int.reduceAdd,Int.reduceSub,Nat.reduceBEq,reduceCtorEq,Nat.reduceMul,ax,Tryz.results80,t13],by simp only[wq.1,↓reduceIte,Nat.reduceEqDiff,Nat.reduceLT,Nat.reduceLeDiff,Nat.reduceAdd,Nat.reduceSub,Int.reduceToNat,Nat.reduceDiv,Int.reduceLT,Int.reduceLE,Int.reduceNeg,Int.reduceBEq,Int.reduceBNe,Int.reduceAdd,Int.reduceSub,Nat.reduceBEq,reduceCtorEq,Nat.reduceMul,ax,Tryz.results80],by simp only[wq.1,↓reduceIte,Nat.reduceEqDiff,Nat.reduceLT,Nat.reduceLeDiff,Nat.reduceAdd,Nat.reduceSub,Int.reduceToNat,Nat.reduceDiv,Int.reduceLT,Int.reduceLE,Int.reduceNeg,Int.reduceBEq,Int.reduceBNe,Int.reduceAdd,Int.reduceSub,Nat.reduceBEq,reduceCtorEq,Nat.reduceMul,ax,Tryz.results80,hd],?_⟩⟩;rw[hsu,zql];rfl
 ·simp only [zqd,zqi] at hlt;have : i = c.length := by omega
  subst this;rw[zrx];have hfl:=Dn (m:=m) (rows:=rows) (t:=t) (c:=c) (i:=c.length) (zrb _);rw[zrx]at hfl;refine vm ?_;simp only[wq.1];refine vm ?_;simp only[wq.1,seval,t9,hd,aT];exact az.ls rfl (uA _) (kG _).1 (kG _).2 (by rw[zra];exact hfl.symm)
def sK (m:Mo) (rows:List Cl) (l:List (List Lt)):List Cl:=l.map fun c=>c.map (tJ m rows 0)
abbrev hKa (n:Int) (cl rows:List Cl) (out:List Cl):H:=[.cells [vi n,cls cl,cls rows],.cells (out.map fun c=>aH c)]
abbrev hKb (n:Int) (cl rows:List Cl) (out:List Cl) (d:Cl):H:=[.cells [vi n,cls cl,cls rows],.cells (out.map fun c=>aH c),.cells (d.map vi)]
theorem lZ {p : Nat → Bool} : ∀ l : List Cl,V.drops p (l.map fun c => aH c) = l.map fun c => aH c
 | []=>rfl
 | a::l=>by show V.drop p (aH a)::V.drops p (l.map fun c=>aH c)=_;rw[lZ l];rfl
theorem Dq {h:H} {id len cap:Nat} {l:List Cl} (hc:h[id]? =some (.cells (l.map fun c=>aH c))) (hl:len=l.length):az TE h (.ls id 1 0 len cap) (cls l) :=
 az.ls hc (ak.dat (dM _)) (kG _).1 (kG _).2 (by rw[zra];exact hl)
theorem G7 (m:Mo) (l:List (List Lt)) (n:Int) (cl rows:List Cl) (hk:∀c∈l,∀x∈c,fJ m x.1=true) (hi:0≤m.g.ins∧m.g.ins≤4000) (hlat:m.lat.length≤4000) (hb:∀r∈rows,∀x∈r,-1000000≤x∧x≤1000000) (hr:rows.length≤1000) (hl:l.length≤1000000) (hc:∀c∈l,c.length≤1000000) :
 EvF TE 83 [.ip (kV m l),uV n cl rows] 1 l.length ((sK m rows l).map fun c=>aH c):=by
 have hM:maxLen=9223372036854775807:=rfl;unfold EvF;refine au Tryz.func83 rfl (by simp[nts]) ?_;refine ag (vm ?_);simp only[wq.1,Nat.reduceLT,Tryz.results83];refine ag (vm ?_);simp only[wq.1,Nat.reduceLT];refine dC 5 1 (by simp only[wq.1,↓reduceIte]) ?_;refine ag (vm ?_);simp only[wq.1,seval];refine aB (fun q f h=>∃(i:Nat) (X:H),q+i=l.length∧f.t 0= .ip (kV m l)∧f.t 3= .lp 0 0∧f.t 5= .ls 1 1 0 i i∧f.t 14=lss l∧f.t 15=vi l.length∧f.t 16=vi i∧f.d=[]∧h=hKa n cl rows (sK m rows (l.take i))++X) l.length ⟨0,[],by omega,by simp only[wq.1,seval],by simp only[wq.1,seval],by simp only[wq.1,seval],by simp only[wq.1,seval],by simp only[wq.1,seval],rfl,by simp only[wq.1],rfl⟩ ?_;rintro q f h ⟨i,X,hq,t0,t3,t5,t14,t15,t16,hd,rfl⟩;refine dY (by rw[hd];simp) ?_;have cl1:∀out:List Cl,(hKa n cl rows out).map (O.drop (aT (hKa n cl rows out).length))=hKa n cl rows out:=fun out=>by show [O.cells [_,_,_],O.cells (V.drops _ _)]=_;rw[lZ];rfl
 rw[cl1];have hol:(sK m rows (l.take i)).length=min i l.length:=by unfold sK;simp
 refine ag (vm ?_);simp only[wq.1,seval,t15,t16];refine ag (bG (b:=decide ((i:Int)<l.length)) (by simp only[wq.1,↓reduceIte]) (by simp only[wq.1,↓reduceIte]) (fun hlt=> ?_) (fun hlt=> ?_))
 ·simp only[zqb,zqi]at hlt;have hw:=aA (show i<maxLen by omega);have hgl:=oN hlt .any;have hcl:=hc _ (zqu hlt);have hkc:=hk _ (zqu hlt);have hsu:sK m rows (l.take (i+1))=sK m rows (l.take i)++[l[i].map (tJ m rows 0)]:=by
   unfold sK;rw[zrg,zqk hlt,zql];rfl
  obtain⟨c,hce⟩:∃c,c=l[i]:=⟨_,rfl⟩;rw[←hce]at hgl hcl hkc hsu;obtain⟨outs,hos⟩:∃outs,outs=sK m rows (l.take i):=⟨_,rfl⟩;rw[←hos]at hsu hol ⊢;have hol:outs.length=i:=by omega
  refine vm ?_;simp only[wq.1];refine ag (aC ?_);refine ag (vm ?_);simp only[wq.1,seval,t14,t16,hgl];refine⟨⟨by omega,by omega⟩,?_⟩;refine ag (vm ?_);simp only[wq.1,Nat.reduceLT];refine dC 8 1 (by simp only[wq.1,↓reduceIte]) ?_;refine ag (vm ?_);simp only[wq.1,seval,hd,aT];refine aB (fun q' f h=>∃(j:Nat) (Y:H),q'+j=c.length∧f.t 0= .ip (kV m l)∧f.t 3= .lp 0 0∧f.t 5= .ls 1 1 0 i i∧f.t 8= .ls 2 1 0 j j∧f.t 14=lss l∧f.t 15=vi l.length∧f.t 16=vi i∧f.t 20=fH c∧f.t 21=vi c.length∧f.t 22=vi j∧f.d=[]∧h=hKb n cl rows outs ((c.take j).map (tJ m rows 0))++Y) c.length ⟨0,[],by omega,by simp only[wq.1,seval,t0],by simp only[wq.1,seval,t3,aT],by simp only[wq.1,seval,t5,aT],by simp only[wq.1,seval],by simp only[wq.1,seval,t14],by simp only[wq.1,seval,t15],by simp only[wq.1,seval,t16],by simp only[wq.1,seval],by simp only[wq.1,seval],rfl,by simp only[wq.1],rfl⟩ ?_;clear t0 t3 t5 t14 t15 t16 hd f;rintro q' f h ⟨j,Y,hq',t0,t3,t5,t8,t14,t15,t16,t20,t21,t22,hd,rfl⟩;refine dY (by rw[hd];simp) ?_;have cl2:∀d:Cl,(hKb n cl rows outs d).map (O.drop (aT (hKb n cl rows outs d).length))=hKb n cl rows outs d:=fun d=>by
   show [O.cells [_,_,_],O.cells (V.drops _ _),O.cells (V.drops _ _)]=_;rw[lZ,bD];rfl
  rw[cl2];have dos:∀p,V.drops p (outs.map fun c=>aH c)=outs.map fun c=>aH c:=fun p=>lZ _;refine ag (vm ?_);simp only[wq.1,seval,t21,t22];refine ag (bG (b:=decide ((j:Int)<c.length)) (by simp only[wq.1,↓reduceIte]) (by simp only[wq.1,↓reduceIte]) (fun hlt2=> ?_) (fun hlt2=> ?_))
  ·simp only[zqb,zqi]at hlt2;have hw2:=aA (show j<maxLen by omega);have hgc:=pY hlt2 .any;have hkx:=hkc _ (zqu hlt2);have hsd:(c.take (j+1)).map (tJ m rows 0)=(c.take j).map (tJ m rows 0)++[tJ m rows 0 c[j]]:=by
    rw[zrg,zqk hlt2,zql];rfl
   obtain⟨x,hx⟩:∃x,x=c[j]:=⟨_,rfl⟩;rw[←hx]at hgc hkx hsd;have hkl:=E5 m l n cl rows 0 x hkx hi hlat hb hr;have dK:V.dats [.ip (kV m l),V.agg [vi n,cls cl,cls rows],vi 0,V.agg [V.str x.1,V.bool x.2]]=true:=by simp only[V.dats,V.dat,dM,zre]
   have hdl:((c.take j).map (tJ m rows 0)).length=j:=by simp;omega
   obtain⟨ds,hds⟩:∃ds,ds=(c.take j).map (tJ m rows 0):=⟨_,rfl⟩;rw[←hds]at hsd hdl ⊢;have hel:(ds.map vi).length=j*1:=by rw[zra];omega
   have dcs:∀p,V.drops p (ds.map vi)=ds.map vi:=fun p=>bD _;refine vm ?_;simp only[wq.1];refine vm ?_;simp only[wq.1,seval,t0,t3,t8,t20,t22,hgc,aT];refine⟨⟨by omega,by omega⟩,ah.ev hkl dK ?_⟩;simp only[wq.1,↓reduceIte,Nat.reduceEqDiff,Nat.reduceLT,reduceCtorEq,Nat.reduceMul,t22,hd,hw2,dcs,dos];refine⟨⟨rfl,by decide⟩,⟨by omega,by omega,by omega⟩,.inl ⟨q'-1,by omega,j+1,[.cells [.str x.1,.bool x.2]],by omega,by simp only[wq.1,↓reduceIte,Nat.reduceEqDiff,Nat.reduceLT,Nat.reduceLeDiff,Nat.reduceAdd,Nat.reduceSub,Int.reduceToNat,Nat.reduceDiv,Int.reduceLT,Int.reduceLE,Int.reduceNeg,Int.reduceBEq,Int.reduceBNe,Int.reduceAdd,Int.reduceSub,Nat.reduceBEq,reduceCtorEq,Nat.reduceMul,ax,Tryz.results83,t0],by simp only[wq.1,↓reduceIte,Nat.reduceEqDiff,Nat.reduceLT,Nat.reduceLeDiff,Nat.reduceAdd,Nat.reduceSub,Int.reduceToNat,Nat.reduceDiv,Int.reduceLT,Int.reduceLE,Int.reduceNeg,Int.reduceBEq,Int.reduceBNe,Int.reduceAdd,Int.reduceSub,Nat.reduceBEq,reduceCtorEq,Nat.reduceMul,ax,Tryz.results83,t3,aT],by simp only[wq.1,↓reduceIte,Nat.reduceEqDiff,Nat.reduceLT,Nat.reduceLeDiff,Nat.reduceAdd,Nat.reduceSub,Int.reduceToNat,Nat.reduceDiv,Int.reduceLT,Int.reduceLE,Int.reduceNeg,Int.reduceBEq,Int.reduceBNe,Int.reduceAdd,Int.reduceSub,Nat.reduceBEq,reduceCtorEq,Nat.reduceMul,ax,Tryz.results83,t5,aT],by simp only[wq.1,↓reduceIte,Nat.reduceEqDiff,Nat.reduceLT,Nat.reduceLeDiff,Nat.reduceAdd,Nat.reduceSub,Int.reduceToNat,Nat.reduceDiv,Int.reduceLT,Int.reduceLE,Int.reduceNeg,Int.reduceBEq,Int.reduceBNe,Int.reduceAdd,Int.reduceSub,Nat.reduceBEq,reduceCtorEq,Nat.reduceMul,ax,Tryz.results83],by simp only[wq.1,↓reduceIte,Nat.reduceEqDiff,Nat.reduceLT,Nat.reduceLeDiff,Nat.reduceAdd,Nat.reduceSub,Int.reduceToNat,Nat.reduceDiv,Int.reduceLT,Int.reduceLE,Int.reduceNeg,Int.reduceBEq,Int.reduceBNe,Int.reduceAdd,Int.reduceSub,Nat.reduceBEq,reduceCtorEq,Nat.reduceMul,ax,Tryz.results83,t14],by simp only[wq.1,↓reduceIte,Nat.reduceEqDiff,Nat.reduceLT,Nat.reduceLeDiff,Nat.reduceAdd,Nat.reduceSub,Int.reduceToNat,Nat.reduceDiv,Int.reduceLT,Int.reduceLE,Int.reduceNeg,Int.reduceBEq,Int.reduceBNe,Int.reduceAdd,Int.reduceSub,Nat.reduceBEq,reduceCtorEq,Nat.reduceMul,ax,Tryz.results83,t15],by simp only[wq.1,↓reduceIte,Nat.reduceEqDiff,Nat.reduceLT,Nat.reduceLeDiff,Nat.reduceAdd,Nat.reduceSub,Int.reduceToNat,Nat.reduceDiv,Int.reduceLT,Int.reduceLE,Int.reduceNeg,Int.reduceBEq,Int.reduceBNe,Int.reduceAdd,Int.reduceSub,Nat.reduceBEq,reduceCtorEq,Nat.reduceMul,ax,Tryz.results83,t16],by simp only[wq.1,↓reduceIte,Nat.reduceEqDiff,Nat.reduceLT,Nat.reduceLeDiff,Nat.reduceAdd,Nat.reduceSub,Int.reduceToNat,Nat.reduceDiv,Int.reduceLT,Int.reduceLE,Int.reduceNeg,Int.reduceBEq,Int.reduceBNe,Int.reduceAdd,Int.reduceSub,Nat.reduceBEq,reduceCtorEq,Nat.reduceMul,ax,Tryz.results83,t20],by simp only[wq.1,↓reduceIte,Nat.reduceEqDiff,Nat.reduceLT,Nat.reduceLeDiff,Nat.reduceAdd,Nat.reduceSub,Int.reduceToNat,Nat.reduceDiv,Int.reduceLT,Int.reduceLE,Int.reduceNeg,Int.reduceBEq,Int.reduceBNe,Int.reduceAdd,Int.reduceSub,Nat.reduceBEq,reduceCtorEq,Nat.reduceMul,ax,Tryz.results83,t21],by simp only[wq.1,↓reduceIte,Nat.reduceEqDiff,Nat.reduceLT,Nat.reduceLeDiff,Nat.reduceAdd,Nat.reduceSub,Int.reduceToNat,Nat.reduceDiv,Int.reduceLT,Int.reduceLE,Int.reduceNeg,Int.reduceBEq,Int.reduceBNe,Int.reduceAdd,Int.reduceSub,Nat.reduceBEq,reduceCtorEq,Nat.reduceMul,ax,Tryz.results83],by simp only[wq.1,↓reduceIte,Nat.reduceEqDiff,Nat.reduceLT,Nat.reduceLeDiff,Nat.reduceAdd,Nat.reduceSub,Int.reduceToNat,Nat.reduceDiv,Int.reduceLT,Int.reduceLE,Int.reduceNeg,Int.reduceBEq,Int.reduceBNe,Int.reduceAdd,Int.reduceSub,Nat.reduceBEq,reduceCtorEq,Nat.reduceMul,ax,Tryz.results83,hd],?_⟩⟩;rw[hsd,zql];rfl
  ·simp only [zqd,zqi] at hlt2;have : j = c.length := by omega
   subst this;rw[zrx];obtain⟨ds,hds⟩:∃ds,ds=c.map (tJ m rows 0):=⟨_,rfl⟩;have hdl:ds.length=c.length:=by rw[hds];simp
   rw[←hds]at hsu ⊢;refine vm ?_;simp only[wq.1];show awp _ _ _ _ _ _ _;refine nX 2 8 (aH ds) (by simp only[wq.1,seval,t8,aT]) (by simp only[wq.1,seval,t8,aT];exact qR (by show some (O.cells (V.drops _ (ds.map vi)))=_;rw[bD]) hdl.symm) (by simp only[wq.1,hd]) ?_;rw[show iV (·==2) 0 (hKb n cl rows outs ds)=[.cells [vi n,cls cl,cls rows],.cells (outs.map fun c=>aH c),.dead] by simp[iV,O.drop,V.drops,V.drop,dos]];refine mJ (fun f'=>f'.t 0= .ip (kV m l)∧f'.t 3= .lp 0 0∧f'.t 5= .ls 1 1 0 i i∧f'.t 8=aH ds∧f'.t 14=lss l∧f'.t 15=vi l.length∧f'.t 16=vi i∧f'.d=[]) _ (fun hk=>hk _ ⟨by simp only[wq.1,seval,t0],by simp only[wq.1,seval,t3,aT],by simp only[wq.1,seval,t5,aT],by simp only[wq.1,↓reduceIte],by simp only[wq.1,seval,t14],by simp only[wq.1,seval,t15],by simp only[wq.1,seval,t16],hd⟩) ?_;clear t0 t3 t5 t8 t14 t15 t16 t20 t21 t22 hd f;rintro f ⟨t0,t3,t5,t8,t14,t15,t16,hd⟩;have hel:(outs.map fun c=>aH c).length=i*1:=by rw[zra];omega
   refine vm ?_;simp only[wq.1,↓reduceIte,Nat.reduceEqDiff,Nat.reduceLT,reduceCtorEq,Nat.reduceMul,t5,t8,hd,dos];refine⟨⟨rfl,by decide⟩,⟨by omega,by omega,by omega⟩,?_⟩;refine vm ?_;simp only[wq.1,seval,t16,hw];refine .inl ⟨q-1,by omega,i+1,[.dead],by omega,by simp only[wq.1,seval,t0],by simp only[wq.1,seval,t3],by simp only[wq.1,seval],by simp only[wq.1,seval,t14],by simp only[wq.1,seval,t15],by simp only[wq.1,↓reduceIte],hd,by rw[hsu,zql];rfl⟩
 ·simp only [zqd,zqi] at hlt;have : i = l.length := by omega
  subst this;rw[zrx]at hol ⊢;refine vm ?_;simp only[wq.1];refine vm ?_;simp only[wq.1,seval,t5,hd,aT];exact .inr ⟨1,_,rfl,zrb _,rfl⟩
theorem TB (m:Mo) (l:List (List Lt)) (n:Int) (cl rows:List Cl) (hk:∀c∈l,∀x∈c,fJ m x.1=true) (hi:0≤m.g.ins∧m.g.ins≤4000) (hlat:m.lat.length≤4000) (hb:∀r∈rows,∀x∈r,-1000000≤x∧x≤1000000) (hr:rows.length≤1000) (hl:l.length≤1000000) (hc:∀c∈l,c.length≤1000000) :
 Ev TE 83 [.ip (kV m l),uV n cl rows] (cls (sK m rows l)):=by
 refine(G7 m l n cl rows hk hi hlat hb hr hl hc).ev (fun _ h=> ?_) (fun h' id cap _ hid=>Dq hid (by unfold sK;simp)) (fun _ h h'=> ?_)
 ·rw[List.map_eq_nil_iff.1 h];exact iZ
 ·rw[List.map_eq_nil_iff.1 h];exact az.nils
theorem E8 (n : Nat) (hn : n ≤ 1000000000) (h : H) (R : AEnd → H → (Nat → Bool) → Prop) (hr0 : n = 0 → R (.ret .nils) h (fun _ => false))
 (hr:0<n→R (.ret (.ls h.length 1 0 0 n)) (h++[.cells (List.replicate n (.nils))]) (fun _=>false)):ah TE 113 [.nils,vi n] h R:=by
 refine au Tryz.func113 rfl (by simp[nts]) ?_;refine ag (vm ?_);simp only[wq.1,Nat.reduceLT,Tryz.results113];refine ag ?_;refine vm ?_;simp only[wq.1,seval];refine vcB.mk (fun hc=> ?_) (fun hc=> ?_)
 ·simp only[zqb]at hc;omega
 simp only[wq.1];refine ag (ag (gK ?_));refine aF rfl rfl ?_;simp only[wq.1,seval];refine aF rfl rfl ?_;simp only[wq.1,seval];refine eH rfl rfl ?_;have hq:ti TE.P 144=some ⟨.slice 150,1,24,.nils⟩:=by simp only[wq.1]
 have hqe:ti TE.P 150=some ⟨.slice 3,1,24,.nils⟩:=by simp only[wq.1]
 have hqi:ti TE.P 3=some ⟨.int .i64,1,8,.int .i64 0⟩:=by simp only[wq.1]
 refine kM (t:=144) rfl rfl hq rfl trivial rfl ?_;refine aF rfl rfl ?_;simp only[wq.1,seval];refine aF rfl rfl ?_;simp only[wq.1,↓reduceIte];refine aF rfl rfl ?_;simp only[wq.1,seval];refine aF rfl rfl ?_;simp only[wq.1,seval];refine aF rfl rfl ?_;simp only[wq.1,↓reduceIte];have w0:IntKind.i64.wrap 0=0:=by decide
 have w1:IntKind.i64.wrap ((n:Int)-0)=n:=by rw[Int.sub_zero];exact dh (by omega) (by omega)
 refine gq ?_;simp only[wq.1,w0,w1];refine ag ?_;refine vm ?_;simp only[wq.1,seval];refine bG (b:=decide ((0:Int)<n)) (by simp only[wq.1,↓reduceIte]) (by simp only[wq.1,↓reduceIte]) (fun hb=> ?_) (fun hb=> ?_)
 ·have hpos : 0 < n := by simp only [zqb] at hb;omega
  refine gK ?_;refine aF rfl rfl ?_;simp only[wq.1,seval];refine aF rfl rfl ?_;simp only[wq.1,seval];refine eH rfl rfl ?_;refine kM (t:=144) rfl rfl hq rfl trivial rfl ?_;refine eH rfl rfl ?_;refine oV rfl hq rfl hqe (by simp only[wq.1,seval]) (by simp only[wq.1,seval]) (by simp only[wq.1,↓reduceIte]) (k:= .i64) (by simp only[wq.1,↓reduceIte]) ?_;refine aF rfl rfl ?_;simp only[wq.1,seval];refine eH rfl rfl ?_;refine nV (x:= .tmp 20) (y:= .tmp 21) (t:=144) (xt:=3) (el:=150) ⟨⟨_,rfl,rfl,rfl⟩,hq,rfl,hqe,rfl,rfl,Nat.zero_lt_one⟩ (by simp only[wq.1,seval]) (by simp only[wq.1,↓reduceIte]) (by simp only[wq.1,seval]) (by simp only[wq.1,↓reduceIte]) hqi rfl hpos (by omega) ?_ rfl (zv:= .nils) rfl ?_
  ·show n*24≤_;omega
  refine aF rfl rfl ?_;simp only[wq.1,seval];refine aF rfl rfl ?_;simp only[wq.1,↓reduceIte];refine aF rfl rfl ?_;simp only[wq.1,seval];refine⟨by omega,?_⟩;refine aF rfl rfl ?_;simp only[wq.1,↓reduceIte];refine gq ?_;simp only[wq.1];refine vm ?_;simp only[wq.1,seval];exact hr hpos
 ·have : n = 0 := by simp only [zqd] at hb;omega
  refine vm ?_;simp only[wq.1];refine vm ?_;simp only[wq.1,seval];exact hr0 this
def VD (n:Nat) (c:List Cl) (v:V) (h:H):Prop :=
 (c=[]∧v= .nils∧h=[]∧n=0)∨(c.length≤n∧v= .ls 0 1 0 c.length n∧h=[.cells (c.map (fun c:Cl=>aH c)++List.replicate (n-c.length) (.nils))])
theorem Np (n:Nat) (hn:n≤1000000000) (R:AEnd→H→(Nat→Bool)→Prop) (hr:∀v h,VD n [] v h→R (.ret v) h (fun _=>false)):ah TE 113 [.nils,vi n] [] R :=
 E8 n hn [] R (fun hz=>hr _ _ (.inl ⟨rfl,rfl,rfl,hz⟩)) (fun hz=>hr _ _ (.inr ⟨Nat.zero_le _,rfl,rfl⟩))
theorem wQ {p : Nat → Bool} : ∀ l : List Cl,V.drops p (l.map (fun c : Cl => aH c)) = l.map (fun c : Cl => aH c)
 | []=>rfl
 | a::l=>by simp only[zrd,V.drops,V.drop,wQ l]
theorem Dt : ∀ l : List Cl,bM (l.map (fun c : Cl => aH c)) = true
 | []=>rfl
 | a::l=>by simp only[zrd,bM,Dt l,V.one,V.vc,zrk];rfl
theorem Du (c l:List Cl) (n:Nat) (h:c.length+l.length≤n):bY (c.map (fun c:Cl=>aH c)++List.replicate (n-c.length) (.nils)) c.length (l.map (fun c:Cl=>aH c))=(c++l).map (fun c:Cl=>aH c)++List.replicate (n-(c++l).length) (.nils):=by
 unfold bY;have e1:(c.map (fun c:Cl=>aH c)++List.replicate (n-c.length) (V.nils)).take c.length=c.map (fun c:Cl=>aH c):=by
  simp
 have e2:(c.map (fun c:Cl=>aH c)++List.replicate (n-c.length) (V.nils)).drop (c.length+(l.map (fun c:Cl=>aH c)).length)=List.replicate (n-(c++l).length) (V.nils):=by
  rw[List.drop_append];have:(c.map (fun c:Cl=>aH c)).drop (c.length+(l.map (fun c:Cl=>aH c)).length)=[]:=List.drop_of_length_le (by simp);rw[this,List.nil_append,List.drop_replicate]
  congr 1
  simp only[zra,zqa];omega
 rw[e1,e2,zql]
theorem Dv (ls:List (List Cl)) (hn:ls.flatten.length≤1000000000) (hls:ls.length≤1000000000):EvF TE 82 [.is true 1 (ls.map cls)] 1 ls.flatten.length (ls.flatten.map (fun c:Cl=>aH c)):=by
 have hM:maxLen=9223372036854775807:=rfl;have hget:∀ {i:Nat} (h:i<ls.length) (d:V),(ls.map cls).getD i d=cls ls[i]:=fun h d=>fK h d;unfold EvF;refine au Tryz.func82 rfl (by simp[nts]) (vm ?_);simp only[wq.1,seval,Tryz.results82];refine aB (fun m f h=>∃i,m+i=ls.length∧f.t 0= .is true 1 (ls.map cls)∧f.t 3=vi (ls.take i).flatten.length∧f.t 9= .is true 1 (ls.map cls)∧f.t 10=vi ls.length∧f.t 11=vi i∧f.d=[]∧h=[]) ls.length ⟨0,by simp,rfl,rfl,rfl,by simp only[wq.1,seval],rfl,rfl,rfl⟩ ?_;rintro m f h ⟨i,hm,h0,h3,h9,h10,h11,hd,rfl⟩;refine vm ?_;simp only[wq.1,seval,h10,h11];refine vcB.mk (fun hc=> ?_) (fun hc=> ?_)
 ·simp only[zqb,zqi]at hc;have hfl:=uz hc;have hw:IntKind.i64.wrap (((ls.take i).flatten.length:Int)+(ls[i].length:Int))=((ls.take (i+1)).flatten.length:Int):=by
   rw[iR hc,zqa,aU (by omega) (by omega)];omega
  simp only[wq.1,seval,h3,h9,h11,hget hc,hw];refine⟨⟨by omega,by omega⟩,vcB.mk (fun hc'=> ?_) (fun hc'=> ?_)⟩
  ·simp only[zqb]at hc';omega
  ·simp only[wq.1,seval,h11,aA (show i<maxLen by omega)];exact .inl ⟨m-1,by omega,i+1,by omega,h0,rfl,h9,h10,rfl,hd,rfl⟩
 ·simp only [zqd,zqi] at hc;have hi : ls.take i = ls := zqh (by omega);rw [hi] at h3;simp only [wq.1,seval,h3];refine Np ls.flatten.length hn _ (fun v0 h0' hcat => ?_);simp only [wq.1,seval,h0];refine aB (fun m f h => ∃ i v,m + i = ls.length ∧ f.t 25 = .is true 1 (ls.map cls) ∧ f.t 26 = vi ls.length ∧ f.t 27 = vi i ∧ f.t 6 = v ∧ f.d = [] ∧ VD ls.flatten.length (ls.take i).flatten v h) ls.length ⟨0,v0,by simp,by simp only [wq.1,seval],by simp only [wq.1,seval],rfl,rfl,by simp only [wq.1,hd],by simpa using hcat⟩ ?_;rintro m f h ⟨i,v,hm,h25,h26,h27,h6,hd,hcat⟩;refine vm ?_;simp only [wq.1,seval,h26,h27];refine vcB.mk (fun hc => ?_) (fun hc => ?_)
  ·simp only [zqb,zqi] at hc;have hfl := uz hc;have hnext : f.t 27 = vi i → IntKind.i64.wrap ((i : Int) + 1) = ((i + 1 : Nat) : Int) := fun _ => aA (by omega);rcases hcat with ⟨hc0,rfl,rfl,hn0⟩ | ⟨hcl,rfl,rfl⟩
   ·have hl0:ls[i]=[]:=List.eq_nil_of_length_eq_zero (by omega);simp only[wq.1,seval,h25,h27,h6,hget hc,hl0,aA (show i<maxLen by omega)];refine⟨⟨by omega,by omega⟩,by omega,.inl ⟨m-1,by omega,i+1,_,by omega,h25,h26,rfl,rfl,hd,?_⟩⟩;right;rw[iR hc,hl0,hc0,hn0];exact⟨zrb _,rfl,rfl⟩
   ·by_cases hlt : (ls.take i).flatten.length < ls.flatten.length
    ·have hdt : decide ((ls.take i).flatten.length < ls.flatten.length) = true := by simpa using hlt
     simp only[wq.1,seval,h25,h27,h6,hget hc,aA (show i<maxLen by omega),Dt,hdt];refine⟨⟨by omega,by omega⟩,⟨by omega,by omega,by rw[List.length_replicate];omega⟩,.inl ⟨m-1,by omega,i+1,_,by omega,h25,h26,rfl,rfl,hd,?_⟩⟩;right;rw[iR hc];refine⟨by rw[zqa];omega,by simp only[wq.1,seval],?_⟩;have hsp:=Du (ls.take i).flatten ls[i] ls.flatten.length hfl;unfold bY at hsp;rw[zra]at hsp;rw[Nat.mul_one,hsp]
    ·have hdt : decide ((ls.take i).flatten.length < ls.flatten.length) = false := by simpa using hlt
     have hl0:ls[i]=[]:=List.eq_nil_of_length_eq_zero (by omega);have hne:(ls.take i).flatten.length=ls.flatten.length:=by omega
     simp only[wq.1,seval,h25,h27,h6,hd,hget hc,aA (show i<maxLen by omega),hdt,hl0,wQ];refine⟨⟨by omega,by omega⟩,⟨by rw[List.length_replicate];omega,by omega,by omega⟩,.inl ⟨m-1,by omega,i+1,_,by omega,by simp only[wq.1,seval,h25],by simp only[wq.1,seval,h26],rfl,rfl,hd,?_⟩⟩;right;rw[iR hc,hl0,zqp,hne,Nat.sub_self];refine⟨zrb _,by simp only[wq.1,seval],?_⟩;simp only[List.replicate_zero,V.drops]
  ·simp only [zqd,zqi] at hc;have hi : ls.take i = ls := zqh (by omega);rw [hi] at hcat;simp only [wq.1,seval,h6,hd];rcases hcat with ⟨hc0,rfl,rfl,hn0⟩ | ⟨hcl,rfl,rfl⟩
   ·exact .inl ⟨rfl,hn0,by rw[hc0];rfl⟩
   ·rw[Nat.sub_self,List.replicate_zero,zqp];exact .inr ⟨0,_,rfl,zrb _,rfl⟩
theorem wR (ls:List (List Cl)) (hn:ls.flatten.length≤1000000000) (hls:ls.length≤1000000000):Ev TE 82 [.is true 1 (ls.map cls)] (cls ls.flatten):=by
 refine(Dv ls hn hls).ev (fun _ hc=> ?_) (fun h' id cap _ hid=>Dq hid (by simp)) (fun _ hc h'=> ?_)
 ·rw[List.map_eq_nil_iff.1 hc];exact iZ
 ·rw[List.map_eq_nil_iff.1 hc];exact az.nils
structure UOk (m : Mo) (rows : List Cl) : Prop where
 i:0≤m.g.ins∧m.g.ins≤4000
 lat:m.lat.length≤4000
 b:∀r∈rows,∀x∈r,-1000000≤x∧x≤1000000
 r:rows.length≤1000
theorem VE (m:Mo) (l:List (List Lt)) (n:Int) (cl rows:List Cl) (c:List Lt) (hk:∀x∈c,fJ m x.1=true) (u:UOk m rows) (hc:c.length≤1000000) :
 Ev TE 79 [uV n cl rows,.ip (.ip (kV m l)),.ip (fH c)] (cls (je m rows 0 c)):=by
 have hf:=Dp m l n cl rows 0 c hk u.i u.lat u.b u.r hc;have dK:V.dats [.ip (kV m l),V.agg [vi n,cls cl,cls rows],vi 0,fH c]=true:=by simp only[V.dats,V.dat,dM,eu,zre]
 refine ai Tryz.func79 rfl (by simp[nts]) (vm ?_);simp only[wq.1,seval,Tryz.results79];refine ah.ev hf dK ?_;simp only[wq.1,seval];exact az.dat (by simp only[V.dat,dM])
theorem VF (m:Mo) (l:List (List Lt)) (n:Int) (cl rows:List Cl) (c:List Lt) (hk:∀x∈c,fJ m x.1=true) (hkl:∀c∈l,∀x∈c,fJ m x.1=true) (u:UOk m rows) (hc:c.length≤1000000) (hl:l.length≤1000000) (hcl:∀c∈l,c.length≤1000000) :
 Ev TE 81 [uV n cl rows,.ip (.ip (kV m l)),.ip (fH c)] (cls (sK m rows l++je m rows 1 c)):=by
 have hf:=Dp m l n cl rows 1 c hk u.i u.lat u.b u.r hc;have ha:=TB m l n cl rows hkl u.i u.lat u.b u.r hl hcl;have hlen:([sK m rows l,je m rows 1 c]:List (List Cl)).flatten.length≤1000000000:=by simp[sK,je];omega
 have hcc:=wR [sK m rows l,je m rows 1 c] hlen (by simp);rw[show([sK m rows l,je m rows 1 c]:List (List Cl)).flatten=sK m rows l++je m rows 1 c by simp]at hcc;have dK:V.dats [.ip (kV m l),V.agg [vi n,cls cl,cls rows],vi 1,fH c]=true:=by simp only[V.dats,V.dat,dM,eu,zre]
 have dA:V.dats [.ip (kV m l),V.agg [vi n,cls cl,cls rows]]=true:=by simp only[V.dats,V.dat,dM,zre]
 refine ai Tryz.func81 rfl (by simp[nts]) (vm ?_);simp only[wq.1,seval,Tryz.results81];refine⟨by decide +kernel,ul.mk ha rfl dA ?_⟩;simp only[wq.1,seval,-Int.reduceNatCast,-Int.reduceNatCast'];refine ul.mk hf rfl dK ?_;simp only[wq.1,↓reduceIte,Nat.reduceEqDiff,Nat.reduceLT,reduceCtorEq,Nat.reduceMul];refine⟨⟨rfl,by decide⟩,ul.mk hcc rfl (by simp only[V.dats,V.dat,dM,zre]) ?_⟩;simp only[wq.1,seval];exact az.dat (by simp only[V.dat,dM])
def TC (s p:S):Bool:=decide (p.length≤s.length)&&(s.drop (s.length-p.length)==p)
def Uw (s p:S):Bool:=decide (p.length≤s.length)&&(s.take p.length==p)
theorem Nq (s p:S):Ev TE 72 [.str s,.str p] (.bool (TC s p)):=by
 unfold TC;refine Ev.bnd fun hb=> ?_;have hM:maxLen=9223372036854775807:=rfl;have hls:s.length≤maxLen:=by simp only[V.bnds,V.bnd]at hb;exact hb.1
 refine ai Tryz.func72 rfl (by simp[nts]) (vm ?_);by_cases hle:p.length≤s.length
 ·have e1 : decide ((p.length : Int) ≤ (s.length : Int)) = true := by simpa using hle
  have e2:decide (p.length≤s.length)=true:=by simpa using hle
  have w1:IntKind.i64.wrap ((s.length:Int)-p.length)=((s.length-p.length:Nat):Int):=by rw[dh (by omega) (by omega)];omega
  have e3:s.length-(s.length-p.length)=p.length:=by omega
  simp only[wq.1,seval,Tryz.results72,e1,e2,w1];exact⟨⟨by omega,by omega⟩,az.dat rfl⟩
 ·have e1 : decide ((p.length : Int) ≤ (s.length : Int)) = false := by simpa using hle
  have e2:decide (p.length≤s.length)=false:=by simpa using hle
  simp only[wq.1,seval,Tryz.results72,e1,e2];exact az.dat rfl
theorem TD (s p:S):Ev TE 42 [.str s,.str p] (.bool (TC s p)):=by refine ai Tryz.func42 rfl (by simp[nts]) (vm ?_);simp only[wq.1,seval,Tryz.results42];refine ah.ev (Nq s p) rfl ?_;simp only[wq.1,seval];exact az.dat rfl
theorem Jk (s p:S):Ev TE 111 [.str s,.str p] (.bool (Uw s p)):=by
 unfold Uw;refine ai Tryz.func111 rfl (by simp[nts]) (vm ?_);by_cases hle:p.length≤s.length
 ·have e1 : decide ((p.length : Int) ≤ (s.length : Int)) = true := by simpa using hle
  have e2:decide (p.length≤s.length)=true:=by simpa using hle
  simp only[wq.1,seval,Tryz.results111,e1,e2];exact⟨⟨by omega,by omega⟩,az.dat rfl⟩
 ·have e1 : decide ((p.length : Int) ≤ (s.length : Int)) = false := by simpa using hle
  have e2:decide (p.length≤s.length)=false:=by simpa using hle
  simp only[wq.1,seval,Tryz.results111,e1,e2];exact az.dat rfl
theorem G8 (s p:S):Ev TE 76 [.str s,.str p] (.bool (Uw s p)):=by refine ai Tryz.func76 rfl (by simp[nts]) (vm ?_);simp only[wq.1,seval,Tryz.results76];refine ah.ev (Jk s p) rfl ?_;simp only[wq.1,seval];exact az.dat rfl
theorem wS (m:Mo) (s:S) (hlat:m.lat.length≤1000000):Ev TE 67 [m.v,.str s] (vi (idx m.lat (·==s))):=by
 have hM:maxLen=9223372036854775807:=rfl;unfold Mo.v;refine ai Tryz.func67 rfl (by simp[nts]) ?_;refine ag (vm ?_);simp only[wq.1,seval,Tryz.results67];refine ag (vm ?_);simp only[wq.1,seval];refine aB (fun q f h=>∃i,q+i=m.lat.length∧f.t 1= .str s∧f.t 2= .lp 0 0∧f.t 5=vi i∧f.d=[]∧(∀x∈m.lat.take i,(x==s)=false)∧h=[.cells [vi m.g.ins,aH m.g.next,aH m.g.init,prs m.g.ands,aH m.g.outs,bF m.ins,bF m.lat,bF m.out]]) m.lat.length ⟨0,by omega,by simp only[wq.1,seval],by simp only[wq.1,seval],rfl,by simp only[wq.1],by simp,rfl⟩ ?_;rintro q f h ⟨i,hq,t1,t2,t5,hd,hall,rfl⟩;refine vm ?_;simp only[wq.1,seval,t2,t5];refine vcB.mk (fun hc=> ?_) (fun hc=> ?_)
 ·simp only [zqb,zqi] at hc;have hw := aA (show i < maxLen by omega);simp only [wq.1,seval,t1,t2,t5,xu hc];refine ⟨⟨by omega,by omega⟩,vcB.mk (fun hc' => ?_) (fun hc' => ?_)⟩
  ·simp only[wq.1,seval,t5,hd];rw[jk (p:=(·==s)) hc hall hc'];exact az.dat rfl
  ·simp only[wq.1,seval,t5,hw];exact .inl ⟨q-1,by omega,i+1,by omega,by simp only[wq.1,seval,t1],by simp only[wq.1,seval,t2],by simp only[wq.1,↓reduceIte],by simp only[wq.1,hd],aK (P:=fun x=>(x==s)=false) hc hall hc',rfl⟩
 ·simp only[zqd,zqi]at hc;simp only[wq.1,Int.reduceNeg];rw[zqh (by omega)]at hall;rw[iP (p:=(·==s)) hall];refine vm ?_;simp only[wq.1,seval,hd];exact az.dat rfl
def jO (m:Mo) (st:List Bool) (x:Lt):Bool:=st.getD (idx m.lat (·==x.1)).toNat false != x.2
theorem Nr (m:Mo) (c:List Lt) (st:List Bool) (hlat:m.lat.length≤1000000) (hc:c.length≤1000000) (hst:st.length=m.lat.length) (hk:∀x∈c,0≤idx m.lat (·==x.1)):Ev TE 68 [m.v,fH c,eP st] (.bool (c.any (jO m st))):=by
 have hM:maxLen=9223372036854775807:=rfl;have hpl:=fun s=>wS m s hlat;unfold Mo.v at hpl ⊢;refine ai Tryz.func68 rfl (by simp[nts]) ?_;refine ag (vm ?_);simp only[wq.1,Nat.reduceLT,Tryz.results68];refine ag (vm ?_);simp only[wq.1,Nat.reduceLT];refine aB (fun q f h=>∃i,q+i=c.length∧f.t 1=fH c∧f.t 2=eP st∧f.t 3= .lp 0 0∧f.t 7=vi i∧f.d=[]∧(∀x∈c.take i,jO m st x=false)∧h=[.cells [vi m.g.ins,aH m.g.next,aH m.g.init,prs m.g.ands,aH m.g.outs,bF m.ins,bF m.lat,bF m.out]]) c.length ⟨0,by omega,by simp only[wq.1,seval],by simp only[wq.1,seval],by simp only[wq.1,seval],rfl,by simp only[wq.1],by simp,rfl⟩ ?_;rintro q f h ⟨i,hq,t1,t2,t3,t7,hd,hall,rfl⟩;refine vm ?_;simp only[wq.1,seval,t1,t7];refine vcB.mk (fun hlt=> ?_) (fun hlt=> ?_)
 ·simp only[zqb,zqi]at hlt;have hw:=aA (show i<maxLen by omega);have hgc:=pY hlt .any;have hkx:=hk _ (zqu hlt);have hsu:jO m st c[i]=false→∀x∈c.take (i+1),jO m st x=false:=fun h=>aK (P:=fun x=>jO m st x=false) hlt hall h;have han:jO m st c[i]=true→c.any (jO m st)=true:=fun h=>List.any_eq_true.2 ⟨_,zqu hlt,h⟩;obtain⟨x,hx⟩:∃x,x=c[i]:=⟨_,rfl⟩;rw[←hx]at hgc hkx hsu han;have hid:=(GH m.lat (·==x.1)).2;obtain⟨p,hp⟩:∃p:Nat,idx m.lat (·==x.1)=p:=⟨(idx m.lat (·==x.1)).toNat,by omega⟩;have hpx:=hpl x.1;have hs:(st.map V.bool).getD p .any= .bool (st.getD p false):=by
   rw[fK (by omega)];congr 1;rw[zqg,zqk (by omega)];rfl
  have hdef:jO m st x=(st.getD p false != x.2):=by unfold jO;rw[hp,Int.toNat_natCast]
  rw[hp]at hpx;simp only[wq.1,seval,t1,t2,t3,t7,hgc];refine⟨by decide +kernel,⟨by omega,by omega⟩,ul.mk hpx rfl (by simp only[V.dats,V.dat,zre]) ?_⟩;simp only[wq.1,seval,t1,t7,hgc,hs];refine⟨⟨by omega,by omega⟩,⟨by omega,by omega⟩,vcB.mk (fun hb=> ?_) (fun hb=> ?_)⟩
  ·rw[han (by rw[hdef];revert hb;cases st.getD p false<;>cases x.2<;>decide)];simp only[wq.1,seval,hd];exact az.dat rfl
  ·simp only[wq.1,seval,t7,hw];exact .inl ⟨q-1,by omega,i+1,by omega,by simp only[wq.1,seval,t1],by simp only[wq.1,seval,t2],by simp only[wq.1,seval,t3],by simp only[wq.1,↓reduceIte],by simp only[wq.1,hd],hsu (by rw[hdef];revert hb;cases st.getD p false<;>cases x.2<;>decide),rfl⟩
 ·simp only[zqd,zqi]at hlt;simp only[wq.1];rw[zqh (by omega)]at hall;rw[show c.any (jO m st)=false from List.any_eq_false.2 fun x hx=>by rw[hall x hx];simp];refine vm ?_;simp only[wq.1,seval,hd];exact az.dat rfl
theorem Ns (m:Mo) (l:List (List Lt)) (st:List Bool) (hlat:m.lat.length≤1000000) (hl:l.length≤1000000) (hc:∀c∈l,c.length≤1000000) (hst:st.length=m.lat.length) (hk:∀c∈l,∀x∈c,0≤idx m.lat (·==x.1)):Ev TE 36 [m.v,lss l,eP st] (.bool (l.all fun c=>c.any (jO m st))):=by
 have hM:maxLen=9223372036854775807:=rfl;have hone:=fun c hc' hk'=>Nr m c st hlat hc' hst hk';unfold Mo.v at hone ⊢;refine ai Tryz.func36 rfl (by simp[nts]) ?_;refine ag (vm ?_);simp only[wq.1,Nat.reduceLT,Tryz.results36];refine ag (vm ?_);simp only[wq.1,Nat.reduceLT];refine aB (fun q f h=>∃i,q+i=l.length∧f.t 1=lss l∧f.t 2=eP st∧f.t 3= .lp 0 0∧f.t 7=vi i∧f.d=[]∧(∀c∈l.take i,c.any (jO m st)=true)∧h=[.cells [vi m.g.ins,aH m.g.next,aH m.g.init,prs m.g.ands,aH m.g.outs,bF m.ins,bF m.lat,bF m.out]]) l.length ⟨0,by omega,by simp only[wq.1,seval],by simp only[wq.1,seval],by simp only[wq.1,seval],rfl,by simp only[wq.1],by simp,rfl⟩ ?_;rintro q f h ⟨i,hq,t1,t2,t3,t7,hd,hall,rfl⟩;refine vm ?_;simp only[wq.1,seval,t1,t7];refine vcB.mk (fun hlt=> ?_) (fun hlt=> ?_)
 ·simp only[zqb,zqi]at hlt;have hw:=aA (show i<maxLen by omega);have hgl:=oN hlt .any;have hsu:l[i].any (jO m st)=true→∀c∈l.take (i+1),c.any (jO m st)=true:=fun h=>aK (P:=fun c:List Lt=>c.any (jO m st)=true) hlt hall h;have han:l[i].any (jO m st)=false→(l.all fun c=>c.any (jO m st))=false:=fun h=>by
   rw[List.all_eq_false];exact⟨_,zqu hlt,by rw[h];simp⟩
  have ho:=hone _ (hc _ (zqu hlt)) (hk _ (zqu hlt));obtain⟨c,hce⟩:∃c,c=l[i]:=⟨_,rfl⟩;rw[←hce]at hgl hsu han ho;simp only[wq.1,seval,t1,t2,t3,t7,hgl];refine⟨by decide +kernel,⟨by omega,by omega⟩,ul.mk ho rfl (by simp only[V.dats,V.dat,eu,iT,zre]) ?_⟩;cases hb:c.any (jO m st)with
  | false=>rw[han hb];simp only[wq.1,seval,hd];exact az.dat rfl
  | true=>simp only[wq.1,seval,t7,hw];exact .inl ⟨q-1,by omega,i+1,by omega,by simp only[wq.1,seval,t1],by simp only[wq.1,seval,t2],by simp only[wq.1,seval,t3],by simp only[wq.1,↓reduceIte],by simp only[wq.1,hd],hsu hb,rfl⟩
 ·simp only[zqd,zqi]at hlt;simp only[wq.1];rw[zqh (by omega)]at hall;rw[show(l.all fun c=>c.any (jO m st))=true from zrs.2 fun c hc=>hall c hc];refine vm ?_;simp only[wq.1,seval,hd];exact az.dat rfl
def iU (m:Mo) (x:Lt):Bool:=decide (0≤idx m.lat (·==x.1))
def qf (m:Mo) (l:List (List Lt)):Bool:=l.all fun c=>c.all (iU m)
theorem E9 (m:Mo) (l:List (List Lt)) (hlat:m.lat.length≤1000000) (hl:l.length≤1000000) (hc:∀c∈l,c.length≤1000000):Ev TE 35 [m.v,lss l] (.bool (qf m l)):=by
 have hM:maxLen=9223372036854775807:=rfl;have hpl:=fun s=>wS m s hlat;unfold Mo.v at hpl ⊢;refine ai Tryz.func35 rfl (by simp[nts]) ?_;refine ag (vm ?_);simp only[wq.1,Nat.reduceLT,Tryz.results35];refine ag (vm ?_);simp only[wq.1,Nat.reduceLT];refine aB (fun q f h=>∃i,q+i=l.length∧f.t 1=lss l∧f.t 2= .lp 0 0∧f.t 5=vi i∧f.d=[]∧(∀c∈l.take i,c.all (iU m)=true)∧h=[.cells [vi m.g.ins,aH m.g.next,aH m.g.init,prs m.g.ands,aH m.g.outs,bF m.ins,bF m.lat,bF m.out]]) l.length ⟨0,by omega,by simp only[wq.1,seval],by simp only[wq.1,seval],rfl,by simp only[wq.1],by simp,rfl⟩ ?_;rintro q f h ⟨i,hq,t1,t2,t5,hd,hall,rfl⟩;refine ag (vm ?_);simp only[wq.1,seval,t1,t5];refine vcB.mk (fun hlt=> ?_) (fun hlt=> ?_)
 ·simp only[zqb,zqi]at hlt;have hw:=aA (show i<maxLen by omega);have hgl:=oN hlt .any;have hcl:=hc _ (zqu hlt);have hsu:l[i].all (iU m)=true→∀c∈l.take (i+1),c.all (iU m)=true:=fun h=>aK (P:=fun c:List Lt=>c.all (iU m)=true) hlt hall h;have han:l[i].all (iU m)=false→qf m l=false:=fun h=>by
   unfold qf;rw[List.all_eq_false];exact⟨_,zqu hlt,by rw[h];simp⟩
  obtain⟨c,hce⟩:∃c,c=l[i]:=⟨_,rfl⟩;rw[←hce]at hgl hsu han hcl;simp only[wq.1];refine ag (aC ?_);refine ag (vm ?_);simp only[wq.1,Nat.reduceLT];refine aC ?_;refine aB (fun q' f h=>∃j,q'+j=c.length∧f.t 1=lss l∧f.t 2= .lp 0 0∧f.t 5=vi i∧f.t 6=vi j∧f.d=[]∧(∀x∈c.take j,iU m x=true)∧h=[.cells [vi m.g.ins,aH m.g.next,aH m.g.init,prs m.g.ands,aH m.g.outs,bF m.ins,bF m.lat,bF m.out]]) c.length ⟨0,by omega,t1,t2,t5,rfl,hd,by simp,rfl⟩ ?_;clear t1 t2 t5 hd f;rintro q' f h ⟨j,hq',t1,t2,t5,t6,hd,hkj,rfl⟩;refine vm ?_;simp only[wq.1,seval,t1,t5,t6,hgl];refine⟨⟨by omega,by omega⟩,?_⟩;refine vcB.mk (fun hlt2=> ?_) (fun hlt2=> ?_)
  ·simp only [zqb,zqi] at hlt2;have hw2 := aA (show j < maxLen by omega);have hgc := pY hlt2 .any;have hsx : iU m c[j] = true → ∀ x ∈ c.take (j + 1),iU m x = true := fun h => aK (P := fun x => iU m x = true) hlt2 hkj h;have hax : iU m c[j] = false → c.all (iU m) = false := fun h => by rw [List.all_eq_false];exact ⟨_,zqu hlt2,by rw [h];simp⟩
   obtain⟨x,hx⟩:∃x,x=c[j]:=⟨_,rfl⟩;rw[←hx]at hgc hsx hax;have hpx:=hpl x.1;simp only[wq.1,seval,t1,t2,t5,t6,hgl,hgc];refine⟨by decide +kernel,⟨by omega,by omega⟩,⟨by omega,by omega⟩,ul.mk hpx rfl rfl ?_⟩;cases hb:decide (idx m.lat (·==x.1)<0)with
   | true =>
    have hb2:iU m x=false:=by unfold iU;simp only[zqb]at hb;simp only[zqd];omega
    rw[han (hax hb2)];simp only[wq.1,seval,hd,hb];exact az.dat rfl
   | false =>
    have hb2:iU m x=true:=by unfold iU;simp only[zqd]at hb;simp only[zqb];omega
    simp only[wq.1,seval,t6,hb,hw2];exact .inl ⟨q'-1,by omega,j+1,by omega,t1,t2,t5,by simp only[wq.1,↓reduceIte],hd,hsx hb2,rfl⟩
  ·simp only[zqd,zqi]at hlt2;rw[zqh (by omega)]at hkj;simp only[wq.1];refine vm ?_;simp only[wq.1,seval,t5,hw];exact .inl ⟨q-1,by omega,i+1,by omega,t1,t2,by simp only[wq.1,↓reduceIte],hd,hsu (zrs.2 hkj),rfl⟩
 ·simp only[zqd,zqi]at hlt;simp only[wq.1];rw[zqh (by omega)]at hall;rw[show qf m l=true from zrs.2 fun c hc=>hall c hc];refine vm ?_;simp only[wq.1,seval,hd];exact az.dat rfl
structure Qn where
 part:Int
 clause:Int
 beg:Cl
 steps:Nat
 more:List Cl
def JC (m:Mo):Cl:=List.replicate m.lat.length 2
def qn0 (m:Mo) (i:Nat) (c:List Lt):Qn:=⟨0,i,m.g.init,0,je m (iG m.g m.g.init 0) 0 c⟩
def qn1 (m:Mo) (l:List (List Lt)) (i:Nat) (c:List Lt):Qn:=⟨1,i,JC m,1,sK m (iG m.g (JC m) 1) l++je m (iG m.g (JC m) 1) 1 c⟩
def qn2 (m:Mo) (l:List (List Lt)) (bad:Int):Qn:=⟨2,0,JC m,1,sK m (iG m.g (JC m) 1) l++[[GN (iG m.g (JC m) 1) 0 (m.g.outs.getD bad.toNat 0)]]⟩
def qns (m:Mo) (l:List (List Lt)) (bad:Int):List Qn :=
 ((List.range l.length).map fun i=>qn0 m i (l.getD i []))++(((List.range l.length).map fun i=>qn1 m l i (l.getD i []))++if 0≤bad then [qn2 m l bad]else [])
structure Ve where
 res:Int
 part:Int
 clause:Int
 state:List Bool
def Ve.z:Ve:=⟨0,0,0,[]⟩
abbrev Ve.v (v:Ve):V:= .agg [vi v.res,vi v.part,vi v.clause,eP v.state]
def Qn.cl (m:Mo) (q:Qn):List Cl:=(gz m.g q.beg q.steps).cl++q.more
def Qn.n (m:Mo) (q:Qn):Nat:=(gz m.g q.beg q.steps).n
def stK (m:Mo) (q:Qn) (vals:List Bool):List Bool:=m.lat.map fun s=>hol vals (tJ m (iG m.g q.beg q.steps) 0 (s,false))
def VG (m:Mo) (bud:Int) (q:Qn) (r:Ve×Int):Prop :=
 (Aj m.g q.beg q.steps≠0∧r=(Ve.z,Aj m.g q.beg q.steps)) ∨
 (Aj m.g q.beg q.steps=0∧((chk (q.cl m) (q.n m)≠0∧r=(Ve.z,chk (q.cl m) (q.n m))) ∨
  (chk (q.cl m) (q.n m)=0∧∃res vals ln,pV (q.cl m) (q.n m) (max bud 0) res vals ln∧r=(⟨res,q.part,q.clause,if res=1 then stK m q vals else []⟩,0))))
def PY (r:Ve×Int):Prop:=r.2≠0∨r.1.res=1∨r.1.res=2
def Nu (m : Mo) (bud : Int) : List Qn → Ve × Int → Prop
 | [],r=>r=(Ve.z,0)
 | q::qs,r=>∃a,VG m bud q a∧((PY a∧r=a)∨(¬PY a∧Nu m bud qs r))
def l7 (m:Mo) (l:List (List Lt)) (bad bud:Int) (r:Ve×Int):Prop :=
 if(bK m l).2≠0 then r=(Ve.z,(bK m l).2)
 else if bad< -1∨(m.out.length:Int)≤bad∨200<l.length then r=(Ve.z,1)
 else Nu m bud (qns m l bad) r
theorem Nv {g : Gr} {u : US} {j : Nat} (hj : j < u.lat.length) : ∀ {i : Nat},i ≤ g.ands.length → (u.ands g i).row.getD (1 + g.ins.toNat + j) 0 = u.lat.getD j 0
 | 0,_=>by
  show(-1::(JB u.n g.ins.toNat++u.lat)).getD _ 0=_;rw[show 1+g.ins.toNat+j=(g.ins.toNat+j)+1 by omega,List.getD_cons_succ,zqg,List.getElem?_append_right (by simp[JB]),←zqg]
  congr 1
  simp[JB]
 | i+1,h=>by have hl:=iF (u:=u) (g:=g) (i:=i) (by omega);rw[gI (by omega)];show((u.ands g i).row++[_]).getD _ 0=_;rw[zqg,zqj (by omega),←zqg];exact Nv hj (by omega)
theorem TF {g:Gr} {lat zs:Cl} {j:Nat} (hj:j<lat.length):(pW g lat++zs).getD (1+g.ins.toNat+j) 0=lat.getD j 0:=by
 unfold pW;rw[List.cons_append,show 1+g.ins.toNat+j=(g.ins.toNat+j)+1 by omega,List.getD_cons_succ,zqc,zqg,List.getElem?_append_right (by simp),List.length_replicate,
  zqj (by omega),←zqg]
 congr 1
 omega
theorem Nw {g : Gr} {b : Cl} {t : Nat} : ∀ {k : Nat},t < k → (gz g b k).rows.getD t [] = ((gz g b t).ands g g.ands.length).row
 | k+1,h=>by
  show((gz g b k).rows++[_]).getD t []=_;by_cases e:t=k
  ·subst e;rw[zqg,List.getElem?_append_right (by rw[jM];exact zrb _),jM,Nat.sub_self];rfl
  ·rw[zqg,zqj (by rw[jM];omega),←zqg];exact Nw (by omega)
theorem PZ {g:Gr} {b:Cl} {t k:Nat} (h:t<k):(iG g b k).getD t []=((gz g b t).ands g g.ands.length).row:=by unfold iG;rw[zqg,zqj (by rw[jM];omega),←zqg,Nw h]
theorem Ny {g:Gr} {b:Cl} {k:Nat}:(iG g b k).getD k []=pW g (gz g b k).lat++List.replicate g.ands.length 0:=by unfold iG;rw[zqg,List.getElem?_append_right (by rw[jM];exact zrb _),jM,Nat.sub_self];rfl
theorem Dw {g:Gr} {b:Cl} {k:Nat}:(iG g b k).length=k+1:=by unfold iG;rw[zqa,jM];rfl
theorem P5 {g:Gr} {b:Cl} {t k j:Nat} (ok:∀t,USok g (gz g b t)) (h:t≤k) (hi:0≤g.ins) (hj:j<g.next.length):GN (iG g b k) t (2*(1+g.ins+j))=(gz g b t).lat.getD j 0:=by
 have hl:=(ok t).l;have e2:(2*(1+g.ins+(j:Int))/2).toNat=1+g.ins.toNat+j:=by omega
 have e3:¬(2*(1+g.ins+(j:Int))%2=1):=by omega
 have key:1+g.ins.toNat+j<((iG g b k).getD t []).length∧((iG g b k).getD t []).getD (1+g.ins.toNat+j) 0=(gz g b t).lat.getD j 0:=by
  by_cases e:t=k
  ·subst e;rw[Ny];refine⟨?_,TF (by omega)⟩;simp only[pW,zqa,zrt,List.length_replicate];omega
  ·rw[PZ (by omega)];refine⟨?_,Nv (by omega) (zrb _)⟩;rw[iF (zrb _)];omega
 unfold GN;rw[Int.toNat_natCast,if_neg (by rw[Dw];omega)];unfold xO;rw[if_neg e3,e2,key.2]
theorem P6 {m:Mo} {x:S} (hm:m.lat.length=m.g.next.length) (hk:fJ m x=true):∃k:Nat,k<m.g.next.length∧lY (qX m) x=k:=by obtain⟨k,h1,h2,_⟩:=Ar hk;exact⟨k,by omega,h2⟩
theorem P7 {m:Mo} {b:Cl} {t k:Nat} {vs:List Bool} {x:Lt} (ok:∀t,USok m.g (gz m.g b t)) (h:t≤k) (hi:0≤m.g.ins) (hm:m.lat.length=m.g.next.length) (hk:fJ m x.1=true) :
 inU (gz m.g b t).n (tJ m (iG m.g b k) t x)∧hol vs (tJ m (iG m.g b k) t x)=Dk m ((gz m.g b t).lat.map (hol vs)) x:=by
 obtain⟨j,hj,hp⟩:=P6 hm hk;have hu:=P5 (k:=k) ok h hi hj;have hjl:j<(gz m.g b t).lat.length:=by rw[(ok t).l];exact hj
 have hin:=(ok t).lo _ (Af hjl);have e:((gz m.g b t).lat.map (hol vs)).getD j false=hol vs ((gz m.g b t).lat.getD j 0):=by rw[zqg,zqo,zqk hjl,iD hjl];rfl
 unfold tJ Dk;rw[hp,hu,Int.toNat_natCast,e];cases hx:x.2 with
 | false=>rw[if_neg (by decide)];exact⟨hin,by simp⟩
 | true=>rw[if_pos rfl];exact⟨hin.neg,by rw[pM hin.1];simp⟩
theorem oM {m:Mo} (h:m.chk=0):m.g.chk=0∧(m.ins.length:Int)=m.g.ins∧m.lat.length=m.g.next.length∧m.out.length=m.g.outs.length:=by
 unfold Mo.chk at h;split at h
 ·rename_i h1;exact absurd h h1
 ·rename_i h1;split at h
  ·cases h
  ·rename_i h2;simp only[Mo.lens,Bool.not_eq_true,Bool.or_eq_false_iff,bne_eq_false_iff_eq]at h2;exact⟨by omega,h2.1.1,by omega,by omega⟩
theorem Nz {l ln:List Cl} (h1:∀m (hm:m<ln.length),Bad (l++ln.take m) (zU ln[m])) (h2:Bad (l++ln) []):BV l ln=true:=by rw[yu (zrb _) fun k hk _=>BU (h1 k hk),zrx,List.drop_length];exact BU h2
theorem TG {l:List Cl} {n:Nat} {bud res:Int} {vals:List Bool} {ln:List Cl} (ok:pV l n bud res vals ln) (hr:res=0) (hl:EF l) (hn:n≤20000) (vs:List Bool):sat l vs=false:=by
 obtain⟨h1,h2,h3,h4,h5⟩:=ok;rcases h5 with⟨_,_,hb⟩ | ⟨e,_⟩ | ⟨e,_⟩
 ·refine vN hl (fun c hc a ha=> ?_) (Nz h2 hb);have:=(h3 c hc).2.2 a ha;omega
 ·omega
 ·omega
theorem Fa {m:Mo}:∀x∈JC m,0≤x∧x≤2:=fun x hx=>by rw[List.eq_of_mem_replicate hx];omega
end Go.Proofs.YtmlacppmbfbjgaaGreatDoor
