/- Lemmas for this claim, part F16: each holds under what it names. -/
import Derived.Test.YtmlacppmbfbjgaaGreatDoorF15
import Derived.Test.YtmlacppmbfbjgaaGreatDoorA11
import Derived.Test.YtmlacppmbfbjgaaGreatDoorA10
set_option linter.unusedVariables false
set_option linter.unusedSimpArgs false
set_option linter.unnecessarySimpa false
set_option maxRecDepth 20000
set_option maxHeartbeats 4000000
namespace Go.Proofs.YtmlacppmbfbjgaaGreatDoor
open Go Go.Proofs Go.Abs
abbrev hQ3 (n:Int) (cl rows:List Cl):H:=[.cells [vi n,cls cl,cls rows]]
def bQ (m:Mo) (l:List (List Lt)) (n:Int) (cl rows:List Cl) (k:Nat) (o z:Int) (A:List Cl):List (Nat×Nat×V):=[(0,5,.ip (kV m l)),(1,6,uV n cl rows),(3,8,uV n cl rows),(4,9,.ip (kV m l)),(5,10,.ip (kV m l)),(6,11,.ip (.agg [vi m.g.ins,aG m.g.next,aG m.g.init,prs m.g.ands,aG m.g.outs,dF m.ins,dF m.lat,dF m.out])),(7,12,.ip (.agg [vi m.g.ins,aG m.g.next,aG m.g.init,prs m.g.ands,aG m.g.outs])),(8,13,.ip (aG m.g.outs)),(9,14,aG m.g.outs),(10,15,vi k),(11,16,.ip (vi o)),(12,17,vi o),(13,18,vi z),(14,19,.is true 1 [vi z]),(15,20,.is true 1 [.is true 1 [vi z]]),(16,21,.ls 1 1 0 (A.length+1) (A.length+1)),(17,4,.ls 1 1 0 (A.length+1) (A.length+1))]
def zV (m:Mo) (l:List (List Lt)) (n:Int) (cl rows:List Cl) (k:Nat):List (Nat×V):=[(1,.ip (.ip (kV m l))),(2,.ip (vi k)),(3,.lp 0 0)]
theorem WH (m : Mo) (l : List (List Lt)) (n : Int) (cl rows : List Cl) (k : Nat) (o z : Int) (A : List Cl) (hA : EvF TE 83 [.ip (kV m l),uV n cl rows] 1 A.length (A.map fun c => aG c)) (hL : Ev TE 85 [uV n cl rows,vi 0,vi o] (vi z)) (hkl : k < m.g.outs.length) (hgo : (m.g.outs.map vi).getD k .any = vi o) (hAl : A.length ≤ 1000000) {r : Option Nat} {Q : XE → Fr → H → Prop} {f0 : Fr} (g0 : GA f0 (zV m l n cl rows k)) (d0 : f0.d = [])
 (hk:∀f ,GA f (zV m l n cl rows k)→f.d=[]→f.t 4= .ls 1 1 0 (A.length+1) (A.length+1)→Q .normal f (hQ3 n cl rows++[.cells (A.map (fun c=>aG c)++[xC [z]])])) :
 awp TE 22 r (.region 1 (Ic Tryz.f84 1) true) Q f0 (hQ3 n cl rows):=by
 simp only[Ic,Tryz.f84,wY,List.nil_append,List.append_nil,List.headD_cons,Nat.reduceBEq,Bool.false_eq_true,if_false,if_true,List.cons_append];have hM:maxLen=9223372036854775807:=rfl;obtain⟨I,hI⟩:∃I:Array Bool→Fr→H→Prop,∀L f h,I L f h↔(h=HN L (hQ3 n cl rows) 2 16 (A.map fun c=>aG c) (A.map (fun c=>aG c)++[xC [z]])∧FA L f (bQ m l n cl rows k o z A)∧(L.getD 2 false=true→L.getD 16 false=false→f.t 7= .ls 1 1 0 A.length A.length)∧GA f (zV m l n cl rows k)∧f.d=[]):=⟨_,fun _ _ _=>Iff.rfl⟩;refine zn mixed I (by decide +kernel) ?_ ?_ ?_
 ·exact(hI _ _ _).2 ⟨(HN.none).symm,FA.none,fun h=>by exfalso;revert h;decide +kernel,g0,d0⟩
 ·intro L f h i hcl hII hi;obtain⟨rfl,hfa,hn,hg,hd⟩:=(hI _ _ _).1 hII;have t1:f.t 1= .ip (.ip (kV m l)):=hg (1,.ip (.ip (kV m l))) (by simp[zV]);have t2:f.t 2= .ip (vi k):=hg (2,.ip (vi k)) (by simp[zV]);have t3:f.t 3= .lp 0 0:=hg (3,.lp 0 0) (by simp[zV]);have b0:(HN L (hQ3 n cl rows) 2 16 (A.map fun c=>aG c) (A.map (fun c=>aG c)++[xC [z]]))[0]? =some (.cells [vi n,cls cl,cls rows]):=HN.get (rfl);have hlt:i<18:=zi hi;have pu:∀(d:Nat) (v:V),(∀x∈(bQ m l n cl rows k o z A),x.1=i→x.2.1=d∧x.2.2=v)→(∀x∈(bQ m l n cl rows k o z A),x.2.1=d→x.1=i)→(decide (d∉([1,2,3,7]:List Nat))&&decide (i∉([2,16]:List Nat)))=true→I (L.setIfInBounds i true) (f.put (some d) v) (HN L (hQ3 n cl rows) 2 16 (A.map fun c=>aG c) (A.map (fun c=>aG c)++[xC [z]])):=by
   intro d v h1 h2 h3;rw[Bool.and_eq_true,decide_eq_true_eq,decide_eq_true_eq]at h3;simp only[List.mem_cons,List.not_mem_nil,or_false,not_or,not_false_eq_true,and_true,true_and]at h3;refine(hI _ _ _).2 ⟨(HN.skip (by omega) (by omega)).symm,hfa.put h1 h2,(by rw[getD_set_ne false (by omega),getD_set_ne false (by omega)];exact fun h h2=>by have:=hn h h2;simpa [Fr.put,show ¬7=d by omega]using this),hg.put (by simp[zV];omega),hd⟩
  match i,hlt with
  | 0,_ =>
   have pu:=pu 5 (.ip (kV m l)) (by simp[bQ]) (by simp[bQ]) (by decide);simp only[wq.1,Nat.reduceLT,t1]
   first | exact pu | exact⟨by decide,pu⟩ | exact⟨⟨rfl,by decide⟩,pu⟩
  | 1,_ =>
   have pu:=pu 6 (uV n cl rows) (by simp[bQ]) (by simp[bQ]) (by decide);simp only[wq.1,seval,t3,b0]
   first | exact pu | exact⟨by decide,pu⟩ | exact⟨⟨rfl,by decide⟩,pu⟩
  | 2,_=>have dp:=aJ hi (l:=[0,1]) (by decide +kernel);have e5:f.t 5= .ip (kV m l):=hfa (0,5,.ip (kV m l)) (by simp[bQ]) (dp 0 (by simp));have e6:f.t 6=uV n cl rows:=hfa (1,6,uV n cl rows) (by simp[bQ]) (dp 1 (by simp));have no:=jS hi;have n3:L.getD 16 false=false:=iO hcl no (by decide +kernel);rw[HN.old no];have b0:(hQ3 n cl rows)[0]? =some (.cells [vi n,cls cl,cls rows]):=rfl;simp only[wq.1,Nat.reduceLT,e5,e6];refine Ia hA (by simp only[V.dats,V.dat,dJ,Bool.and_self]) (dJ A) ?_;simp only[wq.1];refine(hI _ _ _).2 ⟨(HN.new (B:=(hQ3 n cl rows)) (iW hi) (by decide) n3).symm,hfa.put' rfl,fun _ _=>by simp[Fr.put],hg.put rfl,hd⟩
  | 3,_ =>
   have pu:=pu 8 (uV n cl rows) (by simp[bQ]) (by simp[bQ]) (by decide);simp only[wq.1,seval,t3,b0]
   first | exact pu | exact⟨by decide,pu⟩ | exact⟨⟨rfl,by decide⟩,pu⟩
  | 4,_ =>
   have pu:=pu 9 (.ip (kV m l)) (by simp[bQ]) (by simp[bQ]) (by decide);simp only[wq.1,Nat.reduceLT,t1]
   first | exact pu | exact⟨by decide,pu⟩ | exact⟨⟨rfl,by decide⟩,pu⟩
  | 5,_ =>
   have dp:=aJ hi (l:=[4]) (by decide +kernel);have e9:f.t 9= .ip (kV m l):=hfa (4,9,.ip (kV m l)) (by simp[bQ]) (dp 4 (by simp));have pu:=pu 10 (.ip (kV m l)) (by simp[bQ]) (by simp[bQ]) (by decide);simp only[wq.1,Nat.reduceLT,e9]
   first | exact pu | exact⟨by decide,pu⟩ | exact⟨⟨rfl,by decide⟩,pu⟩
  | 6,_ =>
   have dp:=aJ hi (l:=[5]) (by decide +kernel);have e10:f.t 10= .ip (kV m l):=hfa (5,10,.ip (kV m l)) (by simp[bQ]) (dp 5 (by simp));have pu:=pu 11 (.ip (.agg [vi m.g.ins,aG m.g.next,aG m.g.init,prs m.g.ands,aG m.g.outs,dF m.ins,dF m.lat,dF m.out])) (by simp[bQ]) (by simp[bQ]) (by decide);simp only[wq.1,seval,e10]
   first | exact pu | exact⟨by decide,pu⟩ | exact⟨⟨rfl,by decide⟩,pu⟩
  | 7,_ =>
   have dp:=aJ hi (l:=[6]) (by decide +kernel);have e11:f.t 11= .ip (.agg [vi m.g.ins,aG m.g.next,aG m.g.init,prs m.g.ands,aG m.g.outs,dF m.ins,dF m.lat,dF m.out]):=hfa (6,11,.ip (.agg [vi m.g.ins,aG m.g.next,aG m.g.init,prs m.g.ands,aG m.g.outs,dF m.ins,dF m.lat,dF m.out])) (by simp[bQ]) (dp 6 (by simp));have pu:=pu 12 (.ip (.agg [vi m.g.ins,aG m.g.next,aG m.g.init,prs m.g.ands,aG m.g.outs])) (by simp[bQ]) (by simp[bQ]) (by decide);simp only[wq.1,seval,e11]
   first | exact pu | exact⟨by decide,pu⟩ | exact⟨⟨rfl,by decide⟩,pu⟩
  | 8,_ =>
   have dp:=aJ hi (l:=[7]) (by decide +kernel);have e12:f.t 12= .ip (.agg [vi m.g.ins,aG m.g.next,aG m.g.init,prs m.g.ands,aG m.g.outs]):=hfa (7,12,.ip (.agg [vi m.g.ins,aG m.g.next,aG m.g.init,prs m.g.ands,aG m.g.outs])) (by simp[bQ]) (dp 7 (by simp));have pu:=pu 13 (.ip (aG m.g.outs)) (by simp[bQ]) (by simp[bQ]) (by decide);simp only[wq.1,seval,e12]
   first | exact pu | exact⟨by decide,pu⟩ | exact⟨⟨rfl,by decide⟩,pu⟩
  | 9,_ =>
   have dp:=aJ hi (l:=[8]) (by decide +kernel);have e13:f.t 13= .ip (aG m.g.outs):=hfa (8,13,.ip (aG m.g.outs)) (by simp[bQ]) (dp 8 (by simp));have pu:=pu 14 (aG m.g.outs) (by simp[bQ]) (by simp[bQ]) (by decide);simp only[wq.1,Nat.reduceLT,e13]
   first | exact pu | exact⟨by decide,pu⟩ | exact⟨⟨rfl,by decide⟩,pu⟩
  | 10,_ =>
   have pu:=pu 15 (vi k) (by simp[bQ]) (by simp[bQ]) (by decide);simp only[wq.1,Nat.reduceLT,t2]
   first | exact pu | exact⟨by decide,pu⟩ | exact⟨⟨rfl,by decide⟩,pu⟩
  | 11,_=>have dp:=aJ hi (l:=[9,10]) (by decide +kernel);have e14:f.t 14=aG m.g.outs:=hfa (9,14,aG m.g.outs) (by simp[bQ]) (dp 9 (by simp));have e15:f.t 15=vi k:=hfa (10,15,vi k) (by simp[bQ]) (dp 10 (by simp));have pu:=pu 16 (.ip (vi o)) (by simp[bQ]) (by simp[bQ]) (by decide);simp only[wq.1,Nat.reduceLT,e14,e15,hgo];exact⟨⟨by omega,by omega⟩,pu⟩
  | 12,_ =>
   have dp:=aJ hi (l:=[11]) (by decide +kernel);have e16:f.t 16= .ip (vi o):=hfa (11,16,.ip (vi o)) (by simp[bQ]) (dp 11 (by simp));have pu:=pu 17 (vi o) (by simp[bQ]) (by simp[bQ]) (by decide);simp only[wq.1,Nat.reduceLT,e16]
   first | exact pu | exact⟨by decide,pu⟩ | exact⟨⟨rfl,by decide⟩,pu⟩
  | 13,_ =>
   have dp:=aJ hi (l:=[3,12]) (by decide +kernel);have e8:f.t 8=uV n cl rows:=hfa (3,8,uV n cl rows) (by simp[bQ]) (dp 3 (by simp));have e17:f.t 17=vi o:=hfa (12,17,vi o) (by simp[bQ]) (dp 12 (by simp));have pu:=pu 18 (vi z) (by simp[bQ]) (by simp[bQ]) (by decide);simp only[wq.1,Nat.reduceLT,e8,e17];refine ah.ev (hL) (by simp only[V.dats,V.dat,dJ,Bool.and_self]) ?_;simp only[wq.1]
   first | exact pu | exact⟨by decide,pu⟩ | exact⟨⟨rfl,by decide⟩,pu⟩
  | 14,_ =>
   have dp:=aJ hi (l:=[13]) (by decide +kernel);have e18:f.t 18=vi z:=hfa (13,18,vi z) (by simp[bQ]) (dp 13 (by simp));have pu:=pu 19 (.is true 1 [vi z]) (by simp[bQ]) (by simp[bQ]) (by decide);simp only[wq.1,seval,e18]
   first | exact pu | exact⟨by decide,pu⟩ | exact⟨⟨rfl,by decide⟩,pu⟩
  | 15,_ =>
   have dp:=aJ hi (l:=[14]) (by decide +kernel);have e19:f.t 19= .is true 1 [vi z]:=hfa (14,19,.is true 1 [vi z]) (by simp[bQ]) (dp 14 (by simp));have pu:=pu 20 (.is true 1 [.is true 1 [vi z]]) (by simp[bQ]) (by simp[bQ]) (by decide);simp only[wq.1,seval,e19]
   first | exact pu | exact⟨by decide,pu⟩ | exact⟨⟨rfl,by decide⟩,pu⟩
  | 16,_ =>
   have dp:=aJ hi (l:=[15]) (by decide +kernel);have e20:f.t 20= .is true 1 [.is true 1 [vi z]]:=hfa (15,20,.is true 1 [.is true 1 [vi z]]) (by simp[bQ]) (dp 15 (by simp));have dp:=aJ hi (l:=[2,15]) (by decide +kernel);have e20:f.t 20= .is true 1 [.is true 1 [vi z]]:=hfa (15,20,.is true 1 [.is true 1 [vi z]]) (by simp[bQ]) (dp 15 (by simp));have no:=jS hi;have e7:=hn (dp 2 (by simp)) no;have hz:(hQ3 n cl rows++[.cells (A.map fun c=>aG c)]:H)[1]? =some (.cells (A.map fun c=>aG c)):=rfl;rw[HN.at (dp 2 (by simp)) no];have dcs:∀p,V.drops p (A.map fun c=>aG c)=A.map fun c=>aG c:=fun p=>lX _;have hel:(A.map fun c=>aG c).length=A.length*1:=by rw[List.length_map];omega
   simp only[wq.1,seval,e20,e7,dcs];refine⟨⟨by omega,by omega,by omega,by rw[hd];simp⟩,?_⟩;have hdr:∀q∈bQ m l n cl rows k o z A,q.1≠16→q.1≠17→q.2.2.drop (·==1)=q.2.2:=by
    intro q hq;simp only[bQ,List.mem_cons,List.not_mem_nil,or_false]at hq;rcases hq with rfl | rfl | rfl | rfl | rfl | rfl | rfl | rfl | rfl | rfl | rfl | rfl | rfl | rfl | rfl | rfl | rfl
    all_goals first | (intro _ _;rfl) | (intro h _;exact absurd rfl h) | (intro _ h;exact absurd rfl h)
   have n17:L.getD 17 false=false:=iO hcl no (by decide +kernel);refine(hI _ _ _).2 ⟨(HN.fill (B:=(hQ3 n cl rows)) (dp 2 (by simp)) (iW hi) (by decide)).symm,fun q hq hl=> ?_,fun _ h=> ?_,GA.put (d:=21) (hg.drop ?_) rfl,hd⟩
   ·by_cases h16 : q.1 = 16
    ·simp only [bQ,List.mem_cons,List.not_mem_nil,or_false] at hq;rcases hq with rfl | rfl | rfl | rfl | rfl | rfl | rfl | rfl | rfl | rfl | rfl | rfl | rfl | rfl | rfl | rfl | rfl
     all_goals first | (exfalso;revert h16;simp;done) | (simp[Fr.put];done)
    ·rw [getD_set_ne false (Ne.symm h16)] at hl;have h17 : q.1 ≠ 17 := fun h => by rw [h,n17] at hl;cases hl
     have h21:q.2.1≠21:=by
      simp only[bQ,List.mem_cons,List.not_mem_nil,or_false]at hq;rcases hq with rfl | rfl | rfl | rfl | rfl | rfl | rfl | rfl | rfl | rfl | rfl | rfl | rfl | rfl | rfl | rfl | rfl
      all_goals first | exact absurd rfl h16 | exact absurd rfl h17 | simp
     have:=hfa q hq hl;show(if q.2.1=21 then _ else(f.t q.2.1).drop (·==1))=q.2.2;rw[if_neg h21,this,hdr q hq h16 h17]
   ·rw[mM (iW hi)]at h;cases h
   ·intro q hq;simp only [zV,List.mem_cons,List.not_mem_nil,or_false] at hq;rcases hq with rfl | rfl | rfl
    all_goals rfl
  | 17,_ =>
   have dp:=aJ hi (l:=[16]) (by decide +kernel);have e21:f.t 21= .ls 1 1 0 (A.length+1) (A.length+1):=hfa (16,21,.ls 1 1 0 (A.length+1) (A.length+1)) (by simp[bQ]) (dp 16 (by simp));have pu:=pu 4 (.ls 1 1 0 (A.length+1) (A.length+1)) (by simp[bQ]) (by simp[bQ]) (by decide);simp only[wq.1,Nat.reduceLT,e21]
   first | exact pu | exact⟨by decide,pu⟩ | exact⟨⟨rfl,by decide⟩,pu⟩
  | n+18,h=>exact absurd h (by omega)
 ·intro L f h hall hII;obtain⟨rfl,hfa,hn,hg,hd⟩:=(hI _ _ _).1 hII;have h9:=hfa (17,4,.ls 1 1 0 (A.length+1) (A.length+1)) (by simp[bQ]) (hall 17 (by decide +kernel));rw[HN.done (hall 2 (by decide +kernel)) (hall 16 (by decide +kernel))];exact hk f hg hd h9
theorem Vu (m:Mo) (l:List (List Lt)) (n:Int) (cl rows:List Cl) (bad:Int) (hkl:∀c∈l,∀x∈c,fQ m x.1=true) (u:UOk m rows) (hl:l.length≤1000000) (hcl:∀c∈l,c.length≤1000000) (b0:0≤bad) (b1:bad<m.g.outs.length) (ho:∀a∈m.g.outs,a≤1000000) :
 Ev TE 84 [uV n cl rows,.ip (.ip (kV m l)),.ip (vi bad)] (cls (rX m rows l++[[F8 rows 0 (m.g.outs.getD bad.toNat 0)]])):=by
 obtain⟨k,rfl⟩:∃k:Nat,bad=k:=⟨bad.toNat,by omega⟩;have hk:k<m.g.outs.length:=by omega
 have hA:=Gu m l n cl rows hkl u.i u.lat u.b u.r hl hcl;have hcL:=MB n cl rows 0 m.g.outs[k] u.b (ho _ (List.getElem_mem hk)) u.r;rw[Int.toNat_natCast,jl hk];have hal:l.length=(rX m rows l).length:=by unfold rX;rw[List.length_map]
 rw[hal]at hA hl;refine ak Tryz.func84 rfl (by simp[nts]) ?_;refine ag (vm ?_);simp only[wq.1,Nat.reduceLT,Tryz.results84];refine ag (vm ?_);refine WH m l n cl rows k _ _ _ hA hcL hk (KJ hk _) hl (by intro q hq;simp only[zV,List.mem_cons,List.not_mem_nil,or_false]at hq;rcases hq with rfl | rfl | rfl<;>rfl) rfl (fun f hg hd t4=> ?_);show awp _ _ _ _ _ _ _;refine vm ?_;simp only[wq.1,t4,hd];refine az.ls (cs':=((rX m rows l++[[F8 rows 0 m.g.outs[k]]]).map fun c=>aG c)) rfl ?_ (jY _).1 (jY _).2 (by simp);rw[List.map_append];exact aj.append (aj.dat (dJ _)) (uj [[F8 rows 0 m.g.outs[k]]]) rfl
theorem Tt {n:Int} (h0:0≤n) (h1:n≤1000000):IntKind.u64.wrap n=n:=by
 simp only[IntKind.wrap,IntKind.signed,IntKind.bits]
 first | omega | (simp;omega)
theorem PO (c:Nat) (hc:c≤1000000):Ev TE 141 [.int .u64 1,.int .u64 c] (.tup [.int .u64 0,.int .u64 c]):=by
 have e1:Int.fdiv 1 (2^min 32 IntKind.u64.bits)=0:=by decide
 have f0:Int.fdiv 0 (2^min 32 IntKind.u64.bits)=0:=by decide
 have e2:Int.fdiv c (2^min 32 IntKind.u64.bits)=0:=by show Int.fdiv c 4294967296=0;rw[Int.fdiv_eq_ediv_of_nonneg _ (by decide)];omega
 have e3:IntKind.u64.wrap ((BitVec.ofInt IntKind.u64.bits (c:Int) &&& BitVec.ofInt IntKind.u64.bits 4294967295).toNat:Int)=c:=by
  have h1:(BitVec.ofInt IntKind.u64.bits (c:Int) &&& BitVec.ofInt IntKind.u64.bits 4294967295).toNat=c:=by
   show(BitVec.ofInt 64 (c:Int) &&& BitVec.ofInt 64 4294967295).toNat=c;rw[BitVec.toNat_and];have h2:(BitVec.ofInt 64 (c:Int)).toNat=c:=by simp;omega
   have h3:(BitVec.ofInt 64 4294967295).toNat=2^32-1:=by decide
   rw[h2,h3,Nat.and_two_pow_sub_one_eq_mod];exact Nat.mod_eq_of_lt (by omega)
  rw[h1,Tt (by omega) (by omega)]
 have e4:IntKind.u64.wrap ((BitVec.ofInt IntKind.u64.bits 1 &&& BitVec.ofInt IntKind.u64.bits 4294967295).toNat:Int)=1:=by decide
 have e5:IntKind.u64.wrap ((BitVec.ofInt IntKind.u64.bits 0 &&& BitVec.ofInt IntKind.u64.bits 4294967295).toNat:Int)=0:=by decide
 have e6:IntKind.u64.wrap (c:Int)=c:=Tt (by omega) (by omega);have e7:IntKind.u64.wrap 0=0:=by decide
 refine ak Tryz.func141 rfl (by simp[nts]) (vm ?_);simp only[wq.1,seval,Tryz.results141,e1,e2,e3,e4,e5,e6,e7,f0,Int.zero_mul,Int.mul_zero,Int.one_mul,Int.add_zero];exact az.dat rfl
theorem Vw (c:Nat) (hc:c≤1000000):Ev TE 112 [.int .u64 1,.int .u64 c] (.tup [.int .u64 0,.int .u64 c]):=by refine ak Tryz.func112 rfl (by simp[nts]) (vm ?_);simp only[wq.1,seval,Tryz.results112];refine ah.ev (PO c hc) rfl ?_;simp only[wq.1,seval];exact az.dat rfl
theorem Tu (h:H) (n:Int):uA P h 3 161 (.int .i64 n)=(True,.int .u64 (IntKind.u64.wrap n)):=by simp only[uA,tis]
theorem Tv (h:H) (n:Int):uA P h 161 3 (.int .u64 n)=(True,.int .i64 (IntKind.i64.wrap n)):=by simp only[uA,tis]
def QM:Plan:= .take 0<| .take 1<| .take 2<| .take 3<| .take 4<| .take 5<| .take 6<| .one 7<| .one 8<| .take 9<| .fin
def sU (x:Int) (c k:Nat):Cl:=List.replicate k x++List.replicate (c-k) 0
theorem GG {x:Int} {c k:Nat} (h:k≤c):(sU x c k).length=c:=by unfold sU;simp;omega
theorem EI {x:Int} {c k n:Nat} (h:k+n≤c) (hn:n≤k):bT ((sU x c k).map vi) k ((((sU x c k).map vi).drop 0).take (n*1))=(sU x c (k+n)).map vi:=by
 have e1:(((sU x c k).map vi).drop 0).take (n*1)=(List.replicate n x).map vi:=by unfold sU;rw[List.drop_zero,Nat.mul_one,←List.map_take,List.take_append_of_le_length (by simpa using hn),List.take_replicate,Nat.min_eq_left hn]
 rw[e1];unfold bT;rw[←List.map_take,←List.map_drop,←List.map_append,←List.map_append]
 congr 1
 unfold sU;rw[List.take_append_of_le_length (by simp),List.take_of_length_le (by simp),List.length_map,List.length_replicate,List.drop_append,List.length_replicate,List.drop_of_length_le (by simp),List.nil_append,show k+n-k=n by omega,List.drop_replicate,List.replicate_append_replicate,show c-k-n=c-(k+n) by omega]
theorem WI (x:Int) (c:Nat):(List.range c).flatMap (fun _=>[vi 0])=(sU x c 0).map vi:=by
 unfold sU;rw[List.replicate_zero,List.nil_append,Nat.sub_zero,List.map_replicate]
 induction c with
 | zero=>rfl
 | succ c ih=>rw[List.range_succ,List.flatMap_append,ih,List.replicate_succ'];rfl
theorem IY (x:Int) (c:Nat) (hc:c≤1000000):Ev TE 78 [aG [x],vi c] (aG (List.replicate c x)):=by
 have hM:maxLen=9223372036854775807:=rfl;have hn0:decide ((c:Int)<0)=false:=by rw[decide_eq_false_iff_not];omega
 have hz:decide ((9223372036854775807:Int)<(c:Int))=false:=by rw[decide_eq_false_iff_not];omega
 have wu:IntKind.u64.wrap (c:Int)=c:=Tt (by omega) (by omega);have wi:IntKind.i64.wrap (c:Int)=c:=dE (by omega) (by omega);refine ak Tryz.func78 rfl (by simp[nts]) ?_;refine ag (vm ?_);simp only[wq.1,Nat.reduceLT,Tryz.results78];refine ag (vm ?_);simp only[wq.1,seval,hn0];refine ag (vm ?_);have w1:IntKind.u64.wrap ((1:Nat):Int)=1:=by decide
 simp only[wq.1,seval,wu,Tu,w1];refine ah.ev (Vw c hc) rfl ?_;simp only[wq.1,seval];refine ag (vm ?_);simp only[wq.1,seval,hz];refine ag ?_;refine gB ?_;refine aB rfl rfl ?_;simp only[wq.1,seval];refine aB rfl rfl ?_;simp only[wq.1,↓reduceIte,Tv,wi];refine dW rfl rfl ?_;refine kY (t:=22) rfl (q:={kind:= .slice 3,size:=1,bytes:=24,zero:= .nils}) (by simp only[wq.1]) (el:=3) rfl (re:={kind:= .int .i64,size:=1,bytes:=8,zero:=vi 0}) (by simp only[wq.1]) rfl rfl (by decide) (by simp only[wq.1,↓reduceIte]) (by simp only[wq.1,↓reduceIte]) (k:= .i64) (k':= .i64) (m:=(c:Int)) (by simp only[wq.1,↓reduceIte]) (by simp only[wq.1,↓reduceIte]) (by omega) (by omega) (by decide) (by rw[Int.toNat_natCast];show c*1≤_;omega) ?_;rw[Int.toNat_natCast];simp only[wq.1];refine aB rfl rfl ?_;simp only[wq.1,↓reduceIte];refine fP ?_;have h0:=WI x c;rw[h0];refine ag ?_;refine gB ?_;refine aB rfl rfl ?_;simp only[wq.1,↓reduceIte];refine aB rfl rfl ?_;simp only[wq.1,seval];refine dW rfl rfl ?_;have hsrc:jT TE [O.cells ((sU x c 0).map vi)] 1 (aG [x]) 1 (min 1 c) ((List.replicate (min 1 c) x).map vi):=by
  by_cases h:c=0
  ·subst h;exact jT.none
  ·rw[show min 1 c=1 by omega];exact jT.all rfl rfl
 have hsp:bT ((sU x c 0).map vi) 0 ((List.replicate (min 1 c) x).map vi)=(sU x c (min 1 c)).map vi:=by
  by_cases h:c=0
  ·subst h;rfl
  ·obtain⟨d,rfl⟩:∃d,c=d+1:=⟨c-1,by omega⟩;rw[show min 1 (d+1)=1 by omega];unfold sU bT;simp[List.replicate_succ]
 refine Fe (t:=22) (el:=3) rfl rfl (q:={kind:= .slice 3,size:=1,bytes:=24,zero:= .nils}) (by simp only[wq.1]) rfl (re:={kind:= .int .i64,size:=1,bytes:=8,zero:=vi 0}) (by simp only[wq.1]) (by simp only[wq.1,seval]) (by simp only[wq.1,↓reduceIte]) (id:=0) (off:=0) (len:=c) (cap:=c) (by simp only[wq.1,seval]) (cs0:=(sU x c 0).map vi) rfl (by rw[List.length_map,GG (by omega)];show 0+c*1≤c;omega) (m:=1) (n':=min 1 c) (cs:=(List.replicate (min 1 c) x).map vi) hsrc rfl (lH _) ?_;rw[hsp];simp only[wq.1];refine aB rfl rfl ?_;simp only[wq.1,↓reduceIte];refine fP ?_;simp only[wq.1];refine ag (vm ?_);simp only[wq.1];refine aA (fun m f h=>∃k,m+k=c∧(1≤k∨c=0)∧f.t 7= .ls 0 1 0 c c∧f.t 8=vi k∧f.d=[]∧h=[.cells ((sU x c k).map vi)]) (c-min 1 c) ⟨min 1 c,by omega,by omega,by simp only[wq.1,seval],by simp only[wq.1,↓reduceIte],by simp only[wq.1],rfl⟩ ?_;rintro m f h ⟨k,hm,hk1,t7,t8,hd,rfl⟩;refine ag (vm ?_);simp only[wq.1,seval,t7,t8];refine vcB.mk (fun hlt=> ?_) (fun hlt=> ?_)
 ·simp only [decide_eq_true_eq,Int.ofNat_lt] at hlt;have hkc : k ≤ c := by omega
  have hrl:(sU x c k).length=c:=GG hkc;simp only[wq.1];refine aI ?_;refine Bf mixed 7 QM (fun f' h'=>f'.t 7= .ls 0 1 0 c c∧f'.t 8=vi ((k+min k (c-k):Nat):Int)∧f'.d=[]∧h'=[.cells ((sU x c (k+min k (c-k))).map vi)]) (by decide +kernel) (by decide +kernel) ?_ ?_
  ·intro K hK;simp only [wq.1,seval,QM,mJ,Ie,t7,t8];obtain ⟨n,hn⟩ : ∃ n,n = min k (c - k) := ⟨_,rfl⟩;rw [← hn];have hw : IntKind.i64.wrap ((k : Int) + (n : Int)) = ((k + n : Nat) : Int) := by rw [dE (by omega) (by omega)];omega
   have hcs:iL [O.cells ((sU x c k).map vi)] 1 (.ls 0 1 0 n c)=some (n,(((sU x c k).map vi).drop 0).take (n*1)):=by exact if_pos (show 1=1∧0+n*1≤((sU x c k).map vi).length from⟨rfl,by rw[List.length_map,hrl];omega⟩)
   have hao:bF ((((sU x c k).map vi).drop 0).take (n*1))=true:=by rw[←List.map_drop,←List.map_take];exact lH _
   refine⟨⟨by omega,by omega⟩,⟨by omega,.inl (by omega)⟩,Fb (d:=45) rfl rfl rfl rfl fun r' o ho hod=> ?_⟩;refine Fe (x:= .tmp 41) (y:= .tmp 44) (ts:=#[22,22]) (t:=22) (el:=3) (by subst ho;rfl) rfl (q:={kind:= .slice 3,size:=1,bytes:=24,zero:= .nils}) (by simp only[wq.1]) rfl (re:={kind:= .int .i64,size:=1,bytes:=8,zero:=vi 0}) (by simp only[wq.1]) (by simp only[wq.1,seval]) (by simp only[wq.1,↓reduceIte]) (id:=0) (off:=k) (len:=c-k) (cap:=c-k) (by simp only[wq.1,seval,Nat.mul_one]) (cs0:=(sU x c k).map vi) rfl (by rw[List.length_map,hrl];show k+(c-k)*1≤c;omega) (m:=k) (n':=n) (cs:=(((sU x c k).map vi).drop 0).take (n*1)) (by simp only[wq.1,↓reduceIte];exact jT.part (by omega) hcs) hn hao (hK _ _ _ ?_);rw[EI (by omega) (by omega),hod];simp only[wq.1,seval,t7,hd,hw];exact⟨by rw[hn],by rw[hn]⟩
  ·rintro f h ⟨t7,t8,hd,rfl⟩;exact .inl ⟨c-(k+min k (c-k)),by omega,k+min k (c-k),by omega,by omega,t7,t8,hd,rfl⟩
 ·simp only [decide_eq_false_iff_not,Int.ofNat_lt] at hlt;simp only [wq.1];have hkc : k = c := by omega
  have hre:sU x c k=List.replicate c x:=by unfold sU;rw[hkc];simp
  rw[hre];show awp _ _ _ _ _ _ _;refine ag (vm ?_);simp only[wq.1,seval,t7];refine vm ?_;simp only[wq.1,↓reduceIte,hd];exact qJ rfl (by simp)
abbrev hA1 (part clause:Int) (beg:Cl) (steps:Int) (fid:FuncId) (caps:List V):H:=[.cells [vi part,vi clause,aG beg,vi steps,.fn (.func fid) [] caps],.cells [vi 0,vi 0,vi 0,.nils]]
abbrev hA2 (part clause:Int) (beg:Cl) (steps:Int) (fid:FuncId) (caps:List V) (n:Int) (cl rows:List Cl):H:=[.cells [vi part,vi clause,aG beg,vi steps,.fn (.func fid) [] caps],.cells [vi 0,vi 0,vi 0,.nils],.cells [vi n,cls cl,cls rows]]
def V9 (l:List Cl) (n bud res:Int) (vals:List Bool) (nn:Int) (ln:List Cl) (e2:Int):Prop:=(chk l n≠0∧e2=chk l n∧res=0∧vals=[])∨(chk l n=0∧e2=0∧pJ l n.toNat (max bud 0) res vals ln)
theorem Tz {l:List Cl} {n bud:Int} {r:V} (h:vW l n bud r):∃res vals nn ln e2,r= .tup [.agg [vi res,fV vals,vi nn,cls ln],vi e2]∧V9 l n bud res vals nn ln e2:=by
 rcases h with⟨h,rfl⟩ | ⟨h,res,vals,ln,rfl,ok⟩
 ·exact⟨0,[],0,[],_,rfl,.inl ⟨h,rfl,rfl,rfl⟩⟩
 ·exact⟨res,vals,_,ln,0,rfl,.inr ⟨h,rfl,ok⟩⟩
def dM (m:Mo) (l:List (List Lt)) (part clause:Int) (beg:Cl) (steps:Int) (fid:FuncId) (caps:List V) (bud n:Int) (cl rows:List Cl) (e:Int):List (Nat×Nat×V):=[(0,16,.ip (kV m l)),(1,17,.ip (kV m l)),(2,18,.ip (.agg [vi m.g.ins,aG m.g.next,aG m.g.init,prs m.g.ands,aG m.g.outs,dF m.ins,dF m.lat,dF m.out])),(3,19,.ip (.agg [vi m.g.ins,aG m.g.next,aG m.g.init,prs m.g.ands,aG m.g.outs])),(4,20,.agg [vi m.g.ins,aG m.g.next,aG m.g.init,prs m.g.ands,aG m.g.outs]),(5,21,.lp 0 2),(6,22,aG beg),(7,23,.lp 0 3),(8,24,vi steps),(9,25,.tup [uV n cl rows,vi e]),(10,15,.tup [uV n cl rows,vi e]),(11,26,uV n cl rows),(12,27,vi e),(15,9,vi e)]
def pR (m:Mo) (l:List (List Lt)) (part clause:Int) (beg:Cl) (steps:Int) (fid:FuncId) (caps:List V) (bud n:Int) (cl rows:List Cl):List (Nat×V):=[(0,.ip (kV m l)),(2,vi bud),(4,.lp 0 0),(6,.lp 1 0)]
theorem Ws (m : Mo) (l : List (List Lt)) (part clause : Int) (beg : Cl) (steps : Int) (fid : FuncId) (caps : List V) (bud n : Int) (cl rows : List Cl) (e : Int) (hu : Ev TE 86 [.agg [vi m.g.ins,aG m.g.next,aG m.g.init,prs m.g.ands,aG m.g.outs],aG beg,vi steps] (.tup [uV n cl rows,vi e])) {r : Option Nat} {Q : XE → Fr → H → Prop} {f0 : Fr} (g0 : GA f0 (pR m l part clause beg steps fid caps bud n cl rows)) (d0 : f0.d = [])
 (hk:∀f ,GA f (pR m l part clause beg steps fid caps bud n cl rows)→f.d=[]→f.t 8= .lp 2 0∧f.t 9=vi e→Q .normal f (hA2 part clause beg steps fid caps n cl rows)) :
 awp TE 95 r (.region 1 (Ic Tryz.f49 1) true) Q f0 (hA1 part clause beg steps fid caps):=by
 simp only[Ic,Tryz.f49,wY,List.nil_append,List.append_nil,List.headD_cons,Nat.reduceBEq,Bool.false_eq_true,if_false,if_true,List.cons_append];obtain⟨I,hI⟩:∃I:Array Bool→Fr→H→Prop,∀L f h,I L f h↔(h=HN L (hA1 part clause beg steps fid caps) 13 14 [vi 0,.nils,.nils] [vi n,cls cl,cls rows]∧FA L f (dM m l part clause beg steps fid caps bud n cl rows e)∧(L.getD 13 false=true→f.t 8= .lp 2 0)∧GA f (pR m l part clause beg steps fid caps bud n cl rows)∧f.d=[]):=⟨_,fun _ _ _=>Iff.rfl⟩;refine zn mixed I (by decide +kernel) ?_ ?_ ?_
 ·exact(hI _ _ _).2 ⟨(HN.none).symm,FA.none,fun h=>by exfalso;revert h;decide +kernel,g0,d0⟩
 ·intro L f h i hcl hII hi;obtain⟨rfl,hfa,hn,hg,hd⟩:=(hI _ _ _).1 hII;have t0:f.t 0= .ip (kV m l):=hg (0,.ip (kV m l)) (by simp[pR]);have t2:f.t 2=vi bud:=hg (2,vi bud) (by simp[pR]);have t4:f.t 4= .lp 0 0:=hg (4,.lp 0 0) (by simp[pR]);have t6:f.t 6= .lp 1 0:=hg (6,.lp 1 0) (by simp[pR]);have b0:(HN L (hA1 part clause beg steps fid caps) 13 14 [vi 0,.nils,.nils] [vi n,cls cl,cls rows])[0]? =some (.cells [vi part,vi clause,aG beg,vi steps,.fn (.func fid) [] caps]):=HN.get (rfl);have hlt:i<16:=zi hi;have pu:∀(d:Nat) (v:V),(∀x∈(dM m l part clause beg steps fid caps bud n cl rows e),x.1=i→x.2.1=d∧x.2.2=v)→(∀x∈(dM m l part clause beg steps fid caps bud n cl rows e),x.2.1=d→x.1=i)→(decide (d∉([0,2,4,6,8]:List Nat))&&decide (i∉([13,14]:List Nat)))=true→I (L.setIfInBounds i true) (f.put (some d) v) (HN L (hA1 part clause beg steps fid caps) 13 14 [vi 0,.nils,.nils] [vi n,cls cl,cls rows]):=by
   intro d v h1 h2 h3;rw[Bool.and_eq_true,decide_eq_true_eq,decide_eq_true_eq]at h3;simp only[List.mem_cons,List.not_mem_nil,or_false,not_or,not_false_eq_true,and_true,true_and]at h3;refine(hI _ _ _).2 ⟨(HN.skip (by omega) (by omega)).symm,hfa.put h1 h2,(by rw[getD_set_ne false (by omega)];exact fun h=>by have:=hn h;simpa [Fr.put,show ¬8=d by omega]using this),hg.put (by simp[pR];omega),hd⟩
  match i,hlt with
  | 0,_ =>
   have pu:=pu 16 (.ip (kV m l)) (by simp[dM]) (by simp[dM]) (by decide);simp only[wq.1,Nat.reduceLT,t0]
   first | exact pu | exact⟨by decide,pu⟩ | exact⟨⟨rfl,by decide⟩,pu⟩
  | 1,_ =>
   have dp:=aJ hi (l:=[0]) (by decide +kernel);have e16:f.t 16= .ip (kV m l):=hfa (0,16,.ip (kV m l)) (by simp[dM]) (dp 0 (by simp));have pu:=pu 17 (.ip (kV m l)) (by simp[dM]) (by simp[dM]) (by decide);simp only[wq.1,Nat.reduceLT,e16]
   first | exact pu | exact⟨by decide,pu⟩ | exact⟨⟨rfl,by decide⟩,pu⟩
  | 2,_ =>
   have dp:=aJ hi (l:=[1]) (by decide +kernel);have e17:f.t 17= .ip (kV m l):=hfa (1,17,.ip (kV m l)) (by simp[dM]) (dp 1 (by simp));have pu:=pu 18 (.ip (.agg [vi m.g.ins,aG m.g.next,aG m.g.init,prs m.g.ands,aG m.g.outs,dF m.ins,dF m.lat,dF m.out])) (by simp[dM]) (by simp[dM]) (by decide);simp only[wq.1,seval,e17]
   first | exact pu | exact⟨by decide,pu⟩ | exact⟨⟨rfl,by decide⟩,pu⟩
  | 3,_ =>
   have dp:=aJ hi (l:=[2]) (by decide +kernel);have e18:f.t 18= .ip (.agg [vi m.g.ins,aG m.g.next,aG m.g.init,prs m.g.ands,aG m.g.outs,dF m.ins,dF m.lat,dF m.out]):=hfa (2,18,.ip (.agg [vi m.g.ins,aG m.g.next,aG m.g.init,prs m.g.ands,aG m.g.outs,dF m.ins,dF m.lat,dF m.out])) (by simp[dM]) (dp 2 (by simp));have pu:=pu 19 (.ip (.agg [vi m.g.ins,aG m.g.next,aG m.g.init,prs m.g.ands,aG m.g.outs])) (by simp[dM]) (by simp[dM]) (by decide);simp only[wq.1,seval,e18]
   first | exact pu | exact⟨by decide,pu⟩ | exact⟨⟨rfl,by decide⟩,pu⟩
  | 4,_ =>
   have dp:=aJ hi (l:=[3]) (by decide +kernel);have e19:f.t 19= .ip (.agg [vi m.g.ins,aG m.g.next,aG m.g.init,prs m.g.ands,aG m.g.outs]):=hfa (3,19,.ip (.agg [vi m.g.ins,aG m.g.next,aG m.g.init,prs m.g.ands,aG m.g.outs])) (by simp[dM]) (dp 3 (by simp));have pu:=pu 20 (.agg [vi m.g.ins,aG m.g.next,aG m.g.init,prs m.g.ands,aG m.g.outs]) (by simp[dM]) (by simp[dM]) (by decide);simp only[wq.1,seval,e19]
   first | exact pu | exact⟨by decide,pu⟩ | exact⟨⟨rfl,by decide⟩,pu⟩
  | 5,_ =>
   have pu:=pu 21 (.lp 0 2) (by simp[dM]) (by simp[dM]) (by decide);simp only[wq.1,Nat.reduceLT,t4]
   first | exact pu | exact⟨by decide,pu⟩ | exact⟨⟨rfl,by decide⟩,pu⟩
  | 6,_ =>
   have dp:=aJ hi (l:=[5]) (by decide +kernel);have e21:f.t 21= .lp 0 2:=hfa (5,21,.lp 0 2) (by simp[dM]) (dp 5 (by simp));have pu:=pu 22 (aG beg) (by simp[dM]) (by simp[dM]) (by decide);simp only[wq.1,seval,b0,e21]
   first | exact pu | exact⟨by decide,pu⟩ | exact⟨⟨rfl,by decide⟩,pu⟩
  | 7,_ =>
   have pu:=pu 23 (.lp 0 3) (by simp[dM]) (by simp[dM]) (by decide);simp only[wq.1,Nat.reduceLT,t4]
   first | exact pu | exact⟨by decide,pu⟩ | exact⟨⟨rfl,by decide⟩,pu⟩
  | 8,_ =>
   have dp:=aJ hi (l:=[7]) (by decide +kernel);have e23:f.t 23= .lp 0 3:=hfa (7,23,.lp 0 3) (by simp[dM]) (dp 7 (by simp));have pu:=pu 24 (vi steps) (by simp[dM]) (by simp[dM]) (by decide);simp only[wq.1,seval,b0,e23]
   first | exact pu | exact⟨by decide,pu⟩ | exact⟨⟨rfl,by decide⟩,pu⟩
  | 9,_ =>
   have dp:=aJ hi (l:=[4,6,8]) (by decide +kernel);have e20:f.t 20= .agg [vi m.g.ins,aG m.g.next,aG m.g.init,prs m.g.ands,aG m.g.outs]:=hfa (4,20,.agg [vi m.g.ins,aG m.g.next,aG m.g.init,prs m.g.ands,aG m.g.outs]) (by simp[dM]) (dp 4 (by simp));have e22:f.t 22=aG beg:=hfa (6,22,aG beg) (by simp[dM]) (dp 6 (by simp));have e24:f.t 24=vi steps:=hfa (8,24,vi steps) (by simp[dM]) (dp 8 (by simp));have pu:=pu 25 (.tup [uV n cl rows,vi e]) (by simp[dM]) (by simp[dM]) (by decide);simp only[wq.1,Nat.reduceLT,e20,e22,e24];refine ah.ev (hu) (by simp only[V.dats,V.dat,Bool.and_self]) ?_;simp only[wq.1]
   first | exact pu | exact⟨by decide,pu⟩ | exact⟨⟨rfl,by decide⟩,pu⟩
  | 10,_ =>
   have dp:=aJ hi (l:=[9]) (by decide +kernel);have e25:f.t 25= .tup [uV n cl rows,vi e]:=hfa (9,25,.tup [uV n cl rows,vi e]) (by simp[dM]) (dp 9 (by simp));have pu:=pu 15 (.tup [uV n cl rows,vi e]) (by simp[dM]) (by simp[dM]) (by decide);simp only[wq.1,Nat.reduceLT,e25]
   first | exact pu | exact⟨by decide,pu⟩ | exact⟨⟨rfl,by decide⟩,pu⟩
  | 11,_ =>
   have dp:=aJ hi (l:=[10]) (by decide +kernel);have e15:f.t 15= .tup [uV n cl rows,vi e]:=hfa (10,15,.tup [uV n cl rows,vi e]) (by simp[dM]) (dp 10 (by simp));have pu:=pu 26 (uV n cl rows) (by simp[dM]) (by simp[dM]) (by decide);simp only[wq.1,seval,e15]
   first | exact pu | exact⟨by decide,pu⟩ | exact⟨⟨rfl,by decide⟩,pu⟩
  | 12,_ =>
   have dp:=aJ hi (l:=[10]) (by decide +kernel);have e15:f.t 15= .tup [uV n cl rows,vi e]:=hfa (10,15,.tup [uV n cl rows,vi e]) (by simp[dM]) (dp 10 (by simp));have pu:=pu 27 (vi e) (by simp[dM]) (by simp[dM]) (by decide);simp only[wq.1,seval,e15]
   first | exact pu | exact⟨by decide,pu⟩ | exact⟨⟨rfl,by decide⟩,pu⟩
  | 13,_=>have no:=jS hi;have n3:L.getD 14 false=false:=iO hcl no (by decide +kernel);rw[HN.old no];simp only[wq.1,seval];refine(hI _ _ _).2 ⟨(HN.new (B:=(hA1 part clause beg steps fid caps)) (iW hi) (by decide) n3).symm,hfa.put' rfl,fun _=>by simp[Fr.put],hg.put rfl,hd⟩
  | 14,_=>have dp:=aJ hi (l:=[11]) (by decide +kernel);have e26:f.t 26=uV n cl rows:=hfa (11,26,uV n cl rows) (by simp[dM]) (dp 11 (by simp));have dp:=aJ hi (l:=[11,13]) (by decide +kernel);have e26:f.t 26=uV n cl rows:=hfa (11,26,uV n cl rows) (by simp[dM]) (dp 11 (by simp));have e8:=hn (dp 13 (by simp));have no:=jS hi;have hz:(hA1 part clause beg steps fid caps++[.cells [vi 0,.nils,.nils]]:H)[2]? =some (.cells [vi 0,.nils,.nils]):=rfl;rw[HN.at (dp 13 (by simp)) no];simp only[wq.1,Nat.reduceAdd,e8,e26];refine(hI _ _ _).2 ⟨(HN.fill (B:=(hA1 part clause beg steps fid caps)) (dp 13 (by simp)) (iW hi) (by decide)).symm,hfa.skip (by simp[dM]),fun _=>e8,hg,hd⟩
  | 15,_ =>
   have dp:=aJ hi (l:=[12]) (by decide +kernel);have e27:f.t 27=vi e:=hfa (12,27,vi e) (by simp[dM]) (dp 12 (by simp));have pu:=pu 9 (vi e) (by simp[dM]) (by simp[dM]) (by decide);simp only[wq.1,Nat.reduceLT,e27]
   first | exact pu | exact⟨by decide,pu⟩ | exact⟨⟨rfl,by decide⟩,pu⟩
  | n+16,h=>exact absurd h (by omega)
 ·intro L f h hall hII;obtain⟨rfl,hfa,hn,hg,hd⟩:=(hI _ _ _).1 hII;have h8:=hn (hall 13 (by decide +kernel));have h9:=hfa (15,9,vi e) (by simp[dM]) (hall 15 (by decide +kernel));rw[HN.done (hall 13 (by decide +kernel)) (hall 14 (by decide +kernel))];exact hk f hg hd ⟨h8,h9⟩
def dP (m:Mo) (l:List (List Lt)) (part clause:Int) (beg:Cl) (steps:Int) (fid:FuncId) (caps:List V) (bud n:Int) (cl rows:List Cl) (more:List Cl):List (Nat×Nat×V):=[(0,33,.lp 2 1),(1,34,cls cl),(2,35,.lp 0 4),(3,36,.fn (.func fid) [] caps),(4,37,uV n cl rows),(5,38,cls more),(6,39,.is true 1 [cls cl,cls more]),(7,40,cls (cl++more)),(8,41,.lp 2 0),(9,42,vi n),(10,43,vi bud)]
def eG (res:Int) (vals:List Bool) (nn:Int) (ln:List Cl) (e2:Int):List (Nat×Nat×V):=[(11,44,.tup [.agg [vi res,fV vals,vi nn,cls ln],vi e2]),(12,32,.tup [.agg [vi res,fV vals,vi nn,cls ln],vi e2]),(13,45,.agg [vi res,fV vals,vi nn,cls ln]),(14,46,vi e2),(17,9,vi e2)]
def oL (m:Mo) (l:List (List Lt)) (part clause:Int) (beg:Cl) (steps:Int) (fid:FuncId) (caps:List V) (bud n:Int) (cl rows:List Cl):List (Nat×V):=[(0,.ip (kV m l)),(2,vi bud),(4,.lp 0 0),(6,.lp 1 0),(8,.lp 2 0)]
theorem WJ (m : Mo) (l : List (List Lt)) (part clause : Int) (beg : Cl) (steps : Int) (fid : FuncId) (caps : List V) (bud n : Int) (cl rows : List Cl) (more : List Cl) (hm : Ev TE fid (uV n cl rows :: caps) (cls more)) (he : ai P fid = true) (hc : V.dats caps = true) (hn1 : cl.length + more.length ≤ 1000000000) (hs : EvR TE 87 [cls (cl ++ more),vi n,vi bud] (vW (cl ++ more) n bud)) {r : Option Nat} {Q : XE → Fr → H → Prop} {f0 : Fr} (g0 : GA f0 (oL m l part clause beg steps fid caps bud n cl rows)) (d0 : f0.d = [])
 (hk:∀f (res:Int) (vals:List Bool) (nn:Int) (ln:List Cl) (e2:Int),V9 (cl++more) n bud res vals nn ln e2→GA f (oL m l part clause beg steps fid caps bud n cl rows)→f.d=[]→f.t 10= .lp 3 0∧f.t 9=vi e2→Q .normal f (hA2 part clause beg steps fid caps n cl rows++[.cells [vi res,fV vals,vi nn,cls ln]])) :
 awp TE 95 r (.region 4 (Ic Tryz.f49 4) true) Q f0 (hA2 part clause beg steps fid caps n cl rows):=by
 simp only[Ic,Tryz.f49,wY,List.nil_append,List.append_nil,List.headD_cons,Nat.reduceBEq,Bool.false_eq_true,if_false,if_true,List.cons_append];have hcc:=wG [cl,more] (by simp;omega) (by show 2≤1000000000;omega);rw[show [cl,more].flatten=cl++more by simp]at hcc;obtain⟨I,hI⟩:∃I:Array Bool→Fr→H→Prop,∀L f h,I L f h↔∃(res:Int) (vals:List Bool) (nn:Int) (ln:List Cl) (e2:Int),(h=HN L (hA2 part clause beg steps fid caps n cl rows) 15 16 [vi 0,.nils,vi 0,.nils] [vi res,fV vals,vi nn,cls ln]∧FA L f (dP m l part clause beg steps fid caps bud n cl rows more)∧FA L f (eG res vals nn ln e2)∧(L.getD 11 false=true→V9 (cl++more) n bud res vals nn ln e2)∧(L.getD 15 false=true→f.t 10= .lp 3 0)∧GA f (oL m l part clause beg steps fid caps bud n cl rows)∧f.d=[]):=⟨_,fun _ _ _=>Iff.rfl⟩;refine zn mixed I (by decide +kernel) ?_ ?_ ?_
 ·exact(hI _ _ _).2 ⟨0,[],0,[],0,(HN.none).symm,FA.none,FA.none,fun h=>by exfalso;revert h;decide +kernel,fun h=>by exfalso;revert h;decide +kernel,g0,d0⟩
 ·intro L f h i hcl hII hi;obtain⟨res,vals,nn,ln,e2,rfl,hfa,hfb,hS,hn,hg,hd⟩:=(hI _ _ _).1 hII;have t0:f.t 0= .ip (kV m l):=hg (0,.ip (kV m l)) (by simp[oL]);have t2:f.t 2=vi bud:=hg (2,vi bud) (by simp[oL]);have t4:f.t 4= .lp 0 0:=hg (4,.lp 0 0) (by simp[oL]);have t6:f.t 6= .lp 1 0:=hg (6,.lp 1 0) (by simp[oL]);have t8:f.t 8= .lp 2 0:=hg (8,.lp 2 0) (by simp[oL]);have b0:(HN L (hA2 part clause beg steps fid caps n cl rows) 15 16 [vi 0,.nils,vi 0,.nils] [vi res,fV vals,vi nn,cls ln])[0]? =some (.cells [vi part,vi clause,aG beg,vi steps,.fn (.func fid) [] caps]):=HN.get (rfl);have b2:(HN L (hA2 part clause beg steps fid caps n cl rows) 15 16 [vi 0,.nils,vi 0,.nils] [vi res,fV vals,vi nn,cls ln])[2]? =some (.cells [vi n,cls cl,cls rows]):=HN.get (rfl);have hlt:i<18:=zi hi;have pu:∀(d:Nat) (v:V),(∀x∈(dP m l part clause beg steps fid caps bud n cl rows more),x.1=i→x.2.1=d∧x.2.2=v)→(∀x∈(dP m l part clause beg steps fid caps bud n cl rows more),x.2.1=d→x.1=i)→(∀x∈(eG res vals nn ln e2),x.1=i→x.2.1=d∧x.2.2=v)→(∀x∈(eG res vals nn ln e2),x.2.1=d→x.1=i)→(decide (d∉([0,2,4,6,8,10]:List Nat))&&decide (i∉([15,16,11]:List Nat)))=true→I (L.setIfInBounds i true) (f.put (some d) v) (HN L (hA2 part clause beg steps fid caps n cl rows) 15 16 [vi 0,.nils,vi 0,.nils] [vi res,fV vals,vi nn,cls ln]):=by
   intro d v h1 h2 h4 h5 h3;rw[Bool.and_eq_true,decide_eq_true_eq,decide_eq_true_eq]at h3;simp only[List.mem_cons,List.not_mem_nil,or_false,not_or,not_false_eq_true,and_true,true_and]at h3;refine(hI _ _ _).2 ⟨res,vals,nn,ln,e2,(HN.skip (by omega) (by omega)).symm,hfa.put h1 h2,hfb.put h4 h5,(by rw[getD_set_ne false (by omega)];exact hS),(by rw[getD_set_ne false (by omega)];exact fun h=>by have:=hn h;simpa [Fr.put,show ¬10=d by omega]using this),hg.put (by simp[oL];omega),hd⟩
  match i,hlt with
  | 0,_ =>
   have pu:=pu 33 (.lp 2 1) (by simp[dP]) (by simp[dP]) (by simp[eG]) (by simp[eG]) (by decide);simp only[wq.1,Nat.reduceLT,t8]
   first | exact pu | exact⟨by decide,pu⟩ | exact⟨⟨rfl,by decide⟩,pu⟩
  | 1,_ =>
   have dp:=aJ hi (l:=[0]) (by decide +kernel);have e33:f.t 33= .lp 2 1:=hfa (0,33,.lp 2 1) (by simp[dP]) (dp 0 (by simp));have pu:=pu 34 (cls cl) (by simp[dP]) (by simp[dP]) (by simp[eG]) (by simp[eG]) (by decide);simp only[wq.1,seval,b2,e33]
   first | exact pu | exact⟨by decide,pu⟩ | exact⟨⟨rfl,by decide⟩,pu⟩
  | 2,_ =>
   have pu:=pu 35 (.lp 0 4) (by simp[dP]) (by simp[dP]) (by simp[eG]) (by simp[eG]) (by decide);simp only[wq.1,Nat.reduceLT,t4]
   first | exact pu | exact⟨by decide,pu⟩ | exact⟨⟨rfl,by decide⟩,pu⟩
  | 3,_ =>
   have dp:=aJ hi (l:=[2]) (by decide +kernel);have e35:f.t 35= .lp 0 4:=hfa (2,35,.lp 0 4) (by simp[dP]) (dp 2 (by simp));have pu:=pu 36 (.fn (.func fid) [] caps) (by simp[dP]) (by simp[dP]) (by simp[eG]) (by simp[eG]) (by decide);simp only[wq.1,seval,b0,e35]
   first | exact pu | exact⟨by decide,pu⟩ | exact⟨⟨rfl,by decide⟩,pu⟩
  | 4,_ =>
   have pu:=pu 37 (uV n cl rows) (by simp[dP]) (by simp[dP]) (by simp[eG]) (by simp[eG]) (by decide);simp only[wq.1,seval,t8,b2]
   first | exact pu | exact⟨by decide,pu⟩ | exact⟨⟨rfl,by decide⟩,pu⟩
  | 5,_ =>
   have dp:=aJ hi (l:=[3,4]) (by decide +kernel);have e36:f.t 36= .fn (.func fid) [] caps:=hfa (3,36,.fn (.func fid) [] caps) (by simp[dP]) (dp 3 (by simp));have e37:f.t 37=uV n cl rows:=hfa (4,37,uV n cl rows) (by simp[dP]) (dp 4 (by simp));have pu:=pu 38 (cls more) (by simp[dP]) (by simp[dP]) (by simp[eG]) (by simp[eG]) (by decide);simp only[wq.1,Nat.reduceLT,e36,e37];refine⟨he,?_⟩;refine ah.ev (hm) (by simp only[V.dats,V.dat,dJ,hc,Bool.and_self]) ?_;simp only[wq.1]
   first | exact pu | exact⟨by decide,pu⟩ | exact⟨⟨rfl,by decide⟩,pu⟩
  | 6,_ =>
   have dp:=aJ hi (l:=[1,5]) (by decide +kernel);have e34:f.t 34=cls cl:=hfa (1,34,cls cl) (by simp[dP]) (dp 1 (by simp));have e38:f.t 38=cls more:=hfa (5,38,cls more) (by simp[dP]) (dp 5 (by simp));have pu:=pu 39 (.is true 1 [cls cl,cls more]) (by simp[dP]) (by simp[dP]) (by simp[eG]) (by simp[eG]) (by decide);simp only[wq.1,seval,e34,e38]
   first | exact pu | exact⟨by decide,pu⟩ | exact⟨⟨rfl,by decide⟩,pu⟩
  | 7,_ =>
   have dp:=aJ hi (l:=[6]) (by decide +kernel);have e39:f.t 39= .is true 1 [cls cl,cls more]:=hfa (6,39,.is true 1 [cls cl,cls more]) (by simp[dP]) (dp 6 (by simp));have pu:=pu 40 (cls (cl++more)) (by simp[dP]) (by simp[dP]) (by simp[eG]) (by simp[eG]) (by decide);simp only[wq.1,Nat.reduceLT,e39];refine ah.ev (hcc) (by simp only[V.dats,V.dat,dJ,Bool.and_self]) ?_;simp only[wq.1]
   first | exact pu | exact⟨by decide,pu⟩ | exact⟨⟨rfl,by decide⟩,pu⟩
  | 8,_ =>
   have pu:=pu 41 (.lp 2 0) (by simp[dP]) (by simp[dP]) (by simp[eG]) (by simp[eG]) (by decide);simp only[wq.1,Nat.reduceLT,t8]
   first | exact pu | exact⟨by decide,pu⟩ | exact⟨⟨rfl,by decide⟩,pu⟩
  | 9,_ =>
   have dp:=aJ hi (l:=[8]) (by decide +kernel);have e41:f.t 41= .lp 2 0:=hfa (8,41,.lp 2 0) (by simp[dP]) (dp 8 (by simp));have pu:=pu 42 (vi n) (by simp[dP]) (by simp[dP]) (by simp[eG]) (by simp[eG]) (by decide);simp only[wq.1,seval,b2,e41]
   first | exact pu | exact⟨by decide,pu⟩ | exact⟨⟨rfl,by decide⟩,pu⟩
  | 10,_ =>
   have pu:=pu 43 (vi bud) (by simp[dP]) (by simp[dP]) (by simp[eG]) (by simp[eG]) (by decide);simp only[wq.1,Nat.reduceLT,t2]
   first | exact pu | exact⟨by decide,pu⟩ | exact⟨⟨rfl,by decide⟩,pu⟩
  | 11,_ =>
   have dp:=aJ hi (l:=[7,9,10]) (by decide +kernel);have e40:f.t 40=cls (cl++more):=hfa (7,40,cls (cl++more)) (by simp[dP]) (dp 7 (by simp));have e42:f.t 42=vi n:=hfa (9,42,vi n) (by simp[dP]) (dp 9 (by simp));have e43:f.t 43=vi bud:=hfa (10,43,vi bud) (by simp[dP]) (dp 10 (by simp));have no:=jS hi;have n12:=iO hcl no (i:=12) (by decide +kernel);have n13:=iO hcl n12 (i:=13) (by decide +kernel);have n14:=iO hcl n12 (i:=14) (by decide +kernel);have n16:=iO hcl no (i:=16) (by decide +kernel);have n17:=iO hcl no (i:=17) (by decide +kernel);simp only[wq.1,Nat.reduceLT,e40,e42,e43];refine oC hs (by simp only[V.dats,V.dat,dJ,Bool.and_self]) fun rv hrv=> ?_;obtain⟨res2,vals2,nn2,ln2,e22,rfl,hA⟩:=Tz hrv;simp only[wq.1];refine(hI _ _ _).2 ⟨res2,vals2,nn2,ln2,e22,?_,hfa.put' (by simp[dP]),?_,fun _=>hA,(by rw[getD_set_ne false (by decide)];exact fun h=>by have:=hn h;simpa [Fr.put]using this),hg.put (by simp[oL]),hd⟩
   ·rw[HN.skip (by decide) (by decide)];unfold HN;rw[n16];rfl
   ·intro q hq hl;simp only [eG,List.mem_cons,List.not_mem_nil,or_false] at hq;rcases hq with rfl | rfl | rfl | rfl | rfl
    ·simp[Fr.put]
    ·have hl:(L.setIfInBounds 11 true).getD 12 false=true:=hl;rw[getD_set_ne false (show(11:Nat)≠12 by decide),n12]at hl;cases hl
    ·have hl:(L.setIfInBounds 11 true).getD 13 false=true:=hl;rw[getD_set_ne false (show(11:Nat)≠13 by decide),n13]at hl;cases hl
    ·have hl:(L.setIfInBounds 11 true).getD 14 false=true:=hl;rw[getD_set_ne false (show(11:Nat)≠14 by decide),n14]at hl;cases hl
    ·have hl:(L.setIfInBounds 11 true).getD 17 false=true:=hl;rw[getD_set_ne false (show(11:Nat)≠17 by decide),n17]at hl;cases hl
  | 12,_ =>
   have dp:=aJ hi (l:=[11]) (by decide +kernel);have e44:f.t 44= .tup [.agg [vi res,fV vals,vi nn,cls ln],vi e2]:=hfb (11,44,.tup [.agg [vi res,fV vals,vi nn,cls ln],vi e2]) (by simp[eG]) (dp 11 (by simp));have pu:=pu 32 (.tup [.agg [vi res,fV vals,vi nn,cls ln],vi e2]) (by simp[dP]) (by simp[dP]) (by simp[eG]) (by simp[eG]) (by decide);simp only[wq.1,Nat.reduceLT,e44]
   first | exact pu | exact⟨by decide,pu⟩ | exact⟨⟨rfl,by decide⟩,pu⟩
  | 13,_ =>
   have dp:=aJ hi (l:=[12]) (by decide +kernel);have e32:f.t 32= .tup [.agg [vi res,fV vals,vi nn,cls ln],vi e2]:=hfb (12,32,.tup [.agg [vi res,fV vals,vi nn,cls ln],vi e2]) (by simp[eG]) (dp 12 (by simp));have pu:=pu 45 (.agg [vi res,fV vals,vi nn,cls ln]) (by simp[dP]) (by simp[dP]) (by simp[eG]) (by simp[eG]) (by decide);simp only[wq.1,seval,e32]
   first | exact pu | exact⟨by decide,pu⟩ | exact⟨⟨rfl,by decide⟩,pu⟩
  | 14,_ =>
   have dp:=aJ hi (l:=[12]) (by decide +kernel);have e32:f.t 32= .tup [.agg [vi res,fV vals,vi nn,cls ln],vi e2]:=hfb (12,32,.tup [.agg [vi res,fV vals,vi nn,cls ln],vi e2]) (by simp[eG]) (dp 12 (by simp));have pu:=pu 46 (vi e2) (by simp[dP]) (by simp[dP]) (by simp[eG]) (by simp[eG]) (by decide);simp only[wq.1,seval,e32]
   first | exact pu | exact⟨by decide,pu⟩ | exact⟨⟨rfl,by decide⟩,pu⟩
  | 15,_=>have no:=jS hi;have n3:L.getD 16 false=false:=iO hcl no (by decide +kernel);rw[HN.old no];simp only[wq.1,seval];refine(hI _ _ _).2 ⟨res,vals,nn,ln,e2,(HN.new (B:=(hA2 part clause beg steps fid caps n cl rows)) (iW hi) (by decide) n3).symm,hfa.put' rfl,hfb.put' rfl,(by rw[getD_set_ne false (by decide)];exact hS),fun _=>by simp[Fr.put],hg.put rfl,hd⟩
  | 16,_=>have dp:=aJ hi (l:=[13]) (by decide +kernel);have e45:f.t 45= .agg [vi res,fV vals,vi nn,cls ln]:=hfb (13,45,.agg [vi res,fV vals,vi nn,cls ln]) (by simp[eG]) (dp 13 (by simp));have dp:=aJ hi (l:=[13,15]) (by decide +kernel);have e45:f.t 45= .agg [vi res,fV vals,vi nn,cls ln]:=hfb (13,45,.agg [vi res,fV vals,vi nn,cls ln]) (by simp[eG]) (dp 13 (by simp));have e10:=hn (dp 15 (by simp));have no:=jS hi;have hz:(hA2 part clause beg steps fid caps n cl rows++[.cells [vi 0,.nils,vi 0,.nils]]:H)[3]? =some (.cells [vi 0,.nils,vi 0,.nils]):=rfl;rw[HN.at (dp 15 (by simp)) no];simp only[wq.1,Nat.reduceAdd,e10,e45];refine(hI _ _ _).2 ⟨res,vals,nn,ln,e2,(HN.fill (B:=(hA2 part clause beg steps fid caps n cl rows)) (dp 15 (by simp)) (iW hi) (by decide)).symm,hfa.skip (by simp[dP]),hfb.skip (by simp[eG]),(by rw[getD_set_ne false (by decide)];exact hS),fun _=>e10,hg,hd⟩
  | 17,_ =>
   have dp:=aJ hi (l:=[14]) (by decide +kernel);have e46:f.t 46=vi e2:=hfb (14,46,vi e2) (by simp[eG]) (dp 14 (by simp));have pu:=pu 9 (vi e2) (by simp[dP]) (by simp[dP]) (by simp[eG]) (by simp[eG]) (by decide);simp only[wq.1,Nat.reduceLT,e46]
   first | exact pu | exact⟨by decide,pu⟩ | exact⟨⟨rfl,by decide⟩,pu⟩
  | n+18,h=>exact absurd h (by omega)
 ·intro L f h hall hII;obtain⟨res,vals,nn,ln,e2,rfl,hfa,hfb,hS,hn,hg,hd⟩:=(hI _ _ _).1 hII;have h8:=hn (hall 15 (by decide +kernel));have h9:=hfb (17,9,vi e2) (by simp[eG]) (hall 17 (by decide +kernel));rw[HN.done (hall 15 (by decide +kernel)) (hall 16 (by decide +kernel))];exact hk f res vals nn ln e2 (hS (hall 11 (by decide +kernel))) hg hd ⟨h8,h9⟩
end Go.Proofs.YtmlacppmbfbjgaaGreatDoor
