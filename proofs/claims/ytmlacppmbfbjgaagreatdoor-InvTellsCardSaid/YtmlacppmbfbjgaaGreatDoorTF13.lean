/- Lemmas for this claim, part F13: each holds under what it names. -/
import Derived.Test.YtmlacppmbfbjgaaGreatDoorTF11
import Derived.Test.YtmlacppmbfbjgaaGreatDoorTA10
import Derived.Test.YtmlacppmbfbjgaaGreatDoorTA9
import Derived.Test.YtmlacppmbfbjgaaGreatDoorTF12
import Derived.Test.YtmlacppmbfbjgaaGreatDoorTA7
set_option linter.unusedVariables false
set_option linter.unusedSimpArgs false
set_option linter.unnecessarySimpa false
set_option maxRecDepth 20000
set_option maxHeartbeats 8000000
namespace Go.Proofs.YtmlacppmbfbjgaaGreatDoor
open Go Go.Proofs Go.Abs
abbrev hA1 (part clause:Int) (beg:Cl) (steps:Int) (fid:FuncId) (caps:List V):H:=[.cells [vi part,vi clause,aH beg,vi steps,.fn (.func fid) [] caps],.cells [vi 0,vi 0,vi 0,.nils]]
abbrev hA2 (part clause:Int) (beg:Cl) (steps:Int) (fid:FuncId) (caps:List V) (n:Int) (cl rows:List Cl):H:=[.cells [vi part,vi clause,aH beg,vi steps,.fn (.func fid) [] caps],.cells [vi 0,vi 0,vi 0,.nils],.cells [vi n,cls cl,cls rows]]
def WJ (l:List Cl) (n bud res:Int) (vals:List Bool) (nn:Int) (ln:List Cl) (e2:Int):Prop:=(chk l n≠0∧e2=chk l n∧res=0∧vals=[])∨(chk l n=0∧e2=0∧pV l n.toNat (max bud 0) res vals ln)
theorem TT {l:List Cl} {n bud:Int} {r:V} (h:wB l n bud r):∃res vals nn ln e2,r= .tup [.agg [vi res,eP vals,vi nn,cls ln],vi e2]∧WJ l n bud res vals nn ln e2:=by
 rcases h with⟨h,rfl⟩ | ⟨h,res,vals,ln,rfl,ok⟩
 ·exact⟨0,[],0,[],_,rfl,.inl ⟨h,rfl,rfl,rfl⟩⟩
 ·exact⟨res,vals,_,ln,0,rfl,.inr ⟨h,rfl,ok⟩⟩
def dN (m:Mo) (l:List (List Lt)) (part clause:Int) (beg:Cl) (steps:Int) (fid:FuncId) (caps:List V) (bud n:Int) (cl rows:List Cl) (e:Int):List (Nat×Nat×V):=[(0,16,.ip (kV m l)),(1,17,.ip (kV m l)),(2,18,.ip (.agg [vi m.g.ins,aH m.g.next,aH m.g.init,prs m.g.ands,aH m.g.outs,bF m.ins,bF m.lat,bF m.out])),(3,19,.ip (.agg [vi m.g.ins,aH m.g.next,aH m.g.init,prs m.g.ands,aH m.g.outs])),(4,20,.agg [vi m.g.ins,aH m.g.next,aH m.g.init,prs m.g.ands,aH m.g.outs]),(5,21,.lp 0 2),(6,22,aH beg),(7,23,.lp 0 3),(8,24,vi steps),(9,25,.tup [uV n cl rows,vi e]),(10,15,.tup [uV n cl rows,vi e]),(11,26,uV n cl rows),(12,27,vi e),(15,9,vi e)]
def qg (m:Mo) (l:List (List Lt)) (part clause:Int) (beg:Cl) (steps:Int) (fid:FuncId) (caps:List V) (bud n:Int) (cl rows:List Cl):List (Nat×V):=[(0,.ip (kV m l)),(2,vi bud),(4,.lp 0 0),(6,.lp 1 0)]
theorem WU (m : Mo) (l : List (List Lt)) (part clause : Int) (beg : Cl) (steps : Int) (fid : FuncId) (caps : List V) (bud n : Int) (cl rows : List Cl) (e : Int) (hu : Ev TE 86 [.agg [vi m.g.ins,aH m.g.next,aH m.g.init,prs m.g.ands,aH m.g.outs],aH beg,vi steps] (.tup [uV n cl rows,vi e])) {r : Option Nat} {Q : XE → Fr → H → Prop} {f0 : Fr} (g0 : GA f0 (qg m l part clause beg steps fid caps bud n cl rows)) (d0 : f0.d = [])
 (hk:∀f ,GA f (qg m l part clause beg steps fid caps bud n cl rows)→f.d=[]→f.t 8= .lp 2 0∧f.t 9=vi e→Q .normal f (hA2 part clause beg steps fid caps n cl rows)) :
 awp TE 95 r (.region 1 (IG Tryz.f49 1) true) Q f0 (hA1 part clause beg steps fid caps):=by
 simp only[IG,Tryz.f49,xH,List.nil_append,zqp,List.headD_cons,Nat.reduceBEq,zrm,if_false,if_true,List.cons_append];obtain⟨I,hI⟩:∃I:Array Bool→Fr→H→Prop,∀L f h,I L f h↔(h=HN L (hA1 part clause beg steps fid caps) 13 14 [vi 0,.nils,.nils] [vi n,cls cl,cls rows]∧FA L f (dN m l part clause beg steps fid caps bud n cl rows e)∧(L.getD 13 false=true→f.t 8= .lp 2 0)∧GA f (qg m l part clause beg steps fid caps bud n cl rows)∧f.d=[]):=⟨_,fun _ _ _=>Iff.rfl⟩;refine zT mixed I (by decide +kernel) ?_ ?_ ?_
 ·exact(hI _ _ _).2 ⟨(HN.none).symm,FA.none,fun h=>by exfalso;revert h;decide +kernel,g0,d0⟩
 ·intro L f h i hcl hII hi;obtain⟨rfl,hfa,hn,hg,hd⟩:=(hI _ _ _).1 hII;have t0:f.t 0= .ip (kV m l):=hg (0,.ip (kV m l)) (by simp[qg]);have t2:f.t 2=vi bud:=hg (2,vi bud) (by simp[qg]);have t4:f.t 4= .lp 0 0:=hg (4,.lp 0 0) (by simp[qg]);have t6:f.t 6= .lp 1 0:=hg (6,.lp 1 0) (by simp[qg]);have b0:(HN L (hA1 part clause beg steps fid caps) 13 14 [vi 0,.nils,.nils] [vi n,cls cl,cls rows])[0]? =some (.cells [vi part,vi clause,aH beg,vi steps,.fn (.func fid) [] caps]):=HN.get (rfl);have hlt:i<16:=zS hi;have pu:∀(d:Nat) (v:V),(∀x∈(dN m l part clause beg steps fid caps bud n cl rows e),x.1=i→x.2.1=d∧x.2.2=v)→(∀x∈(dN m l part clause beg steps fid caps bud n cl rows e),x.2.1=d→x.1=i)→(decide (d∉([0,2,4,6,8]:List Nat))&&decide (i∉([13,14]:List Nat)))=true→I (L.setIfInBounds i true) (f.put (some d) v) (HN L (hA1 part clause beg steps fid caps) 13 14 [vi 0,.nils,.nils] [vi n,cls cl,cls rows]):=by
   intro d v h1 h2 h3;rw[zqf,zqb,zqb]at h3;simp only[zrj,zrp,or_false,not_or,not_false_eq_true,and_true,true_and]at h3;refine(hI _ _ _).2 ⟨(HN.skip (by omega) (by omega)).symm,hfa.put h1 h2,(by rw[getD_set_ne false (by omega)];exact fun h=>by have:=hn h;simpa [Fr.put,show ¬8=d by omega]using this),hg.put (by simp[qg];omega),hd⟩
  match i,hlt with
  | 0,_ =>
   have pu:=pu 16 (.ip (kV m l)) (by simp[dN]) (by simp[dN]) (by decide);simp only[wq.1,Nat.reduceLT,t0]
   first | exact pu | exact⟨by decide,pu⟩ | exact⟨⟨rfl,by decide⟩,pu⟩
  | 1,_ =>
   have dp:=aN hi (l:=[0]) (by decide +kernel);have e16:f.t 16= .ip (kV m l):=hfa (0,16,.ip (kV m l)) (by simp[dN]) (dp 0 (by simp));have pu:=pu 17 (.ip (kV m l)) (by simp[dN]) (by simp[dN]) (by decide);simp only[wq.1,Nat.reduceLT,e16]
   first | exact pu | exact⟨by decide,pu⟩ | exact⟨⟨rfl,by decide⟩,pu⟩
  | 2,_ =>
   have dp:=aN hi (l:=[1]) (by decide +kernel);have e17:f.t 17= .ip (kV m l):=hfa (1,17,.ip (kV m l)) (by simp[dN]) (dp 1 (by simp));have pu:=pu 18 (.ip (.agg [vi m.g.ins,aH m.g.next,aH m.g.init,prs m.g.ands,aH m.g.outs,bF m.ins,bF m.lat,bF m.out])) (by simp[dN]) (by simp[dN]) (by decide);simp only[wq.1,seval,e17]
   first | exact pu | exact⟨by decide,pu⟩ | exact⟨⟨rfl,by decide⟩,pu⟩
  | 3,_ =>
   have dp:=aN hi (l:=[2]) (by decide +kernel);have e18:f.t 18= .ip (.agg [vi m.g.ins,aH m.g.next,aH m.g.init,prs m.g.ands,aH m.g.outs,bF m.ins,bF m.lat,bF m.out]):=hfa (2,18,.ip (.agg [vi m.g.ins,aH m.g.next,aH m.g.init,prs m.g.ands,aH m.g.outs,bF m.ins,bF m.lat,bF m.out])) (by simp[dN]) (dp 2 (by simp));have pu:=pu 19 (.ip (.agg [vi m.g.ins,aH m.g.next,aH m.g.init,prs m.g.ands,aH m.g.outs])) (by simp[dN]) (by simp[dN]) (by decide);simp only[wq.1,seval,e18]
   first | exact pu | exact⟨by decide,pu⟩ | exact⟨⟨rfl,by decide⟩,pu⟩
  | 4,_ =>
   have dp:=aN hi (l:=[3]) (by decide +kernel);have e19:f.t 19= .ip (.agg [vi m.g.ins,aH m.g.next,aH m.g.init,prs m.g.ands,aH m.g.outs]):=hfa (3,19,.ip (.agg [vi m.g.ins,aH m.g.next,aH m.g.init,prs m.g.ands,aH m.g.outs])) (by simp[dN]) (dp 3 (by simp));have pu:=pu 20 (.agg [vi m.g.ins,aH m.g.next,aH m.g.init,prs m.g.ands,aH m.g.outs]) (by simp[dN]) (by simp[dN]) (by decide);simp only[wq.1,seval,e19]
   first | exact pu | exact⟨by decide,pu⟩ | exact⟨⟨rfl,by decide⟩,pu⟩
  | 5,_ =>
   have pu:=pu 21 (.lp 0 2) (by simp[dN]) (by simp[dN]) (by decide);simp only[wq.1,Nat.reduceLT,t4]
   first | exact pu | exact⟨by decide,pu⟩ | exact⟨⟨rfl,by decide⟩,pu⟩
  | 6,_ =>
   have dp:=aN hi (l:=[5]) (by decide +kernel);have e21:f.t 21= .lp 0 2:=hfa (5,21,.lp 0 2) (by simp[dN]) (dp 5 (by simp));have pu:=pu 22 (aH beg) (by simp[dN]) (by simp[dN]) (by decide);simp only[wq.1,seval,b0,e21]
   first | exact pu | exact⟨by decide,pu⟩ | exact⟨⟨rfl,by decide⟩,pu⟩
  | 7,_ =>
   have pu:=pu 23 (.lp 0 3) (by simp[dN]) (by simp[dN]) (by decide);simp only[wq.1,Nat.reduceLT,t4]
   first | exact pu | exact⟨by decide,pu⟩ | exact⟨⟨rfl,by decide⟩,pu⟩
  | 8,_ =>
   have dp:=aN hi (l:=[7]) (by decide +kernel);have e23:f.t 23= .lp 0 3:=hfa (7,23,.lp 0 3) (by simp[dN]) (dp 7 (by simp));have pu:=pu 24 (vi steps) (by simp[dN]) (by simp[dN]) (by decide);simp only[wq.1,seval,b0,e23]
   first | exact pu | exact⟨by decide,pu⟩ | exact⟨⟨rfl,by decide⟩,pu⟩
  | 9,_ =>
   have dp:=aN hi (l:=[4,6,8]) (by decide +kernel);have e20:f.t 20= .agg [vi m.g.ins,aH m.g.next,aH m.g.init,prs m.g.ands,aH m.g.outs]:=hfa (4,20,.agg [vi m.g.ins,aH m.g.next,aH m.g.init,prs m.g.ands,aH m.g.outs]) (by simp[dN]) (dp 4 (by simp));have e22:f.t 22=aH beg:=hfa (6,22,aH beg) (by simp[dN]) (dp 6 (by simp));have e24:f.t 24=vi steps:=hfa (8,24,vi steps) (by simp[dN]) (dp 8 (by simp));have pu:=pu 25 (.tup [uV n cl rows,vi e]) (by simp[dN]) (by simp[dN]) (by decide);simp only[wq.1,Nat.reduceLT,e20,e22,e24];refine ah.ev (hu) (by simp only[V.dats,V.dat,zre]) ?_;simp only[wq.1]
   first | exact pu | exact⟨by decide,pu⟩ | exact⟨⟨rfl,by decide⟩,pu⟩
  | 10,_ =>
   have dp:=aN hi (l:=[9]) (by decide +kernel);have e25:f.t 25= .tup [uV n cl rows,vi e]:=hfa (9,25,.tup [uV n cl rows,vi e]) (by simp[dN]) (dp 9 (by simp));have pu:=pu 15 (.tup [uV n cl rows,vi e]) (by simp[dN]) (by simp[dN]) (by decide);simp only[wq.1,Nat.reduceLT,e25]
   first | exact pu | exact⟨by decide,pu⟩ | exact⟨⟨rfl,by decide⟩,pu⟩
  | 11,_ =>
   have dp:=aN hi (l:=[10]) (by decide +kernel);have e15:f.t 15= .tup [uV n cl rows,vi e]:=hfa (10,15,.tup [uV n cl rows,vi e]) (by simp[dN]) (dp 10 (by simp));have pu:=pu 26 (uV n cl rows) (by simp[dN]) (by simp[dN]) (by decide);simp only[wq.1,seval,e15]
   first | exact pu | exact⟨by decide,pu⟩ | exact⟨⟨rfl,by decide⟩,pu⟩
  | 12,_ =>
   have dp:=aN hi (l:=[10]) (by decide +kernel);have e15:f.t 15= .tup [uV n cl rows,vi e]:=hfa (10,15,.tup [uV n cl rows,vi e]) (by simp[dN]) (dp 10 (by simp));have pu:=pu 27 (vi e) (by simp[dN]) (by simp[dN]) (by decide);simp only[wq.1,seval,e15]
   first | exact pu | exact⟨by decide,pu⟩ | exact⟨⟨rfl,by decide⟩,pu⟩
  | 13,_=>have no:=jY hi;have n3:L.getD 14 false=false:=iO hcl no (by decide +kernel);rw[HN.old no];simp only[wq.1,seval];refine(hI _ _ _).2 ⟨(HN.new (B:=(hA1 part clause beg steps fid caps)) (ja hi) (by decide) n3).symm,hfa.put' rfl,fun _=>by simp[Fr.put],hg.put rfl,hd⟩
  | 14,_=>have dp:=aN hi (l:=[11]) (by decide +kernel);have e26:f.t 26=uV n cl rows:=hfa (11,26,uV n cl rows) (by simp[dN]) (dp 11 (by simp));have dp:=aN hi (l:=[11,13]) (by decide +kernel);have e26:f.t 26=uV n cl rows:=hfa (11,26,uV n cl rows) (by simp[dN]) (dp 11 (by simp));have e8:=hn (dp 13 (by simp));have no:=jY hi;have hz:(hA1 part clause beg steps fid caps++[.cells [vi 0,.nils,.nils]]:H)[2]? =some (.cells [vi 0,.nils,.nils]):=rfl;rw[HN.at (dp 13 (by simp)) no];simp only[wq.1,Nat.reduceAdd,e8,e26];refine(hI _ _ _).2 ⟨(HN.fill (B:=(hA1 part clause beg steps fid caps)) (dp 13 (by simp)) (ja hi) (by decide)).symm,hfa.skip (by simp[dN]),fun _=>e8,hg,hd⟩
  | 15,_ =>
   have dp:=aN hi (l:=[12]) (by decide +kernel);have e27:f.t 27=vi e:=hfa (12,27,vi e) (by simp[dN]) (dp 12 (by simp));have pu:=pu 9 (vi e) (by simp[dN]) (by simp[dN]) (by decide);simp only[wq.1,Nat.reduceLT,e27]
   first | exact pu | exact⟨by decide,pu⟩ | exact⟨⟨rfl,by decide⟩,pu⟩
  | n+16,h=>exact absurd h (by omega)
 ·intro L f h hall hII;obtain⟨rfl,hfa,hn,hg,hd⟩:=(hI _ _ _).1 hII;have h8:=hn (hall 13 (by decide +kernel));have h9:=hfa (15,9,vi e) (by simp[dN]) (hall 15 (by decide +kernel));rw[HN.done (hall 13 (by decide +kernel)) (hall 14 (by decide +kernel))];exact hk f hg hd ⟨h8,h9⟩
def dQ (m:Mo) (l:List (List Lt)) (part clause:Int) (beg:Cl) (steps:Int) (fid:FuncId) (caps:List V) (bud n:Int) (cl rows:List Cl) (more:List Cl):List (Nat×Nat×V):=[(0,33,.lp 2 1),(1,34,cls cl),(2,35,.lp 0 4),(3,36,.fn (.func fid) [] caps),(4,37,uV n cl rows),(5,38,cls more),(6,39,.is true 1 [cls cl,cls more]),(7,40,cls (cl++more)),(8,41,.lp 2 0),(9,42,vi n),(10,43,vi bud)]
def fB (res:Int) (vals:List Bool) (nn:Int) (ln:List Cl) (e2:Int):List (Nat×Nat×V):=[(11,44,.tup [.agg [vi res,eP vals,vi nn,cls ln],vi e2]),(12,32,.tup [.agg [vi res,eP vals,vi nn,cls ln],vi e2]),(13,45,.agg [vi res,eP vals,vi nn,cls ln]),(14,46,vi e2),(17,9,vi e2)]
def oO (m:Mo) (l:List (List Lt)) (part clause:Int) (beg:Cl) (steps:Int) (fid:FuncId) (caps:List V) (bud n:Int) (cl rows:List Cl):List (Nat×V):=[(0,.ip (kV m l)),(2,vi bud),(4,.lp 0 0),(6,.lp 1 0),(8,.lp 2 0)]
theorem Xi (m : Mo) (l : List (List Lt)) (part clause : Int) (beg : Cl) (steps : Int) (fid : FuncId) (caps : List V) (bud n : Int) (cl rows : List Cl) (more : List Cl) (hm : Ev TE fid (uV n cl rows :: caps) (cls more)) (he : aj P fid = true) (hc : V.dats caps = true) (hn1 : cl.length + more.length ≤ 1000000000) (hs : EvR TE 87 [cls (cl ++ more),vi n,vi bud] (wB (cl ++ more) n bud)) {r : Option Nat} {Q : XE → Fr → H → Prop} {f0 : Fr} (g0 : GA f0 (oO m l part clause beg steps fid caps bud n cl rows)) (d0 : f0.d = [])
 (hk:∀f (res:Int) (vals:List Bool) (nn:Int) (ln:List Cl) (e2:Int),WJ (cl++more) n bud res vals nn ln e2→GA f (oO m l part clause beg steps fid caps bud n cl rows)→f.d=[]→f.t 10= .lp 3 0∧f.t 9=vi e2→Q .normal f (hA2 part clause beg steps fid caps n cl rows++[.cells [vi res,eP vals,vi nn,cls ln]])) :
 awp TE 95 r (.region 4 (IG Tryz.f49 4) true) Q f0 (hA2 part clause beg steps fid caps n cl rows):=by
 simp only[IG,Tryz.f49,xH,List.nil_append,zqp,List.headD_cons,Nat.reduceBEq,zrm,if_false,if_true,List.cons_append];have hcc:=wR [cl,more] (by simp;omega) (by show 2≤1000000000;omega);rw[show [cl,more].flatten=cl++more by simp]at hcc;obtain⟨I,hI⟩:∃I:Array Bool→Fr→H→Prop,∀L f h,I L f h↔∃(res:Int) (vals:List Bool) (nn:Int) (ln:List Cl) (e2:Int),(h=HN L (hA2 part clause beg steps fid caps n cl rows) 15 16 [vi 0,.nils,vi 0,.nils] [vi res,eP vals,vi nn,cls ln]∧FA L f (dQ m l part clause beg steps fid caps bud n cl rows more)∧FA L f (fB res vals nn ln e2)∧(L.getD 11 false=true→WJ (cl++more) n bud res vals nn ln e2)∧(L.getD 15 false=true→f.t 10= .lp 3 0)∧GA f (oO m l part clause beg steps fid caps bud n cl rows)∧f.d=[]):=⟨_,fun _ _ _=>Iff.rfl⟩;refine zT mixed I (by decide +kernel) ?_ ?_ ?_
 ·exact(hI _ _ _).2 ⟨0,[],0,[],0,(HN.none).symm,FA.none,FA.none,fun h=>by exfalso;revert h;decide +kernel,fun h=>by exfalso;revert h;decide +kernel,g0,d0⟩
 ·intro L f h i hcl hII hi;obtain⟨res,vals,nn,ln,e2,rfl,hfa,hfb,hS,hn,hg,hd⟩:=(hI _ _ _).1 hII;have t0:f.t 0= .ip (kV m l):=hg (0,.ip (kV m l)) (by simp[oO]);have t2:f.t 2=vi bud:=hg (2,vi bud) (by simp[oO]);have t4:f.t 4= .lp 0 0:=hg (4,.lp 0 0) (by simp[oO]);have t6:f.t 6= .lp 1 0:=hg (6,.lp 1 0) (by simp[oO]);have t8:f.t 8= .lp 2 0:=hg (8,.lp 2 0) (by simp[oO]);have b0:(HN L (hA2 part clause beg steps fid caps n cl rows) 15 16 [vi 0,.nils,vi 0,.nils] [vi res,eP vals,vi nn,cls ln])[0]? =some (.cells [vi part,vi clause,aH beg,vi steps,.fn (.func fid) [] caps]):=HN.get (rfl);have b2:(HN L (hA2 part clause beg steps fid caps n cl rows) 15 16 [vi 0,.nils,vi 0,.nils] [vi res,eP vals,vi nn,cls ln])[2]? =some (.cells [vi n,cls cl,cls rows]):=HN.get (rfl);have hlt:i<18:=zS hi;have pu:∀(d:Nat) (v:V),(∀x∈(dQ m l part clause beg steps fid caps bud n cl rows more),x.1=i→x.2.1=d∧x.2.2=v)→(∀x∈(dQ m l part clause beg steps fid caps bud n cl rows more),x.2.1=d→x.1=i)→(∀x∈(fB res vals nn ln e2),x.1=i→x.2.1=d∧x.2.2=v)→(∀x∈(fB res vals nn ln e2),x.2.1=d→x.1=i)→(decide (d∉([0,2,4,6,8,10]:List Nat))&&decide (i∉([15,16,11]:List Nat)))=true→I (L.setIfInBounds i true) (f.put (some d) v) (HN L (hA2 part clause beg steps fid caps n cl rows) 15 16 [vi 0,.nils,vi 0,.nils] [vi res,eP vals,vi nn,cls ln]):=by
   intro d v h1 h2 h4 h5 h3;rw[zqf,zqb,zqb]at h3;simp only[zrj,zrp,or_false,not_or,not_false_eq_true,and_true,true_and]at h3;refine(hI _ _ _).2 ⟨res,vals,nn,ln,e2,(HN.skip (by omega) (by omega)).symm,hfa.put h1 h2,hfb.put h4 h5,(by rw[getD_set_ne false (by omega)];exact hS),(by rw[getD_set_ne false (by omega)];exact fun h=>by have:=hn h;simpa [Fr.put,show ¬10=d by omega]using this),hg.put (by simp[oO];omega),hd⟩
  match i,hlt with
  | 0,_ =>
   have pu:=pu 33 (.lp 2 1) (by simp[dQ]) (by simp[dQ]) (by simp[fB]) (by simp[fB]) (by decide);simp only[wq.1,Nat.reduceLT,t8]
   first | exact pu | exact⟨by decide,pu⟩ | exact⟨⟨rfl,by decide⟩,pu⟩
  | 1,_ =>
   have dp:=aN hi (l:=[0]) (by decide +kernel);have e33:f.t 33= .lp 2 1:=hfa (0,33,.lp 2 1) (by simp[dQ]) (dp 0 (by simp));have pu:=pu 34 (cls cl) (by simp[dQ]) (by simp[dQ]) (by simp[fB]) (by simp[fB]) (by decide);simp only[wq.1,seval,b2,e33]
   first | exact pu | exact⟨by decide,pu⟩ | exact⟨⟨rfl,by decide⟩,pu⟩
  | 2,_ =>
   have pu:=pu 35 (.lp 0 4) (by simp[dQ]) (by simp[dQ]) (by simp[fB]) (by simp[fB]) (by decide);simp only[wq.1,Nat.reduceLT,t4]
   first | exact pu | exact⟨by decide,pu⟩ | exact⟨⟨rfl,by decide⟩,pu⟩
  | 3,_ =>
   have dp:=aN hi (l:=[2]) (by decide +kernel);have e35:f.t 35= .lp 0 4:=hfa (2,35,.lp 0 4) (by simp[dQ]) (dp 2 (by simp));have pu:=pu 36 (.fn (.func fid) [] caps) (by simp[dQ]) (by simp[dQ]) (by simp[fB]) (by simp[fB]) (by decide);simp only[wq.1,seval,b0,e35]
   first | exact pu | exact⟨by decide,pu⟩ | exact⟨⟨rfl,by decide⟩,pu⟩
  | 4,_ =>
   have pu:=pu 37 (uV n cl rows) (by simp[dQ]) (by simp[dQ]) (by simp[fB]) (by simp[fB]) (by decide);simp only[wq.1,seval,t8,b2]
   first | exact pu | exact⟨by decide,pu⟩ | exact⟨⟨rfl,by decide⟩,pu⟩
  | 5,_ =>
   have dp:=aN hi (l:=[3,4]) (by decide +kernel);have e36:f.t 36= .fn (.func fid) [] caps:=hfa (3,36,.fn (.func fid) [] caps) (by simp[dQ]) (dp 3 (by simp));have e37:f.t 37=uV n cl rows:=hfa (4,37,uV n cl rows) (by simp[dQ]) (dp 4 (by simp));have pu:=pu 38 (cls more) (by simp[dQ]) (by simp[dQ]) (by simp[fB]) (by simp[fB]) (by decide);simp only[wq.1,Nat.reduceLT,e36,e37];refine⟨he,?_⟩;refine ah.ev (hm) (by simp only[V.dats,V.dat,dM,hc,zre]) ?_;simp only[wq.1]
   first | exact pu | exact⟨by decide,pu⟩ | exact⟨⟨rfl,by decide⟩,pu⟩
  | 6,_ =>
   have dp:=aN hi (l:=[1,5]) (by decide +kernel);have e34:f.t 34=cls cl:=hfa (1,34,cls cl) (by simp[dQ]) (dp 1 (by simp));have e38:f.t 38=cls more:=hfa (5,38,cls more) (by simp[dQ]) (dp 5 (by simp));have pu:=pu 39 (.is true 1 [cls cl,cls more]) (by simp[dQ]) (by simp[dQ]) (by simp[fB]) (by simp[fB]) (by decide);simp only[wq.1,seval,e34,e38]
   first | exact pu | exact⟨by decide,pu⟩ | exact⟨⟨rfl,by decide⟩,pu⟩
  | 7,_ =>
   have dp:=aN hi (l:=[6]) (by decide +kernel);have e39:f.t 39= .is true 1 [cls cl,cls more]:=hfa (6,39,.is true 1 [cls cl,cls more]) (by simp[dQ]) (dp 6 (by simp));have pu:=pu 40 (cls (cl++more)) (by simp[dQ]) (by simp[dQ]) (by simp[fB]) (by simp[fB]) (by decide);simp only[wq.1,Nat.reduceLT,e39];refine ah.ev (hcc) (by simp only[V.dats,V.dat,dM,zre]) ?_;simp only[wq.1]
   first | exact pu | exact⟨by decide,pu⟩ | exact⟨⟨rfl,by decide⟩,pu⟩
  | 8,_ =>
   have pu:=pu 41 (.lp 2 0) (by simp[dQ]) (by simp[dQ]) (by simp[fB]) (by simp[fB]) (by decide);simp only[wq.1,Nat.reduceLT,t8]
   first | exact pu | exact⟨by decide,pu⟩ | exact⟨⟨rfl,by decide⟩,pu⟩
  | 9,_ =>
   have dp:=aN hi (l:=[8]) (by decide +kernel);have e41:f.t 41= .lp 2 0:=hfa (8,41,.lp 2 0) (by simp[dQ]) (dp 8 (by simp));have pu:=pu 42 (vi n) (by simp[dQ]) (by simp[dQ]) (by simp[fB]) (by simp[fB]) (by decide);simp only[wq.1,seval,b2,e41]
   first | exact pu | exact⟨by decide,pu⟩ | exact⟨⟨rfl,by decide⟩,pu⟩
  | 10,_ =>
   have pu:=pu 43 (vi bud) (by simp[dQ]) (by simp[dQ]) (by simp[fB]) (by simp[fB]) (by decide);simp only[wq.1,Nat.reduceLT,t2]
   first | exact pu | exact⟨by decide,pu⟩ | exact⟨⟨rfl,by decide⟩,pu⟩
  | 11,_ =>
   have dp:=aN hi (l:=[7,9,10]) (by decide +kernel);have e40:f.t 40=cls (cl++more):=hfa (7,40,cls (cl++more)) (by simp[dQ]) (dp 7 (by simp));have e42:f.t 42=vi n:=hfa (9,42,vi n) (by simp[dQ]) (dp 9 (by simp));have e43:f.t 43=vi bud:=hfa (10,43,vi bud) (by simp[dQ]) (dp 10 (by simp));have no:=jY hi;have n12:=iO hcl no (i:=12) (by decide +kernel);have n13:=iO hcl n12 (i:=13) (by decide +kernel);have n14:=iO hcl n12 (i:=14) (by decide +kernel);have n16:=iO hcl no (i:=16) (by decide +kernel);have n17:=iO hcl no (i:=17) (by decide +kernel);simp only[wq.1,Nat.reduceLT,e40,e42,e43];refine oH hs (by simp only[V.dats,V.dat,dM,zre]) fun rv hrv=> ?_;obtain⟨res2,vals2,nn2,ln2,e22,rfl,hA⟩:=TT hrv;simp only[wq.1];refine(hI _ _ _).2 ⟨res2,vals2,nn2,ln2,e22,?_,hfa.put' (by simp[dQ]),?_,fun _=>hA,(by rw[getD_set_ne false (by decide)];exact fun h=>by have:=hn h;simpa [Fr.put]using this),hg.put (by simp[oO]),hd⟩
   ·rw[HN.skip (by decide) (by decide)];unfold HN;rw[n16];rfl
   ·intro q hq hl;simp only [fB,zrj,zrp,or_false] at hq;rcases hq with rfl | rfl | rfl | rfl | rfl
    ·simp[Fr.put]
    ·have hl:(L.setIfInBounds 11 true).getD 12 false=true:=hl;rw[getD_set_ne false (show(11:Nat)≠12 by decide),n12]at hl;cases hl
    ·have hl:(L.setIfInBounds 11 true).getD 13 false=true:=hl;rw[getD_set_ne false (show(11:Nat)≠13 by decide),n13]at hl;cases hl
    ·have hl:(L.setIfInBounds 11 true).getD 14 false=true:=hl;rw[getD_set_ne false (show(11:Nat)≠14 by decide),n14]at hl;cases hl
    ·have hl:(L.setIfInBounds 11 true).getD 17 false=true:=hl;rw[getD_set_ne false (show(11:Nat)≠17 by decide),n17]at hl;cases hl
  | 12,_ =>
   have dp:=aN hi (l:=[11]) (by decide +kernel);have e44:f.t 44= .tup [.agg [vi res,eP vals,vi nn,cls ln],vi e2]:=hfb (11,44,.tup [.agg [vi res,eP vals,vi nn,cls ln],vi e2]) (by simp[fB]) (dp 11 (by simp));have pu:=pu 32 (.tup [.agg [vi res,eP vals,vi nn,cls ln],vi e2]) (by simp[dQ]) (by simp[dQ]) (by simp[fB]) (by simp[fB]) (by decide);simp only[wq.1,Nat.reduceLT,e44]
   first | exact pu | exact⟨by decide,pu⟩ | exact⟨⟨rfl,by decide⟩,pu⟩
  | 13,_ =>
   have dp:=aN hi (l:=[12]) (by decide +kernel);have e32:f.t 32= .tup [.agg [vi res,eP vals,vi nn,cls ln],vi e2]:=hfb (12,32,.tup [.agg [vi res,eP vals,vi nn,cls ln],vi e2]) (by simp[fB]) (dp 12 (by simp));have pu:=pu 45 (.agg [vi res,eP vals,vi nn,cls ln]) (by simp[dQ]) (by simp[dQ]) (by simp[fB]) (by simp[fB]) (by decide);simp only[wq.1,seval,e32]
   first | exact pu | exact⟨by decide,pu⟩ | exact⟨⟨rfl,by decide⟩,pu⟩
  | 14,_ =>
   have dp:=aN hi (l:=[12]) (by decide +kernel);have e32:f.t 32= .tup [.agg [vi res,eP vals,vi nn,cls ln],vi e2]:=hfb (12,32,.tup [.agg [vi res,eP vals,vi nn,cls ln],vi e2]) (by simp[fB]) (dp 12 (by simp));have pu:=pu 46 (vi e2) (by simp[dQ]) (by simp[dQ]) (by simp[fB]) (by simp[fB]) (by decide);simp only[wq.1,seval,e32]
   first | exact pu | exact⟨by decide,pu⟩ | exact⟨⟨rfl,by decide⟩,pu⟩
  | 15,_=>have no:=jY hi;have n3:L.getD 16 false=false:=iO hcl no (by decide +kernel);rw[HN.old no];simp only[wq.1,seval];refine(hI _ _ _).2 ⟨res,vals,nn,ln,e2,(HN.new (B:=(hA2 part clause beg steps fid caps n cl rows)) (ja hi) (by decide) n3).symm,hfa.put' rfl,hfb.put' rfl,(by rw[getD_set_ne false (by decide)];exact hS),fun _=>by simp[Fr.put],hg.put rfl,hd⟩
  | 16,_=>have dp:=aN hi (l:=[13]) (by decide +kernel);have e45:f.t 45= .agg [vi res,eP vals,vi nn,cls ln]:=hfb (13,45,.agg [vi res,eP vals,vi nn,cls ln]) (by simp[fB]) (dp 13 (by simp));have dp:=aN hi (l:=[13,15]) (by decide +kernel);have e45:f.t 45= .agg [vi res,eP vals,vi nn,cls ln]:=hfb (13,45,.agg [vi res,eP vals,vi nn,cls ln]) (by simp[fB]) (dp 13 (by simp));have e10:=hn (dp 15 (by simp));have no:=jY hi;have hz:(hA2 part clause beg steps fid caps n cl rows++[.cells [vi 0,.nils,vi 0,.nils]]:H)[3]? =some (.cells [vi 0,.nils,vi 0,.nils]):=rfl;rw[HN.at (dp 15 (by simp)) no];simp only[wq.1,Nat.reduceAdd,e10,e45];refine(hI _ _ _).2 ⟨res,vals,nn,ln,e2,(HN.fill (B:=(hA2 part clause beg steps fid caps n cl rows)) (dp 15 (by simp)) (ja hi) (by decide)).symm,hfa.skip (by simp[dQ]),hfb.skip (by simp[fB]),(by rw[getD_set_ne false (by decide)];exact hS),fun _=>e10,hg,hd⟩
  | 17,_ =>
   have dp:=aN hi (l:=[14]) (by decide +kernel);have e46:f.t 46=vi e2:=hfb (14,46,vi e2) (by simp[fB]) (dp 14 (by simp));have pu:=pu 9 (vi e2) (by simp[dQ]) (by simp[dQ]) (by simp[fB]) (by simp[fB]) (by decide);simp only[wq.1,Nat.reduceLT,e46]
   first | exact pu | exact⟨by decide,pu⟩ | exact⟨⟨rfl,by decide⟩,pu⟩
  | n+18,h=>exact absurd h (by omega)
 ·intro L f h hall hII;obtain⟨res,vals,nn,ln,e2,rfl,hfa,hfb,hS,hn,hg,hd⟩:=(hI _ _ _).1 hII;have h8:=hn (hall 15 (by decide +kernel));have h9:=hfb (17,9,vi e2) (by simp[fB]) (hall 17 (by decide +kernel));rw[HN.done (hall 15 (by decide +kernel)) (hall 16 (by decide +kernel))];exact hk f res vals nn ln e2 (hS (hall 11 (by decide +kernel))) hg hd ⟨h8,h9⟩
theorem Xj {vals:List Bool} {a:Int} (h:inU vals.length a):(vals.getD (max a (-a)-1).toNat false==decide (0<a))=hol vals a:=by
 obtain⟨h0,h1,h2⟩:=h;unfold hol;by_cases hp:0<a
 ·rw[if_neg (by omega),show max a (-a)-1=a-1 by omega,decide_eq_true hp];cases vals.getD (a-1).toNat false<;>rfl
 ·rw[if_pos (by omega),show max a (-a)-1=-a-1 by omega,decide_eq_false hp];cases vals.getD (-a-1).toNat false<;>rfl
theorem NL {m:Mo} (hm:m.chk=0) {s:S} (h:s∈m.lat):fJ m s=true:=by unfold fJ;rw[(wV (NE hm) s).2];have:=pK m.lat (·==s);have h2:m.lat.any (·==s)=true:=List.any_eq_true.2 ⟨s,h,by simp⟩;rw[h2]at this;exact zqs this
theorem Qb {m:Mo} {q:Qn} {vals:List Bool} {i:Nat} (h:i<m.lat.length):(stK m q vals).take (i+1)=(stK m q vals).take i++[hol vals (tJ m (iG m.g q.beg q.steps) 0 (m.lat[i],false))]:=by unfold stK;rw[zrg,zqo,zqk h];rfl
theorem mxI (a b:Int):uI [vi a,vi b]=(True,vi (max a b)):=by
 simp only[uI];split
 ·rw[show max a b=b by omega]
 ·rw[show max a b=a by omega]
theorem Qc {g:Gr} {b:Cl} {k:Nat}:(gz g b 0).n≤(gz g b k).n:=by rw[MS,MS,Nat.zero_mul];omega
abbrev hA5 (part clause:Int) (beg:Cl) (steps:Int) (fid:FuncId) (caps:List V) (n:Int) (cl rows:List Cl) (vals:List Bool) (nn:Int) (ln:List Cl) (st:List Bool):H :=
 hA2 part clause beg steps fid caps n cl rows++[.cells [vi 1,eP vals,vi nn,cls ln],.cells [vi 1,vi part,vi clause,.ls 5 1 0 st.length st.length],.cells (st.map V.bool)]
theorem VR (m : Mo) (l : List (List Lt)) (q : Qn) (bud : Int) (fid : FuncId) (caps : List V) (hm : m.chk = 0) (hs : m.g.Sm) (ok : QOk m q) (hb : VO m bud) (he : aj P fid = true) (hc : V.dats caps = true)
 (hmore:Aj m.g q.beg q.steps=0→Ev TE fid (uV (q.n m) (gz m.g q.beg q.steps).cl (iG m.g q.beg q.steps)::caps) (cls q.more)) :
 EvR TE 49 [.ip (kV m l),.agg [vi q.part,vi q.clause,aH q.beg,vi q.steps,.fn (.func fid) [] caps],vi bud] (fun r=>∃a,VG m bud q a∧r= .tup [a.1.v,vi a.2]):=by
 have hM:maxLen=9223372036854775807:=rfl;obtain⟨nv,i0,i1,hlat⟩:=NI hm;obtain⟨hg,hi,hl,ho⟩:=oM hm;have hu:=MX m.g q.beg q.steps hs (by rw[ok.b];omega);unfold Gr.v at hu;refine EvR.of_calls ?_;refine au Tryz.func49 rfl (by simp[nts]) ?_;refine ag (vm ?_);simp only[wq.1,Nat.reduceLT,Tryz.results49];refine ag (vm ?_);by_cases hz:Aj m.g q.beg q.steps=0
 ·have eU : pX m.g q.beg q.steps = uV (q.n m) (gz m.g q.beg q.steps).cl (iG m.g q.beg q.steps) := by unfold pX;rw [if_pos hz];rfl
  rw[eU,hz]at hu;have hmr:=hmore hz;have hnv:q.n m≤nvU m:=QY ok.b ok.r ok.s;have hsv:EvR TE 87 [cls ((gz m.g q.beg q.steps).cl++q.more),vi (q.n m),vi bud] (wB ((gz m.g q.beg q.steps).cl++q.more) (q.n m) bud) :=
   PK _ _ _ (TP ok) fun hz=>by rw[Int.toNat_natCast];exact hb _ _ hnv hz
  have hcl:(gz m.g q.beg q.steps).cl.length≤500000:=by rw[MV];have:q.steps*m.g.ands.length≤1*m.g.ands.length:=Nat.mul_le_mul_right _ ok.s;unfold nvU at nv;omega
  have hmn:=ok.n;obtain⟨n,hn⟩:∃n,n=q.n m:=⟨_,rfl⟩;obtain⟨cl,hcle⟩:∃cl,cl=(gz m.g q.beg q.steps).cl:=⟨_,rfl⟩;obtain⟨rows,hrows⟩:∃rows,rows=iG m.g q.beg q.steps:=⟨_,rfl⟩;rw[←hn,←hcle,←hrows]at hu hmr;rw[←hn,←hcle]at hsv;rw[←hcle]at hcl;refine WU m l _ _ _ _ _ _ bud _ _ _ _ hu (by intro q hq;simp only[qg,zrj,zrp,or_false]at hq;rcases hq with rfl | rfl | rfl | rfl<;>rfl) rfl (fun f hG hd ⟨t8,t9⟩=> ?_);have t0:f.t 0= .ip (kV m l):=hG (0,.ip (kV m l)) (by simp[qg]);have t2:f.t 2=vi bud:=hG (2,vi bud) (by simp[qg]);have t4:f.t 4= .lp 0 0:=hG (4,.lp 0 0) (by simp[qg]);have t6:f.t 6= .lp 1 0:=hG (6,.lp 1 0) (by simp[qg]);show awp _ _ _ _ _ _ _;refine ag (vm ?_);simp only[wq.1,seval,t9];refine ag (vm ?_);refine Xi m l _ _ _ _ _ _ bud _ _ _ _ hmr he hc (by omega) hsv (by intro q hq;simp only[oO,zrj,zrp,or_false]at hq;rcases hq with rfl | rfl | rfl | rfl | rfl<;>simp only[wq.1,seval,t0,t2,t4,t6,t8]) (hd) (fun f res vals nn ln e2 hS hG hd ⟨t10,t9⟩=> ?_);clear t0 t2 t4 t6 t8;have t0:f.t 0= .ip (kV m l):=hG (0,.ip (kV m l)) (by simp[oO]);have t2:f.t 2=vi bud:=hG (2,vi bud) (by simp[oO]);have t4:f.t 4= .lp 0 0:=hG (4,.lp 0 0) (by simp[oO]);have t6:f.t 6= .lp 1 0:=hG (6,.lp 1 0) (by simp[oO]);have t8:f.t 8= .lp 2 0:=hG (8,.lp 2 0) (by simp[oO]);show awp _ _ _ _ _ _ _;rcases hS with⟨hz2,rfl,rfl,rfl⟩ | ⟨hz2,rfl,hok⟩
  ·have ez : (chk (cl ++ q.more) n != 0) = true := by simpa using hz2
   refine ag (vm ?_);simp only[wq.1,seval,t6,t9,hd,ez];refine⟨_,⟨(Ve.z,chk (cl++q.more) n),.inr ⟨hz,.inl ⟨by rw[←hn,Qn.cl,←hcle];exact hz2,by rw[←hn,Qn.cl,←hcle]⟩⟩,rfl⟩,?_⟩;exact az.tup (ak.cons (az.agg (ak.cons (az.dat rfl) (ak.cons (az.dat rfl) (ak.cons (az.dat rfl) (ak.cons az.nils ak.nil))))) (ak.cons (az.dat rfl) ak.nil))
  ·refine ag (vm ?_);simp only[wq.1,seval,t9];refine ag (vm ?_);simp only[wq.1,seval,t4,t10];have fin:∀st,st=(if res=1 then stK m q vals else [])→VG m bud q (⟨res,q.part,q.clause,st⟩,0):=fun st hst =>
    .inr ⟨hz,.inr ⟨by rw[←hn,Qn.cl,←hcle];exact hz2,res,vals,ln,by rw[←hn,Qn.cl,←hcle];exact hok,by rw[hst]⟩⟩
   by_cases h1:res=1
   ·subst h1;rw[if_pos rfl]at fin;have hvl:vals.length=n:=by
     rcases hok.2.2.2.2 with h | h | h
     ·exact absurd h.1 (by decide)
     ·exact h.2.1
     ·exact absurd h.1 (by decide)
    refine jI ?_;refine vw (h':=hA5 q.part q.clause q.beg q.steps fid caps n cl rows vals nn ln []) (HLe.set (i:=4) (o':= .cells [vi 1,vi q.part,vi q.clause,.ls 5 1 0 0 0]) rfl (OLe.cells (by simp) (gX.cons (VLe.refl _) (gX.cons (VLe.refl _) (gX.cons (VLe.refl _) (gX.cons gJ gX.nil)))))) ?_;refine ag (vm ?_);simp only[wq.1,seval,t0,t10];have hrl:UOk m rows:=by rw[hrows];exact AA hm ok.b ok.r ok.s
    have hstl:(stK m q vals).length=m.lat.length:=by unfold stK;simp
    refine aB (fun q' f h=>∃i,q'+i=m.lat.length∧f.t 0= .ip (kV m l)∧f.t 6= .lp 1 0∧f.t 8= .lp 2 0∧f.t 10= .lp 3 0∧f.t 11= .lp 4 0∧f.t 65=bF m.lat∧f.t 66=vi m.lat.length∧f.t 67=vi i∧f.d=[]∧h=hA5 q.part q.clause q.beg q.steps fid caps n cl rows vals nn ln ((stK m q vals).take i)) m.lat.length ⟨0,by omega,t0,t6,t8,t10,by simp only[wq.1,seval],by simp only[wq.1,seval],by simp only[wq.1,seval],by simp only[wq.1,↓reduceIte];rfl,hd,rfl⟩ ?_;clear t0 t2 t4 t6 t8 t9 t10 hd hG;rintro q' f h ⟨i,hq',t0,t6,t8,t10,t11,t65,t66,t67,hd,rfl⟩;have htl:((stK m q vals).take i).length=min i m.lat.length:=by rw[zrl,hstl]
    refine ag (vm ?_);simp only[wq.1,Nat.reduceLT,t66,t67];refine ag (bG (b:=decide ((i:Int)<m.lat.length)) (by simp only[wq.1,↓reduceIte]) (by simp only[wq.1,↓reduceIte]) (fun hlt=> ?_) (fun hlt=> ?_))
    ·simp only [zqb,zqi] at hlt;have hw := aA (show i < maxLen by omega);have hmem : m.lat[i] ∈ m.lat := zqu hlt;have hkn := NL hm hmem;have hkl := E5 m l n cl rows 0 (m.lat[i],false) hkn hrl.i hrl.lat hrl.b hrl.r;have dK : V.dats [.ip (kV m l),V.agg [vi n,cls cl,cls rows],vi 0,V.agg [V.str m.lat[i],V.bool false]] = true := by simp only [V.dats,V.dat,dM,zre]
     have hsu:=Qb (q:=q) (vals:=vals) hlt;rw[←hrows]at hsu;have hin:=(P7 (vs:=vals) (CY hg (by rw[ok.b];exact hl) ok.r) (Nat.zero_le q.steps) i0 hl hkn (x:=(m.lat[i],false))).1;have hin:inU vals.length (tJ m rows 0 (m.lat[i],false)):=by rw[hvl,hn,hrows];exact hin.mono Qc
     have hgs:(m.lat.map V.str).getD i .any= .str m.lat[i]:=xu hlt _;obtain⟨a,ha⟩:∃a,a=tJ m rows 0 (m.lat[i],false):=⟨_,rfl⟩;rw[←ha]at hkl hsu hin;obtain⟨st,hst⟩:∃st,st=(stK m q vals).take i:=⟨_,rfl⟩;rw[←hst]at hsu htl ⊢;have htl:st.length=i:=by omega
     refine vm ?_;simp only[wq.1];refine ag (aC ?_);refine ag (vm ?_);simp only[wq.1,seval,t65,t67,hgs];refine⟨⟨by omega,by omega⟩,?_⟩;refine ag (vm ?_);simp only[wq.1,seval,t0,t8];refine ah.ev hkl dK ?_;simp only[wq.1,↓reduceIte,Nat.reduceLT];have hal:a≤1000000∧-1000000≤a:=by have h1:=hin.1;have h2:=hin.2;omega
     obtain⟨p,hp⟩:∃p:Nat,max a (-a)-1=p:=⟨(max a (-a)-1).toNat,by have:=hin.1;omega⟩;have hpl:p<vals.length:=by have:=hin;unfold inU at this;omega
     have hw1:IntKind.i64.wrap (-a)=-a:=dh (by omega) (by omega);have hw0:IntKind.i64.wrap (0-a)=-a:=by rw[Int.zero_sub];exact hw1
     have hw2:IntKind.i64.wrap (max a (-a)-1)=p:=by rw[hp];exact dh (by omega) (by omega)
     have hgv:(vals.map V.bool).getD p .any= .bool vals[p]:=Xa hpl _;have hhol:(vals[p]==decide (0<a))=hol vals a:=by rw[←Xj hin,hp,Int.toNat_natCast,zqg,zqk hpl];rfl
     have dst:∀p,V.drops p (st.map V.bool)=st.map V.bool:=fun p=>qU _;have dcp:∀p,V.drops p caps=caps:=fun p=>qK.dats_drops _ hc;have hel:(st.map V.bool).length=st.length*1:=by rw[zra];omega
     refine vK mixed 15 (.one 15<| .take 16<| .one 17<| .fin) (fun f' h'=>f'.t 0= .ip (kV m l)∧f'.t 6= .lp 1 0∧f'.t 8= .lp 2 0∧f'.t 10= .lp 3 0∧f'.t 11= .lp 4 0∧f'.t 65=bF m.lat∧f'.t 66=vi m.lat.length∧f'.t 67=vi i∧f'.d=[]∧h'=hA5 q.part q.clause q.beg q.steps fid caps n cl rows vals nn ln (st++[hol vals a])) (by decide +kernel) ?_ ?_
     ·intro K hK;simp only[List.take_succ_cons,List.take_zero];simp only[wq.1,↓reduceIte,Nat.reduceEqDiff,Nat.reduceLT,Nat.reduceLeDiff,Nat.reduceAdd,reduceCtorEq,Nat.reduceMul,t10,t11,hw0,hw2,hgv,hhol,mxI];refine⟨⟨by omega,by omega⟩,⟨rfl,by decide⟩,hK _ ?_⟩;simp only[wq.1,seval,t0,t6,t8,t10,t11,t65,t66,t67,hd,dst,dcp];exact⟨by omega,by omega,by omega⟩
     ·rintro f h ⟨t0,t6,t8,t10,t11,t65,t66,t67,hd,rfl⟩;show awp _ _ _ _ _ _ _;refine vm ?_;simp only[wq.1,seval,t67,hw];refine .inl ⟨q'-1,by omega,i+1,by omega,t0,t6,t8,t10,t11,t65,t66,by simp only[wq.1,↓reduceIte],hd,by rw[hsu];simp⟩
    ·simp only [zqd,zqi] at hlt;have hie : i = m.lat.length := by omega
     subst hie;rw[zqh (by omega)]at htl ⊢;refine vm ?_;simp only[wq.1];show awp _ _ _ _ _ _ _;refine ag (vm ?_);simp only[wq.1,seval,t6,t11];refine vm ?_;simp only[wq.1,seval,t6,hd];refine⟨_,⟨_,fin _ rfl,rfl⟩,?_⟩;exact az.tup (ak.cons (az.agg (ak.cons (az.dat rfl) (ak.cons (az.dat rfl) (ak.cons (az.dat rfl) (ak.cons (I8 rfl rfl) ak.nil))))) (ak.cons (az.dat rfl) ak.nil))
   ·have e1 : (res == 1) = false := by simpa using h1
    rw[if_neg h1]at fin;refine ag (vm ?_);simp only[wq.1,seval,t10,e1];refine vm ?_;simp only[wq.1,seval,t6,hd];refine⟨_,⟨_,fin [] rfl,rfl⟩,?_⟩;exact az.tup (ak.cons (az.agg (ak.cons (az.dat rfl) (ak.cons (az.dat rfl) (ak.cons (az.dat rfl) (ak.cons az.nils ak.nil))))) (ak.cons (az.dat rfl) ak.nil))
 ·have eU : pX m.g q.beg q.steps = uV 0 [] [] := by unfold pX;rw [if_neg hz]
  rw[eU]at hu;refine WU m l _ _ _ _ _ _ bud _ _ _ _ hu (by intro q hq;simp only[qg,zrj,zrp,or_false]at hq;rcases hq with rfl | rfl | rfl | rfl<;>rfl) rfl (fun f hG hd ⟨t8,t9⟩=> ?_);have t6:f.t 6= .lp 1 0:=hG (6,.lp 1 0) (by simp[qg]);show awp _ _ _ _ _ _ _;have ez:(Aj m.g q.beg q.steps != 0)=true:=by simpa using hz
  refine ag (vm ?_);simp only[wq.1,seval,t6,t9,hd,ez];refine⟨_,⟨(Ve.z,Aj m.g q.beg q.steps),.inl ⟨hz,rfl⟩,rfl⟩,?_⟩;exact az.tup (ak.cons (az.agg (ak.cons (az.dat rfl) (ak.cons (az.dat rfl) (ak.cons (az.dat rfl) (ak.cons az.nils ak.nil))))) (ak.cons (az.dat rfl) ak.nil))
def QFn (m:Mo) (q:Qn) (fid:FuncId) (caps:List V) (h:H) (N:Nat):Prop :=
 ∃caps',(∀h2:H,(∀i o,N≤i→h[i]? =some o→h2[i]? =some o)→ak TE (qF (fun i=>decide (N≤i)) 0 h2) caps caps')∧V.drops (fun i=> !decide (N≤i)) caps=caps∧V.dats caps'=true∧aj P fid=true∧(Aj m.g q.beg q.steps=0→Ev TE fid (uV (q.n m) (gz m.g q.beg q.steps).cl (iG m.g q.beg q.steps)::caps') (cls q.more))
theorem NM {h:H} {N i:Nat} (hN:N≤i) {c:List Lt} (hi:h[i]? =some (.cells [fH c])):(qF (fun i=>decide (N≤i)) 0 h)[i]? =some (.cells [fH c]):=by rw[nU,hi,zrw,if_pos (by simpa using hN)];rfl
theorem NP (id N : Nat) (h : H) (m : Mo) (l : List (List Lt)) (bad : Int) (hm : m.chk = 0) (hkl : ∀ c ∈ l,∀ x ∈ c,fJ m x.1 = true) (hl : l.length ≤ 200) (hcl : ∀ c ∈ l,c.length ≤ 1000) (b1 : bad < m.g.outs.length)
 (I:Nat→H→(Nat→Bool)→Prop) (Stop:Option Code→H→(Nat→Bool)→Prop)
 (hN:∀j h k,I j h k→N≤h.length)
 (hap:∀j h k o,I j h k→I j (h++[o]) k)
 (h0:I 0 h (fun _=>false))
 (step:∀j h' k q fid caps,(qns m l bad)[j]? =some q→k id=false→I j h' k→QFn m q fid caps h' N →
  WQ TE id [.agg [vi q.part,vi q.clause,aH q.beg,vi q.steps,.fn (.func fid) [] caps]] h' fun jm h'' p=>(jm=none∧I (j+1) h'' (fun i=>k i||p i))∨(jm.isNone=false∧Stop jm h'' (fun i=>k i||p i))) :
 ah TE 77 ([]++[.yd id]++[.ip (.ip (kV m l)),.ip (vi bad)]) h fun ae h' p=>p id=false∧match ae with
  | .ret _=>I (qns m l bad).length h' p∨∃j,Stop j h' p
  | .pan _=>False:=by
 have hM:maxLen=9223372036854775807:=rfl;obtain⟨nv,i0,i1,hlat⟩:=NI hm;have hrp:=Jn 2 m.lat.length (by omega);refine au Tryz.func77 rfl (by simp[nts]) ?_;refine ag (vm ?_);simp only[wq.1,↓reduceIte,Nat.reduceEqDiff,Nat.reduceLT,Nat.reduceLeDiff,Nat.reduceAdd,reduceCtorEq,Nat.reduceMul,Tryz.results77];refine⟨⟨rfl,by decide⟩,ah.ev (Ev.le (gX.cons dF (gX.refl _)) hrp) rfl ?_⟩;have eany:List.replicate m.lat.length (2:Int)=JC m:=rfl;rw[eany];simp only[wq.1,seval];obtain⟨hg,hi,hle,ho⟩:=oM hm;obtain⟨_,g0,g1,g2,g3,g4,g5⟩:=jL hg;obtain⟨r1,r2,r3,r4⟩:=kT g4;have hgo:∀a∈m.g.outs,a≤1000000:=fun a ha=>by
  have:=r4 a ha;have wf:m.g.first=1+m.g.ins+m.g.next.length:=rfl
  have wa:m.g.all=2*(m.g.first+m.g.ands.length):=rfl;omega
 have u0:UOk m (iG m.g m.g.init 0):=AA hm (AB hm).1 (AB hm).2 (Nat.zero_le _);have u1:UOk m (iG m.g (JC m) 1):=AA hm Fb Fa (zrb _);have hcl':∀c∈l,c.length≤1000000:=fun c hc=>by have:=hcl c hc;omega
 have ql:(qns m l bad).length=l.length+(l.length+if 0≤bad then 1 else 0):=by unfold qns;split<;>simp
 have qa:∀i (hi:i<l.length),(qns m l bad)[i]? =some (qn0 m i l[i]):=fun i hi=>by unfold qns;rw[zqj (by simpa using hi),zqo,List.getElem?_range hi];simp[zqg,hi]
 have qb:∀i (hi:i<l.length),(qns m l bad)[l.length+i]? =some (qn1 m l i l[i]):=fun i hi=>by unfold qns;rw[List.getElem?_append_right (by simp),zra,List.length_range,show l.length+i-l.length=i by omega,zqj (by simpa using hi),zqo,List.getElem?_range hi];simp[zqg,hi]
 have qc:0≤bad→(qns m l bad)[l.length+l.length]? =some (qn2 m l bad):=fun hb=>by unfold qns;rw[List.getElem?_append_right (by simp),zra,List.length_range,show l.length+l.length-l.length=l.length by omega,List.getElem?_append_right (by simp),zra,List.length_range,Nat.sub_self,if_pos hb];rfl
 refine ag ?_;refine ag (vm ?_);simp only[wq.1,seval];refine aC ?_;refine aB (fun q f h=>∃i,q+i=l.length∧f.t 0= .yd id∧f.t 1= .ip (.ip (kV m l))∧f.t 2= .ip (vi bad)∧f.t 4=aH (JC m)∧f.t 20=lss l∧f.t 21=vi l.length∧f.t 22=vi i∧f.d=[]∧f.k id=false∧I i h f.k) l.length ⟨0,by omega,by simp only[wq.1,seval],by simp only[wq.1,seval],by simp only[wq.1,seval],by simp only[wq.1,seval],by simp only[wq.1,seval],by simp only[wq.1,seval],by simp only[wq.1,↓reduceIte];rfl,by simp only[wq.1],by simp only[wq.1],by simp only[wq.1];exact h0⟩ ?_;rintro q f h ⟨i,hq,t0,t1,t2,t4,t20,t21,t22,hd,hk,hIk⟩;refine ag (vm ?_);simp only[wq.1,Nat.reduceLT,t21,t22];refine ag (bG (b:=decide ((i:Int)<l.length)) (by simp only[wq.1,↓reduceIte]) (by simp only[wq.1,↓reduceIte]) (fun hlt=> ?_) (fun hlt=> ?_))
 ·simp only [zqb,zqi] at hlt;have hw := aA (show i < maxLen by omega);have hgl := oN hlt .any;have hcm := zqu hlt;have hIn := hap _ _ _ (.cells [fH l[i]]) hIk;have hNh := hN _ _ _ hIk;have hy := step i (h ++ [.cells [fH l[i]]]) f.k _ 79 [.ip (.ip (kV m l)),.lp h.length 0] (qa i hlt) hk hIn
   ⟨[.ip (.ip (kV m l)),.ip (fH l[i])],fun h2 hh=>ak.cons (az.dat rfl) (ak.cons (az.lp (NM (c:=l[i]) hNh (hh _ _ hNh jJ)) (ak.dat (by simp only[V.dats,V.dat,eu,zre])) rfl (by simp only[V.dat,eu]) (by simp[V.vc]) rfl) ak.nil),by simp[V.drops,V.drop,hNh],rfl,rfl,
     fun _=>VE m l _ _ _ l[i] (hkl _ hcm) u0 (hcl' _ hcm)⟩
  have hlo:∀o:O,(h++[o])[h.length]? =some o:=fun o=>jJ;have hso:∀o o':O,(h++[o]).set h.length o'=h++[o']:=fun o o'=>qJ;obtain⟨t,n',ps,asg,body,pend,hL,hsz,hps,hw2⟩:=hy;refine vm ?_;simp only[wq.1];refine ag (aC ?_);refine ag (vm ?_);simp only[wq.1,seval,t20,t22,hgl,hlo,hso];refine⟨⟨by omega,by omega⟩,?_⟩;refine ag (vm ?_);simp only[wq.1,seval,t0,t1,hL];refine⟨⟨by simpa using hsz,hps⟩,ve hw2 ?_⟩;rintro j h' p hp (⟨rfl,hI2⟩ | ⟨hj,hS⟩)
  ·refine⟨by simp[Ej,hd],?_⟩;simp only[wq.1,seval,Option.isNone_none];refine vm ?_;simp only[wq.1,↓reduceIte];refine vm ?_;simp only[wq.1,seval,t22,hw];refine .inl ⟨q-1,by omega,i+1,by omega,by simp only[wq.1,seval,t0,hp],by simp only[wq.1,seval,t1],by simp only[wq.1,seval,t2],by simp only[wq.1,seval,t4],by simp only[wq.1,seval,t20],by simp only[wq.1,seval,t21],by simp only[wq.1,↓reduceIte],hd,by simp only[wq.1,hk,hp],by simp only[wq.1];exact hI2⟩
  ·refine⟨by simp[Ej,hd],?_⟩;simp only[wq.1,seval,hj];refine vm ?_;simp only[wq.1,↓reduceIte,hd,hp,hk];exact .inr ⟨j,hS⟩
 ·simp only [zqd,zqi] at hlt;have : i = l.length := by omega
  subst this;refine vm ?_;simp only[wq.1];show awp _ _ _ _ _ _ _;refine ag ?_;refine ag (vm ?_);simp only[wq.1,seval,t1];refine aC ?_;refine aB (fun q f h=>∃i,q+i=l.length∧f.t 0= .yd id∧f.t 1= .ip (.ip (kV m l))∧f.t 2= .ip (vi bad)∧f.t 4=aH (JC m)∧f.t 43=lss l∧f.t 44=vi l.length∧f.t 45=vi i∧f.d=[]∧f.k id=false∧I (l.length+i) h f.k) l.length ⟨0,by omega,t0,t1,t2,t4,by simp only[wq.1,seval],by simp only[wq.1,seval],by simp only[wq.1,↓reduceIte];rfl,hd,by simp only[wq.1,hk],by simp only[wq.1];exact hIk⟩ ?_;clear t0 t1 t2 t4 t20 t21 t22 hd hk hIk;rintro q f h ⟨i,hq,t0,t1,t2,t4,u43,u44,u45,hd,hk,hIk⟩;refine ag (vm ?_);simp only[wq.1,Nat.reduceLT,u44,u45];refine ag (bG (b:=decide ((i:Int)<l.length)) (by simp only[wq.1,↓reduceIte]) (by simp only[wq.1,↓reduceIte]) (fun hlt=> ?_) (fun hlt=> ?_))
  ·simp only [zqb,zqi] at hlt;have hw := aA (show i < maxLen by omega);have hgl := oN hlt .any;have hcm := zqu hlt;have hIn := hap _ _ _ (.cells [fH l[i]]) hIk;have hNh := hN _ _ _ hIk;have hy := step (l.length + i) (h ++ [.cells [fH l[i]]]) f.k _ 81 [.ip (.ip (kV m l)),.lp h.length 0] (qb i hlt) hk hIn
    ⟨[.ip (.ip (kV m l)),.ip (fH l[i])],fun h2 hh=>ak.cons (az.dat rfl) (ak.cons (az.lp (NM (c:=l[i]) hNh (hh _ _ hNh jJ)) (ak.dat (by simp only[V.dats,V.dat,eu,zre])) rfl (by simp only[V.dat,eu]) (by simp[V.vc]) rfl) ak.nil),by simp[V.drops,V.drop,hNh],rfl,rfl,
      fun _=>VF m l _ _ _ l[i] (hkl _ hcm) hkl u1 (hcl' _ hcm) (by omega) hcl'⟩
   have hlo:∀o:O,(h++[o])[h.length]? =some o:=fun o=>jJ;have hso:∀o o':O,(h++[o]).set h.length o'=h++[o']:=fun o o'=>qJ;obtain⟨t,n',ps,asg,body,pend,hL,hsz,hps,hw2⟩:=hy;refine vm ?_;simp only[wq.1];refine ag (aC ?_);refine ag (vm ?_);simp only[wq.1,seval,u43,u45,hgl,hlo,hso];refine⟨⟨by omega,by omega⟩,?_⟩;refine ag (vm ?_);simp only[wq.1,seval,t0,t1,t4,hL];refine⟨⟨by simpa using hsz,hps⟩,ve hw2 ?_⟩;rintro j h' p hp (⟨rfl,hI2⟩ | ⟨hj,hS⟩)
   ·refine⟨by simp[Ej,hd],?_⟩;simp only[wq.1,seval,Option.isNone_none];refine vm ?_;simp only[wq.1,↓reduceIte];refine vm ?_;simp only[wq.1,seval,u45,hw];refine .inl ⟨q-1,by omega,i+1,by omega,by simp only[wq.1,seval,t0,hp],by simp only[wq.1,seval,t1],by simp only[wq.1,seval,t2],by simp only[wq.1,seval,t4],by simp only[wq.1,seval,u43],by simp only[wq.1,seval,u44],by simp only[wq.1,↓reduceIte],hd,by simp only[wq.1,hk,hp],by simp only[wq.1];exact hI2⟩
   ·refine⟨by simp[Ej,hd],?_⟩;simp only[wq.1,seval,hj];refine vm ?_;simp only[wq.1,↓reduceIte,hd,hp,hk];exact .inr ⟨j,hS⟩
  ·simp only [zqd,zqi] at hlt;have : i = l.length := by omega
   subst this;refine vm ?_;simp only[wq.1];show awp _ _ _ _ _ _ _;refine ag (vm ?_);simp only[wq.1,seval,t2];refine bG (b:=decide (0≤bad)) (by simp only[wq.1,↓reduceIte]) (by simp only[wq.1,↓reduceIte]) (fun hb=> ?_) (fun hb=> ?_)
   ·simp only [zqb] at hb;have hy := step (l.length + l.length) h f.k _ 84 [.ip (.ip (kV m l)),.ip (vi bad)] (qc hb) hk hIk
     ⟨[.ip (.ip (kV m l)),.ip (vi bad)],fun _ _=>ak.dat rfl,rfl,rfl,rfl,
       fun _=>VP m l _ _ _ bad hkl u1 (by omega) hcl' hb b1 hgo⟩
    obtain⟨t,n',ps,asg,body,pend,hL,hsz,hps,hw2⟩:=hy;refine vm ?_;simp only[wq.1,seval,t0,t1,t2,t4,hL];refine⟨⟨by simpa using hsz,hps⟩,ve hw2 ?_⟩;rintro j h' p hp (⟨rfl,hI2⟩ | ⟨hj,hS⟩)
    ·refine⟨by simp[Ej,hd],?_⟩;simp only[wq.1,hd,hp,hk,Option.isNone_none];refine .inl ?_;rw[ql,if_pos hb];exact hI2
    ·refine⟨by simp[Ej,hd],?_⟩;simp only[wq.1,hd,hp,hk,hj];exact .inr ⟨j,hS⟩
   ·simp only[zqd]at hb;refine vm ?_;simp only[wq.1,hd,hk];refine .inl ?_;rw[ql,if_neg hb];exact hIk
theorem Qd {pc:Nat} {bad:Int} {h:H} {R:AEnd→H→(Nat→Bool)→Prop} (hr:R (.ret (.fn (.func 77) [] [.lp h.length 0,.lp (h.length+1) 0])) (h++[.cells [.lp pc 0],.cells [vi bad]]) (fun _=>false)):ah TE 48 [.lp pc 0,vi bad] h R:=by refine au Tryz.func48 rfl (by simp[nts]) (vm ?_);simp only[wq.1,seval,Tryz.results48];rw[zqc];exact hr
abbrev mC (m:Mo):List V:=[vi m.g.ins,aH m.g.next,aH m.g.init,prs m.g.ands,aH m.g.outs,bF m.ins,bF m.lat,bF m.out]
abbrev kC (m:Mo) (l:List (List Lt)):List V:=[vi m.g.ins,aH m.g.next,aH m.g.init,prs m.g.ands,aH m.g.outs,bF m.ins,bF m.lat,bF m.out,lss l,imV (qX m)]
abbrev hCk (m:Mo) (bud:Int) (v:List V) (e:Int):H:=[.cells (mC m),.cells [vi bud],.cells v,.cells [vi e],.dead,.dead,.dead,.dead]
theorem Qe {qs:List Qn} {j:Nat} {q:Qn} (h:qs[j]? =some q):qs.drop j=q::qs.drop (j+1):=by obtain⟨hj,rfl⟩:=zqe h;exact List.drop_eq_getElem_cons hj
theorem VT {m:Mo} {l:List (List Lt)} {bad:Int} (hm:m.chk=0) (hl:l.length≤1000000) (hcl:∀c∈l,c.length≤1000):∀q∈qns m l bad,QOk m q:=fun q hq=>by
 have hg:∀i,(l.getD i []).length≤1000:=fun i=>by
  by_cases h:i<l.length
  ·rw[zqg,zqk h];exact hcl _ (zqu h)
  ·rw[zqg,List.getElem?_eq_none (by omega)];simp
 unfold qns at hq;rcases zrf.1 hq with hq | hq
 ·obtain⟨i,_,rfl⟩:=zrh.1 hq;exact Xd hm (hg i)
 ·rcases zrf.1 hq with hq | hq
  ·obtain⟨i,_,rfl⟩:=zrh.1 hq;exact Xe hl hcl (hg i)
  ·split at hq
   ·rw[zrc.1 hq];exact Xf hl hcl
   ·cases hq
theorem wW (m:Mo) (l:List (List Lt)) (bad bud:Int) (hs:m.g.Sm) (hlat:m.lat.length≤1000000) (hl:l.length≤1000000) (hcl:∀c∈l,c.length≤1000) (hb:VO m bud) :
 EvR TE 20 [m.v,lss l,vi bad,vi bud] (fun r=>∃a,l7 m l bad bud a∧r= .tup [a.1.v,vi a.2]):=by
 have hM:maxLen=9223372036854775807:=rfl;have hpl:=yI m hs l hlat hl (fun c hc=>by have:=hcl c hc;omega);unfold Mo.v at hpl ⊢;have dp:V.dats [.agg (mC m),lss l]=true:=by simp only[V.dats,V.dat,(dV l).1,zre]
 refine EvR.of_calls ?_;refine au Tryz.func20 rfl (by simp[nts]) ?_;refine ag (vm ?_);simp only[wq.1,seval,Tryz.results20];refine ag (vm ?_);simp only[wq.1,seval];refine ah.ev hpl dp ?_;simp only[wq.1,seval];refine ag (aC ?_);by_cases hz:(bK m l).2=0
 ·have ez : ((bK m l).2 != 0) = false := by simpa using hz
  refine ag (vm ?_);simp only[wq.1,seval,ez];obtain⟨hm,hkn,hp1⟩:m.chk=0∧jo m l=true∧(bK m l).1=imV (qX m):=by
   unfold bK at hz ⊢;by_cases h1:m.chk≠0
   ·rw[if_pos h1]at hz;exact absurd hz h1
   ·rw [if_neg h1] at hz ⊢;by_cases h2 : jo m l = true
    ·rw[if_pos h2];exact⟨by omega,h2,rfl⟩
    ·rw[if_neg h2]at hz;cases hz
  rw[hp1,hz];have hkl:∀c∈l,∀x∈c,fJ m x.1=true:=fun c hc x hx=>zrs.1 (zrs.1 hkn c hc) x hx;obtain⟨hg,hi,hle,ho⟩:=oM hm;by_cases hbd:bad< -1∨(m.out.length:Int)≤bad∨200<l.length
  ·have hC : l7 m l bad bud (Ve.z,1) := by unfold l7;rw [if_neg (by rw [hz];decide),if_pos hbd]
   cases d1:decide (bad< -1)with
   | true=>refine vm ?_;simp only[wq.1,seval,d1];refine⟨_,⟨(Ve.z,1),hC,rfl⟩,?_⟩;exact az.tup (ak.cons (az.agg (ak.cons (az.dat rfl) (ak.cons (az.dat rfl) (ak.cons (az.dat rfl) (ak.cons az.nils ak.nil))))) (ak.cons (az.dat rfl) ak.nil))
   | false =>
    cases d2:decide ((m.out.length:Int)≤bad)with
    | true=>refine vm ?_;simp only[wq.1,seval,d1,d2];refine⟨_,⟨(Ve.z,1),hC,rfl⟩,?_⟩;exact az.tup (ak.cons (az.agg (ak.cons (az.dat rfl) (ak.cons (az.dat rfl) (ak.cons (az.dat rfl) (ak.cons az.nils ak.nil))))) (ak.cons (az.dat rfl) ak.nil))
    | false =>
     have d3:decide ((200:Int)<(l.length:Int))=true:=by simp only[zqd]at d1 d2;rw[zqb];omega
     refine vm ?_;simp only[wq.1,seval,d1,d2,d3];refine⟨_,⟨(Ve.z,1),hC,rfl⟩,?_⟩;exact az.tup (ak.cons (az.agg (ak.cons (az.dat rfl) (ak.cons (az.dat rfl) (ak.cons (az.dat rfl) (ak.cons az.nils ak.nil))))) (ak.cons (az.dat rfl) ak.nil))
  ·have d1 : decide (bad < -1) = false := by rw [zqd];omega
   have d2:decide ((m.out.length:Int)≤bad)=false:=by rw[zqd];omega
   have d3:decide ((200:Int)<(l.length:Int))=false:=by rw[zqd];omega
   refine vm ?_;simp only[wq.1,seval,d1,d2,d3];show awp _ _ _ _ _ _ _;refine ag (vm ?_);simp only[wq.1,seval,imV];refine ag ?_;refine ag (vm ?_);simp only[wq.1,seval];refine Qd ?_;simp only[wq.1,Nat.reduceAdd];have hkd:V.dats (kC m l)=true:=by simp only[kC,imV,V.dats,V.dat,(dV l).1,bV,kH,zre]
   refine mJ (fun f => f.t 7 = .lp 1 0 ∧ f.t 8 = .lp 2 0 ∧ f.t 9 = .lp 3 0 ∧ f.t 12 = .lp 5 0 ∧ f.t 50 = .fn (.func 77) [] [.lp 6 0,.lp 7 0] ∧ f.d = []) [.cells (mC m),.cells [vi bud],.cells [vi 0,vi 0,vi 0,.nils],.cells [vi 0],.cells (kC m l),.cells [.lp 4 0],.cells [.lp 4 0],.cells [vi bad]]
    (fun hk=>hk _ ⟨by simp only[wq.1,seval],by simp only[wq.1,seval],by simp only[wq.1,seval],by simp only[wq.1,seval],by simp only[wq.1,↓reduceIte],by simp only[wq.1]⟩) ?_
   rintro f ⟨t7,t8,t9,t12,t50,hd⟩;have hkr:∀id:Nat,(qF (fun i=>decide (4≤i)) 0 ([.cells (mC m),.cells [vi bud],.cells [vi 0,vi 0,vi 0,.nils],.cells [vi 0],.cells (kC m l),.cells [.lp 4 0],.cells [.lp 4 0],.cells [vi bad]]:H))[id]? =some (.cells [.lp 4 0])→az TE (qF (fun i=>decide (4≤i)) 0 ([.cells (mC m),.cells [vi bud],.cells [vi 0,vi 0,vi 0,.nils],.cells [vi 0],.cells (kC m l),.cells [.lp 4 0],.cells [.lp 4 0],.cells [vi bad]]:H)) (.lp id 0) (.ip (.ip (kV m l))):=fun id hid=>by
    refine az.lp hid (ak.cons (v':= .ip (kV m l)) ?_ ak.nil) rfl rfl (by simp[V.vc]) rfl;exact az.lp (cs:=kC m l) (by show some (O.cells (V.drops _ (kC m l)))=_;rw[qK.dats_drops _ hkd]) (ak.dat hkd) rfl hkd (by simp[V.vc]) rfl
   refine FP (fun i=>decide (4≤i)) (fun i=>if i=12 then .ip (.ip (kV m l))else if i=50 then .fn (.func 77) [] [.ip (.ip (kV m l)),.ip (vi bad)]else V.drop (fun i=>decide (4≤i)) (f.t i)) (fun i=> ?_) (by rw[hd];simp) ?_
   ·by_cases h12 : i = 12
    ·subst h12;right;rw[if_pos rfl,t12];exact⟨rfl,hkr 5 rfl⟩
    ·by_cases h50 : i = 50
     ·subst h50;right;rw[if_neg (by decide),if_pos rfl,t50];exact⟨rfl,az.fn ak.nil (ak.cons (hkr 6 rfl) (ak.cons (az.lp (id:=7) (cs:=[vi bad]) rfl (ak.dat rfl) rfl rfl (by simp[V.vc]) rfl) ak.nil))⟩
     ·left;rw[if_neg h12,if_neg h50]
   have e0 : iV (fun i => decide (4 ≤ i)) 0 ([.cells (mC m),.cells [vi bud],.cells [vi 0,vi 0,vi 0,.nils],.cells [vi 0],.cells (kC m l),.cells [.lp 4 0],.cells [.lp 4 0],.cells [vi bad]] : H) = hCk m bud [vi 0,vi 0,vi 0,.nils] 0 := rfl;rw [e0];refine mJ (fun f => f.t 7 = .lp 1 0 ∧ f.t 8 = .lp 2 0 ∧ f.t 9 = .lp 3 0 ∧ f.t 12 = .ip (.ip (kV m l)) ∧ f.t 50 = .fn (.func 77) [] [.ip (.ip (kV m l)),.ip (vi bad)] ∧ f.d = []) _
    (fun hk=>hk _ ⟨by show V.drop _ (f.t 7)=_;rw[t7];rfl,by show V.drop _ (f.t 8)=_;rw[t8];rfl,by show V.drop _ (f.t 9)=_;rw[t9];rfl,rfl,rfl,hd⟩) ?_
   clear t7 t8 t9 t12 t50 hd e0 hkr f;rintro f ⟨t7,t8,t9,t12,t50,hd⟩;refine aC ?_;refine Iu (n:=74) (q:=77) (first:=[]) (captured:=[.ip (.ip (kV m l)),.ip (vi bad)]) (by simp only[wq.1,t50]) (by simp only[wq.1,t50]) rfl (by decide) ?_;intro L hLd gets;have hnr:l7 m l bad bud=Nu m bud (qns m l bad):=by
    funext r
    unfold l7;rw[if_neg (by rw[hz];decide),if_neg hbd]
   have hrfin:∀a:Ve×Int,Nu m bud (qns m l bad) a→l7 m l bad bud a:=fun a h=>by rw[hnr];exact h
   refine ah.mono (NP 9 10 _ m l bad hm hkl (by omega) hcl (by omega)
    (fun j h k=>(∀i,i<10→k i=false)∧∃t X,t 7= .lp 1 0∧t 8= .lp 2 0∧t 9= .lp 3 0∧t 12= .ip (.ip (kV m l))∧h=hCk m bud [vi 0,vi 0,vi 0,.nils] 0++[.misc .dfd,L t .ready none]++X∧∀r,Nu m bud ((qns m l bad).drop j) r→Nu m bud (qns m l bad) r)
    (fun j h k=>(∀i,i<10→k i=false)∧j=some .ret∧∃t X a,Nu m bud (qns m l bad) a∧h=hCk m bud [vi a.1.res,vi a.1.part,vi a.1.clause,eP a.1.state] a.2++[.misc .dfd,L t .done (some .ret)]++X)
    ?_ ?_ ?_ ?_) ?_
   ·rintro j h k ⟨_,t,X,_,_,_,_,rfl,_⟩;simp
   ·rintro j h k o ⟨hk,t,X,a1,a2,a3,a4,rfl,a5⟩;exact⟨hk,t,X++[o],a1,a2,a3,a4,by rw[zqc],a5⟩
   ·exact⟨fun _ _=>rfl,f.t,[],t7,t8,t9,t12,rfl,fun r h=>h⟩
   ·rintro j h' k q fid caps hq hk ⟨hk10,t,X,t7,t8,t9,t12,eh,hrun⟩ ⟨caps',hcr,hcd,hcdat,hent,hmore⟩;have g9 : h'[9]? = some (L t .ready none) := by rw [eh];rfl
    have hlen:10≤h'.length:=by rw[eh];simp
    refine gets _ _ _ t g9 rfl (fun lb=> ?_);have hlo:∀o:O,(h'++[o])[h'.length]? =some o:=fun o=>jJ;have hso:∀o o':O,(h'++[o]).set h'.length o'=h'++[o']:=fun o o'=>qJ;refine vm ?_;simp only[wq.1,seval,QI,hlo,hso];refine⟨t,by rw[zqj (by omega)];exact g9,?_⟩;have hqok:=VT (bad:=bad) hm (by omega) hcl q (List.mem_of_getElem? hq);have hdr:=Qe hq;obtain⟨n0,hn0⟩:∃n0,n0=h'.length:=⟨_,rfl⟩;rw[←hn0];obtain⟨H1,eH1⟩:∃H1,H1=(h'++[O.cells [vi q.part,vi q.clause,aH q.beg,vi q.steps,.fn (.func fid) [] caps]]).set 9 (L t .busy none):=⟨_,rfl⟩;rw[←eH1];have x1:H1=hCk m bud [vi 0,vi 0,vi 0,.nils] 0++[.misc .dfd,L t .busy none]++(X++[.cells [vi q.part,vi q.clause,aH q.beg,vi q.steps,.fn (.func fid) [] caps]]):=by rw[eH1,eh];rfl
    have y1:H1[1]? =some (.cells [vi bud]):=by rw[x1];rfl
    have yq:H1[n0]? =some (.cells [vi q.part,vi q.clause,aH q.beg,vi q.steps,.fn (.func fid) [] caps]):=by rw[eH1,hn0,zqn (by omega),jJ]
    refine aC ?_;refine ag (vm ?_);simp only[wq.1,seval,t7,t12,y1,yq];refine BI (fun i=>decide (10≤i)) (VR m l q bud fid caps' hm hs hqok hb hent hcdat hmore) (by simp only[V.drops,V.drop,hcd]) ?_ ?_
    ·refine ak.cons (az.dat hkd) (ak.cons (az.agg (ak.cons (az.dat rfl) (ak.cons (az.dat rfl) (ak.cons (az.dat rfl) (ak.cons (az.dat rfl) (ak.cons (az.fn ak.nil (hcr H1 (fun i o hi ho=> ?_))) ak.nil)))))) (ak.cons (az.dat rfl) ak.nil));rw[eH1,zqn (by omega),zqj (zqe ho).1];exact ho
    ·rintro r ⟨a,ha,rfl⟩;obtain⟨t',et'⟩:∃t':Nat→V,t'=fun i=>(t i).drop (fun i=>decide (10≤i)):=⟨_,rfl⟩;obtain⟨Y,eY⟩:∃Y,Y=iV (fun i=>decide (10≤i)) 10 (X++[O.cells [vi q.part,vi q.clause,aH q.beg,vi q.steps,.fn (.func fid) [] caps]]):=⟨_,rfl⟩;obtain⟨H2,eH2⟩:∃H2,H2=iV (fun i=>decide (10≤i)) 0 H1:=⟨_,rfl⟩;rw[←eH2];have x2:H2=hCk m bud [vi 0,vi 0,vi 0,.nils] 0++[.misc .dfd,L t' .busy none]++Y:=by
      rw[eH2,x1,eY,et',←hLd];rfl
     have z2:H2[2]? =some (.cells [vi 0,vi 0,vi 0,.nils]):=by rw[x2];rfl
     have z3:H2[3]? =some (.cells [vi 0]):=by rw[x2];rfl
     have hl2:10≤H2.length:=by rw[x2];simp
     have hlo2:∀o:O,(H2++[o])[H2.length]? =some o:=fun o=>jJ;have hso2:∀o o':O,(H2++[o]).set H2.length o'=H2++[o']:=fun o o'=>qJ;have u7:t' 7= .lp 1 0:=by rw[et'];show V.drop _ (t 7)=_;rw[t7];rfl
     have u8:t' 8= .lp 2 0:=by rw[et'];show V.drop _ (t 8)=_;rw[t8];rfl
     have u9:t' 9= .lp 3 0:=by rw[et'];show V.drop _ (t 9)=_;rw[t9];rfl
     have u12:t' 12= .ip (.ip (kV m l)):=by rw[et'];show V.drop _ (t 12)=_;rw[t12];rfl
     simp only[wq.1,seval,aX,hlo2,hso2];have hk':∀i,i<10→(k i||decide (10≤i))=false:=fun i hi=>by rw[hk10 i hi,Bool.false_or,zqd];omega
     have yA2:∀o:O,(H2++[o])[2]? =some (.cells [vi 0,vi 0,vi 0,.nils]):=fun o=>by rw[zqj (by omega)];exact z2
     cases d1:(a.2 != 0)with
     | true=>refine ag (vm ?_);simp only[wq.1,seval,d1,hlo2];refine vm ?_;simp only[wq.1,seval,t8,t9,hlo2,yA2,x8,XE.jump];rw[x2];show 1≤([vi 0]:List V).length∧∃t st,_=some (L t st none)∧_;exact⟨by decide,t',.busy,rfl,.inr ⟨rfl,hk',t',Y++[.cells [vi a.1.res,vi a.1.part,vi a.1.clause,eP a.1.state]],a,hrun a (by rw[hdr];exact⟨a,ha,.inl ⟨.inl (by simpa using d1),rfl⟩⟩),rfl⟩⟩
     | false =>
      cases d2:(a.1.res==1)with
      | true=>refine ag (vm ?_);simp only[wq.1,seval,d1,d2,hlo2];refine vm ?_;simp only[wq.1,seval,t8,t9,hlo2,yA2,x8,XE.jump];rw[x2];show 1≤([vi 0]:List V).length∧∃t st,_=some (L t st none)∧_;exact⟨by decide,t',.busy,rfl,.inr ⟨rfl,hk',t',Y++[.cells [vi a.1.res,vi a.1.part,vi a.1.clause,eP a.1.state]],a,hrun a (by rw[hdr];exact⟨a,ha,.inl ⟨.inr (.inl (by simpa using d2)),rfl⟩⟩),rfl⟩⟩
      | false =>
       cases d3:(a.1.res==2)with
       | true=>refine ag (vm ?_);simp only[wq.1,seval,d1,d2,d3,hlo2];refine vm ?_;simp only[wq.1,seval,t8,t9,hlo2,yA2,x8,XE.jump];rw[x2];show 1≤([vi 0]:List V).length∧∃t st,_=some (L t st none)∧_;exact⟨by decide,t',.busy,rfl,.inr ⟨rfl,hk',t',Y++[.cells [vi a.1.res,vi a.1.part,vi a.1.clause,eP a.1.state]],a,hrun a (by rw[hdr];exact⟨a,ha,.inl ⟨.inr (.inr (by simpa using d3)),rfl⟩⟩),rfl⟩⟩
       | false =>
        have hns:¬PY a:=by
         rintro(h | h | h)
         ·rw[bne_iff_ne.2 h]at d1;cases d1
         ·rw[h]at d2;cases d2
         ·rw[h]at d3;cases d3
        refine ag (vm ?_);simp only[wq.1,seval,d1,d2,d3,hlo2];refine vm ?_;simp only[wq.1,seval,x8,XE.jump];rw[x2];exact⟨t',.busy,rfl,.inl ⟨hk',t',Y++[.cells [vi a.1.res,vi a.1.part,vi a.1.clause,eP a.1.state]],u7,u8,u9,u12,rfl,fun r hr=>hrun r (by rw[hdr];exact⟨a,ha,.inr ⟨hns,hr⟩⟩)⟩⟩
   ·rintro ae h' p ⟨hp,hr⟩;have e8 : ∀ i ∈ ({ f with d := (hCk m bud [vi 0,vi 0,vi 0,.nils] 0).length :: f.d } : Fr).d,i = 8 := fun i hi => by simpa [hd] using hi
    cases ae with
    | pan v=>exact hr.elim
    | ret v =>
     rcases hr with⟨hk10,t,X,_,_,_,_,rfl,hrun⟩ | ⟨j,hk10,rfl,t,X,a,hrun,rfl⟩
     ·refine⟨fun i hi=>by rw[e8 i hi];exact hk10 8 (by omega),hp,t,.ready,none,(by decide),rfl,?_⟩;have k2:=hk10 2 (by omega);have k3:=hk10 3 (by omega);have k8:=hk10 8 (by omega);have hend:=hrfin (Ve.z,0) (hrun (Ve.z,0) (by rw[List.drop_of_length_le (zrb _)];rfl));simp only[wq.1,Nat.reduceAdd,hd,OE];refine vm ?_;simp only[wq.1,seval,t8,t9,k2,k3];refine⟨_,⟨_,hend,rfl⟩,?_⟩;exact az.tup (ak.cons (az.agg (ak.cons (az.dat rfl) (ak.cons (az.dat rfl) (ak.cons (az.dat rfl) (ak.cons az.nils ak.nil))))) (ak.cons (az.dat rfl) ak.nil))
     ·refine⟨fun i hi=>by rw[e8 i hi];exact hk10 8 (by omega),hp,t,.done,some .ret,(by decide),rfl,?_⟩;have k2:=hk10 2 (by omega);have k3:=hk10 3 (by omega);have k8:=hk10 8 (by omega);have hend:=hrfin a hrun;simp only[wq.1,seval,t8,t9,hd,OE,k2,k3];exact⟨_,⟨a,hend,rfl⟩,az.dat rfl⟩
 ·have ez : ((bK m l).2 != 0) = true := by simpa using hz
  refine ag (vm ?_);simp only[wq.1,seval,ez];refine vm ?_;simp only[wq.1,seval];refine⟨_,⟨(Ve.z,(bK m l).2),by unfold l7;rw[if_pos hz],rfl⟩,?_⟩;exact az.tup (ak.cons (az.agg (ak.cons (az.dat rfl) (ak.cons (az.dat rfl) (ak.cons (az.dat rfl) (ak.cons az.nils ak.nil))))) (ak.cons (az.dat rfl) ak.nil))
open Go.RowKit
theorem yL {P:Program} {w:World} {e:TypeId} (he:P.underlying e=some .string) (n:Nat) (a b:ByteArray):(Op.equalIn (n+1) e (.string a) (.string b)).run P w= .ok (a==b) w:=by rw[Op.equalIn];simp[run_underlying he,Result.andThen]
theorem wX {P:Program} {w:World} {e:TypeId} (he:P.underlying e=some .bool) (n:Nat) (a b:Bool):(Op.equalIn (n+1) e (.bool a) (.bool b)).run P w= .ok (a==b) w:=by rw[Op.equalIn];simp[run_underlying he,Result.andThen]
theorem Q3:FB P 68:=by
 refine⟨by kernel_rfl,fun w a b p q=> ?_⟩;have p0:∀(x y:Value),(part 9 #[x,y] 0).run P w= .ok x w:=fun x y=>run_part_plain w (by simp[Program.plainKey,Tryz.underlying9]) (by simp);have p1:∀(x y:Value),(part 4 #[x,y] 1).run P w= .ok y w:=fun x y=>run_part_plain w (by simp[Program.plainKey,Tryz.underlying4]) (by simp);have hso:P.stoodInHeld 68=false:=by kernel_rfl
 show(Op.equalIn 10000 68 (.agg #[.string a,.bool p]) (.agg #[.string b,.bool q])).run P w= .ok (a==b&&p==q) w;rw[Op.equalIn];have e1:=yL (P:=P) (w:=w) Tryz.underlying9 9998;have e2:=wX (P:=P) (w:=w) Tryz.underlying4 9998;simp only[Sem.run_bind,run_underlying Tryz.underlying68,Result.andThen];cases h1:(a==b)<;>cases h2:(p==q)<;>simp[hso,p0,p1,e1,e2,Sem.run_bind,Result.andThen,h1,h2]
theorem WV {x y:Lt}:(x.1==y.1&&x.2==y.2)=(x==y):=rfl
theorem AL {α:Type} [BEq α] [LawfulBEq α] {c d:List α} (hl:c.length=d.length) {i:Nat} (hi:i<c.length) (hne:c[i]≠d[i]):(c==d)=false:=by rw[beq_eq_false_iff_ne];rintro rfl;exact hne rfl
theorem TU (c d:List Lt):Ev TE 47 [fH c,fH d] (.bool (c==d)):=by
 have hM:maxLen=9223372036854775807:=rfl;refine Ev.bnd fun hb=> ?_;have hlen:=G6 hb;refine ai Tryz.func47 rfl (by simp[nts]) (vm ?_);by_cases hl:c.length=d.length
 ·have e1 : (((c.length : Int) != (d.length : Int))) = false := by simp [hl]
  simp only[wq.1,seval,Tryz.results47,e1];refine aB (fun m f h=>∃i,m+i=c.length∧f.t 0=fH c∧f.t 1=fH d∧f.t 12=vi c.length∧f.t 13=vi i∧f.d=[]∧c.take i=d.take i) c.length ⟨0,by simp,rfl,rfl,rfl,rfl,rfl,rfl⟩ ?_;rintro m f h ⟨i,hm,h0,h1,h12,h13,hdd,hall⟩;refine vm ?_;simp only[wq.1,seval,h12,h13];refine vcB.mk (fun hc=> ?_) (fun hc=> ?_)
  ·simp only [zqb,zqi] at hc;have hc2 : i < d.length := by omega
   have ha:=pY hc .any;have hb:=pY hc2 .any;simp only[wq.1,seval,h0,h1,h13,ha,hb,rE,D9];have hbe:(c[i].1==d[i].1&&c[i].2==d[i].2)=(c[i]==d[i]):=rfl;rw[hbe];refine⟨by decide +kernel,⟨by omega,by omega⟩,⟨by omega,by omega⟩,Q3,vcB.mk (fun hb=> ?_) (fun hb=> ?_)⟩
   ·have hne : c[i] ≠ d[i] := by simpa using hb
    rw[AL hl hc hne];simp only[wq.1,seval,hdd];exact az.dat rfl
   ·have he : c[i] = d[i] := by simpa using hb
    simp only[wq.1,seval,h13,aA (show i<maxLen by omega)];exact .inl ⟨m-1,by omega,i+1,by omega,h0,h1,h12,rfl,hdd,by rw[zrg,zrg,hall,zqk hc,zqk hc2,he]⟩
  ·simp only[zqd,zqi]at hc;rw[zqh (by omega),zqh (by omega)]at hall;simp only[wq.1,seval,hdd];exact aG rfl (by rw[hall];simp)
 ·have e1 : (((c.length : Int) != (d.length : Int))) = true := by simpa using fun h : (c.length : Int) = d.length => hl (by omega)
  have e2:(c==d)=false:=by rw[beq_eq_false_iff_ne];rintro rfl;exact hl rfl
  simp only[wq.1,seval,Tryz.results47,e1,e2];exact az.dat rfl
theorem VU (l o:List (List Lt)):Ev TE 46 [lss l,lss o,.fn (.func 47) [] []] (.bool (l==o)):=by
 have hM:maxLen=9223372036854775807:=rfl;refine Ev.bnd fun hb=> ?_;have hlen:=Nk hb;refine ai Tryz.func46 rfl (by simp[nts]) (vm ?_);by_cases hl:l.length=o.length
 ·have e1 : (((l.length : Int) != (o.length : Int))) = false := by simp [hl]
  simp only[wq.1,seval,Tryz.results46,e1];refine aB (fun m f h=>∃i,m+i=l.length∧f.t 0=lss l∧f.t 1=lss o∧f.t 2= .fn (.func 47) [] []∧f.t 15=lss l∧f.t 16=vi l.length∧f.t 17=vi i∧f.d=[]∧l.take i=o.take i) l.length ⟨0,by simp,rfl,rfl,rfl,rfl,rfl,rfl,rfl,rfl⟩ ?_;rintro m f h ⟨i,hm,h0,h1,h2,h15,h16,h17,hdd,hall⟩;refine vm ?_;simp only[wq.1,seval,h16,h17];refine vcB.mk (fun hc=> ?_) (fun hc=> ?_)
  ·simp only [zqb,zqi] at hc;have hc2 : i < o.length := by omega
   have ha:=oN hc .any;have hb:=oN hc2 .any;have hev:=TU l[i] o[i];simp only[wq.1,seval,h1,h2,h15,h17,ha,hb];refine⟨⟨by omega,by omega⟩,⟨by omega,by omega⟩,ah.ev hev (by simp only[V.dats,V.dat,eu,zre]) ?_⟩;simp only[wq.1,seval];refine vcB.mk (fun hb=> ?_) (fun hb=> ?_)
   ·have hne : l[i] ≠ o[i] := by simpa using hb
    rw[AL hl hc hne];simp only[wq.1,seval,hdd];exact az.dat rfl
   ·have he : l[i] = o[i] := by simpa using hb
    simp only[wq.1,seval,h17,aA (show i<maxLen by omega)];exact .inl ⟨m-1,by omega,i+1,by omega,h0,h1,h2,h15,h16,rfl,hdd,by rw[zrg,zrg,hall,zqk hc,zqk hc2,he]⟩
  ·simp only[zqd,zqi]at hc;rw[zqh (by omega),zqh (by omega)]at hall;simp only[wq.1,seval,hdd];exact aG rfl (by rw[hall];simp)
 ·have e1 : (((l.length : Int) != (o.length : Int))) = true := by simpa using fun h : (l.length : Int) = o.length => hl (by omega)
  have e2:(l==o)=false:=by rw[beq_eq_false_iff_ne];rintro rfl;exact hl rfl
  simp only[wq.1,seval,Tryz.results46,e1,e2];exact az.dat rfl
theorem Hq (l o:List (List Lt)):Ev TE 17 [lss l,lss o] (.bool (l==o)):=by refine ai Tryz.func17 rfl (by simp[nts]) (vm ?_);simp only[wq.1,seval,Tryz.results17];refine ah.ev (VU l o) (by simp only[V.dats,V.dat,(dV l).1,(dV o).1,zre]) ?_;simp only[wq.1,seval];exact az.dat rfl
end Go.Proofs.YtmlacppmbfbjgaaGreatDoor
