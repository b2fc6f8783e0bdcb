/- Lemmas for this claim, part F15: each holds under what it names. -/
import Derived.Test.YtmlacppmbfbjgaaGreatDoorF14
import Derived.Lib.Join
set_option linter.unusedVariables false
set_option linter.unusedSimpArgs false
set_option linter.unnecessarySimpa false
set_option maxRecDepth 20000
namespace Go.Proofs.YtmlacppmbfbjgaaGreatDoor
open Go Go.Proofs Go.Abs
theorem EF (n : Nat) (hn : n ≤ 1000000000) (h : H) (R : AEnd → H → (Nat → Bool) → Prop) (hr0 : n = 0 → R (.ret .nils) h (fun _ => false))
 (hr:0<n→R (.ret (.ls h.length 1 0 0 n)) (h++[.cells (List.replicate n (.nils))]) (fun _=>false)):ah TE 113 [.nils,vi n] h R:=by
 refine au Tryz.func113 rfl (by simp[nts]) ?_;refine ag (vm ?_);simp only[wq.1,Nat.reduceLT,Tryz.results113];refine ag ?_;refine vm ?_;simp only[wq.1,seval];refine vcB.mk (fun hc=> ?_) (fun hc=> ?_)
 ·simp only[decide_eq_true_eq]at hc;omega
 simp only[wq.1];refine ag (ag (gB ?_));refine aB rfl rfl ?_;simp only[wq.1,seval];refine aB rfl rfl ?_;simp only[wq.1,seval];refine dW rfl rfl ?_;have hq:ti TE.P 144=some ⟨.slice 150,1,24,.nils⟩:=by simp only[wq.1]
 have hqe:ti TE.P 150=some ⟨.slice 3,1,24,.nils⟩:=by simp only[wq.1]
 have hqi:ti TE.P 3=some ⟨.int .i64,1,8,.int .i64 0⟩:=by simp only[wq.1]
 refine kG (t:=144) rfl rfl hq rfl trivial rfl ?_;refine aB rfl rfl ?_;simp only[wq.1,seval];refine aB rfl rfl ?_;simp only[wq.1,↓reduceIte];refine aB rfl rfl ?_;simp only[wq.1,seval];refine aB rfl rfl ?_;simp only[wq.1,seval];refine aB rfl rfl ?_;simp only[wq.1,↓reduceIte];have w0:IntKind.i64.wrap 0=0:=by decide
 have w1:IntKind.i64.wrap ((n:Int)-0)=n:=by rw[Int.sub_zero];exact dE (by omega) (by omega)
 refine fP ?_;simp only[wq.1,w0,w1];refine ag ?_;refine vm ?_;simp only[wq.1,seval];refine bu (b:=decide ((0:Int)<n)) (by simp only[wq.1,↓reduceIte]) (by simp only[wq.1,↓reduceIte]) (fun hb=> ?_) (fun hb=> ?_)
 ·have hpos : 0 < n := by simp only [decide_eq_true_eq] at hb;omega
  refine gB ?_;refine aB rfl rfl ?_;simp only[wq.1,seval];refine aB rfl rfl ?_;simp only[wq.1,seval];refine dW rfl rfl ?_;refine kG (t:=144) rfl rfl hq rfl trivial rfl ?_;refine dW rfl rfl ?_;refine oP rfl hq rfl hqe (by simp only[wq.1,seval]) (by simp only[wq.1,seval]) (by simp only[wq.1,↓reduceIte]) (k:= .i64) (by simp only[wq.1,↓reduceIte]) ?_;refine aB rfl rfl ?_;simp only[wq.1,seval];refine dW rfl rfl ?_;refine nU (x:= .tmp 20) (y:= .tmp 21) (t:=144) (xt:=3) (el:=150) ⟨⟨_,rfl,rfl,rfl⟩,hq,rfl,hqe,rfl,rfl,Nat.zero_lt_one⟩ (by simp only[wq.1,seval]) (by simp only[wq.1,↓reduceIte]) (by simp only[wq.1,seval]) (by simp only[wq.1,↓reduceIte]) hqi rfl hpos (by omega) ?_ rfl (zv:= .nils) rfl ?_
  ·show n*24≤_;omega
  refine aB rfl rfl ?_;simp only[wq.1,seval];refine aB rfl rfl ?_;simp only[wq.1,↓reduceIte];refine aB rfl rfl ?_;simp only[wq.1,seval];refine⟨by omega,?_⟩;refine aB rfl rfl ?_;simp only[wq.1,↓reduceIte];refine fP ?_;simp only[wq.1];refine vm ?_;simp only[wq.1,seval];exact hr hpos
 ·have : n = 0 := by simp only [decide_eq_false_iff_not] at hb;omega
  refine vm ?_;simp only[wq.1];refine vm ?_;simp only[wq.1,seval];exact hr0 this
def Vf (n:Nat) (c:List Cl) (v:V) (h:H):Prop :=
 (c=[]∧v= .nils∧h=[]∧n=0)∨(c.length≤n∧v= .ls 0 1 0 c.length n∧h=[.cells (c.map (fun c:Cl=>aG c)++List.replicate (n-c.length) (.nils))])
theorem MS (n:Nat) (hn:n≤1000000000) (R:AEnd→H→(Nat→Bool)→Prop) (hr:∀v h,Vf n [] v h→R (.ret v) h (fun _=>false)):ah TE 113 [.nils,vi n] [] R :=
 EF n hn [] R (fun hz=>hr _ _ (.inl ⟨rfl,rfl,rfl,hz⟩)) (fun hz=>hr _ _ (.inr ⟨Nat.zero_le _,rfl,rfl⟩))
theorem wF {p : Nat → Bool} : ∀ l : List Cl,V.drops p (l.map (fun c : Cl => aG c)) = l.map (fun c : Cl => aG c)
 | []=>rfl
 | a::l=>by simp only[List.map_cons,V.drops,V.drop,wF l]
theorem CB : ∀ l : List Cl,bF (l.map (fun c : Cl => aG c)) = true
 | []=>rfl
 | a::l=>by simp only[List.map_cons,bF,CB l,V.one,V.vc,List.length_singleton];rfl
theorem CE (c l:List Cl) (n:Nat) (h:c.length+l.length≤n):bT (c.map (fun c:Cl=>aG c)++List.replicate (n-c.length) (.nils)) c.length (l.map (fun c:Cl=>aG c))=(c++l).map (fun c:Cl=>aG c)++List.replicate (n-(c++l).length) (.nils):=by
 unfold bT;have e1:(c.map (fun c:Cl=>aG c)++List.replicate (n-c.length) (V.nils)).take c.length=c.map (fun c:Cl=>aG c):=by
  simp
 have e2:(c.map (fun c:Cl=>aG c)++List.replicate (n-c.length) (V.nils)).drop (c.length+(l.map (fun c:Cl=>aG c)).length)=List.replicate (n-(c++l).length) (V.nils):=by
  rw[List.drop_append];have:(c.map (fun c:Cl=>aG c)).drop (c.length+(l.map (fun c:Cl=>aG c)).length)=[]:=List.drop_of_length_le (by simp);rw[this,List.nil_append,List.drop_replicate]
  congr 1
  simp only[List.length_map,List.length_append];omega
 rw[e1,e2,List.map_append]
theorem CG (ls:List (List Cl)) (hn:ls.flatten.length≤1000000000) (hls:ls.length≤1000000000):EvF TE 82 [.is true 1 (ls.map cls)] 1 ls.flatten.length (ls.flatten.map (fun c:Cl=>aG c)):=by
 have hM:maxLen=9223372036854775807:=rfl;have hget:∀ {i:Nat} (h:i<ls.length) (d:V),(ls.map cls).getD i d=cls ls[i]:=fun h d=>gy h d;unfold EvF;refine au Tryz.func82 rfl (by simp[nts]) (vm ?_);simp only[wq.1,seval,Tryz.results82];refine aA (fun m f h=>∃i,m+i=ls.length∧f.t 0= .is true 1 (ls.map cls)∧f.t 3=vi (ls.take i).flatten.length∧f.t 9= .is true 1 (ls.map cls)∧f.t 10=vi ls.length∧f.t 11=vi i∧f.d=[]∧h=[]) ls.length ⟨0,by simp,rfl,rfl,rfl,by simp only[wq.1,seval],rfl,rfl,rfl⟩ ?_;rintro m f h ⟨i,hm,h0,h3,h9,h10,h11,hd,rfl⟩;refine vm ?_;simp only[wq.1,seval,h10,h11];refine vcB.mk (fun hc=> ?_) (fun hc=> ?_)
 ·simp only[decide_eq_true_eq,Int.ofNat_lt]at hc;have hfl:=ui hc;have hw:IntKind.i64.wrap (((ls.take i).flatten.length:Int)+(ls[i].length:Int))=((ls.take (i+1)).flatten.length:Int):=by
   rw[iQ hc,List.length_append,aX (by omega) (by omega)];omega
  simp only[wq.1,seval,h3,h9,h11,hget hc,hw];refine⟨⟨by omega,by omega⟩,vcB.mk (fun hc'=> ?_) (fun hc'=> ?_)⟩
  ·simp only[decide_eq_true_eq]at hc';omega
  ·simp only[wq.1,seval,h11,aC (show i<maxLen by omega)];exact .inl ⟨m-1,by omega,i+1,by omega,h0,rfl,h9,h10,rfl,hd,rfl⟩
 ·simp only [decide_eq_false_iff_not,Int.ofNat_lt] at hc;have hi : ls.take i = ls := List.take_of_length_le (by omega);rw [hi] at h3;simp only [wq.1,seval,h3];refine MS ls.flatten.length hn _ (fun v0 h0' hcat => ?_);simp only [wq.1,seval,h0];refine aA (fun m f h => ∃ i v,m + i = ls.length ∧ f.t 25 = .is true 1 (ls.map cls) ∧ f.t 26 = vi ls.length ∧ f.t 27 = vi i ∧ f.t 6 = v ∧ f.d = [] ∧ Vf ls.flatten.length (ls.take i).flatten v h) ls.length ⟨0,v0,by simp,by simp only [wq.1,seval],by simp only [wq.1,seval],rfl,rfl,by simp only [wq.1,hd],by simpa using hcat⟩ ?_;rintro m f h ⟨i,v,hm,h25,h26,h27,h6,hd,hcat⟩;refine vm ?_;simp only [wq.1,seval,h26,h27];refine vcB.mk (fun hc => ?_) (fun hc => ?_)
  ·simp only [decide_eq_true_eq,Int.ofNat_lt] at hc;have hfl := ui hc;have hnext : f.t 27 = vi i → IntKind.i64.wrap ((i : Int) + 1) = ((i + 1 : Nat) : Int) := fun _ => aC (by omega);rcases hcat with ⟨hc0,rfl,rfl,hn0⟩ | ⟨hcl,rfl,rfl⟩
   ·have hl0:ls[i]=[]:=List.eq_nil_of_length_eq_zero (by omega);simp only[wq.1,seval,h25,h27,h6,hget hc,hl0,aC (show i<maxLen by omega)];refine⟨⟨by omega,by omega⟩,by omega,.inl ⟨m-1,by omega,i+1,_,by omega,h25,h26,rfl,rfl,hd,?_⟩⟩;right;rw[iQ hc,hl0,hc0,hn0];exact⟨Nat.le_refl _,rfl,rfl⟩
   ·by_cases hlt : (ls.take i).flatten.length < ls.flatten.length
    ·have hdt : decide ((ls.take i).flatten.length < ls.flatten.length) = true := by simpa using hlt
     simp only[wq.1,seval,h25,h27,h6,hget hc,aC (show i<maxLen by omega),CB,hdt];refine⟨⟨by omega,by omega⟩,⟨by omega,by omega,by rw[List.length_replicate];omega⟩,.inl ⟨m-1,by omega,i+1,_,by omega,h25,h26,rfl,rfl,hd,?_⟩⟩;right;rw[iQ hc];refine⟨by rw[List.length_append];omega,by simp only[wq.1,seval],?_⟩;have hsp:=CE (ls.take i).flatten ls[i] ls.flatten.length hfl;unfold bT at hsp;rw[List.length_map]at hsp;rw[Nat.mul_one,hsp]
    ·have hdt : decide ((ls.take i).flatten.length < ls.flatten.length) = false := by simpa using hlt
     have hl0:ls[i]=[]:=List.eq_nil_of_length_eq_zero (by omega);have hne:(ls.take i).flatten.length=ls.flatten.length:=by omega
     simp only[wq.1,seval,h25,h27,h6,hd,hget hc,aC (show i<maxLen by omega),hdt,hl0,wF];refine⟨⟨by omega,by omega⟩,⟨by rw[List.length_replicate];omega,by omega,by omega⟩,.inl ⟨m-1,by omega,i+1,_,by omega,by simp only[wq.1,seval,h25],by simp only[wq.1,seval,h26],rfl,rfl,hd,?_⟩⟩;right;rw[iQ hc,hl0,List.append_nil,hne,Nat.sub_self];refine⟨Nat.le_refl _,by simp only[wq.1,seval],?_⟩;simp only[List.replicate_zero,V.drops]
  ·simp only [decide_eq_false_iff_not,Int.ofNat_lt] at hc;have hi : ls.take i = ls := List.take_of_length_le (by omega);rw [hi] at hcat;simp only [wq.1,seval,h6,hd];rcases hcat with ⟨hc0,rfl,rfl,hn0⟩ | ⟨hcl,rfl,rfl⟩
   ·exact .inl ⟨rfl,hn0,by rw[hc0];rfl⟩
   ·rw[Nat.sub_self,List.replicate_zero,List.append_nil];exact .inr ⟨0,_,rfl,Nat.le_refl _,rfl⟩
theorem wG (ls:List (List Cl)) (hn:ls.flatten.length≤1000000000) (hls:ls.length≤1000000000):Ev TE 82 [.is true 1 (ls.map cls)] (cls ls.flatten):=by
 refine(CG ls hn hls).ev (fun _ hc=> ?_) (fun h' id cap _ hid=>Cm hid (by simp)) (fun _ hc h'=> ?_)
 ·rw[List.map_eq_nil_iff.1 hc];exact iV
 ·rw[List.map_eq_nil_iff.1 hc];exact az.nils
structure UOk (m : Mo) (rows : List Cl) : Prop where
 i:0≤m.g.ins∧m.g.ins≤4000
 lat:m.lat.length≤4000
 b:∀r∈rows,∀x∈r,-1000000≤x∧x≤1000000
 r:rows.length≤1000
theorem Vg (m:Mo) (l:List (List Lt)) (n:Int) (cl rows:List Cl) (c:List Lt) (hk:∀x∈c,fQ m x.1=true) (u:UOk m rows) (hc:c.length≤1000000) :
 Ev TE 79 [uV n cl rows,.ip (.ip (kV m l)),.ip (iI c)] (cls (jb m rows 0 c)):=by
 have hf:=Cj m l n cl rows 0 c hk u.i u.lat u.b u.r hc;have dK:V.dats [.ip (kV m l),V.agg [vi n,cls cl,cls rows],vi 0,iI c]=true:=by simp only[V.dats,V.dat,dJ,fB,Bool.and_self]
 refine ak Tryz.func79 rfl (by simp[nts]) (vm ?_);simp only[wq.1,seval,Tryz.results79];refine ah.ev hf dK ?_;simp only[wq.1,seval];exact az.dat (by simp only[V.dat,dJ])
theorem Vh (m:Mo) (l:List (List Lt)) (n:Int) (cl rows:List Cl) (c:List Lt) (hk:∀x∈c,fQ m x.1=true) (hkl:∀c∈l,∀x∈c,fQ m x.1=true) (u:UOk m rows) (hc:c.length≤1000000) (hl:l.length≤1000000) (hcl:∀c∈l,c.length≤1000000) :
 Ev TE 81 [uV n cl rows,.ip (.ip (kV m l)),.ip (iI c)] (cls (rX m rows l++jb m rows 1 c)):=by
 have hf:=Cj m l n cl rows 1 c hk u.i u.lat u.b u.r hc;have ha:=S9 m l n cl rows hkl u.i u.lat u.b u.r hl hcl;have hlen:([rX m rows l,jb m rows 1 c]:List (List Cl)).flatten.length≤1000000000:=by simp[rX,jb];omega
 have hcc:=wG [rX m rows l,jb m rows 1 c] hlen (by simp);rw[show([rX m rows l,jb m rows 1 c]:List (List Cl)).flatten=rX m rows l++jb m rows 1 c by simp]at hcc;have dK:V.dats [.ip (kV m l),V.agg [vi n,cls cl,cls rows],vi 1,iI c]=true:=by simp only[V.dats,V.dat,dJ,fB,Bool.and_self]
 have dA:V.dats [.ip (kV m l),V.agg [vi n,cls cl,cls rows]]=true:=by simp only[V.dats,V.dat,dJ,Bool.and_self]
 refine ak Tryz.func81 rfl (by simp[nts]) (vm ?_);simp only[wq.1,seval,Tryz.results81];refine⟨by decide +kernel,Je.mk ha rfl dA ?_⟩;simp only[wq.1,seval,-Int.reduceNatCast,-Int.reduceNatCast'];refine Je.mk hf rfl dK ?_;simp only[wq.1,↓reduceIte,Nat.reduceEqDiff,Nat.reduceLT,reduceCtorEq,Nat.reduceMul];refine⟨⟨rfl,by decide⟩,Je.mk hcc rfl (by simp only[V.dats,V.dat,dJ,Bool.and_self]) ?_⟩;simp only[wq.1,seval];exact az.dat (by simp only[V.dat,dJ])
def MV (s p:S):Bool:=decide (p.length≤s.length)&&(s.drop (s.length-p.length)==p)
def Ua (s p:S):Bool:=decide (p.length≤s.length)&&(s.take p.length==p)
theorem MW (s p:S):Ev TE 72 [.str s,.str p] (.bool (MV s p)):=by
 unfold MV;refine Ev.bnd fun hb=> ?_;have hM:maxLen=9223372036854775807:=rfl;have hls:s.length≤maxLen:=by simp only[V.bnds,V.bnd]at hb;exact hb.1
 refine ak Tryz.func72 rfl (by simp[nts]) (vm ?_);by_cases hle:p.length≤s.length
 ·have e1 : decide ((p.length : Int) ≤ (s.length : Int)) = true := by simpa using hle
  have e2:decide (p.length≤s.length)=true:=by simpa using hle
  have w1:IntKind.i64.wrap ((s.length:Int)-p.length)=((s.length-p.length:Nat):Int):=by rw[dE (by omega) (by omega)];omega
  have e3:s.length-(s.length-p.length)=p.length:=by omega
  simp only[wq.1,seval,Tryz.results72,e1,e2,w1];exact⟨⟨by omega,by omega⟩,az.dat rfl⟩
 ·have e1 : decide ((p.length : Int) ≤ (s.length : Int)) = false := by simpa using hle
  have e2:decide (p.length≤s.length)=false:=by simpa using hle
  simp only[wq.1,seval,Tryz.results72,e1,e2];exact az.dat rfl
theorem Tc (s p:S):Ev TE 42 [.str s,.str p] (.bool (MV s p)):=by refine ak Tryz.func42 rfl (by simp[nts]) (vm ?_);simp only[wq.1,seval,Tryz.results42];refine ah.ev (MW s p) rfl ?_;simp only[wq.1,seval];exact az.dat rfl
theorem IU (s p:S):Ev TE 111 [.str s,.str p] (.bool (Ua s p)):=by
 unfold Ua;refine ak Tryz.func111 rfl (by simp[nts]) (vm ?_);by_cases hle:p.length≤s.length
 ·have e1 : decide ((p.length : Int) ≤ (s.length : Int)) = true := by simpa using hle
  have e2:decide (p.length≤s.length)=true:=by simpa using hle
  simp only[wq.1,seval,Tryz.results111,e1,e2];exact⟨⟨by omega,by omega⟩,az.dat rfl⟩
 ·have e1 : decide ((p.length : Int) ≤ (s.length : Int)) = false := by simpa using hle
  have e2:decide (p.length≤s.length)=false:=by simpa using hle
  simp only[wq.1,seval,Tryz.results111,e1,e2];exact az.dat rfl
theorem Gv (s p:S):Ev TE 76 [.str s,.str p] (.bool (Ua s p)):=by refine ak Tryz.func76 rfl (by simp[nts]) (vm ?_);simp only[wq.1,seval,Tryz.results76];refine ah.ev (IU s p) rfl ?_;simp only[wq.1,seval];exact az.dat rfl
structure Qn where
 part:Int
 clause:Int
 beg:Cl
 steps:Nat
 more:List Cl
def Jm (m:Mo):Cl:=List.replicate m.lat.length 2
def qn0 (m:Mo) (i:Nat) (c:List Lt):Qn:=⟨0,i,m.g.init,0,jb m (iC m.g m.g.init 0) 0 c⟩
def qn1 (m:Mo) (l:List (List Lt)) (i:Nat) (c:List Lt):Qn:=⟨1,i,Jm m,1,rX m (iC m.g (Jm m) 1) l++jb m (iC m.g (Jm m) 1) 1 c⟩
def qn2 (m:Mo) (l:List (List Lt)) (bad:Int):Qn:=⟨2,0,Jm m,1,rX m (iC m.g (Jm m) 1) l++[[F8 (iC m.g (Jm m) 1) 0 (m.g.outs.getD bad.toNat 0)]]⟩
def qns (m:Mo) (l:List (List Lt)) (bad:Int):List Qn :=
 ((List.range l.length).map fun i=>qn0 m i (l.getD i []))++(((List.range l.length).map fun i=>qn1 m l i (l.getD i []))++if 0≤bad then [qn2 m l bad]else [])
structure Ve where
 res:Int
 part:Int
 clause:Int
 state:List Bool
def Ve.z:Ve:=⟨0,0,0,[]⟩
abbrev Ve.v (v:Ve):V:= .agg [vi v.res,vi v.part,vi v.clause,fV v.state]
def Qn.cl (m:Mo) (q:Qn):List Cl:=(fZ m.g q.beg q.steps).cl++q.more
def Qn.n (m:Mo) (q:Qn):Nat:=(fZ m.g q.beg q.steps).n
def stK (m:Mo) (q:Qn) (vals:List Bool):List Bool:=m.lat.map fun s=>hol vals (sQ m (iC m.g q.beg q.steps) 0 (s,false))
def Vj (m:Mo) (bud:Int) (q:Qn) (r:Ve×Int):Prop :=
 (zJ m.g q.beg q.steps≠0∧r=(Ve.z,zJ m.g q.beg q.steps)) ∨
 (zJ m.g q.beg q.steps=0∧((chk (q.cl m) (q.n m)≠0∧r=(Ve.z,chk (q.cl m) (q.n m))) ∨
  (chk (q.cl m) (q.n m)=0∧∃res vals ln,pJ (q.cl m) (q.n m) (max bud 0) res vals ln∧r=(⟨res,q.part,q.clause,if res=1 then stK m q vals else []⟩,0))))
def PG (r:Ve×Int):Prop:=r.2≠0∨r.1.res=1∨r.1.res=2
def MX (m : Mo) (bud : Int) : List Qn → Ve × Int → Prop
 | [],r=>r=(Ve.z,0)
 | q::qs,r=>∃a,Vj m bud q a∧((PG a∧r=a)∨(¬PG a∧MX m bud qs r))
def lY (m:Mo) (l:List (List Lt)) (bad bud:Int) (r:Ve×Int):Prop :=
 if(dG m l).2≠0 then r=(Ve.z,(dG m l).2)
 else if bad< -1∨(m.out.length:Int)≤bad∨200<l.length then r=(Ve.z,1)
 else MX m bud (qns m l bad) r
theorem MZ {g : Gr} {u : US} {j : Nat} (hj : j < u.lat.length) : ∀ {i : Nat},i ≤ g.ands.length → (u.ands g i).row.getD (1 + g.ins.toNat + j) 0 = u.lat.getD j 0
 | 0,_=>by
  show(-1::(Jj u.n g.ins.toNat++u.lat)).getD _ 0=_;rw[show 1+g.ins.toNat+j=(g.ins.toNat+j)+1 by omega,List.getD_cons_succ,List.getD_eq_getElem?_getD,List.getElem?_append_right (by simp[Jj]),←List.getD_eq_getElem?_getD]
  congr 1
  simp[Jj]
 | i+1,h=>by have hl:=iy (u:=u) (g:=g) (i:=i) (by omega);rw[gq (by omega)];show((u.ands g i).row++[_]).getD _ 0=_;rw[List.getD_eq_getElem?_getD,List.getElem?_append_left (by omega),←List.getD_eq_getElem?_getD];exact MZ hj (by omega)
theorem Td {g:Gr} {lat zs:Cl} {j:Nat} (hj:j<lat.length):(pK g lat++zs).getD (1+g.ins.toNat+j) 0=lat.getD j 0:=by
 unfold pK;rw[List.cons_append,show 1+g.ins.toNat+j=(g.ins.toNat+j)+1 by omega,List.getD_cons_succ,List.append_assoc,List.getD_eq_getElem?_getD,List.getElem?_append_right (by simp),List.length_replicate,
  List.getElem?_append_left (by omega),←List.getD_eq_getElem?_getD]
 congr 1
 omega
theorem Na {g : Gr} {b : Cl} {t : Nat} : ∀ {k : Nat},t < k → (fZ g b k).rows.getD t [] = ((fZ g b t).ands g g.ands.length).row
 | k+1,h=>by
  show((fZ g b k).rows++[_]).getD t []=_;by_cases e:t=k
  ·subst e;rw[List.getD_eq_getElem?_getD,List.getElem?_append_right (by rw[jH];exact Nat.le_refl _),jH,Nat.sub_self];rfl
  ·rw[List.getD_eq_getElem?_getD,List.getElem?_append_left (by rw[jH];omega),←List.getD_eq_getElem?_getD];exact Na (by omega)
theorem PH {g:Gr} {b:Cl} {t k:Nat} (h:t<k):(iC g b k).getD t []=((fZ g b t).ands g g.ands.length).row:=by unfold iC;rw[List.getD_eq_getElem?_getD,List.getElem?_append_left (by rw[jH];omega),←List.getD_eq_getElem?_getD,Na h]
theorem Nb {g:Gr} {b:Cl} {k:Nat}:(iC g b k).getD k []=pK g (fZ g b k).lat++List.replicate g.ands.length 0:=by unfold iC;rw[List.getD_eq_getElem?_getD,List.getElem?_append_right (by rw[jH];exact Nat.le_refl _),jH,Nat.sub_self];rfl
theorem CJ {g:Gr} {b:Cl} {k:Nat}:(iC g b k).length=k+1:=by unfold iC;rw[List.length_append,jH];rfl
theorem PK {g:Gr} {b:Cl} {t k j:Nat} (ok:∀t,USok g (fZ g b t)) (h:t≤k) (hi:0≤g.ins) (hj:j<g.next.length):F8 (iC g b k) t (2*(1+g.ins+j))=(fZ g b t).lat.getD j 0:=by
 have hl:=(ok t).l;have e2:(2*(1+g.ins+(j:Int))/2).toNat=1+g.ins.toNat+j:=by omega
 have e3:¬(2*(1+g.ins+(j:Int))%2=1):=by omega
 have key:1+g.ins.toNat+j<((iC g b k).getD t []).length∧((iC g b k).getD t []).getD (1+g.ins.toNat+j) 0=(fZ g b t).lat.getD j 0:=by
  by_cases e:t=k
  ·subst e;rw[Nb];refine⟨?_,Td (by omega)⟩;simp only[pK,List.length_append,List.length_cons,List.length_replicate];omega
  ·rw[PH (by omega)];refine⟨?_,MZ (by omega) (Nat.le_refl _)⟩;rw[iy (Nat.le_refl _)];omega
 unfold F8;rw[Int.toNat_natCast,if_neg (by rw[CJ];omega)];unfold xn;rw[if_neg e3,e2,key.2]
theorem PL {m:Mo} {x:S} (hm:m.lat.length=m.g.next.length) (hk:fQ m x=true):∃k:Nat,k<m.g.next.length∧lU (qN m) x=k:=by obtain⟨k,h1,h2,_⟩:=zL hk;exact⟨k,by omega,h2⟩
theorem PM {m:Mo} {b:Cl} {t k:Nat} {vs:List Bool} {x:Lt} (ok:∀t,USok m.g (fZ m.g b t)) (h:t≤k) (hi:0≤m.g.ins) (hm:m.lat.length=m.g.next.length) (hk:fQ m x.1=true) :
 inU (fZ m.g b t).n (sQ m (iC m.g b k) t x)∧hol vs (sQ m (iC m.g b k) t x)=IQ m ((fZ m.g b t).lat.map (hol vs)) x:=by
 obtain⟨j,hj,hp⟩:=PL hm hk;have hu:=PK (k:=k) ok h hi hj;have hjl:j<(fZ m.g b t).lat.length:=by rw[(ok t).l];exact hj
 have hin:=(ok t).lo _ (zF hjl);have e:((fZ m.g b t).lat.map (hol vs)).getD j false=hol vs ((fZ m.g b t).lat.getD j 0):=by rw[List.getD_eq_getElem?_getD,List.getElem?_map,List.getElem?_eq_getElem hjl,jl hjl];rfl
 unfold sQ IQ;rw[hp,hu,Int.toNat_natCast,e];cases hx:x.2 with
 | false=>rw[if_neg (by decide)];exact⟨hin,by simp⟩
 | true=>rw[if_pos rfl];exact⟨hin.neg,by rw[pF hin.1];simp⟩
theorem oK {m:Mo} (h:m.chk=0):m.g.chk=0∧(m.ins.length:Int)=m.g.ins∧m.lat.length=m.g.next.length∧m.out.length=m.g.outs.length:=by
 unfold Mo.chk at h;split at h
 ·rename_i h1;exact absurd h h1
 ·rename_i h1;split at h
  ·cases h
  ·rename_i h2;simp only[Mo.lens,Bool.not_eq_true,Bool.or_eq_false_iff,bne_eq_false_iff_eq]at h2;exact⟨by omega,h2.1.1,by omega,by omega⟩
theorem Nc {l ln:List Cl} (h1:∀m (hm:m<ln.length),Bad (l++ln.take m) (zo ln[m])) (h2:Bad (l++ln) []):Bi l ln=true:=by rw[xP (Nat.le_refl _) fun k hk _=>Bh (h1 k hk),List.take_length,List.drop_length];exact Bh h2
theorem Tf {l:List Cl} {n:Nat} {bud res:Int} {vals:List Bool} {ln:List Cl} (ok:pJ l n bud res vals ln) (hr:res=0) (hl:Eb l) (hn:n≤20000) (vs:List Bool):sat l vs=false:=by
 obtain⟨h1,h2,h3,h4,h5⟩:=ok;rcases h5 with⟨_,_,hb⟩ | ⟨e,_⟩ | ⟨e,_⟩
 ·refine vF hl (fun c hc a ha=> ?_) (Nc h2 hb);have:=(h3 c hc).2.2 a ha;omega
 ·omega
 ·omega
theorem EG {m:Mo}:∀x∈Jm m,0≤x∧x≤2:=fun x hx=>by rw[List.eq_of_mem_replicate hx];omega
def m0:Mo:=⟨⟨0,[2],[0],[],[2]⟩,[],[[113]],[[122]]⟩
def Ad:List (List Lt):=[[([113],true)]]
theorem CO {m:Mo} {bud:Int} {q:Qn} {r:Ve×Int} (h:Vj m bud q r) (hc:zJ m.g q.beg q.steps=0) (hk:chk (q.cl m) (q.n m)=0) (hn:q.n m≤2) (hb:9<bud) :
 ∃res vals ln,pJ (q.cl m) (q.n m) (max bud 0) res vals ln∧r=(⟨res,q.part,q.clause,if res=1 then stK m q vals else []⟩,0)∧((res=0∧vals=[])∨(res=1∧vals.length=q.n m∧sat (q.cl m) vals=true)):=by
 rcases h with⟨h,_⟩ | ⟨_,⟨h,_⟩ | ⟨_,res,vals,ln,ok,rfl⟩⟩
 ·exact absurd hc h
 ·exact absurd hk h
 ·refine ⟨res,vals,ln,ok,rfl,?_⟩;obtain ⟨h1,h2,h3,h4,h5⟩ := ok;have h9 : (3 : Nat) ^ (q.n m) ≤ 3 ^ 2 := Nat.pow_le_pow_right (by decide) hn;rcases h5 with h | h | h
  ·exact .inl ⟨h.1,h.2.1⟩
  ·exact .inr h
  ·have:=h.2.2;omega
theorem Nh {m:Mo} {bud:Int} {q:Qn} {r:Ve×Int} (h:Vj m bud q r) (hc:zJ m.g q.beg q.steps=0) (hk:chk (q.cl m) (q.n m)=0) (hn:q.n m≤2) (hb:9<bud) (hu:∀vs,sat (q.cl m) vs=false):¬PG r:=by
 obtain⟨res,vals,ln,ok,rfl,h | h⟩:=CO h hc hk hn hb
 ·rintro (h2 | h2 | h2)
  ·exact h2 rfl
  ·have h2:res=1:=h2;omega
  ·have h2:res=2:=h2;omega
 ·rw[hu]at h;cases h.2.2
theorem zO {m:Mo} {bud:Int} {q:Qn} {qs:List Qn} {r:Ve×Int} (h:MX m bud (q::qs) r) (hc:zJ m.g q.beg q.steps=0) (hk:chk (q.cl m) (q.n m)=0) (hn:q.n m≤2) (hb:9<bud) (hu:∀vs,sat (q.cl m) vs=false):MX m bud qs r:=by
 obtain⟨a,ha,⟨hs,_⟩ | ⟨_,hr⟩⟩:=h
 ·exact absurd hs (Nh ha hc hk hn hb hu)
 ·exact hr
theorem Vk:(qn0 m0 0 [([113],true)]).cl m0=[[1],[-1]]:=by decide +kernel
theorem Vl:(qn1 m0 Ad 0 [([113],true)]).cl m0=[[1],[-2],[2]]:=by decide +kernel
theorem Vm:(qn2 m0 Ad 0).cl m0=[[1],[-2],[2]]:=by decide +kernel
theorem Vo:(qn2 m0 [] 0).cl m0=[[1],[2]]:=by decide +kernel
theorem Vp:qns m0 Ad 0=[qn0 m0 0 [([113],true)],qn1 m0 Ad 0 [([113],true)],qn2 m0 Ad 0]:=rfl
theorem Vq:qns m0 [] 0=[qn2 m0 [] 0]:=rfl
theorem WC (vs:List Bool):sat [[1],[-1]] vs=false:=by have h1:hol vs (-1)= !hol vs 1:=pF (by decide);simp only[sat,List.all_cons,List.all_nil,List.any_cons,List.any_nil,h1];cases hol vs 1<;>rfl
theorem Wq (vs:List Bool):sat [[1],[-2],[2]] vs=false:=by have h1:hol vs (-2)= !hol vs 2:=pF (by decide);simp only[sat,List.all_cons,List.all_nil,List.any_cons,List.any_nil,h1];cases hol vs 1<;>cases hol vs 2<;>rfl
theorem Ti {r:Ve×Int} (h:MX m0 1099511627776 (qns m0 Ad 0) r):r=(Ve.z,0):=by rw[Vp]at h;have h:=zO h (by decide +kernel) (by decide +kernel) (by decide +kernel) (by decide) (fun vs=>by rw[Vk];exact WC vs);have h:=zO h (by decide +kernel) (by decide +kernel) (by decide +kernel) (by decide) (fun vs=>by rw[Vl];exact Wq vs);exact zO h (by decide +kernel) (by decide +kernel) (by decide +kernel) (by decide) (fun vs=>by rw[Vm];exact Wq vs)
theorem Tj {r:Ve×Int} (h:MX m0 1099511627776 (qns m0 [] 0) r):r=(⟨1,2,0,[true]⟩,0):=by
 rw[Vq]at h;obtain⟨a,ha,hs⟩:=h;have hq:=Vo;have hn:(qn2 m0 [] 0).n m0=2:=by decide +kernel
 obtain⟨res,vals,ln,ok,rfl,h | h⟩:=CO ha (by decide +kernel) (by decide +kernel) (by rw[hn];decide) (by decide)
 ·have:=Tf ok h.1 (by rw[hq];intro c hc b hb;simp only[List.mem_cons,List.not_mem_nil,or_false]at hc;rcases hc with rfl | rfl<;>(simp only[List.mem_cons,List.not_mem_nil,or_false]at hb;subst hb;omega)) (by rw[hn];decide) [true,true];rw[hq]at this;exact absurd this (by decide)
 ·obtain⟨h1,h2,h3⟩:=h;subst h1;rw[hn]at h2;rw[hq]at h3;have hst:stK m0 (qn2 m0 [] 0) vals=[true]:=by
   have e:sQ m0 (iC m0.g (qn2 m0 [] 0).beg (qn2 m0 [] 0).steps) 0 ([113],false)=2:=by decide +kernel
   show [hol vals (sQ m0 (iC m0.g (qn2 m0 [] 0).beg (qn2 m0 [] 0).steps) 0 ([113],false))]=[true];rw[e];have:hol vals 1=true∧hol vals 2=true:=by simpa [sat]using h3
   rw[this.2]
  rcases hs with⟨_,rfl⟩ | ⟨hs,_⟩
  ·rw[if_pos rfl,hst];rfl
  ·exact absurd (.inr (.inl rfl)) hs
def wH (c : UInt8) : S → List S
 | []=>[[]]
 | x::s=>if x=c then []::wH c s else match wH c s with
  | w::ws=>(x::w)::ws
  | []=>[[x]]
def Ae (c : UInt8) : S → List S
 | []=>[[]]
 | x::s=>if x=c then [x]::Ae c s else match Ae c s with
  | w::ws=>(x::w)::ws
  | []=>[[x]]
def ku : List S → Int → List Lt → List Lt × Int × Int
 | [],_,c=>(c,0,0)
 | w::ws,a,c=>if w.headD 0≠43∧w.headD 0≠45 then([],a,2)else if bi w.tail=false then([],a+1,4)else ku ws (a+w.length+1) (c++[(w.tail,w.headD 0==45)])
def nD (s:S):List Lt×Int×Int:=if s=[]then([],0,0)else ku (wH 32 s) 0 []
def dZ : List S → Int → List (List Lt) → List (List Lt) × Int × Int
 | [],_,l=>(l,0,0)
 | t::ts,a,l=>if t=[]then(l,0,0)else if(nD (t.take (t.length-1))).2.2≠0 then([],a+(nD (t.take (t.length-1))).2.1,(nD (t.take (t.length-1))).2.2)else dZ ts (a+t.length) (l++[(nD (t.take (t.length-1))).1])
def jq (s:S):List (List Lt)×Int×Int:=if s≠[]∧MV s [10]=false then([],s.length,2)else dZ (Ae 10 s) 0 []
def iJ (c:List Lt):S:=Lib.join (c.map oJ) [32]++[10]
def okC (c:List Lt):Bool:=c.all fun x=>bi x.1
def gX (l:List (List Lt)):S×Int:=if l.all okC=true then(l.flatMap iJ,0)else([],4)
theorem qO {c : UInt8} : ∀ {s : S},c ∉ s → wH c s = [s]
 | [],_=>rfl
 | x::s,h=>by simp only[List.mem_cons,not_or]at h;rw[wH,if_neg (fun e=>h.1 e.symm),qO h.2]
theorem uk {c : UInt8} {r : S} : ∀ {w : S},c ∉ w → wH c (w ++ c :: r) = w :: wH c r
 | [],_=>by rw[List.nil_append,wH,if_pos rfl]
 | x::w,h=>by simp only[List.mem_cons,not_or]at h;rw[List.cons_append,wH,if_neg (fun e=>h.1 e.symm),uk h.2]
theorem CP {c : UInt8} : ∀ {s : S},c ∉ s → Ae c s = [s]
 | [],_=>rfl
 | x::s,h=>by simp only[List.mem_cons,not_or]at h;rw[Ae,if_neg (fun e=>h.1 e.symm),CP h.2]
theorem um {c : UInt8} {r : S} : ∀ {w : S},c ∉ w → Ae c (w ++ c :: r) = (w ++ [c]) :: Ae c r
 | [],_=>by rw[List.nil_append,Ae,if_pos rfl];rfl
 | x::w,h=>by simp only[List.mem_cons,not_or]at h;rw[List.cons_append,Ae,if_neg (fun e=>h.1 e.symm),um h.2];rfl
theorem x9 {c : UInt8} : ∀ {s : S},c ∈ s → ∃ w r,s = w ++ c :: r ∧ c ∉ w
 | x::s,h=>by
  by_cases e:x=c
  ·exact⟨[],s,by rw[e];rfl,by simp⟩
  ·have:c∈s:=by
    rcases List.mem_cons.1 h with h | h
    ·exact absurd h.symm e
    ·exact h
   obtain⟨w,r,h1,h2⟩:=x9 this;exact⟨x::w,r,by rw[h1];rfl,by simp only[List.mem_cons,not_or];exact⟨fun h=>e h.symm,h2⟩⟩
theorem lZ {w v:S} {ws:List S} {c:UInt8}:Lib.join (w::v::ws) [c]=w++c::Lib.join (v::ws) [c]:=by rw[Lib.join_cons,Lib.join_cons];show w++(([c]++v)++_)=_;simp[Lib.joinTail]
theorem CQ {c : UInt8} : ∀ {ws : List S},ws ≠ [] → (∀ w ∈ ws,c ∉ w) → wH c (Lib.join ws [c]) = ws
 | [],h,_=>absurd rfl h
 | [w],_,h=>by rw[Lib.join_one];exact qO (h w (by simp))
 | w::v::ws,_,h=>by rw[lZ,uk (h w (by simp)),CQ (by simp) fun x hx=>h x (by simp[hx])]
theorem CS {c : UInt8} : ∀ (n : Nat) (s : S),s.length ≤ n → Lib.join (wH c s) [c] = s ∧ wH c s ≠ []
 | 0,s,h=>by have:s=[]:=List.eq_nil_of_length_eq_zero (by omega);subst this;exact⟨Lib.join_one _ _,by simp[wH]⟩
 | n+1,s,h=>by
  by_cases hc:c∈s
  ·obtain ⟨w,r,rfl,hw⟩ := x9 hc;have hl : r.length ≤ n := by simp at h;omega
   obtain⟨h1,h2⟩:=CS n r hl;rw[uk hw];refine⟨?_,by simp⟩;cases e:wH c r with
   | nil=>exact absurd e h2
   | cons v vs=>rw[lZ,←e,h1]
  ·rw[qO hc];exact⟨Lib.join_one _ _,by simp⟩
theorem V8 {s:S} {b:UInt8} (h:bi s=true) (hb:iR b=false):b∉s:=fun hm=>by simp only[bi,Bool.and_eq_true]at h;have:=h.1;rw[List.all_eq_true]at this;rw[this b hm]at hb;cases hb
theorem Nj {x:Lt} {b:UInt8} (h:bi x.1=true) (hb:iR b=false):b∉oJ x:=by
 unfold oJ;simp only[List.mem_cons,not_or];refine⟨fun e=> ?_,V8 h hb⟩;split at e
 ·rw[e]at hb;exact absurd hb (by decide)
 ·rw[e]at hb;exact absurd hb (by decide)
theorem Nk {b c : UInt8} (hbc : b ≠ c) : ∀ {ws : List S},(∀ w ∈ ws,b ∉ w) → b ∉ Lib.join ws [c]
 | [],_=>by rw[Lib.join_nil];simp
 | [w],h=>by rw[Lib.join_one];exact h w (by simp)
 | w::v::ws,h=>by rw[lZ];simp only[List.mem_append,List.mem_cons,not_or];exact⟨h w (by simp),hbc,Nk hbc fun x hx=>h x (by simp[hx])⟩
theorem CU {c:List Lt}:Lib.join (c.map oJ) [32]=[]→c=[]:=by
 cases c with
 | nil=>intro _;rfl
 | cons x c=>intro h;rw[List.map_cons,Lib.join_cons]at h;simp[oJ]at h
theorem CV : ∀ (c : List Lt) (a : Int) (acc : List Lt),okC c = true → ku (c.map oJ) a acc = (acc ++ c,0,0)
 | [],a,acc,_=>by rw[List.append_nil];rfl
 | x::c,a,acc,h=>by
  simp only[okC,List.all_cons,Bool.and_eq_true]at h;obtain⟨n,t⟩:=x;have h1:bi (oJ (n,t)).tail=true:=h.1;have hh:¬((oJ (n,t)).headD 0≠43∧(oJ (n,t)).headD 0≠45):=by cases t<;>simp[oJ]
  have h2:((oJ (n,t)).headD 0==45)=t:=by cases t<;>rfl
  have h3:(oJ (n,t)).tail=n:=rfl;rw[List.map_cons,ku,if_neg hh,if_neg (by rw[h1];simp),CV c _ _ h.2,h2,h3,List.append_assoc];rfl
theorem wI : ∀ (ws : List S) (a : Int) (acc c : List Lt) (p : Int),ku ws a acc = (c,p,0) → ∃ c',c = acc ++ c' ∧ c'.map oJ = ws ∧ okC c' = true
 | [],a,acc,c,p,h=>by simp only[ku,Prod.mk.injEq]at h;exact⟨[],by rw[List.append_nil];exact h.1.symm,rfl,rfl⟩
 | w::ws,a,acc,c,p,h=>by
  rw[ku]at h;split at h
  ·simp at h
  ·rename_i hh;split at h
   ·simp at h
   ·rename_i hn;obtain ⟨c',h1,h2,h3⟩ := wI ws _ _ c p h;refine ⟨(w.tail,w.headD 0 == 45) :: c',by rw [h1,List.append_assoc];rfl,?_,?_⟩
    ·rw [List.map_cons,h2]
     congr 1
     cases w with
     | nil=>exact absurd ⟨by decide,by decide⟩ hh
     | cons b w =>
      simp only[List.headD_cons]at hh;show(if(b==45)=true then(45:UInt8)else 43)::w=b::w;by_cases e:b=45
      ·subst e;rfl
      ·have:b=43:=by
        by_cases e2:b=43
        ·exact e2
        ·exact absurd ⟨e2,e⟩ hh
       subst this;rfl
    ·simp only[okC,List.all_cons,Bool.and_eq_true];exact⟨by simpa using hn,h3⟩
theorem PN {c:List Lt} (h:okC c=true):nD (Lib.join (c.map oJ) [32])=(c,0,0):=by
 unfold nD;split
 ·rename_i e;rw[CU e]
 ·rename_i e;rw[CQ (by intro h;rw[h]at e;exact e (Lib.join_nil _)) (fun w hw=>by
   obtain⟨x,hx,rfl⟩:=List.mem_map.1 hw;exact Nj (List.all_eq_true.1 h x hx) (by decide)),CV c 0 [] h]
  rfl
theorem IV {s:S} {c:List Lt} {p:Int} (h:nD s=(c,p,0)):Lib.join (c.map oJ) [32]=s∧okC c=true:=by
 unfold nD at h;split at h
 ·rename_i e;simp only[Prod.mk.injEq]at h;rw[←h.1,e];exact⟨Lib.join_nil _,rfl⟩
 ·obtain⟨c',h1,h2,h3⟩:=wI _ _ _ _ _ h;rw[List.nil_append]at h1;subst h1;rw[h2];exact⟨(CS s.length s (Nat.le_refl _)).1,h3⟩
theorem yc : ∀ (l : List (List Lt)) (a : Int) (acc : List (List Lt)),l.all okC = true → dZ (Ae 10 (l.flatMap iJ)) a acc = (acc ++ l,0,0)
 | [],a,acc,_=>by show dZ [[]] a acc=_;rw[dZ,if_pos rfl,List.append_nil]
 | c::l,a,acc,h=>by
  simp only[List.all_cons,Bool.and_eq_true]at h;have hn:(10:UInt8)∉Lib.join (c.map oJ) [32]:=Nk (by decide) fun w hw=>by
   obtain⟨x,hx,rfl⟩:=List.mem_map.1 hw;exact Nj (List.all_eq_true.1 h.1 x hx) (by decide)
  have e:(c::l).flatMap iJ=Lib.join (c.map oJ) [32]++10::l.flatMap iJ:=by rw[List.flatMap_cons];unfold iJ;rw[List.append_assoc];rfl
  have ht:(Lib.join (c.map oJ) [32]++[10]).take ((Lib.join (c.map oJ) [32]++[10]).length-1)=Lib.join (c.map oJ) [32]:=by simp
  rw[e,um hn,dZ,if_neg (by simp),ht,PN h.1,if_neg (by simp),yc l _ _ h.2,List.append_assoc];rfl
theorem sS : ∀ (n : Nat) (s : S) (a : Int) (acc y : List (List Lt)) (p : Int),s.length ≤ n → (s = [] ∨ s.getLast? = some 10) → dZ (Ae 10 s) a acc = (y,p,0) → ∃ y',y = acc ++ y' ∧ y'.flatMap iJ = s ∧ y'.all okC = true
 | n,[],a,acc,y,p,_,_,h=>by have h:dZ [[]] a acc=(y,p,0):=h;rw[dZ,if_pos rfl]at h;simp only[Prod.mk.injEq]at h;exact⟨[],by rw[List.append_nil];exact h.1.symm,rfl,rfl⟩
 | 0,x::s,a,acc,y,p,hl,_,h=>by simp at hl
 | n+1,x::s,a,acc,y,p,hl,he,h=>by
  have he:(x::s).getLast? =some 10:=he.resolve_left (by simp);have hm:(10:UInt8)∈x::s:=List.mem_of_getLast? he;obtain⟨w,r,e,hw⟩:=x9 hm;rw[e]at h hl he ⊢;have ht:(w++[(10:UInt8)]).take ((w++[(10:UInt8)]).length-1)=w:=by simp
  rw[um hw,dZ,if_neg (by simp),ht]at h;split at h
  ·rename_i hne;simp only[Prod.mk.injEq]at h;exact absurd h.2.2 hne
  ·rename_i hne;obtain⟨y',h1,h2,h3⟩:=sS n r _ _ y p (by simp at hl;omega) (by
    cases r with
    | nil=>exact .inl rfl
    | cons z r=>refine .inr ?_;rw[List.getLast?_append,List.getLast?_cons_cons]at he;simpa using he) h
   obtain⟨c,q,e2,hv⟩:∃c q e2,nD w=(c,q,e2):=⟨_,_,_,rfl⟩;rw[hv]at hne h1;have:e2=0:=by simpa using hne
   subst this;obtain⟨g1,g2⟩:=IV hv;refine⟨c::y',by rw[h1,List.append_assoc];rfl,?_,by rw[List.all_cons,g2,h3];rfl⟩;rw[List.flatMap_cons,h2];unfold iJ;rw[g1,List.append_assoc];rfl
theorem CW {s:S} {b:UInt8}:s≠[]→(MV s [b]=true↔s.getLast? =some b):=fun h=>by obtain⟨t,x,rfl⟩:∃t x,s=t++[x]:=⟨s.dropLast,s.getLast h,(List.dropLast_concat_getLast h).symm⟩;simp[MV]
theorem CX {l:List (List Lt)} (h:l.all okC=true):jq (l.flatMap iJ)=(l,0,0):=by
 unfold jq;rw[if_neg,yc l 0 [] h]
 ·rfl
 ·rintro⟨h1,h2⟩;have:MV (l.flatMap iJ) [10]=true:=by
   rw[CW h1];obtain⟨l',c,rfl⟩:∃l' c,l=l'++[c]:=by
    have:l≠[]:=by rintro rfl;exact h1 rfl
    exact⟨l.dropLast,l.getLast this,(List.dropLast_concat_getLast this).symm⟩
   rw[List.flatMap_append];simp[iJ]
  rw[h2]at this;cases this
theorem CY {s:S} {y:List (List Lt)} {p:Int} (h:jq s=(y,p,0)):gX y=(s,0):=by
 unfold jq at h;split at h
 ·simp at h
 ·rename_i hn;have he:s=[]∨s.getLast? =some 10:=by
   by_cases e:s=[]
   ·exact .inl e
   ·refine .inr ((CW e).1 ?_);cases e2:MV s [10]with
    | true=>rfl
    | false=>exact absurd ⟨e,e2⟩ hn
  obtain⟨y',h1,h2,h3⟩:=sS s.length s 0 [] y p (Nat.le_refl _) he h;rw[List.nil_append]at h1;subst h1;unfold gX;rw[if_pos h3,h2]
theorem wJ : ∀ (ts : List S) (a : Int) (l y : List (List Lt)) (p e : Int),dZ ts a l = (y,p,e) → e ≠ 0 → y = []
 | [],a,l,y,p,e,h,he=>by simp only[dZ,Prod.mk.injEq]at h;exact absurd h.2.2.symm he
 | t::ts,a,l,y,p,e,h,he=>by
  rw[dZ]at h;split at h
  ·simp only[Prod.mk.injEq]at h;exact absurd h.2.2.symm he
  ·split at h
   ·simp only[Prod.mk.injEq]at h;exact h.1.symm
   ·exact wJ ts _ _ y p e h he
theorem IW {s:S} {y:List (List Lt)} {p e:Int} (h:jq s=(y,p,e)) (he:e≠0):y=[]:=by
 unfold jq at h;split at h
 ·simp only[Prod.mk.injEq]at h;exact h.1.symm
 ·exact wJ _ _ _ _ _ _ h he
theorem Tm {l:List S} (h:Ac l=true):l.Nodup:=by simpa [Ac]using h
theorem Tn {l:List S} (hn:l.Nodup) {n:Nat} (h:n<l.length):at? l l[n]=some n:=by refine Gg h (fun x hx he=> ?_) rfl;obtain⟨j,hj,hx2⟩:=List.mem_iff_getElem.1 hx;simp only[List.length_take]at hj;rw[List.getElem_take]at hx2;have:=(List.getElem_inj (h₀:=by omega) (h₁:=h) hn).1 (hx2.trans he);omega
theorem IX {a b:List S} {s t:S} (hz:og a b=0) (h:BX a b s=some t):BX b a t=some s:=by
 have hz2:og b a=0:=by rw[←wz];exact hz
 unfold BX at h;rw[if_pos hz]at h;cases hm:at? a s with
 | none=>rw[hm]at h;cases h
 | some n =>
  rw[hm]at h;obtain⟨h1,h2⟩:=nY hm;have hl:=Gh hz;have hb:n<b.length:=by omega
  simp only[Option.map_some,Option.some.injEq]at h;have ht:t=b[n]:=by rw[←h];simp[List.getD_eq_getElem?_getD,hb]
  subst ht;unfold BX;rw[if_pos hz2,Tn (Tm (Cb hz2)) hb];simp[List.getD_eq_getElem?_getD,h1,h2]
def zQ {α β : Type} (R : α → β → Prop) : List α → List β → Prop
 | [],[]=>True
 | x::c,y::d=>R x y∧zQ R c d
 | _,_=>False
theorem zQ.turn {α β : Type} {R : α → β → Prop} {T : β → α → Prop} (h : ∀ x y,R x y → T y x) : ∀ {c : List α} {d : List β},zQ R c d → zQ T d c
 | [],[],_=>trivial
 | x::c,y::d,h2=>⟨h _ _ h2.1,zQ.turn h h2.2⟩
 | [],_::_,h2=>h2.elim
 | _::_,[],h2=>h2.elim
def Vr (a b:List S) (x y:Lt):Prop:=BX a b x.1=some y.1∧y.2=x.2
theorem Gw {a b : List S} : ∀ {c acc d : List Lt},c.foldl (NS a b) (some acc) = some d ↔ ∃ d',d = acc ++ d' ∧ zQ (Vr a b) c d'
 | [],acc,d=>by
  rw[List.foldl_nil];constructor
  ·intro h;exact⟨[],by rw[List.append_nil];exact(Option.some.inj h).symm,trivial⟩
  ·rintro⟨d',rfl,h⟩;cases d' with
   | nil=>rw[List.append_nil]
   | cons y d'=>exact h.elim
 | x::c,acc,d=>by
  rw[List.foldl_cons];cases hg:BX a b x.1 with
  | none =>
   have e:NS a b (some acc) x=none:=by unfold NS;rw[hg]
   rw[e,wC];constructor
   ·intro h;cases h
   ·rintro⟨d',rfl,h⟩;cases d' with
    | nil=>exact h.elim
    | cons y d'=>have:=h.1.1;rw[hg]at this;cases this
  | some s =>
   have e:NS a b (some acc) x=some (acc++[(s,x.2)]):=by unfold NS;rw[hg]
   rw[e,Gw];constructor
   ·rintro⟨d',rfl,h⟩;exact⟨(s,x.2)::d',by rw[List.append_assoc];rfl,⟨hg,rfl⟩,h⟩
   ·rintro⟨d',rfl,h⟩;cases d' with
    | nil=>exact h.elim
    | cons y d'=>obtain⟨y1,y2⟩:=y;obtain⟨⟨h1,h2⟩,h3⟩:=h;rw[hg]at h1;have h1:s=y1:=Option.some.inj h1;have h2:y2=x.2:=h2;exact⟨d',by rw[h1,h2,List.append_assoc];rfl,h3⟩
theorem zS {a b:List S} {c d:List Lt}:Jk a b c=some d↔zQ (Vr a b) c d:=by
 unfold Jk;rw[Gw];constructor
 ·rintro⟨d',h1,h2⟩;rw[List.nil_append]at h1;rw[h1];exact h2
 ·intro h;exact⟨d,rfl,h⟩
theorem Gx {a b : List S} : ∀ {l acc o : List (List Lt)},l.foldl (NT a b) (some acc) = some o ↔ ∃ o',o = acc ++ o' ∧ zQ (zQ (Vr a b)) l o'
 | [],acc,d=>by
  rw[List.foldl_nil];constructor
  ·intro h;exact⟨[],by rw[List.append_nil];exact(Option.some.inj h).symm,trivial⟩
  ·rintro⟨d',rfl,h⟩;cases d' with
   | nil=>rw[List.append_nil]
   | cons y d'=>exact h.elim
 | x::c,acc,d=>by
  rw[List.foldl_cons];cases hg:Jk a b x with
  | none =>
   have e:NT a b (some acc) x=none:=by unfold NT;rw[hg]
   rw[e,wE];constructor
   ·intro h;cases h
   ·rintro⟨d',rfl,h⟩;cases d' with
    | nil=>exact h.elim
    | cons y d'=>have:=zS.2 h.1;rw[hg]at this;cases this
  | some s =>
   have e:NT a b (some acc) x=some (acc++[s]):=by unfold NT;rw[hg]
   rw[e,Gx];constructor
   ·rintro⟨d',rfl,h⟩;exact⟨s::d',by rw[List.append_assoc];rfl,zS.1 hg,h⟩
   ·rintro⟨d',rfl,h⟩;cases d' with
    | nil=>exact h.elim
    | cons y d'=>have h1:=zS.2 h.1;rw[hg]at h1;have h1:s=y:=Option.some.inj h1;exact⟨d',by rw[h1,List.append_assoc];rfl,h.2⟩
theorem Gy {a b:List S} {l o:List (List Lt)}:Jl a b l=some o↔zQ (zQ (Vr a b)) l o:=by
 unfold Jl;rw[Gx];constructor
 ·rintro⟨d',h1,h2⟩;rw[List.nil_append]at h1;rw[h1];exact h2
 ·intro h;exact⟨o,rfl,h⟩
theorem zQ.len {α β : Type} {R : α → β → Prop} : ∀ {c : List α} {d : List β},zQ R c d → d.length = c.length
 | [],[],_=>rfl
 | x::c,y::d,h2=>by rw[List.length_cons,List.length_cons,zQ.len h2.2]
 | [],_::_,h2=>h2.elim
 | _::_,[],h2=>h2.elim
theorem zQ.mem {α β : Type} {R : α → β → Prop} : ∀ {c : List α} {d : List β},zQ R c d → ∀ y ∈ d,∃ x ∈ c,R x y
 | [],[],_,y,hy=>by cases hy
 | x::c,z::d,h2,y,hy=>by
  rcases List.mem_cons.1 hy with rfl | hy
  ·exact⟨x,by simp,h2.1⟩
  ·obtain⟨x',h3,h4⟩:=zQ.mem h2.2 y hy;exact⟨x',by simp[h3],h4⟩
 | [],_::_,h2,_,_=>h2.elim
 | _::_,[],h2,_,_=>h2.elim
theorem Nl {a b:List S} {l o:List (List Lt)} (h:wB a b l=(o,0)):wB b a o=(l,0)∧o.length=l.length∧∀d∈o,∃c∈l,d.length=c.length:=by
 unfold wB at h ⊢;by_cases hz:og a b=0
 ·rw[if_pos hz]at h;cases hr:Jl a b l with
  | none=>rw[hr]at h;simp at h
  | some o'=>rw[hr]at h;simp only[Prod.mk.injEq,and_true]at h;subst h;have h2:=Gy.1 hr;have h3:zQ (zQ (Vr b a)) o' l:=h2.turn fun c d hcd=>hcd.turn fun x y hxy=>⟨IX hz hxy.1,hxy.2.symm⟩;rw[if_pos (by rw[←wz];exact hz),Gy.2 h3];refine⟨rfl,h2.len,fun d hd=> ?_⟩;obtain⟨c,hc,hcd⟩:=h2.mem d hd;exact⟨c,hc,hcd.len⟩
 ·rw[if_neg hz]at h;simp only[Prod.mk.injEq]at h;exact absurd h.2 hz
theorem Vs {m:Mo} (h:m.chk=0):m.lat.Nodup:=by
 unfold Mo.chk at h;split at h
 ·rename_i h1;exact absurd h h1
 ·split at h
  ·cases h
  ·split at h
   ·cases h
   ·split at h
    ·cases h
    ·rename_i h4;have:xk (m.ins++m.lat)=false:=by
      cases e:xk (m.ins++m.lat)with
      | false=>rfl
      | true=>exact absurd (by unfold Mo.twos;rw[e];rfl) h4
     have:(m.ins++m.lat).Nodup:=by simpa [xk]using this
     exact(List.nodup_append.1 this).2.1
theorem Np {l : List S} (h : l.Nodup) : ∀ i,i ≤ l.length → kD l i = (l.take i,(List.range i).map fun k : Nat => (k : Int))
 | 0,_=>by simp[kD]
 | i+1,hi=>by
  have hg:l.getD i []=l[i]:=by rw[List.getD_eq_getElem?_getD,List.getElem?_eq_getElem (by omega)];rfl
  have hn:at? (l.take i) l[i]=none:=Pv fun hm=>by obtain⟨j,hj,hx⟩:=List.mem_take_iff_getElem.1 hm;have:=(List.getElem_inj (h₀:=by omega) (h₁:=by omega) h).1 hx;omega
  rw[kD,Np h i (by omega),hg];unfold QI;rw[hn,List.take_add_one,List.getElem?_eq_getElem (by omega),List.range_succ,List.map_append];rfl
theorem Nq {l:List S} (h:l.Nodup) (s:S):lU (kD l l.length) s=idx l (·==s)∧((at? (kD l l.length).1 s).isSome=true↔0≤idx l (·==s)):=by
 rw[Np h _ (Nat.le_refl _)];unfold lU;dsimp only;rw[List.take_length];cases hm:at? l s with
 | none =>
  have hn:s∉l:=fun hs=>by obtain⟨n,hn⟩:=zD hs;rw[hm]at hn;cases hn
  rw[jE (p:=(·==s)) fun x hx=>by simp only[beq_eq_false_iff_ne];rintro rfl;exact hn hx];exact⟨rfl,by simp⟩
 | some n =>
  obtain⟨h1,h2⟩:=nY hm;rw[kJ (p:=(·==s)) h1 (fun x hx=>by
   simp only[beq_eq_false_iff_ne];rintro rfl;obtain⟨j,hj,hx⟩:=List.mem_take_iff_getElem.1 hx;have:=(List.getElem_inj (h₀:=by omega) (h₁:=by omega) h).1 (hx.trans h2.symm);omega) (by simpa using h2)]
  refine⟨?_,by simp⟩;dsimp only;rw[List.getD_eq_getElem?_getD,List.getElem?_map,List.getElem?_range h1];rfl
theorem Gz {g : Gr} {u : US} (h : ∀ c ∈ u.cl,c.length ≤ 3) : ∀ {i : Nat},i ≤ g.ands.length → ∀ c ∈ (u.ands g i).cl,c.length ≤ 3
 | 0,_=>h
 | i+1,hi=>by
  rw[gq (by omega)];intro c hc;have hc:c∈(u.ands g i).cl++[_,_,_]:=hc;rcases List.mem_append.1 hc with hc | hc
  ·exact Gz h (by omega) c hc
  ·simp only[List.mem_cons,List.not_mem_nil,or_false]at hc;rcases hc with rfl | rfl | rfl<;>simp
theorem Nr {g : Gr} {b : Cl} : ∀ k,∀ c ∈ (fZ g b k).cl,c.length ≤ 3
 | 0=>fun c hc=>by have hc:c=[1]:=List.mem_singleton.1 hc;subst hc;simp
 | k+1=>Gz (Nr k) (Nat.le_refl _)
def nvU (m:Mo):Nat:=1+m.lat.length+(m.g.ins.toNat+m.g.ands.length)
theorem QL {m:Mo} {b:Cl} {k:Nat} (hb:b.length=m.lat.length) (hb2:∀x∈b,0≤x∧x≤2) (hk:k≤1):(fZ m.g b k).n≤nvU m:=by obtain⟨a1,a2,a3,a4⟩:=xX b (1,[]) hb2 (Nat.le_refl _) (fun a ha=>by cases ha);have:(Ew b).1≤1+b.length:=a2;have e:k*(m.g.ins.toNat+m.g.ands.length)≤1*(m.g.ins.toNat+m.g.ands.length):=Nat.mul_le_mul_right _ hk;rw[MF];unfold nvU;omega
theorem Ns {m:Mo} (h:m.chk=0):nvU m≤4001∧0≤m.g.ins∧m.g.ins≤4000∧m.lat.length≤4000:=by obtain⟨hg,hi,hl,ho⟩:=oK h;obtain⟨_,i0,i1,i2,i3,i4,i5⟩:=jG hg;unfold nvU;omega
theorem zT {m:Mo} {b:Cl} {k:Nat} (h:m.chk=0) (hb:b.length=m.lat.length) (hb2:∀x∈b,0≤x∧x≤2) (hk:k≤1):UOk m (iC m.g b k):=by
 obtain⟨n1,n2,n3,n4⟩:=Ns h;obtain⟨hg,hi,hl,ho⟩:=oK h;have ok:=BU hg (hb.trans hl) hb2 k;have hn:=QL (m:=m) hb hb2 hk;have hin:∀ {x:Int},inU (fZ m.g b k).n x→-1000000≤x∧x≤1000000:=fun {x} hx=>by have:=hx.2;omega
 refine⟨⟨n2,n3⟩,n4,fun r hr x hx=> ?_,by rw[CJ];omega⟩;rcases List.mem_append.1 hr with hr | hr
 ·exact hin ((ok.r r hr).1 x hx)
 ·rw [List.mem_singleton.1 hr] at hx;rcases List.mem_append.1 hx with hx | hx
  ·rcases List.mem_cons.1 hx with rfl | hx
   ·omega
   ·rcases List.mem_append.1 hx with hx | hx
    ·rw[List.eq_of_mem_replicate hx];omega
    ·exact hin (ok.lo x hx)
  ·rw[List.eq_of_mem_replicate hx];omega
theorem EH {m:Mo}:(Jm m).length=m.lat.length:=List.length_replicate
structure QOk (m : Mo) (q : Qn) : Prop where
 b:q.beg.length=m.lat.length
 r:∀x∈q.beg,0≤x∧x≤2
 s:q.steps≤1
 c:∀c∈q.more,c.length≤1000
 n:q.more.length≤3000000
theorem zU {m:Mo} (h:m.chk=0):m.g.init.length=m.lat.length∧∀x∈m.g.init,0≤x∧x≤2:=by obtain⟨hg,hi,hl,ho⟩:=oK h;obtain⟨_,i0,i1,i2,i3,i4,i5⟩:=jG hg;obtain⟨r1,r2,r3,r4⟩:=kM i4;exact⟨by omega,r2⟩
theorem yf {m:Mo} {rows:List Cl} {t:Int} {c:List Lt}:∀d∈jb m rows t c,d.length≤1000:=fun d hd=>by obtain⟨x,_,rfl⟩:=List.mem_map.1 hd;simp
theorem CZ {m:Mo} {rows:List Cl} {l:List (List Lt)} (hc:∀c∈l,c.length≤1000):∀d∈rX m rows l,d.length≤1000:=fun d hd=>by obtain⟨x,hx,rfl⟩:=List.mem_map.1 hd;simpa using hc x hx
theorem WE {m:Mo} (h:m.chk=0) {i:Nat} {c:List Lt} (hc:c.length≤1000):QOk m (qn0 m i c):=by obtain⟨h1,h2⟩:=zU h;refine⟨h1,h2,Nat.zero_le _,yf,?_⟩;show(jb m _ 0 c).length≤_;unfold jb;rw[List.length_map];omega
theorem WF {m:Mo} {l:List (List Lt)} (hl:l.length≤1000000) (hcl:∀c∈l,c.length≤1000) {i:Nat} {c:List Lt} (hc:c.length≤1000):QOk m (qn1 m l i c):=by
 refine⟨EH,EG,Nat.le_refl _,fun d hd=> ?_,?_⟩
 ·rcases List.mem_append.1 hd with hd | hd
  ·exact CZ hcl d hd
  ·exact yf d hd
 ·show(rX m _ l++jb m _ 1 c).length≤_;unfold jb rX;rw[List.length_append,List.length_map,List.length_map];omega
theorem WG {m:Mo} {l:List (List Lt)} (hl:l.length≤1000000) (hcl:∀c∈l,c.length≤1000) {bad:Int}:QOk m (qn2 m l bad):=by
 refine⟨EH,EG,Nat.le_refl _,fun d hd=> ?_,?_⟩
 ·rcases List.mem_append.1 hd with hd | hd
  ·exact CZ hcl d hd
  ·rw[List.mem_singleton.1 hd];simp
 ·show(rX m _ l++[_]).length≤_;unfold rX;rw[List.length_append,List.length_map];simp;omega
theorem Tq {m:Mo} {q:Qn} (h:QOk m q):∀c∈q.cl m,c.length≤1000:=fun c hc=>by
 rcases List.mem_append.1 hc with hc | hc
 ·have:=Nr _ c hc;omega
 ·exact h.c c hc
def Vt (m:Mo) (bud:Int):Prop:=∀(cl:List Cl) (n:Nat),n≤nvU m→chk cl n=0→∃B,Big n cl (max bud 0) B
theorem Nu {m:Mo}:Vt m 2000:=fun cl n _ hz=>by obtain⟨v1,v2,v3,v4⟩:=tX hz;refine⟨2000,by omega,fun S _ h=>by omega,?_,by omega,by omega⟩;have:(n+1)*(2*2000+4)≤20001*(2*2000+4):=Nat.mul_le_mul_right _ (by omega);omega
theorem Nv:Vt m0 1099511627776:=fun cl n hn hz=>by obtain⟨v1,v2,v3,v4⟩:=tX hz;have hn:n≤2:=hn;have h3:(3:Nat)^n≤3^2:=Nat.pow_le_pow_right (by decide) hn;refine⟨9,by omega,fun S i _=>by have:=i.g.few;omega,?_,by omega,by omega⟩;have:(n+1)*(2*9+4)≤3*(2*9+4):=Nat.mul_le_mul_right _ (by omega);omega
end Go.Proofs.YtmlacppmbfbjgaaGreatDoor
