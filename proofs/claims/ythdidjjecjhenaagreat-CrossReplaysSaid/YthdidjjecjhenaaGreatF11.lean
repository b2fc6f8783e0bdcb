/- Lemmas for this claim, part F11: each holds under what it names. -/
import Derived.Test.YthdidjjecjhenaaGreatF10
set_option linter.unusedVariables false
set_option linter.unusedSimpArgs false
set_option linter.unnecessarySimpa false
set_option maxRecDepth 20000
set_option maxHeartbeats 8000000
namespace Go.Proofs.YthdidjjecjhenaaGreat
open Go Go.Proofs Go.Abs
def qF(a:Int):Int:=if a%2=0 then a+1 else a-1
variable{a:Int}
theorem pY(h0:0<=a)(h1:a<=1000000000):IntKind.i64.wrap ((BitVec.ofInt IntKind.i64.bits a ^^^ BitVec.ofInt IntKind.i64.bits 1).toNat:Int)=qF a:=by
 obtain⟨n,rfl⟩:∃n:Nat,a=n:=⟨a.toNat,by omega⟩;have e1:(BitVec.ofInt IntKind.i64.bits (n:Int) ^^^ BitVec.ofInt IntKind.i64.bits 1).toNat=n ^^^ 1:=by
  show(BitVec.ofInt 64 (n:Int) ^^^ BitVec.ofInt 64 1).toNat=n ^^^ 1;rw[BitVec.toNat_xor];have:(BitVec.ofInt 64 (n:Int)).toNat=n:=by simp;omega
  rw[this];rfl
 have e2:n ^^^ 1=if n%2=0 then n+1 else n-1:=by
  have h:(n ^^^ 1)%2=(n+1)%2:=by have h3:=Nat.testBit_xor n 1 0;simp only[Nat.testBit_zero]at h3;rcases Nat.mod_two_eq_zero_or_one n with h4|h4<;>rcases Nat.mod_two_eq_zero_or_one (n ^^^ 1)with h5|h5<;>simp[h4,h5]at h3<;>omega
  have h2:(n ^^^ 1)/2=n/2:=by rw[Nat.xor_div_two];simp
  split<;>omega
 rw[e1,e2];unfold qF;split<;>split<;>(rw[fE (by omega) (by omega)];omega)
theorem S9(h0:0<=a)(h1:a<=1000000000):IntKind.i64.wrap ((BitVec.ofInt IntKind.i64.bits a ^^^ BitVec.ofInt IntKind.i64.bits 0).toNat:Int)=a:=by
 obtain⟨n,rfl⟩:∃n:Nat,a=n:=⟨a.toNat,by omega⟩;have e1:(BitVec.ofInt IntKind.i64.bits (n:Int) ^^^ BitVec.ofInt IntKind.i64.bits 0).toNat=n:=by
  show(BitVec.ofInt 64 (n:Int) ^^^ BitVec.ofInt 64 0).toNat=n;rw[BitVec.toNat_xor];have:(BitVec.ofInt 64 (n:Int)).toNat=n:=by simp;omega
  rw[this];simp
 rw[e1,fE (by omega) (by omega)]
theorem AO(c:Cl)(hc:c.length<=1000000):EvF TE 29 [ay c] 1 c.length (c.map vi):=by
 have hM:=mLx;unfold EvF;refine ah Tryz.func29 rfl (by simp[nts]) (vm ?_);simp only[wq.1,seval,Tryz.results29];intro b hb;cases b with
 |true =>
  have:c=[]:=by simpa using hb rfl
  subst this;simp only[wq.1,↓reduceIte,Nat.reduceLT,reduceCtorEq]
 |false=>simp only[wq.1,↓reduceIte,Nat.reduceEqDiff,Nat.reduceLT,reduceCtorEq,Nat.reduceMul,pM];exact⟨⟨rfl,by decide⟩,⟨by omega,by show _<=_;omega⟩,.inr ⟨0,_,rfl,zrb _,rfl⟩⟩
theorem AP:∀l:List Pq,(l.flatMap fun p=>[vi p.1,vi p.2]).length=l.length*2
 |[]=>rfl
 |a::l=>by rw[List.flatMap_cons,zqa,AP l,zrt];simp;omega
theorem y9{q:Nat->Bool}:∀l:List Pq,V.drops q (l.flatMap fun p=>[vi p.1,vi p.2])=l.flatMap fun p=>[vi p.1,vi p.2]
 |[]=>rfl
 |a::l=>by show V.drop q (vi a.1)::V.drop q (vi a.2)::V.drops q (l.flatMap fun p=>[vi p.1,vi p.2])=_;rw[y9 l];rfl
theorem VG:∀l:List Pq,(l.map prV).flatMap V.vc=l.flatMap fun p=>[vi p.1,vi p.2]
 |[]=>rfl
 |a::l=>by rw[zrd,List.flatMap_cons,VG l];rfl
theorem Ur:∀l:List Pq,cZ (l.flatMap fun p=>[vi p.1,vi p.2])=true
 |[]=>rfl
 |a::l=>by simp only[List.flatMap_cons,List.cons_append,List.nil_append,cZ,Ur l,V.one,V.vc,zrk];rfl
theorem Us:∀l:List Pq,eQ 2 (l.map prV)=true
 |[]=>rfl
 |a::l=>by simp only[zrd,eQ,Us l,V.fit,V.vc];rfl
theorem Pv:∀l:List Pq,V.dats (l.flatMap fun p=>[vi p.1,vi p.2])=true
 |[]=>rfl
 |a::l=>by show(V.dat (vi a.1)&&(V.dat (vi a.2)&&V.dats (l.flatMap fun p=>[vi p.1,vi p.2])))=true;rw[Pv l];rfl
theorem Px:∀l:List Pq,mg (l.map prV)=true
 |[]=>rfl
 |a::l=>by simp only[zrd,mg,Px l,V.fit,V.vc];rfl
variable{h r:H}
theorem gE0:(h++r)[h.length]? =r[0]? :=by rw[zsb (zrb _),Nat.sub_self]
theorem gE{k:Nat}:(h++r)[h.length+k]? =r[k]? :=by rw[zsb (Nat.le_add_right _ _),Nat.add_sub_cancel_left]
theorem gS0{x:O}:(h++r).set h.length x=h++r.set 0 x:=by rw[List.set_append_right _ _ (zrb _),Nat.sub_self]
theorem gS{k:Nat}{x:O}:(h++r).set (h.length+k) x=h++r.set k x:=by rw[List.set_append_right _ _ (Nat.le_add_right _ _),Nat.add_sub_cancel_left]
variable{b:Nat}
theorem neb{a:Nat}:(h.length+a==h.length+b)=(a==b):=by rw[Bool.eq_iff_iff];simp
theorem YB:(h.length==h.length+(b+1))=false:=by simp
variable{l:List Pq}
theorem l7{e:E}{id len cap:Nat}(hc:h[id]? =some (.cells (l.flatMap fun p=>[vi p.1,vi p.2])))(hl:len=l.length):aH e h (.ls id 2 0 len cap) (prs l) :=
 aH.ls hc (aj.dat (Pv l)) (Us l) (VG l) (by simpa using hl)
theorem LK(c:List Pq)(hc:c.length<=1000000):EvF TE 110 [prs c] 2 c.length (c.flatMap fun p=>[vi p.1,vi p.2]):=by
 have hM:=mLx;have hl:=AP c;have hv:=VG c;have ho:=Ur c;unfold EvF;refine ah Tryz.func110 rfl (by simp[nts]) (vm ?_);simp only[wq.1,seval,Tryz.results110];intro b hb;cases b with
 |true =>
  have:c=[]:=by simpa using hb rfl
  subst this;simp only[wq.1,↓reduceIte,Nat.reduceLT,reduceCtorEq];simp
 |false=>simp only[wq.1,↓reduceIte,Nat.reduceEqDiff,Nat.reduceLT,Nat.reduceAdd,reduceCtorEq,Nat.reduceMul,hv];refine⟨⟨rfl,by decide⟩,Px c,⟨rfl,by omega,by show _<=_;omega⟩,.inr ⟨0,_,rfl,zrb _,rfl⟩⟩
variable{R:AEnd->H->(Nat->Bool)->Prop}
theorem LM(hr:R (.ret .nils) h (fun _=>false)):ag TE 110 [.nils] h R:=by refine ah Tryz.func110 rfl (by simp[nts]) (vm ?_);simp only[wq.1,seval,Tryz.results110];exact hr
variable{n1:Int}
theorem Fq{nx ini:V}(h1:nx.one=true)(h2:ini.one=true)(hf1:nx.fit=true)(hf2:ini.fit=true)
 (hr:R (.ret (.lp (h.length+2) 0)) (h++[.cells [vi n1,nx,ini,.nils,.nils],.map [] [],.cells [vi n1,nx,ini,.nils,.nils,.lm (h.length+1),.nils]]) (fun _=>false)) :
 ag TE 85 [.agg [vi n1,nx,ini,.nils,.nils]] h R:=by
 have hM:=mLx;refine ah Tryz.func85 rfl (by simp[nts]) (vm ?_);simp only[wq.1,seval,Tryz.results85,gE0,zqc];refine LM ?_;simp only[wq.1,seval,gE0,gE,gS];refine aC (fun m f h'=>f.t 3= .lp (h.length+2) 0/\f.t 21=vi 0/\f.t 22=vi 0/\f.d=[]/\f.k=(fun _=>false)/\h'=h++[.cells [vi n1,nx,ini,.nils,.nils],.map [] [],.cells [vi n1,nx,ini,.nils,.nils,.lm (h.length+1),.nils]]) 0 ⟨rfl,rfl,rfl,rfl,rfl,rfl⟩ ?_;rintro m f h' ⟨k3,k21,k22,hd,hk,rfl⟩;refine vm ?_;simp only[wq.1,seval,k3,k21,k22,hd];rw[hk];exact hr
def qc(n:Nat):Cl:=(List.range n).map fun i:Nat=>2*(i:Int)
theorem LP(n:Nat):qc (n+1)=qc n++[2*(n:Int)]:=by unfold qc;rw[List.range_succ,zql];rfl
theorem zf(n:Nat):(qc n).length=n:=by simp[qc]
def Ut:Plan:=tkZ [0,2,4]<| .alt 1 (.alt 3 (onZ [5,6,7,8]<| .take 9<| .fin) (.one 5 (.alt 3 (onZ [6,7,8]<| .take 9<| .fin) (.one 6 (onZ [3,7,8]<| .take 9<| .fin))))) (.alt 3 (.alt 1 (onZ [5,6,7,8]<| .take 9<| .fin) (.one 5 (.alt 1 (onZ [6,7,8]<| .take 9<| .fin) (.one 6 (onZ [1,7,8]<| .take 9<| .fin))))) (.one 5 (.alt 1 (.alt 3 (onZ [6,7,8]<| .take 9<| .fin) (.one 6 (onZ [3,7,8]<| .take 9<| .fin))) (.alt 3 (.alt 1 (onZ [6,7,8]<| .take 9<| .fin) (.one 6 (onZ [1,7,8]<| .take 9<| .fin))) (.one 6 (.alt 1 (onZ [3,7,8]<| .take 9<| .fin) (.one 3 (onZ [1,7,8]<| .take 9<| .fin))))))))
theorem zh(hcd:kz h){g:Gr}(hg:g.chk=0){R:AEnd->H->(Nat->Bool)->Prop}
 (hr:R (.ret (.lp (h.length+4) 0)) (h++[.cells [vi g.ins,ay g.next,ay g.init,prs g.ands,ay g.outs],.cells (g.init.map vi),.cells [vi g.ins,ay g.next,.ls (h.length+1) 1 0 g.init.length g.init.length,.nils,.nils],.map [] [],.cells [vi g.ins,ay g.next,.ls (h.length+1) 1 0 g.init.length g.init.length,.ls (h.length+5) 2 0 0 0,.nils,.lm (h.length+3),.ls (h.length+6) 1 0 g.first.toNat g.first.toNat],.cells [],.cells ((qc g.first.toNat).map vi)]) (fun _=>false)) :
 ag TE 50 [.agg [vi g.ins,ay g.next,ay g.init,prs g.ands,ay g.outs]] h R:=by
 have hM:=mLx;obtain⟨_,i0,i1,i2,i3,i4,i5⟩:=aW hg;obtain⟨r1,r2,r3,r4⟩:=aN i4;have hcl:=AO g.init (by omega);refine ag.fresh ?_;refine ah Tryz.func50 rfl (by simp[nts]) ?_;have hfst:=jT g (by omega) (by omega) (by omega);obtain⟨fn,hfn⟩:∃fn:Nat,g.first=fn:=⟨g.first.toNat,by have:g.first=1+g.ins+g.next.length:=rfl;omega⟩
 have hfl:fn<=4001:=by have:g.first=1+g.ins+g.next.length:=rfl;omega
 rw[hfn,zsg]at hr;rw[hfn]at hfst;have dvi:∀p,V.drops p (g.init.map vi)=g.init.map vi:=fun p=>aI _;refine vn ?_;simp only[wq.1,Nat.reduceLT,Tryz.results50];refine ak (bM dV Ut (fun f' h'=>f'.t 1= .lp h.length 0/\f'.t 3= .lp (h.length+4) 0/\f'.d=[]/\(∀j,j<h.length->f'.k j=false)/\h'=h++[.cells [vi g.ins,ay g.next,ay g.init,prs g.ands,ay g.outs],.cells (g.init.map vi),.cells [vi g.ins,ay g.next,.ls (h.length+1) 1 0 g.init.length g.init.length,.nils,.nils],.map [] [],.cells [vi g.ins,ay g.next,.ls (h.length+1) 1 0 g.init.length g.init.length,.nils,.nils,.lm (h.length+3),.nils]]) (by decide +kernel) (by decide +kernel) ?_ ?_)
 ·simp only[wq.1,seval,Ut,gE0]
  repeat' apply zsa
  all_goals
   refine jG hcl rfl (jH _) ?_;simp only[wq.1,seval,gE0,zqc]
   repeat' apply zsa
  all_goals
   refine Fq rfl rfl rfl rfl ?_;simp only[wq.1,seval,zqc]
 ·rintro f h' ⟨k1,k3,hd,hk,rfl⟩;show awp _ _ _ _ _ _ _;refine fP ?_;refine fP ?_;simp only[wq.1,zqc];have hle:HLe (h++[.cells [vi g.ins,ay g.next,ay g.init,prs g.ands,ay g.outs],.cells (g.init.map vi),.cells [vi g.ins,ay g.next,.ls (h.length+1) 1 0 g.init.length g.init.length,.nils,.nils],.map [] [],.cells [vi g.ins,ay g.next,.ls (h.length+1) 1 0 g.init.length g.init.length,.nils,.nils,.lm (h.length+3),.nils],.cells [],.cells []]) (h++[.cells [vi g.ins,ay g.next,ay g.init,prs g.ands,ay g.outs],.cells (g.init.map vi),.cells [vi g.ins,ay g.next,.ls (h.length+1) 1 0 g.init.length g.init.length,.nils,.nils],.map [] [],.cells [vi g.ins,ay g.next,.ls (h.length+1) 1 0 g.init.length g.init.length,.ls (h.length+5) 2 0 0 0,.nils,.lm (h.length+3),.ls (h.length+6) 1 0 0 0],.cells [],.cells []]):=by
   have hv:eH [vi g.ins,ay g.next,.ls (h.length+1) 1 0 g.init.length g.init.length,.nils,.nils,.lm (h.length+3),.nils] [vi g.ins,ay g.next,.ls (h.length+1) 1 0 g.init.length g.init.length,.ls (h.length+5) 2 0 0 0,.nils,.lm (h.length+3),.ls (h.length+6) 1 0 0 0]:=eH.cons (VLe.refl _) (eH.cons (VLe.refl _) (eH.cons (VLe.refl _) (eH.cons dC (eH.cons (VLe.refl _) (eH.cons (VLe.refl _) (eH.cons dC (eH.refl _)))))));have:=HLe.set (h:=h++[.cells [vi g.ins,ay g.next,ay g.init,prs g.ands,ay g.outs],.cells (g.init.map vi),.cells [vi g.ins,ay g.next,.ls (h.length+1) 1 0 g.init.length g.init.length,.nils,.nils],.map [] [],.cells [vi g.ins,ay g.next,.ls (h.length+1) 1 0 g.init.length g.init.length,.nils,.nils,.lm (h.length+3),.nils],.cells [],.cells []]) (i:=h.length+4) (o':= .cells [vi g.ins,ay g.next,.ls (h.length+1) 1 0 g.init.length g.init.length,.ls (h.length+5) 2 0 0 0,.nils,.lm (h.length+3),.ls (h.length+6) 1 0 0 0]) (o:= .cells [vi g.ins,ay g.next,.ls (h.length+1) 1 0 g.init.length g.init.length,.nils,.nils,.lm (h.length+3),.nils]) (gE.trans rfl) (OLe.cells (zrb _) hv);rw[gS]at this;exact this
  refine kZ hle ?_;refine vm ?_;simp only[wq.1,seval,gE0,k1];refine ag.ev hfst (by simp only[V.dats,V.dat,zre]) ?_;simp only[wq.1,Nat.reduceLT];refine aC (fun m f h'=>∃i,m+i=fn/\f.t 3= .lp (h.length+4) 0/\f.t 15=vi fn/\f.t 16=vi i/\f.d=[]/\(∀j,j<h.length->f.k j=false)/\h'=h++[.cells [vi g.ins,ay g.next,ay g.init,prs g.ands,ay g.outs],.cells (g.init.map vi),.cells [vi g.ins,ay g.next,.ls (h.length+1) 1 0 g.init.length g.init.length,.nils,.nils],.map [] [],.cells [vi g.ins,ay g.next,.ls (h.length+1) 1 0 g.init.length g.init.length,.ls (h.length+5) 2 0 0 0,.nils,.lm (h.length+3),.ls (h.length+6) 1 0 i i],.cells [],.cells ((qc i).map vi)]) fn ⟨0,by omega,k3,rfl,rfl,hd,fun j hj=>by(simp only[wq.1]);exact hk j hj,rfl⟩ ?_;rintro m f h' ⟨i,hm,k3,k15,k16,hd,hk,rfl⟩;have hel:=zf i;have hcm:=hcd.one (j:=h.length+6) (by omega);have dve:∀p,V.drops p ((qc i).map vi)=(qc i).map vi:=fun p=>aI _;refine vm ?_;simp only[wq.1,seval,k15,k16];refine vcB.mk (fun hlt=> ?_) (fun hlt=> ?_)
  ·simp only[zqb,zqi]at hlt;have hw:=aA (show i<maxLen by omega);have w2:IntKind.i64.wrap (2*(i:Int))=2*(i:Int):=aU (by omega) (by omega);simp only[wq.1,↓reduceIte,Nat.reduceEqDiff,Nat.reduceLT,Nat.reduceAdd,Nat.reduceBEq,reduceCtorEq,Nat.reduceMul,gE,gS,k3,k16,hd,hw,w2,dvi,dve,hcm,neb];refine⟨⟨rfl,by decide⟩,⟨by omega,by omega,by omega⟩,.inl ⟨m-1,by omega,i+1,by omega,by simp only[wq.1,seval,aG,Tryz.results50,k3,neb,YB],by simp only[wq.1,seval,aG,Tryz.results50,k15],rfl,hd,fun j hj=> ?_,?_⟩⟩
   ·simp only[wq.1,hk j hj];simp;omega
   ·rw[LP,zql];rfl
  ·simp only[zqd,zqi]at hlt;have hi:i=fn:=by omega
   subst hi;simp only[wq.1,seval,k3,hd];exact⟨hk,hr⟩
abbrev fl(l:List Pq):List V:=l.flatMap fun p=>[vi p.1,vi p.2]
def H5(f:Int)(n:Nat):List V:=(List.range n).map fun i:Nat=>vi (2*(f+(i:Int)))
theorem Py(f:Int)(n:Nat):H5 f (n+1)=H5 f n++[vi (2*(f+(n:Int)))]:=by unfold H5;rw[List.range_succ,zql];rfl
variable{n:Nat}
theorem Tc{f:Int}{i:Nat}(h:i<n)(d:V):(H5 f n).getD i d=vi (2*(f+(i:Int))):=by simp[H5,zqg,h]
abbrev bo(n1:Int)(nx:Cl)(J k a la:Nat)(outs:V)(m c lc:Nat):O:= .cells [vi n1,ay nx,.ls J 1 0 k k,.ls a 2 0 la la,outs,.lm m,.ls c 1 0 lc lc]
def jg(f:Int)(A:List Pq)(p q:Int):List Pq×Int :=
 if min p q = 0 \/ qF (max p q) = min p q then (A,0) else if min p q = 1 \/ max p q = min p q then (A,max p q) else
  match A.findIdx? (·==(max p q,min p q))with
  |some i=>(A,2*(f+(i:Int)))
  |none=>(A++[(max p q,min p q)],2*(f+(A.length:Int)))
theorem uj(k:Pq):∀(ks:List Pq),jY (.arr 2 3 (some .i64)) (prV k) (ks.map prV)=some (ks.findIdx? (·==k))
 |[]=>rfl
 |x::ks=>by
  have hk:keq (.arr 2 3 (some .i64)) (prV k) (prV x)=some (x==k):=by
   show(if 2=2/\IntKind.i64= .i64/\IntKind.i64= .i64/\IntKind.i64= .i64/\IntKind.i64= .i64 then some ((k.1==x.1)&&(k.2==x.2))else none)=_;rw[if_pos ⟨rfl,rfl,rfl,rfl,rfl⟩]
   congr 1
   rw[Bool.eq_iff_iff];simp only[zqf,beq_iff_eq];constructor
   ·rintro⟨h1,h2⟩;exact Prod.ext h1.symm h2.symm
   ·rintro rfl;exact⟨rfl,rfl⟩
  rw[zrd,jY,hk,List.findIdx?_cons];cases hx:x==k with
  |true=>rfl
  |false=>rw[uj k ks];cases ks.findIdx? (·==k)<;>rfl
def Jq:Plan:=tkZ [0,1,2,5,6,7,8]<| .alt 3 (.alt 4 (onZ [9,10,11,12]<| .take 13<| .fin) (.one 9 (.alt 4 (onZ [10,11,12]<| .take 13<| .fin) (.one 10 (onZ [4,11,12]<| .take 13<| .fin))))) (.one 9 (.alt 3 (.alt 4 (onZ [10,11,12]<| .take 13<| .fin) (.one 10 (onZ [4,11,12]<| .take 13<| .fin))) (.one 10 (onZ [3,4,11,12]<| .take 13<| .fin))))
def Jr:Plan:=tkZ [0,1,2,3,4]<| .alt 5 (onZ [6,7,8]<|tkZ [9,10,11]<| .one 12<| .fin) (.one 6 (.alt 5 (.one 7<| .one 8<|tkZ [9,10,11]<| .one 12<| .fin) (.one 7 (.one 5<| .one 8<|tkZ [9,10,11]<| .one 12<| .fin))))
def Js:Plan:=tkZ [0,1,2,5]<| .alt 3 (.one 4<| .one 6<| .fin) (.one 4 (.one 3<| .one 6<| .fin))
variable{A:List Pq}{f0:Int}
theorem Fv{a J m c lc:Nat}{nx ini:Cl}{p q:Int}(hf:f0=1+n1+nx.length)(i0:0<=n1)(i1:n1<=4000)(i2:nx.length<=4000)(i3:ini.length<=4000)(i4:A.length<=4000)
 (p0:0<=p) (p1:p<=100000) (q0:0<=q) (q1:q<=100000)
 (hb:h[b]? =some (bo n1 nx J ini.length a A.length .nils m c lc)) (hj:h[J]? =some (.cells (ini.map vi))) (ha:h[a]? =some (.cells (fl A))) (hm:h[m]? =some (.map (A.map prV) (H5 f0 A.length)))
 (hdr:∀i o,h[i]? =some o->i≠b->o.drop (·==a)=o) (hba:b≠a) (hca:c≠a) (hJa:J≠a) {R:AEnd->H->(Nat->Bool)->Prop}
 (hr:∀X,R (.ret (vi (jg f0 A p q).2)) (((h.set b (bo n1 nx J ini.length a (jg f0 A p q).1.length .nils m c lc)).set a (.cells (fl (jg f0 A p q).1))).set m (.map ((jg f0 A p q).1.map prV) (H5 f0 (jg f0 A p q).1.length))++X) (fun i=>i==a)) :
 ag TE 51 [.lp b 0,vi p,vi q] h R:=by
 have hM:=mLx;have same:((h.set b (bo n1 nx J ini.length a A.length .nils m c lc)).set a (.cells (fl A))).set m (.map (A.map prV) (H5 f0 A.length))=h:=by
  have s1:∀ {i:Nat} {o:O},h[i]? =some o->h.set i o=h:=fun {i o} hi=>by obtain⟨hl,rfl⟩:=zqe hi;exact List.set_getElem_self hl
  rw[s1 hb,s1 ha,s1 hm]
 obtain⟨P,hP⟩:∃P,P=max p q:=⟨_,rfl⟩;obtain⟨Q,hQ⟩:∃Q,Q=min p q:=⟨_,rfl⟩;have bP:0<=P/\P<=100000/\0<=Q/\Q<=100000:=by omega
 have hxo:=pY (a:=P) (by omega) (by omega);have hav:jg f0 A p q=if Q=0\/qF P=Q then(A,0)else if Q=1\/P=Q then(A,P)else match A.findIdx? (·==(P,Q))with
  |some i=>(A,2*(f0+(i:Int)))
  |none=>(A++[(P,Q)],2*(f0+(A.length:Int))):=by rw[hP,hQ];rfl
 obtain⟨r,hrv⟩:∃r,r=jg f0 A p q:=⟨_,rfl⟩;rw[<-hrv]at hr hav;have early:∀v,r=(A,v)->∀X,R (.ret (vi v)) (h++X) (fun i=>i==a):=fun v hv X=>by
  have:=hr X;rw[hv]at this;simp only at this
  rwa [same]at this
 refine ag.kp (fun i=>i==a) ?_;refine ah Tryz.func51 rfl (by simp[nts]) ?_;refine vn ?_;simp only[wq.1,Nat.reduceLT,Tryz.results51];refine vn ?_;simp only[wq.1,seval,mx,mn];rw[<-hP,<-hQ];cases e1:Q==0 with
 |true=>refine vn ?_;simp only[wq.1,seval,e1];have:=early 0 (by rw[hav,if_pos (.inl (by simpa using e1))]) [];rw[zqp]at this;exact this
 |false =>
 cases e2:qF P==Q with
 |true=>refine vn ?_;simp only[wq.1,seval,e1,e2,hxo];have:=early 0 (by rw[hav,if_pos (.inr (by simpa using e2))]) [];rw[zqp]at this;exact this
 |false =>
 have n1':¬(Q=0\/qF P=Q):=by
  simp only[beq_eq_false_iff_ne,ne_eq]at e1 e2;rintro(h|h)
  ·exact e1 h
  ·exact e2 h
 rw[if_neg n1']at hav;cases e3:Q==1 with
 |true=>refine vn ?_;simp only[wq.1,seval,e1,e2,e3,hxo];have:=early P (by rw[hav,if_pos (.inl (by simpa using e3))]) [];rw[zqp]at this;exact this
 |false =>
 cases e4:P==Q with
 |true=>refine vn ?_;simp only[wq.1,seval,e1,e2,e3,e4,hxo];have:=early P (by rw[hav,if_pos (.inr (by simpa using e4))]) [];rw[zqp]at this;exact this
 |false =>
 have n2':¬(Q=1\/P=Q):=by
  simp only[beq_eq_false_iff_ne,ne_eq]at e3 e4;rintro(h|h)
  ·exact e3 h
  ·exact e4 h
 rw[if_neg n2']at hav;have lt:∀ {i:Nat} {o:O},h[i]? =some o->i<h.length:=fun hi=>(zqe hi).1;have lb:=lt hb;have la:=lt ha;have lj:=lt hj;have lm:=lt hm;have ap:∀ {i:Nat} {o:O} (X:H),h[i]? =some o->(h++X)[i]? =some o:=fun X hi=>by rw[zqj (lt hi)];exact hi
 have hbX:=ap [.cells [vi P,vi Q]] hb;have haX:=ap [.cells [vi P,vi Q]] ha;have hjX:=ap [.cells [vi P,vi Q]] hj;have hmX:=ap [.cells [vi P,vi Q]] hm;have hfi:=uj (P,Q) A;refine vn ?_;simp only[wq.1,seval,e1,e2,e3,e4,hxo];refine vn ?_;simp only[wq.1,seval,gE0,gS0];cases hfx:A.findIdx? (·==(P,Q))with
 |some i=>rw[hfx]at hav hfi;have hi:i<A.length:=(List.findIdx?_eq_some_iff_getElem.1 hfx).1;refine vn ?_;simp only[wq.1,seval,gE0,hbX,hmX,qp,hfi,K.keyOk,Tc hi];refine⟨by decide +kernel,?_⟩;exact early _ hav [.cells [vi P,vi Q]]
 |none =>
  rw[hfx]at hav hfi;have hge:=fun(h':H)(h1:h'[J]? =some (.cells (ini.map vi)))(h2:h'[a]? =some (.cells (fl A)))=>(aH.agg (aj.cons (aH.dat rfl) (aj.cons (aH.dat Wj) (aj.cons (dw h1 rfl) (aj.cons (l7 h2 rfl) (aj.cons aH.nils aj.nil))))):aH TE h' (.agg [vi n1,ay nx,.ls J 1 0 ini.length ini.length,.ls a 2 0 A.length A.length,.nils]) (Gr.v ⟨n1,nx,ini,A,[]⟩));have hfst:=jT ⟨n1,nx,ini,A,[]⟩ (by show _<=n1;omega) (by show n1<=_;omega) (by show nx.length<=_;omega);have hfe:Gr.first ⟨n1,nx,ini,A,[]⟩=f0:=hf.symm
  rw[hfe]at hfst;have w1:IntKind.i64.wrap (f0+(A.length:Int))=f0+A.length:=aU (by omega) (by omega);have w2:IntKind.i64.wrap (2*(f0+(A.length:Int)))=2*(f0+A.length):=aU (by omega) (by omega);refine vn ?_;simp only[wq.1,seval,gE0,hbX,hmX,qp,hfi,K.keyOk];refine⟨by decide +kernel,?_⟩;refine ak (bM dV Jq (fun f' h'=>f'.t 0= .lp b 0/\f'.t 7= .lp h.length 0/\f'.t 10=vi (2*(f0+A.length))/\f'.d=[]/\(∀j,f'.k j=false)/\h'=h++[.cells [vi P,vi Q]]) (by decide +kernel) (by decide +kernel) ?_ ?_)
  ·simp only[wq.1,seval,Jq,hbX]
   repeat' apply zsa
   all_goals
    refine ag.lend hfst (aj.cons (hge _ hjX haX) aj.nil) rfl ?_;simp only[wq.1,seval,hbX,w1,w2]
  ·rintro f h' ⟨k0,k7,k10,hd,hk,rfl⟩;show awp _ _ _ _ _ _ _;have hne0:(h.length==a)=false:=by simp;omega
   have hma:m≠a:=fun e=>by rw[e,ha]at hm;cases hm
   have hba':(b==a)=false:=by simpa using hba
   have hbD:∀(Y:H)(X:O),((h.map (O.drop (fun x=>x==a))++Y).set a X)[b]? =some (.cells [vi n1,ay nx,.ls J 1 0 ini.length ini.length,.any,.nils,.lm m,.ls c 1 0 lc lc]):=fun Y X=>by rw[zqn (Ne.symm hba),zqj (by simpa using lb),zqo,hb];simp only[wq.1,↓reduceIte,O.drop,V.drops,V.drop,show(J==a)=false by simpa using hJa,show(c==a)=false by simpa using hca,show(m==a)=false by simpa using hma]
   refine ak (bM dV Jr (fun f' h'=>f'.t 0= .lp b 0/\f'.t 7= .lp h.length 0/\f'.t 10=vi (2*(f0+A.length))/\f'.d=[]/\(∀j,f'.k j=true->j=a)/\h'=((h.set b (bo n1 nx J ini.length a (A.length+1) .nils m c lc)).set a (.cells (fl (A++[(P,Q)]))))++[.cells [vi P,vi Q]]) (by decide +kernel) (by decide +kernel) ?_ ?_)
   ·simp only[wq.1,seval,Jr,gE0,hbX,haX,k0,k7,k10,hd,hne0,hba']
    repeat' apply zsa
    all_goals first
     |rfl
     |decide
     |exact AP A
     |omega
     |(show _<=_;omega)
     |skip
    all_goals
     rw[hbD];refine⟨by simp,fun j hj=> ?_,?_⟩
     ·rw[hk j,Bool.false_or,beq_iff_eq]at hj;exact hj
     ·have e1:V.drops (fun x=>x==a) (fl A)++V.drops (fun x=>x==a) (List.flatMap V.vc [V.agg [vi P,vi Q]])=fl (A++[(P,Q)]):=by rw[y9];show fl A++[vi P,vi Q]=fl (A++[(P,Q)]);simp only[fl,List.flatMap_append,List.flatMap_cons,List.flatMap_nil,zqp]
      rw[e1,List.set_append_left _ _ (by simpa using la),List.set_append_left _ _ (by simpa using lb),List.set_comm _ _ (Ne.symm hba),wZ hdr];rfl
   ·rintro f h' ⟨k0,k7,k10,hd,hk,rfl⟩;show awp _ _ _ _ _ _ _;obtain⟨A',hA'⟩:∃A',A'=A++[(P,Q)]:=⟨_,rfl⟩;have lA':A'.length=A.length+1:=by rw[hA'];simp
    rw[<-hA']at hav ⊢;have j1:((h.set b (bo n1 nx J ini.length a (A.length+1) .nils m c lc)).set a (.cells (fl A'))++[.cells [vi P,vi Q]])[b]? =some (bo n1 nx J ini.length a (A.length+1) .nils m c lc):=by
     rw[zqj (by simpa using lb),zqn (Ne.symm hba),zqt lb]
    have hmb:m≠b:=fun e=>by rw[e,hb]at hm;cases hm
    have j2:((h.set b (bo n1 nx J ini.length a (A.length+1) .nils m c lc)).set a (.cells (fl A'))++[.cells [vi P,vi Q]])[m]? =some (.map (A.map prV) (H5 f0 A.length)):=by rw[zqj (by simpa using lm),zqn (Ne.symm hma),zqn (Ne.symm hmb)];exact hm
    have j3:((h.set b (bo n1 nx J ini.length a (A.length+1) .nils m c lc)).set a (.cells (fl A'))++[.cells [vi P,vi Q]])[h.length]? =some (.cells [vi P,vi Q]):=by rw[show h.length=((h.set b (bo n1 nx J ini.length a (A.length+1) .nils m c lc)).set a (.cells (fl A'))).length by simp,zsb (zrb _),Nat.sub_self];rfl
    refine ak (bM dV Js (fun f' h'=>f'.t 10=vi (2*(f0+A.length))/\f'.d=[]/\(∀j,f'.k j=true->j=a)/\h'=((h.set b (bo n1 nx J ini.length a (A.length+1) .nils m c lc)).set a (.cells (fl A'))).set m (.map (A'.map prV) (H5 f0 A'.length))++[.cells [vi P,vi Q]]) (by decide +kernel) (by decide +kernel) ?_ ?_)
    ·simp only[wq.1,seval,Js,k0,k7,k10,hd,j1,j2,j3,Iw,hfi,K.keyOk]
     repeat' apply zsa
     all_goals first
      |exact hk
      | (rw [List.set_append_left _ _ (by simpa using lm), hA', zqa, zrk, Py, zql]
         rfl)
    ·rintro f h' ⟨k10,hd,hk,rfl⟩;show awp _ _ _ _ _ _ _;refine vm ?_;simp only[wq.1,seval,k10,hd];have:=hr [.cells [vi P,vi Q]];rw[hav]at this;simp only[lA']at this ⊢;exact⟨fun i hi=>by simpa using hk i hi,this⟩
def dZ(C:Cl)(a:Int):Int:=if a%2=1 then qF (C.getD (a/2).toNat 0)else C.getD (a/2).toNat 0
theorem nP{c:Nat}{nx ini ands outs there:V}{C:Cl}(h0:0<=a)(h1:a/2<C.length)(h2:a<=1000000000)(hC:∀x∈C,0<=x/\x<=1000000)
 (hb:h[b]? =some (.cells [vi n1,nx,ini,ands,outs,there,.ls c 1 0 C.length C.length])) (hc:h[c]? =some (.cells (C.map vi))) {R:AEnd->H->(Nat->Bool)->Prop} (hr:R (.ret (vi (dZ C a))) h (fun _=>false)):ag TE 52 [.lp b 0,vi a] h R:=by
 obtain⟨k,hk⟩:∃k:Nat,a/2=k:=⟨(a/2).toNat,by omega⟩;have hkl:k<C.length:=by omega
 have hg:(C.map vi).getD k .any=vi C[k]:=wU hkl _;have hx:=hC _ (zqu hkl);have hcv:dZ C a=if a%2=1 then qF C[k]else C[k]:=by unfold dZ;rw[hk,zsg,aS hkl]
 have hlen:(C.map vi).length=C.length:=zra ..;refine ah Tryz.func52 rfl (by simp[nts]) (vm ?_);rcases Int.emod_two_eq a with hm|hm
 ·simp only[wq.1,seval,Tryz.results52,Vs,We h0 h2,hk,hb,hc,hg,hm,Nat.mul_one,S9 hx.1 (show C[k]<=1000000000 by omega)];rw[hcv,hm,if_neg (by decide)]at hr;exact⟨⟨by omega,by omega⟩,by omega,hr⟩
 ·simp only[wq.1,seval,Tryz.results52,Vs,We h0 h2,hk,hb,hc,hg,hm,Nat.mul_one,pY hx.1 (show C[k]<=1000000000 by omega)];rw[hcv,hm,if_pos rfl]at hr;exact⟨⟨by omega,by omega⟩,by omega,hr⟩
theorem Fz(hcd:kz h){b c:Nat}{n1:Int}{nx ini ands outs there:V}{C l:Cl}(hll:l.length<=4000)(hl:∀a∈l,0<=a/\a/2<C.length/\a<=1000000000)(hC:∀x∈C,0<=x/\x<=1000000)
 (hb:h[b]? =some (.cells [vi n1,nx,ini,ands,outs,there,.ls c 1 0 C.length C.length])) (hc:h[c]? =some (.cells (C.map vi))) {R:AEnd->H->(Nat->Bool)->Prop}
 (hr:R (.ret (.ls h.length 1 0 l.length l.length)) (h++[.cells ((l.map (dZ C)).map vi)]) (fun _=>false)):ag TE 86 [.lp b 0,ay l] h R:=by
 have hM:=mLx;have lt:∀ {i:Nat} {o:O},h[i]? =some o->i<h.length:=fun hi=>(zqe hi).1;have ap:∀ {i:Nat} {o:O} (X:H),h[i]? =some o->(h++X)[i]? =some o:=fun X hi=>by rw[zqj (lt hi)];exact hi
 have lb:=lt hb;have hbn:(b==h.length)=false:=by simp;omega
 refine ag.fresh ?_;refine ah Tryz.func86 rfl (by simp [nts]) ?_;refine vn ?_;simp only [wq.1,Nat.reduceLT,Tryz.results86];refine vn ?_;simp only [wq.1,Nat.reduceLT];refine kN 5 1 (rfl) ?_;refine vm ?_;simp only [wq.1,seval];refine aC (fun m f h' => ∃ (i : Nat) (cs : List V),m + i = l.length /\ f.t 5 = .ls h.length 1 0 i i /\ f.t 6 = .fn (.func 52) [.lp b 0] [] /\ f.t 11 = ay l /\ f.t 12 = vi l.length /\ f.t 13 = vi i /\ f.d = [] /\ (∀ j,j < h.length -> f.k j = false) /\ cs = ((l.take i).map (dZ C)).map vi /\ h' = h ++ [.cells cs]) l.length
  ⟨0,[],by simp,rfl,rfl,rfl,rfl,rfl,rfl,fun j hj=>rfl,rfl,rfl⟩ ?_
 rintro m f h' ⟨i,cs,hm,h5,h6,h11,h12,h13,hd,hk,hcs,rfl⟩;have hcl:i<=l.length->cs.length=i:=fun hi=>by rw[hcs,zra,zra,zrl];omega
 have hdc:∀p,V.drops p cs=cs:=fun p=>by rw[hcs];exact aI _
 have hcm:=hcd.one (j:=h.length) (by omega);refine vm ?_;simp only[wq.1,seval,h12,h13];refine vcB.mk (fun hlt=> ?_) (fun hlt=> ?_)
 ·simp only[zqb,zqi]at hlt;obtain⟨o1,o2,o3⟩:=hl _ (zqu hlt);have hg:=wU hlt V.any;have hw:=aA (show i<maxLen by omega);have hcl':=hcl (by omega);simp only[wq.1,seval,h5,h6,h11,h13,hg];refine⟨⟨by omega,by omega⟩,?_⟩;refine nP o1 o2 o3 hC (ap _ hb) (ap _ hc) ?_;simp only[wq.1,↓reduceIte,Nat.reduceEqDiff,Nat.reduceLT,reduceCtorEq,Nat.reduceMul,h13,hd,hw,gE0,gS0,hdc,hcm];refine⟨⟨rfl,by decide⟩,⟨by omega,by omega,by omega⟩,.inl ⟨m-1,by omega,i+1,_,by omega,rfl,by simp only[wq.1,seval,aG,Tryz.results86,h6,hbn],by simp only[wq.1,seval,aG,Tryz.results86,h11],by simp only[wq.1,seval,aG,Tryz.results86,h12],rfl,hd,fun j hj=> ?_,?_,rfl⟩⟩
  ·simp only[wq.1,hk j hj];simp;omega
  ·rw[hcs,show l.take (i+1)=l.take i++[l[i]] by rw[zrg,zqk hlt];rfl,zql,zql];rfl
 ·simp only[zqd,zqi]at hlt;have hi:i=l.length:=by omega
  subst hi;simp only[wq.1,seval,h5,hd];rw[zrx]at hcs;rw[hcs];exact⟨hk,hr⟩
def Uu:Plan:=tkZ [0,1,2,3,6,7]<| .alt 4 (.alt 5 (.one 8<| .one 9<|tkZ [10,11,12]<| .one 13<|tkZ [14,15,16]<| .one 17<| .fin) (.one 8 (.one 5<| .one 9<|tkZ [10,11,12]<| .one 13<|tkZ [14,15,16]<| .one 17<| .fin))) (.one 8 (onZ [4,5,9]<|tkZ [10,11,12]<| .one 13<|tkZ [14,15,16]<| .one 17<| .fin))
theorem vI(hc:kz h){cs:List V}(hd:∀p,V.drops p cs=cs):kz (h++[.cells cs]):=fun p hp=>by rw[zql,hc p (fun i hi=>hp i (by simp;omega))];show h++[O.cells (V.drops p cs)]=_;rw[hd]
theorem AU(hcd:kz h){b c J a m:Nat}{n1:Int}{nx:Cl}{k la:Nat}{x:Gr}{outs:V}{C:Cl}(hn:x.next.length<=4000)(hol:x.outs.length<=4000)
 (hl:∀a∈x.next,0<=a/\a/2<C.length/\a<=1000000000) (hl2:∀a∈x.outs,0<=a/\a/2<C.length/\a<=1000000000) (hC:∀x∈C,0<=x/\x<=1000000)
 (hb:h[b]? =some (.cells [vi n1,ay nx,.ls J 1 0 k k,.ls a 2 0 la la,outs,.lm m,.ls c 1 0 C.length C.length])) (hc:h[c]? =some (.cells (C.map vi)))
 {R:AEnd->H->(Nat->Bool)->Prop}
 (hr : ∀ X Y,R (.ret (.agg [vi n1,.ls (h.length + 2) 1 0 x.next.length x.next.length,.ls J 1 0 k k,.ls a 2 0 la la,.ls (h.length + 3) 1 0 x.outs.length x.outs.length]))
  (h.set b (.cells [vi n1,.ls (h.length+2) 1 0 x.next.length x.next.length,.ls J 1 0 k k,.ls a 2 0 la la,.ls (h.length+3) 1 0 x.outs.length x.outs.length,.lm m,.ls c 1 0 C.length C.length])++[X,Y,.cells ((x.next.map (dZ C)).map vi),.cells ((x.outs.map (dZ C)).map vi)]) (fun _=>false)) :
 ag TE 53 [.lp b 0,x.v] h R:=by
 have hM:=mLx;have lt:∀ {i:Nat} {o:O},h[i]? =some o->i<h.length:=fun hi=>(zqe hi).1;have ap:∀ {i:Nat} {o:O} (X:H),h[i]? =some o->(h++X)[i]? =some o:=fun X hi=>by rw[zqj (lt hi)];exact hi
 have lb:=lt hb;unfold Gr.v;refine ag.fresh ?_;refine ah Tryz.func53 rfl (by simp[nts]) ?_;refine vn ?_;simp only[wq.1,Nat.reduceLT,Tryz.results53,zqc];have c1:kz (h++[.cells [vi x.ins,ay x.next,ay x.init,prs x.ands,ay x.outs],.cells [vi 0,.nils,.nils,.nils,.nils]]):=by
  have:=vI (vI hcd (cs:=[vi x.ins,ay x.next,ay x.init,prs x.ands,ay x.outs]) (fun p=>by simp only[wq.1,V.drops,V.drop])) (cs:=[vi 0,.nils,.nils,.nils,.nils]) (fun p=>by simp only[wq.1,V.drops,V.drop])
  rwa [zqc]at this
 have c2:kz (h++[.cells [vi x.ins,ay x.next,ay x.init,prs x.ands,ay x.outs],.cells [vi 0,.nils,.nils,.nils,.nils],.cells ((x.next.map (dZ C)).map vi)]):=by
  have:=vI c1 (cs:=(x.next.map (dZ C)).map vi) (fun p=>aI _)
  rwa [zqc]at this
 have hbS:∀(Z:O)(X:H),(h.set b Z++X)[b]? =some Z:=fun Z X=>by rw[zqj (by simpa using lb),zqt lb]
 have hsA:∀(Z:O)(X:H),(h++X).set b Z=h.set b Z++X:=fun Z X=>List.set_append_left _ _ lb;have hsB:∀(Z Y:O)(X:H),(h.set b Z++X).set b Y=h.set b Y++X:=fun Z Y X=>by rw[List.set_append_left _ _ (by simpa using lb),List.set_set]
 refine ak (bM dV Uu (fun f' h'=>f'.t 0= .lp b 0/\f'.t 4= .lp (h.length+1) 0/\f'.d=[]/\(∀j,j<h.length->f'.k j=false)/\h'=h.set b (.cells [vi n1,.ls (h.length+2) 1 0 x.next.length x.next.length,.ls J 1 0 k k,.ls a 2 0 la la,.ls (h.length+3) 1 0 x.outs.length x.outs.length,.lm m,.ls c 1 0 C.length C.length])++[.cells [vi x.ins,ay x.next,ay x.init,prs x.ands,ay x.outs],.cells [vi 0,.nils,.nils,.nils,.nils],.cells ((x.next.map (dZ C)).map vi),.cells ((x.outs.map (dZ C)).map vi)]) (by decide +kernel) (by decide +kernel) ?_ ?_)
 ·simp only[wq.1,seval,Uu,gE0]
  repeat' apply zsa
  all_goals
   refine Fz c1 hn hl hC (ap _ hb) (ap _ hc) ?_;simp only[wq.1,seval,gE0,zqc]
   repeat' apply zsa
  all_goals
   refine Fz c2 hol hl2 hC (ap _ hb) (ap _ hc) ?_;simp only[wq.1,seval,zqc,ap _ hb,hsA,hsB,hbS]
 ·rintro f h' ⟨k0,k4,hd,hk,rfl⟩;show awp _ _ _ _ _ _ _;have hgL:∀(Z:O)(X:H)(i:Nat),(h.set b Z++X)[h.length+i]? =X[i]? :=fun Z X i=>by
   rw[show h.length+i=(h.set b Z).length+i by simp];exact gE
  have hsL:∀(Z:O)(X:H)(i:Nat)(y:O),(h.set b Z++X).set (h.length+i) y=h.set b Z++X.set i y:=fun Z X i y=>by rw[show h.length+i=(h.set b Z).length+i by simp];exact gS
  refine vm ?_;simp only[wq.1,seval,k0,k4,hd,hbS,hgL,hsL];exact⟨hk,hr _ _⟩
theorem Pz{i:Nat}(h:i<l.length)(d:V):(l.map prV).getD i d=prV l[i]:=iM h d
theorem H6(l:List Pq):Ev TE 112 [prs l] (.fn (.func 128) [] [.ip (prs l)]):=by refine aF Tryz.func112 rfl (by simp[nts]) (vm ?_);simp only[wq.1,seval,Tryz.results112];refine aH.fn aj.nil (aj.cons (aH.lp rfl (aj.dat rfl) rfl rfl (by simp[V.vc]) rfl) aj.nil)
def wL(l:List Pq)(n:Nat):List (List V):=(List.range n).map fun j=>[vi ((l.length-1-j:Nat):Int),prV (l.getD (l.length-1-j) (0,0))]
theorem C9(l:List Pq)(hl:l.length<=1000000):Yp TE 128 [] [.ip (prs l)] (wL l l.length):=by
 have hM:=mLx;intro id h I Stop h0 step;have w0:IntKind.i64.wrap ((l.length:Int)-1)=(l.length:Int)-1:=aU (by omega) (by omega);have hbl:(wL l l.length).length=l.length:=by simp[wL]
 refine ah Tryz.func128 rfl (by simp[nts]) (vm ?_);simp only[wq.1,seval,Tryz.results128,w0];refine aC (fun m f h=>∃i,m+i=l.length/\f.t 0= .yd id/\f.t 1= .ip (prs l)/\f.t 3=vi ((l.length:Int)-1-i)/\f.d=[]/\f.k id=false/\I i h f.k) l.length ⟨0,by simp,rfl,rfl,by simp only[wq.1,↓reduceIte];simp,rfl,rfl,h0⟩ ?_;rintro m f h ⟨i,hm,h0,h1,h3,hd,hk,hI⟩;refine vm ?_;simp only[wq.1,seval,h3];refine vcB.mk (fun hc=> ?_) (fun hc=> ?_)
 ·have hc:i<l.length:=by simp only[zqb]at hc;omega
  obtain⟨p,hp⟩:∃p:Nat,p=l.length-1-i:=⟨_,rfl⟩;have hpl:p<l.length:=by omega
  have e:(l.length:Int)-1-i=(p:Int):=by omega
  have w2:IntKind.i64.wrap ((p:Int)-1)=(l.length:Int)-1-((i+1:Nat):Int):=by rw[aU (by omega) (by omega)];omega
  have hz:i<(wL l l.length).length:=by omega
  have hg:=step i h f.k hz hk hI;have he:(wL l l.length)[i]=[vi (p:Int),prV l[p]]:=by simp only[wL,List.getElem_map,List.getElem_range];rw[<-hp,aS hpl]
  rw[he]at hg;obtain⟨t,n',ps,asg,body,pend,hL,hsz,hps,hw⟩:=hg;rw[e]at h3;simp only[wq.1,seval,h0,h1,h3,Pz hpl,hL];refine⟨⟨by omega,by omega⟩,⟨by simpa using hsz,hps⟩,pI hw ?_⟩;intro j h' p' hp' hS;refine⟨by simp[Eb,hd],?_⟩;cases j with
  |none=>simp only[wq.1,seval,h3,Option.isNone_none,w2];refine .inl ⟨m-1,by omega,i+1,by omega,by simp only[wq.1,seval,h0,hp'],by simp only[wq.1,seval,h1],rfl,hd,by simp only[wq.1,hk,hp'],by simp only[wq.1];exact hS⟩
  |some c=>simp only[wq.1,seval,hd,hp',Option.isNone_some];exact⟨by simp[hk],.inr ⟨c,hS⟩⟩
 ·have hi:i=l.length:=by simp only[zqd]at hc;omega
  subst hi;simp only[wq.1,hd];refine⟨hk,.inl ?_⟩;rw[hbl];exact hI
variable{g:Gr}
theorem ul{r:Nat}
 (hr:R (.ret (.fn (.func 111) [] [.lp h.length 0,.lp (h.length+1) 0])) (h++[.cells [vi g.ins,ay g.next,ay g.init,prs g.ands,ay g.outs],.cells [.ls r 1 0 n n]]) (fun _=>false)):ag TE 87 [g.v,.ls r 1 0 n n] h R:=by
 unfold Gr.v;refine ah Tryz.func87 rfl (by simp[nts]) (vm ?_);simp only[wq.1,seval,Tryz.results87,zqc];exact hr
def wG(v:List Bool)(l:Int):List Bool:=v.set (l/2).toNat true
variable{v:List Bool}
theorem oO{l:Int}:(wG v l).length=v.length:=by simp[wG]
def Jt(g:Gr)(v:List Bool)(n:Nat):List Bool:=((g.next++g.outs).take n).foldl wG v
def Ad(g:Gr)(v:List Bool):Nat->List Bool
 |0=>v
 | k + 1 => let u := Ad g v k
  let p:=g.ands.getD (g.ands.length-1-k) (0,0)
  if u.getD (g.first+((g.ands.length-1-k:Nat):Int)).toNat false then wG (wG u p.1) p.2 else u
theorem Ju:(Jt g v n).length=v.length:=by
 unfold Jt
 induction (g.next++g.outs).take n generalizing v with
 |nil=>rfl
 |cons a l ih=>rw[List.foldl_cons,ih,oO]
theorem xg{g:Gr}{v:List Bool}:∀ {k:Nat},(Ad g v k).length=v.length
 |0=>rfl
 |k+1=>by
  unfold Ad;dsimp only;split
  ·rw[oO,oO,xg]
  ·exact xg
structure HV(g:Gr)(k1 k2 rr n N:Nat)(P:List Bool->H->Prop):Prop where
 gr:∀v X,P v X->X[k1]? =some (.cells [vi g.ins,ay g.next,ay g.init,prs g.ands,ay g.outs])
 cl:∀v X,P v X->X[k2]? =some (.cells [.ls rr 1 0 n n])
 rw_:∀v X,P v X->X[rr]? =some (.cells (v.map V.bool))
 len:∀v X,P v X->X.length=N
 vlen:∀v X,P v X->v.length=n
def PD:Plan:= .take 3<| .alt 0 (onZ [1,2,4]<| .take 5<| .one 6<| .take 7<| .take 9<| .alt 8 (onZ [10,11,12]<| .take 13<| .take 15<| .alt 14 (onZ [16,17,18,19,20]<| .fin) (.one 16 (onZ [14,17,18,19,20]<| .fin))) (.one 10 (onZ [8,11,12]<| .take 13<| .take 15<| .alt 14 (onZ [16,17,18,19,20]<| .fin) (.one 16 (onZ [14,17,18,19,20]<| .fin))))) (.one 1 (.alt 0 (.one 2<| .one 4<| .take 5<| .one 6<| .take 7<| .take 9<| .alt 8 (onZ [10,11,12]<| .take 13<| .take 15<| .alt 14 (onZ [16,17,18,19,20]<| .fin) (.one 16 (onZ [14,17,18,19,20]<| .fin))) (.one 10 (onZ [8,11,12]<| .take 13<| .take 15<| .alt 14 (onZ [16,17,18,19,20]<| .fin) (.one 16 (onZ [14,17,18,19,20]<| .fin))))) (.one 2 (.alt 0 (.one 4<| .take 5<| .one 6<| .take 7<| .take 9<| .alt 8 (onZ [10,11,12]<| .take 13<| .take 15<| .alt 14 (onZ [16,17,18,19,20]<| .fin) (.one 16 (onZ [14,17,18,19,20]<| .fin))) (.one 10 (onZ [8,11,12]<| .take 13<| .take 15<| .alt 14 (onZ [16,17,18,19,20]<| .fin) (.one 16 (onZ [14,17,18,19,20]<| .fin))))) (.one 4 (.one 0<| .take 5<| .one 6<| .take 7<| .take 9<| .alt 8 (onZ [10,11,12]<| .take 13<| .take 15<| .alt 14 (onZ [16,17,18,19,20]<| .fin) (.one 16 (onZ [14,17,18,19,20]<| .fin))) (.one 10 (onZ [8,11,12]<| .take 13<| .take 15<| .alt 14 (onZ [16,17,18,19,20]<| .fin) (.one 16 (onZ [14,17,18,19,20]<| .fin))))))))))
theorem qX(hg:g.chk=0){id k1 k2 rr n N:Nat}{P:List Bool->H->Prop}(hn:(n:Int)=g.first+g.ands.length)(hv:HV g k1 k2 rr n N P)(hid:id<N)
 (hy:∀(v:List Bool)(X Y:H)(lit:Int),P v X->0<=lit->lit/2<n->WI TE id [vi lit] (X++Y) fun j h'' p=>j=none/\(∀i,p i=false)/\∃X',h''=X'++Y/\P (wG v lit) X')
 {v0:List Bool} {X0:H} (h0:P v0 X0):ag TE 111 [.yd id,.lp k1 0,.lp k2 0] X0 fun ae h' p=>(∀i,i<N->p i=false)/\(∃w,ae= .ret w)/\∃X Y,h'=X++Y/\P (Ad g (Jt g v0 (g.next++g.outs).length) g.ands.length) X:=by
 have hM:=mLx;obtain⟨_,i0,i1,i2,i3,i4,i5⟩:=aW hg;obtain⟨r1,r2,r3,r4⟩:=aN i4;have wf:g.first=1+g.ins+g.next.length:=rfl
 have wa:g.all=2*(g.first+g.ands.length):=rfl;have x1:=hv.gr _ _ h0;have lN:=hv.len _ _ h0;have lt:∀ {X:H} {i:Nat} {o:O},X[i]? =some o->i<X.length:=fun hi=>(zqe hi).1;have ap:∀ {X:H} {i:Nat} {o:O} (Y:H),X[i]? =some o->(X++Y)[i]? =some o:=fun Y hi=>by rw[zqj (lt hi)];exact hi
 have gN:∀ {X:H},X.length=N->∀(Y:H)(k:Nat),(X++Y)[N+k]? =Y[k]? :=fun {X} hX Y k=>by rw[<-hX];exact gE
 have gN0:∀ {X:H},X.length=N->∀(Y:H),(X++Y)[N]? =Y[0]? :=fun {X} hX Y=>by rw[<-hX];exact gE0
 have sN:∀ {A:H},A.length=N->∀(Z:H)(k:Nat)(y:O),(A++Z).set (N+k) y=A++Z.set k y:=fun {A} hA Z k y=>by rw[<-hA];exact gS
 obtain⟨lits,hlits⟩:∃lits,lits=g.next++g.outs:=⟨_,rfl⟩
 have hlok:∀a∈lits,0<=a/\a/2<n:=fun a ha=>by
  rw[hlits]at ha;rcases zrf.1 ha with ha|ha
  ·have:=r3 a ha;omega
  ·have:=r4 a ha;omega
 have hll:lits.length=g.next.length+g.outs.length:=by rw[hlits,zqa]
 have hcat:EvF TE 56 [.is true 1 [ay g.next,ay g.outs]] 1 lits.length (lits.map vi):=by
  have:=ww [g.next,g.outs] (by simp;omega) (by simp)
  rwa [show [g.next,g.outs].flatten=lits by rw[hlits];simp]at this
 refine ah Tryz.func111 rfl (by simp[nts]) ?_;refine vn ?_;simp only[wq.1,Nat.reduceLT,Tryz.results111,lN];refine ak (ak (dh (Q:=fun xe f h=>xe= .normal/\f.t 1= .lp k1 0/\f.t 2= .lp k2 0/\f.t 3= .lp N 0/\f.t 13= .ls (N+1) 1 0 lits.length lits.length/\f.t 14=vi lits.length/\f.t 15=vi 0/\f.d=[]/\(∀j,f.k j=false)/\h=X0++[.cells [.yd id],.cells (lits.map vi)]) ?_ ?_))
 ·rintro xe f h ⟨rfl,t1,t2,t3,t13,t14,t15,hd,hk,rfl⟩;show awp _ _ _ _ _ _ _;refine dh (Q:=fun xe f h=>xe= .normal/\f.t 1= .lp k1 0/\f.t 2= .lp k2 0/\f.t 3= .lp N 0/\f.d=[]/\(∀j,j<N->f.k j=false)/\∃X,P (Jt g v0 lits.length) X/\h=X++[.cells [.yd id],.cells (lits.map vi)]) ?_ ?_
  ·rintro xe f h ⟨rfl,t1,t2,t3,hd,hk,X,hX,rfl⟩;show awp _ _ _ _ _ _ _;have lX:=hv.len _ _ hX;have x1:=hv.gr _ _ hX;have lX0:=lX;obtain⟨vS,hvS⟩:∃vS,vS=Jt g v0 lits.length:=⟨_,rfl⟩;rw[<-hvS]at hX;obtain⟨ydb,hydb⟩:∃ydb:O,ydb= .cells [.yd id]:=⟨_,rfl⟩;obtain⟨row,hrow⟩:∃row:O,row= .cells (lits.map vi):=⟨_,rfl⟩;rw[<-hydb,<-hrow];have hlh:(X++[ydb,row]).length=N+2:=by simp[lX]
   refine ak (dh (Q:=fun xe f h=>xe= .normal/\f.t 1= .lp k1 0/\f.t 2= .lp k2 0/\f.t 3= .lp N 0/\f.t 26= .fn (.func 128) [] [.ip (prs g.ands)]/\f.d=[]/\(∀j,j<N->f.k j=false)/\h=X++[ydb,row]) ?_ ?_)
   ·rintro xe f h ⟨rfl,t1,t2,t3,t26,hd,hkf,rfl⟩;show awp _ _ _ _ _ _ _;refine aB ?_;refine NV (n := 50) (q := 128) (first := []) (captured := [.ip (prs g.ands)]) (by simp only [wq.1,t26]) (by simp only [wq.1,t26]) rfl (C9 g.ands (by omega)) (by intro v hv;simp only [wL,zrh] at hv;obtain ⟨p,_,rfl⟩ := hv;rfl) (by decide)
     (fun L i h k=>∃t X Y,P (Ad g vS i) X/\t 1= .lp k1 0/\t 2= .lp k2 0/\t 3= .lp N 0/\(∀j,k j=false)/\h=X++([ydb,row,.misc .dfd,L t .ready]++Y)) ?_ ?_ ?_
    ·intro L;exact⟨f.t,X,[],hX,t1,t2,t3,fun _=>rfl,by simp⟩
    ·rintro L l i h' k hi hdrop hk0 ⟨t,X,Y,hX,t1,t2,t3,hk,rfl⟩;obtain⟨v,hvd⟩:∃v,v=Ad g vS i:=⟨_,rfl⟩;rw[<-hvd]at hX;have lX:=hv.len _ _ hX;have hia:i<g.ands.length:=by simpa [wL]using hi
     obtain⟨p,hp⟩:∃p:Nat,p=g.ands.length-1-i:=⟨_,rfl⟩;have hpl:p<g.ands.length:=by omega
     have he:(wL g.ands g.ands.length)[i]=[vi (p:Int),prV g.ands[p]]:=by simp only[wL,List.getElem_map,List.getElem_range];rw[<-hp,aS hpl]
     rw[he];refine⟨t,(by rw[hlh];exact gN lX _ 3),?_⟩;obtain⟨H1,hH1⟩:∃H1,H1=X++([ydb,row,.misc .dfd,L t .ready]++Y):=⟨_,rfl⟩;obtain⟨M,hM1⟩:∃M,M=H1.length:=⟨_,rfl⟩;have gM0:∀Z:H,(H1++Z)[M]? =Z[0]? :=fun Z=>by rw[hM1];exact gE0
     have sM0:∀(Z:H)(y:O),(H1++Z).set M y=H1++Z.set 0 y:=fun Z y=>by rw[hM1];exact gS0
     rw[<-hH1];refine vm ?_;simp only[wq.1,seval,<-hM1,gM0,sM0];rw[lX0];obtain⟨pb,hpb⟩:∃pb:O,pb= .cells [vi g.ands[p].fst,vi g.ands[p].snd]:=⟨_,rfl⟩;rw[<-hpb];refine⟨rfl,t,by rw[hH1,zqc,gN lX];rfl,?_⟩;obtain⟨W,hW⟩:∃W:H,W=[ydb,row,.misc .dfd,L t .busy]++Y:=⟨_,rfl⟩;have hWl:M=N+W.length:=by rw[hM1,hH1,hW];simp[lX]
     rw[show(H1++[pb]).set (N+3) (L t .busy)=X++(W++[pb]) by rw[hH1,zqc,sN lX,hW];rfl];have gW:∀ {A:H},A.length=N->∀(Z:H),(A++(W++Z))[M]? =Z[0]? :=fun {A} hA Z=>by rw[hWl,gN hA];exact gE0
     have gy:∀ {A:H},A.length=N->∀(Z:H),(A++(W++Z))[N]? =some (.cells [.yd id]):=fun {A} hA Z=>by rw[gN0 hA,hW,hydb];rfl
     have hvl:=hv.vlen _ _ hX;have c2:=hv.cl _ _ hX;have c3:=hv.rw_ _ _ hX;have c1:=hv.gr _ _ hX;have hfst:=jT g (by omega) (by omega) (by omega);have wp:IntKind.i64.wrap (g.first+(p:Int))=g.first+p:=aU (by omega) (by omega)
     obtain⟨o1,o2,o3,o4⟩:=iD i5 hpl;have q1:0<=g.first+(p:Int):=by omega
     have hvn:(g.first+(p:Int)).toNat<v.length:=by rw[hvl];omega
     have key:∀(v:List Bool)(A:H),P v A->∀lit,0<=lit->lit<2*(g.first+(p:Int))->∀Z:H,WI TE id [vi lit] (A++(W++Z)) fun j h'' p=>j=none/\(∀i,p i=false)/\∃X',h''=X'++(W++Z)/\P (wG v lit) X':=fun v A hA lit h1 h2 Z=>hy v A (W++Z) lit hA h1 (by omega);refine aB ?_;refine ak (bM dV PD (fun f' h'=>f'.t 1= .lp k1 0/\f'.t 2= .lp k2 0/\f'.t 3= .lp N 0/\f'.t 49= .bool false/\f'.d=[]/\(∀j,f'.k j=false)/\∃X',P (Ad g vS (i+1)) X'/\h'=X'++(W++[pb])) (by decide +kernel) (by decide +kernel) ?_ ?_)
     ·have hLs:Ad g vS (i+1)=if v.getD (g.first+(p:Int)).toNat false then wG (wG v g.ands[p].1) g.ands[p].2 else v:=by simp only[Ad,<-hp,<-hvd,aS hpl]
      have hgd:∀(b:Bool),v.getD (g.first+(p:Int)).toNat false=b->(v.map V.bool).getD ((g.first+(p:Int)).toNat*1) V.any=V.bool b:=fun b hb=>by rw[<-hb,Nat.mul_one,zqg,zqo,zqk hvn,aS hvn];rfl
      have q2:g.first+(p:Int)<n:=by omega
      have q3:(g.first+(p:Int)).toNat*1+1<=v.length:=by omega
      cases hb:v.getD (g.first+(p:Int)).toNat false
      ·simp only[wq.1,seval,PD,t1,t2,ap _ c1,ap _ c2,hpb]
       repeat' apply zsa
       all_goals
        refine ag.ev hfst (by simp only[V.dats,V.dat,zre]) ?_;simp only[wq.1,seval,t1,t2,t3,ap _ c2,ap _ c3,gW lX,gy lX,wp,hgd _ hb,q1,q2,q3,DW];refine⟨.bool false,.bool false,?_⟩;simp only[wq.1,reduceCtorEq];simp only[hb,zrm,if_false]at hLs;rw[hLs];exact⟨X,hX,rfl⟩
      ·simp only[hb,if_true]at hLs;simp only[wq.1,seval,PD,t1,t2,ap _ c1,ap _ c2,hpb]
       repeat' apply zsa
       all_goals
        refine ag.ev hfst (by simp only[V.dats,V.dat,zre]) ?_;obtain⟨t',n',ps,asg,body,pend,hL,hsz,hps,hwy⟩:=key v X hX g.ands[p].1 o1 o3 [.cells [vi g.ands[p].fst,vi g.ands[p].snd]];simp only[wq.1,seval,t1,t2,t3,ap _ c2,ap _ c3,gW lX,gy lX,wp,hgd _ hb,q1,q2,q3,DW,hL,hps]
       repeat' apply zsa
       all_goals first
        |decide
        |(simpa using hsz)
        |skip
       all_goals
        refine pI hwy ?_;rintro j h'' q hq ⟨rfl,hqf,X',rfl,hX'⟩;have hqf':q=fun _=>false:=funext hqf;subst hqf';refine⟨fun i _=>rfl,?_⟩;have lX':=hv.len _ _ hX';obtain⟨t'',n'',ps',asg',body',pend',hL',hsz',hps',hwy'⟩:=key _ X' hX' g.ands[p].2 o2 o4 [.cells [vi g.ands[p].fst,vi g.ands[p].snd]];simp only[wq.1,seval,t1,t2,t3,gW lX',gy lX',Option.isNone_none,DW,hL',hps']
       repeat' apply zsa
       all_goals first
        |decide
        |(simpa using hsz')
        |skip
       all_goals
        refine pI hwy' ?_;rintro j h'' q hq ⟨rfl,hqf,X'',rfl,hX''⟩;have hqf':q=fun _=>false:=funext hqf;subst hqf';refine⟨fun i _=>rfl,?_⟩;simp only[wq.1,seval,t1,t2,t3,Option.isNone_none];rw[hLs];exact⟨X'',hX'',rfl⟩
     ·rintro f' h' ⟨u1,u2,u3,u49,ud,uk,X',hX',rfl⟩;show awp _ _ _ _ _ _ _;refine vm ?_;simp only[wq.1,u49];have lX':=hv.len _ _ hX';exact⟨uk _,t,by rw[gN lX',hW];rfl,t,X',Y++[pb],hX',t1,t2,t3,fun j=>by rw[hk,uk];rfl,by rw[sN lX',hW];simp⟩
    ·rintro L h' k hk0 ⟨t,X,Y,hX,t1,t2,t3,hk,rfl⟩;have lX:=hv.len _ _ hX;refine⟨t,(by rw[hlh];exact gN lX _ 3),fun j _=>hk j,?_⟩;simp only[wq.1,Nat.reduceAdd,hd,lX0,sN lX,gN lX];refine⟨fun j hj=>by rw[hkf j hj,hk j];rfl,⟨_,rfl⟩,X,_,rfl,?_⟩;have:(wL g.ands g.ands.length).length=g.ands.length:=by simp[wL]
     rw[this,hvS,hll]at hX;exact hX
   ·refine vm ?_;simp only[wq.1,seval,t1,ap _ x1];refine ag.ev (H6 g.ands) (by simp only[V.dats,V.dat,zre]) ?_;simp only[wq.1,seval,t1,t2,t3,hd];exact hk
  ·refine aB ?_;refine aC (fun m f h => ∃ i,m + i = lits.length /\ f.t 1 = .lp k1 0 /\ f.t 2 = .lp k2 0 /\ f.t 3 = .lp N 0 /\ f.t 13 = .ls (N + 1) 1 0 lits.length lits.length /\ f.t 14 = vi lits.length /\ f.t 15 = vi i /\ f.d = [] /\ (∀ j,f.k j = false) /\ ∃ X,P (Jt g v0 i) X /\ h = X ++ [.cells [.yd id],.cells (lits.map vi)]) lits.length
    ⟨0,by omega,t1,t2,t3,t13,t14,t15,hd,hk,X0,h0,rfl⟩ ?_
   rintro m f h ⟨i,hm,t1,t2,t3,t13,t14,t15,hd,hk,X,hX,rfl⟩;have lX:=hv.len _ _ hX;have hlm:(lits.map vi).length=lits.length:=zra ..;refine vm ?_;simp only[wq.1,seval,t14,t15];refine vcB.mk (fun hlt=> ?_) (fun hlt=> ?_)
   ·simp only[zqb,zqi]at hlt;have hgi:=wU hlt V.any;have hw:=aA (show i<maxLen by omega);obtain⟨o1,o2⟩:=hlok _ (zqu hlt);obtain⟨t,n',ps,asg,body,pend,hL,hsz,hps,hwy⟩:=hy _ X [.cells [.yd id],.cells (lits.map vi)] lits[i] hX o1 o2;simp only[wq.1,seval,t3,t13,t15,gN lX,gN0 lX,hgi,hL,Nat.mul_one];refine⟨⟨by omega,by omega⟩,by omega,⟨by simpa using hsz,hps⟩,pI hwy ?_⟩;rintro j h'' p hp ⟨rfl,hpf,X',rfl,hX'⟩;have hpf':p=fun _=>false:=funext hpf;subst hpf';refine⟨by simp[Eb,hd],?_⟩;simp only[wq.1,seval,t15,hw,Option.isNone_none];refine .inl ⟨m-1,by omega,i+1,by omega,by simp only[wq.1,seval,t1],by simp only[wq.1,seval,t2],by simp only[wq.1,seval,t3],by simp only[wq.1,seval,t13],by simp only[wq.1,seval,t14],rfl,hd,fun j=>by(simp only[wq.1]);simpa using hk j,X',?_,rfl⟩;have:Jt g v0 (i+1)=wG (Jt g v0 i) lits[i]:=by
     unfold Jt;rw[<-hlits,show lits.take (i+1)=lits.take i++[lits[i]] by rw[zrg,zqk hlt];rfl,List.foldl_append];rfl
    rw[this];exact hX'
   ·simp only[zqd,zqi]at hlt;have hi:i=lits.length:=by omega
    subst hi;simp only[wq.1,↓reduceIte,Nat.reduceEqDiff,t1,t2,t3,hd];exact⟨fun j _=>hk j,X,hX,rfl⟩
 ·refine vm ?_;simp only[wq.1,↓reduceIte,Nat.reduceEqDiff,Nat.reduceLT,Nat.reduceLeDiff,Nat.reduceAdd,reduceCtorEq,Nat.reduceMul,ap _ x1];refine⟨⟨rfl,by decide⟩,jG hcat rfl (jH _) ?_⟩;simp only[wq.1,seval,lN,zqc]
def Gr.vars(g:Gr):Nat:=1+g.ins.toNat+g.next.length+g.ands.length
def vJ(g:Gr):List Bool:=Ad g (Jt g (List.replicate g.vars false) (g.next++g.outs).length) g.ands.length
theorem Td:(vJ g).length=g.vars:=by unfold vJ;rw[xg,Ju,zsc]
def Uw:Plan:= .take 2<| .alt 0 (.alt 1 (.alt 3 (.alt 4 (.alt 5 (.alt 6 (.one 7<| .one 8<| .fin) (.one 7 (.one 6<| .one 8<| .fin))) (.one 7 (onZ [5,6,8]<| .fin))) (.one 7 (onZ [4,5,6,8]<| .fin))) (.one 7 (onZ [3,4,5,6,8]<| .fin))) (.alt 3 (.alt 1 (.alt 4 (.alt 5 (.alt 6 (.one 7<| .one 8<| .fin) (.one 7 (.one 6<| .one 8<| .fin))) (.one 7 (onZ [5,6,8]<| .fin))) (.one 7 (onZ [4,5,6,8]<| .fin))) (.alt 4 (.alt 1 (.alt 5 (.alt 6 (.one 7<| .one 8<| .fin) (.one 7 (.one 6<| .one 8<| .fin))) (.one 7 (onZ [5,6,8]<| .fin))) (.one 7 (onZ [1,5,6,8]<| .fin))) (.one 7 (.alt 1 (onZ [4,5,6,8]<| .fin) (.one 4 (onZ [1,5,6,8]<| .fin)))))) (.one 7 (.alt 1 (onZ [3,4,5,6,8]<| .fin) (.one 3 (.alt 1 (onZ [4,5,6,8]<| .fin) (.one 4 (onZ [1,5,6,8]<| .fin)))))))) (.alt 3 (.alt 0 (.alt 1 (.alt 4 (.alt 5 (.alt 6 (.one 7<| .one 8<| .fin) (.one 7 (.one 6<| .one 8<| .fin))) (.one 7 (onZ [5,6,8]<| .fin))) (.one 7 (onZ [4,5,6,8]<| .fin))) (.alt 4 (.alt 1 (.alt 5 (.alt 6 (.one 7<| .one 8<| .fin) (.one 7 (.one 6<| .one 8<| .fin))) (.one 7 (onZ [5,6,8]<| .fin))) (.one 7 (onZ [1,5,6,8]<| .fin))) (.one 7 (.alt 1 (onZ [4,5,6,8]<| .fin) (.one 4 (onZ [1,5,6,8]<| .fin)))))) (.alt 4 (.alt 0 (.alt 1 (.alt 5 (.alt 6 (.one 7<| .one 8<| .fin) (.one 7 (.one 6<| .one 8<| .fin))) (.one 7 (onZ [5,6,8]<| .fin))) (.one 7 (onZ [1,5,6,8]<| .fin))) (.one 7 (onZ [0,1,5,6,8]<| .fin))) (.one 7 (.alt 0 (.alt 1 (onZ [4,5,6,8]<| .fin) (.one 4 (onZ [1,5,6,8]<| .fin))) (.one 4 (onZ [0,1,5,6,8]<| .fin)))))) (.one 7 (.alt 0 (.alt 1 (onZ [3,4,5,6,8]<| .fin) (.one 3 (.alt 1 (onZ [4,5,6,8]<| .fin) (.one 4 (onZ [1,5,6,8]<| .fin))))) (.one 3 (.alt 0 (.alt 1 (onZ [4,5,6,8]<| .fin) (.one 4 (onZ [1,5,6,8]<| .fin))) (.one 4 (onZ [0,1,5,6,8]<| .fin)))))))
theorem VH(hg:g.chk=0):EvF TE 54 [g.v] 1 g.vars ((vJ g).map V.bool):=by
 have hM:=mLx;obtain⟨_,i0,i1,i2,i3,i4,i5⟩:=aW hg;have wf:g.first=1+g.ins+g.next.length:=rfl
 have hfst:=jT g (by omega) (by omega) (by omega);obtain⟨n,hn⟩:∃n,n=g.vars:=⟨_,rfl⟩;have hnv:(n:Int)=g.first+g.ands.length:=by rw[hn];unfold Gr.vars;omega
 have wn:IntKind.i64.wrap (g.first+(g.ands.length:Int))=(n:Int):=by rw[hnv];exact aU (by omega) (by omega)
 unfold EvF;unfold Gr.v at hfst ⊢;rw[<-hn];refine ah Tryz.func54 rfl (by simp[nts]) ?_;refine vn ?_;simp only[wq.1,Nat.reduceLT,Tryz.results54];refine ak (bM dV Uw (fun f' h'=>f'.t 1= .lp 0 0/\f'.d=[]/\(∀j,f'.k j=false)/\((f'.t 3= .lp 2 0/\h'=[.cells [vi g.ins,ay g.next,ay g.init,prs g.ands,ay g.outs],.cells (List.replicate n (V.bool false)),.cells [.ls 1 1 0 n n]])\/(f'.t 3= .lp 1 0/\h'=[.cells [vi g.ins,ay g.next,ay g.init,prs g.ands,ay g.outs],.cells [.ls 2 1 0 n n],.cells (List.replicate n (V.bool false))]))) (by decide +kernel) (by decide +kernel) ?_ ?_)
 ·simp only[wq.1,seval,Uw]
  repeat' apply zsa
  all_goals
   refine ag.ev hfst (by simp only[V.dats,V.dat,zre]) ?_;simp only[wq.1,seval,wn]
  all_goals
   repeat' apply zsa
  all_goals omega
 ·rintro f h' ⟨t1,hd,hk,hcase⟩;show awp _ _ _ _ _ _ _;obtain⟨rr,kc,X0,hX0,t3,rfl,hrk⟩:∃rr kc X0,h'=X0/\f.t 3= .lp kc 0/\X0=(if rr=1 then [.cells [vi g.ins,ay g.next,ay g.init,prs g.ands,ay g.outs],.cells (List.replicate n (V.bool false)),.cells [.ls 1 1 0 n n]]else [.cells [vi g.ins,ay g.next,ay g.init,prs g.ands,ay g.outs],.cells [.ls 2 1 0 n n],.cells (List.replicate n (V.bool false))])/\((rr=1/\kc=2)\/(rr=2/\kc=1)):=by
   rcases hcase with⟨a,b⟩|⟨a,b⟩
   ·exact⟨1,2,h',rfl,a,b,.inl ⟨rfl,rfl⟩⟩
   ·exact⟨2,1,h',rfl,a,b,.inr ⟨rfl,rfl⟩⟩
  clear hcase;subst hX0;rcases hrk with⟨rfl,rfl⟩|⟨rfl,rfl⟩
  ·simp only[if_true];refine vn ?_;simp only[wq.1,seval,t1,t3];refine ul ?_;simp only[wq.1,Nat.reduceAdd];refine uJ (n:=21) (q:=111) (first:=[]) (captured:=[.lp 3 0,.lp 4 0]) (by simp only[wq.1,↓reduceIte]) (by simp only[wq.1,↓reduceIte]) rfl (by decide) ?_;intro L hLd gets;refine ag.mono (qX hg (id:=6) (k1:=3) (k2:=4) (rr:=1) (n:=n) (N:=7) (P:=fun v X=>∃t,t 3= .lp 2 0/\v.length=n/\X=[O.cells [vi g.ins,ay g.next,ay g.init,prs g.ands,ay g.outs],.cells (v.map V.bool),.cells [.ls 1 1 0 n n],O.cells [vi g.ins,ay g.next,ay g.init,prs g.ands,ay g.outs],.cells [.ls 1 1 0 n n],.misc .dfd,L t .ready none]) hnv ⟨?_,?_,?_,?_,?_⟩ (by omega) ?_ (v0:=List.replicate n false) ⟨_,?_,zsc,by rw[List.map_replicate];rfl⟩) ?_
   ·rintro v X ⟨t,ht,hl,rfl⟩;rfl
   ·rintro v X ⟨t,ht,hl,rfl⟩;rfl
   ·rintro v X ⟨t,ht,hl,rfl⟩;rfl
   ·rintro v X ⟨t,ht,hl,rfl⟩;rfl
   ·rintro v X ⟨t,ht,hl,rfl⟩;exact hl
   ·rintro v X Y lit ⟨t,ht,hl,rfl⟩ h0 h1;refine gets _ _ _ t rfl rfl (fun lb=> ?_);refine vm ?_;simp only[wq.1,seval,IK];refine⟨t,rfl,?_⟩;refine vm ?_;have hdv:lit.fdiv (2^min 1 IntKind.i64.bits)=lit/2:=by
     rw[show(2:Int)^min 1 IntKind.i64.bits=2 from rfl];exact Int.fdiv_eq_ediv_of_nonneg _ (by decide)
    have hlt:(lit/2).toNat<v.length:=by rw[hl];omega
    simp only[wq.1,seval,ht,yc,XE.jump,hdv,Nat.mul_one,Option.isNone_none];refine⟨⟨by omega,by omega⟩,by omega,t,_,rfl,[_,_,_,_,_,_,_],rfl,t,ht,by rw[oO,hl],?_⟩;rw[show List.map V.bool (wG v lit)=(v.map V.bool).take (lit/2).toNat++[V.bool true]++(v.map V.bool).drop ((lit/2).toNat+1) by
     unfold wG;rw[List.map_set,List.set_eq_take_append_cons_drop,if_pos (by simpa using hlt),zqc];rfl]
   ·simp only[wq.1,seval,t3]
   ·rintro ae h' p ⟨hp,⟨w,rfl⟩,X,Y,rfl,t,ht,hl,rfl⟩;refine⟨?_,hp 6 (by omega),t,_,none,(by decide),rfl,?_⟩
    ·intro i hi;have hi:i=5:=by simpa [Eb,hd]using hi
     subst hi;exact hp 5 (by omega)
    ·have k0:=hp 0 (by omega);have k1:=hp 1 (by omega);have k2:=hp 2 (by omega);have k3:=hp 3 (by omega);have k5:=hp 5 (by omega);have k6:=hp 6 (by omega);simp only[wq.1,Nat.reduceAdd,D5,hd];refine vm ?_;simp only[wq.1,seval,k2,t3];exact .inr ⟨1,n,rfl,zrb _,by unfold vJ;rw[<-hn,zqa];rfl⟩
  ·simp only[show((2:Nat)=1)=False from by simp,if_false];refine vn ?_;simp only[wq.1,seval,t1,t3];refine ul ?_;simp only[wq.1,Nat.reduceAdd];refine uJ (n:=21) (q:=111) (first:=[]) (captured:=[.lp 3 0,.lp 4 0]) (by simp only[wq.1,↓reduceIte]) (by simp only[wq.1,↓reduceIte]) rfl (by decide) ?_;intro L hLd gets;refine ag.mono (qX hg (id:=6) (k1:=3) (k2:=4) (rr:=2) (n:=n) (N:=7) (P:=fun v X=>∃t,t 3= .lp 1 0/\v.length=n/\X=[O.cells [vi g.ins,ay g.next,ay g.init,prs g.ands,ay g.outs],.cells [.ls 2 1 0 n n],.cells (v.map V.bool),O.cells [vi g.ins,ay g.next,ay g.init,prs g.ands,ay g.outs],.cells [.ls 2 1 0 n n],.misc .dfd,L t .ready none]) hnv ⟨?_,?_,?_,?_,?_⟩ (by omega) ?_ (v0:=List.replicate n false) ⟨_,?_,zsc,by rw[List.map_replicate];rfl⟩) ?_
   ·rintro v X ⟨t,ht,hl,rfl⟩;rfl
   ·rintro v X ⟨t,ht,hl,rfl⟩;rfl
   ·rintro v X ⟨t,ht,hl,rfl⟩;rfl
   ·rintro v X ⟨t,ht,hl,rfl⟩;rfl
   ·rintro v X ⟨t,ht,hl,rfl⟩;exact hl
   ·rintro v X Y lit ⟨t,ht,hl,rfl⟩ h0 h1;refine gets _ _ _ t rfl rfl (fun lb=> ?_);refine vm ?_;simp only[wq.1,seval,IK];refine⟨t,rfl,?_⟩;refine vm ?_;have hdv:lit.fdiv (2^min 1 IntKind.i64.bits)=lit/2:=by
     rw[show(2:Int)^min 1 IntKind.i64.bits=2 from rfl];exact Int.fdiv_eq_ediv_of_nonneg _ (by decide)
    have hlt:(lit/2).toNat<v.length:=by rw[hl];omega
    simp only[wq.1,seval,ht,yc,XE.jump,hdv,Nat.mul_one,Option.isNone_none];refine⟨⟨by omega,by omega⟩,by omega,t,_,rfl,[_,_,_,_,_,_,_],rfl,t,ht,by rw[oO,hl],?_⟩;rw[show List.map V.bool (wG v lit)=(v.map V.bool).take (lit/2).toNat++[V.bool true]++(v.map V.bool).drop ((lit/2).toNat+1) by
     unfold wG;rw[List.map_set,List.set_eq_take_append_cons_drop,if_pos (by simpa using hlt),zqc];rfl]
   ·simp only[wq.1,seval,t3]
   ·rintro ae h' p ⟨hp,⟨w,rfl⟩,X,Y,rfl,t,ht,hl,rfl⟩;refine⟨?_,hp 6 (by omega),t,_,none,(by decide),rfl,?_⟩
    ·intro i hi;have hi:i=5:=by simpa [Eb,hd]using hi
     subst hi;exact hp 5 (by omega)
    ·have k0:=hp 0 (by omega);have k1:=hp 1 (by omega);have k2:=hp 2 (by omega);have k3:=hp 3 (by omega);have k5:=hp 5 (by omega);have k6:=hp 6 (by omega);simp only[wq.1,Nat.reduceAdd,D5,hd];refine vm ?_;simp only[wq.1,seval,k1,t3];exact .inr ⟨2,n,rfl,zrb _,by unfold vJ;rw[<-hn,zqa];rfl⟩
def lQ(f0:Int)(u:Bool)(s:List Pq×Cl)(p:Pq):List Pq×Cl :=
 if u then((jg f0 s.1 (dZ s.2 p.1) (dZ s.2 p.2)).1,s.2++[(jg f0 s.1 (dZ s.2 p.1) (dZ s.2 p.2)).2])else(s.1,s.2++[0])
def cu(g:Gr)(use:Nat->Bool):Nat->List Pq×Cl
 |0=>([],qc g.first.toNat)
 |i+1=>lQ g.first (use i) (cu g use i) (g.ands.getD i (0,0))
def um(g:Gr)(s:List Pq×Cl):Gr:=⟨g.ins,g.next.map (dZ s.2),g.init,s.1,g.outs.map (dZ s.2)⟩
theorem H7{x k:Int}(h0:0<=x)(h1:x<2*k):0<=qF x/\qF x<2*k:=by unfold qF;split<;>omega
theorem jy{C:Cl}{k:Int}(hk:0<k)(hC:∀x∈C,0<=x/\x<2*k):0<=dZ C a/\dZ C a<2*k:=by
 have hg:0<=C.getD (a/2).toNat 0/\C.getD (a/2).toNat 0<2*k:=by
  by_cases hi:(a/2).toNat<C.length
  ·rw[aS hi];exact hC _ (zqu hi)
  ·rw[zqg,zsj (by omega)];exact⟨Int.le_refl _,by simp;omega⟩
 unfold dZ;split
 ·exact H7 hg.1 hg.2
 ·exact hg
theorem qf(hf:0<f0){A:List Pq}{p q:Int}(hp:0<=p/\p<2*(f0+A.length))(hq:0<=q/\q<2*(f0+A.length)) :
 A.length<=(jg f0 A p q).1.length/\(jg f0 A p q).1.length<=A.length+1/\0<=(jg f0 A p q).2/\(jg f0 A p q).2<2*(f0+(jg f0 A p q).1.length):=by
 unfold jg;split
 ·exact⟨zrb _,Nat.le_succ _,Int.le_refl _,by simp only;omega⟩
 ·split
  ·exact⟨zrb _,Nat.le_succ _,by simp only;omega,by simp only;omega⟩
  ·split
   ·rename_i i hi;have hi:i<A.length:=(List.findIdx?_eq_some_iff_getElem.1 hi).1;exact⟨zrb _,Nat.le_succ _,by simp only;omega,by simp only;omega⟩
   ·simp only[zqa,zrk];exact⟨by omega,by omega,by omega,by omega⟩
theorem lI(h:0<=g.ins):0<g.first:=by
 have:g.first=1+g.ins+g.next.length:=rfl
 omega
theorem jC{g:Gr}(h:0<=g.ins)(use:Nat->Bool):∀i,(cu g use i).1.length<=i/\(cu g use i).2.length=g.first.toNat+i/\∀x∈(cu g use i).2,0<=x/\x<2*(g.first+(cu g use i).1.length)
 |0=>by have:=lI h;refine⟨zrb _,by simp[cu,qc],fun x hx=> ?_⟩;simp only[cu,qc,zrh,List.mem_range]at hx;obtain⟨k,hk,rfl⟩:=hx;simp only[cu,List.length_nil];omega
 |i+1=>by
  have hf:=lI h;obtain⟨h1,h2,h3⟩:=jC h use i;show(lQ _ _ _ _).1.length<=_/\(lQ _ _ _ _).2.length=_/\_;show _/\_/\∀x∈(lQ _ _ _ _).2,0<=x/\x<2*(g.first+(lQ _ _ _ _).1.length);generalize cu g use i=s at h1 h2 h3 ⊢;generalize g.ands.getD i (0,0)=p;unfold lQ;split
  ·obtain⟨a1,a2,a3,a4⟩:=qf hf (jy (a:=p.1) (by omega) h3) (jy (a:=p.2) (by omega) h3);refine⟨by simp only;omega,by simp only[zqa,zrk];omega,fun x hx=> ?_⟩;simp only[zrf,zrc]at hx;rcases hx with hx|rfl
   ·have:=h3 x hx;simp only;omega
   ·exact⟨a3,a4⟩
  ·refine⟨by simp only;omega,by simp only[zqa,zrk];omega,fun x hx=> ?_⟩;simp only[zrf,zrc]at hx;rcases hx with hx|rfl
   ·exact h3 x hx
   ·exact⟨Int.le_refl _,by simp only;omega⟩
theorem Dc{p q:Int}(hp:0<=p/\p<2*(f0+A.length))(hq:0<=q/\q<2*(f0+A.length))
 (hA:∀k (hk:k<A.length),0<=A[k].1/\0<=A[k].2/\A[k].1<2*(f0+k)/\A[k].2<2*(f0+k)) :
 ∀k (hk:k<(jg f0 A p q).1.length),0<=(jg f0 A p q).1[k].1/\0<=(jg f0 A p q).1[k].2/\(jg f0 A p q).1[k].1<2*(f0+k)/\(jg f0 A p q).1[k].2<2*(f0+k):=by
 have:(jg f0 A p q).1=A\/(jg f0 A p q).1=A++[(max p q,min p q)]:=by
  unfold jg;split
  ·exact .inl rfl
  ·split
   ·exact .inl rfl
   ·split
    ·exact .inl rfl
    ·exact .inr rfl
 generalize (jg f0 A p q).1=B at this ⊢;rcases this with rfl|rfl
 ·exact hA
 ·intro k hk;by_cases hkl:k<A.length
  ·rw[List.getElem_append_left hkl];exact hA k hkl
  ·have:k=A.length:=by simp at hk;omega
   subst this;rw[List.getElem_append_right (zrb _)];simp only[Nat.sub_self,List.getElem_cons_zero];omega
theorem AV{g:Gr}(h:0<=g.ins)(use:Nat->Bool):∀i k (hk:k<(cu g use i).1.length),0<=(cu g use i).1[k].1/\0<=(cu g use i).1[k].2/\(cu g use i).1[k].1<2*(g.first+k)/\(cu g use i).1[k].2<2*(g.first+k)
 |0=>fun k hk=>by simp[cu]at hk
 |i+1=>by
  have hf:=lI h;obtain⟨h1,h2,h3⟩:=jC h use i;have ih:=AV h use i;show ∀k (hk:k<(lQ g.first (use i) (cu g use i) (g.ands.getD i (0,0))).1.length),0<=(lQ g.first (use i) (cu g use i) (g.ands.getD i (0,0))).1[k].1/\0<=(lQ g.first (use i) (cu g use i) (g.ands.getD i (0,0))).1[k].2/\(lQ g.first (use i) (cu g use i) (g.ands.getD i (0,0))).1[k].1<2*(g.first+k)/\(lQ g.first (use i) (cu g use i) (g.ands.getD i (0,0))).1[k].2<2*(g.first+k);generalize cu g use i=s at h1 h2 h3 ih ⊢;generalize g.ands.getD i (0,0)=p;cases use i with
  |true=>exact Dc (jy (a:=p.1) (by omega) h3) (jy (a:=p.2) (by omega) h3) ih
  |false=>exact ih
theorem xh(hg:g.chk=0)(use:Nat->Bool):(um g (cu g use g.ands.length)).chk=0:=by
 obtain⟨i,i0,i1,i2,i3,i4,i5⟩:=aW hg;obtain⟨r1,r2,r3,r4⟩:=aN i4;have hf:=lI i0;obtain⟨h1,h2,h3⟩:=jC i0 use g.ands.length;have h4:=AV i0 use g.ands.length;generalize cu g use g.ands.length=s at h1 h2 h3 h4 ⊢;obtain⟨A,C⟩:=s;dsimp only at h1 h2 h3 h4;have hc:=fun a=>jy (C:=C) (a:=a) (k:=g.first+A.length) (by omega) h3;have fe:(um g (A,C)).first=g.first:=by simp[um,Gr.first]
 have ae:(um g (A,C)).all=2*(g.first+A.length):=by unfold Gr.all;rw[fe];rfl
 have l1:(um g (A,C)).lim=false:=by show(decide (g.ins<0)||decide (4000<g.ins)||decide (4000<g.ins+(g.next.map (dZ C)).length+A.length)||decide (4000<((g.outs.map (dZ C)).length:Int)))=false;simp only[zra,zsf,zqd];omega
 have l2:(um g (A,C)).oddR=false:=by
  simp only[Gr.oddR,ae,zsf,bne_eq_false_iff_eq,List.any_eq_false,O4,EX,Bool.not_eq_true,zqd];simp only[um,zra,zrh];refine⟨⟨⟨r1,fun a ha=> ?_⟩,?_⟩,?_⟩
  ·have:=r2 a ha;omega
  ·rintro a ⟨b,hb,rfl⟩;have:=hc b;omega
  ·rintro a ⟨b,hb,rfl⟩;have:=hc b;omega
 have l3:(um g (A,C)).oddAs (um g (A,C)).ands.length=false:=by
  unfold Gr.oddAs;rw[List.any_eq_false];intro k hk;have hk:k<A.length:=by simpa [um]using hk
  rw[fe];show ¬Uk (2*(g.first+k)) (A.getD k (0,0))=true;rw[aS hk];have:=h4 k hk;simp only[Uk,Bool.or_eq_true,zqb];omega
 unfold Gr.chk;rw[l1,l2,l3];rfl
end Go.Proofs.YthdidjjecjhenaaGreat
