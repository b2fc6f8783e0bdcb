/- Lemmas for this claim, part F11: each holds under what it names. -/
import Derived.Test.YthdidjjecjhenaaGreatAF10
set_option linter.all false
set_option maxRecDepth 20000
set_option maxHeartbeats 8000000
namespace Go.Proofs.YthdidjjecjhenaaGreat
open Go Go.Proofs Go.Abs
open List renaming length → aa, replicate → aD
open Bool renaming true → ab, false → am
open Option renaming some → ar, none → aL
open Decidable renaming decide → aM
open Go.IntKind renaming wrap → a5
open Go.Result renaming andThen → a8
open Go.Abs.O renaming cells → aw
open Go.Abs.V renaming drops → aE, dat → a6, dats → a7
def qO(a:Int):Int:=if a%2=0 then a+1 else a-1
variable{a:Int}
theorem qp(h0:0<=a)(h1:a<=1000000000):a5 .i64 ((BitVec.ofInt IntKind.i64.bits a ^^^ BitVec.ofInt IntKind.i64.bits 1).toNat:Int)=qO a:=by
 obtain⟨n,rfl⟩:∃n:Nat,a=n:=⟨a.toNat,by omega⟩;have e1:(BitVec.ofInt IntKind.i64.bits (n:Int) ^^^ BitVec.ofInt IntKind.i64.bits 1).toNat=n ^^^ 1:=by
  show(BitVec.ofInt 64 (n:Int) ^^^ BitVec.ofInt 64 1).toNat=n ^^^ 1;rw[BitVec.toNat_xor];have:(BitVec.ofInt 64 (n:Int)).toNat=n:=by simp;omega
  rw[this];rfl
 have e2:n ^^^ 1=if n%2=0 then n+1 else n-1:=by
  have h:(n ^^^ 1)%2=(n+1)%2:=by have h3:=Nat.testBit_xor n 1 0;simp only[Nat.testBit_zero]at h3;rcases Nat.mod_two_eq_zero_or_one n with h4|h4<;>rcases Nat.mod_two_eq_zero_or_one (n ^^^ 1)with h5|h5<;>simp[h4,h5]at h3<;>omega
  have h2:(n ^^^ 1)/2=n/2:=by rw[Nat.xor_div_two];simp
  split<;>omega
 rw[e1,e2];unfold qO;split<;>split<;>(rw[fM (by omega) (by omega)];omega)
theorem TS(h0:0<=a)(h1:a<=1000000000):a5 .i64 ((BitVec.ofInt IntKind.i64.bits a ^^^ BitVec.ofInt IntKind.i64.bits 0).toNat:Int)=a:=by
 obtain⟨n,rfl⟩:∃n:Nat,a=n:=⟨a.toNat,by omega⟩;have e1:(BitVec.ofInt IntKind.i64.bits (n:Int) ^^^ BitVec.ofInt IntKind.i64.bits 0).toNat=n:=by
  show(BitVec.ofInt 64 (n:Int) ^^^ BitVec.ofInt 64 0).toNat=n;rw[BitVec.toNat_xor];have:(BitVec.ofInt 64 (n:Int)).toNat=n:=by simp;omega
  rw[this];simp
 rw[e1,fM (by omega) (by omega)]
theorem BD(c:Cl)(hc:aa c<=1000000):EvF TE 29 [az c] 1 (aa c) (c.map vi):=by
 have hM:=mLx;unfold EvF;refine ah Tryz.func29 rfl (by simp[nts]) (vm ?_);simp only[wq.1,seval,Tryz.results29];intro b hb;cases b with
 |true =>
  have:c=[]:=by simpa using hb rfl
  subst this;simp only[wq.1,↓reduceIte,Nat.reduceLT,reduceCtorEq]
 |false=>simp only[wq.1,↓reduceIte,Nat.reduceEqDiff,Nat.reduceLT,reduceCtorEq,Nat.reduceMul,qg];exact⟨⟨rfl,by decide⟩,⟨by omega,by show _<=_;omega⟩,.inr ⟨0,_,rfl,zrb _,rfl⟩⟩
theorem BF:∀l:List Pq,aa (l.flatMap λp=>[vi p.1,vi p.2])=aa l*2
 |[]=>rfl
 |a::l=>by rw[List.flatMap_cons,zqa,BF l,zrt];simp;omega
theorem zJ{q:Nat->Bool}:∀l:List Pq,aE q (l.flatMap λp=>[vi p.1,vi p.2])=l.flatMap λp=>[vi p.1,vi p.2]
 |[]=>rfl
 |a::l=>by show V.drop q (vi a.1)::V.drop q (vi a.2)::aE q (l.flatMap λp=>[vi p.1,vi p.2])=_;rw[zJ l];rfl
theorem Wj:∀l:List Pq,(l.map prV).flatMap V.vc=l.flatMap λp=>[vi p.1,vi p.2]
 |[]=>rfl
 |a::l=>by rw[zrd,List.flatMap_cons,Wj l];rfl
theorem UX:∀l:List Pq,dD (l.flatMap λp=>[vi p.1,vi p.2])=ab
 |[]=>rfl
 |a::l=>by simp only[List.flatMap_cons,List.cons_append,List.nil_append,dD,UX l,V.one,V.vc,zrk];rfl
theorem UY:∀l:List Pq,fH 2 (l.map prV)=ab
 |[]=>rfl
 |a::l=>by simp only[zrd,fH,UY l,V.fit,V.vc];rfl
theorem P9:∀l:List Pq,a7 (l.flatMap λp=>[vi p.1,vi p.2])=ab
 |[]=>rfl
 |a::l=>by show(a6 (vi a.1)&&(a6 (vi a.2)&&a7 (l.flatMap λp=>[vi p.1,vi p.2])))=ab;rw[P9 l];rfl
theorem Qa:∀l:List Pq,mM (l.map prV)=ab
 |[]=>rfl
 |a::l=>by simp only[zrd,mM,Qa l,V.fit,V.vc];rfl
variable{h r:H}
theorem gE0:(h++r)[aa h]? =r[0]? :=by rw[zsb (zrb _),Nat.sub_self]
theorem gE{k:Nat}:(h++r)[aa h+k]? =r[k]? :=by rw[zsb (Nat.le_add_right _ _),Nat.add_sub_cancel_left]
theorem gS0{x:O}:(h++r).set (aa h) x=h++r.set 0 x:=by rw[List.set_append_right _ _ (zrb _),Nat.sub_self]
theorem gS{k:Nat}{x:O}:(h++r).set (aa h+k) x=h++r.set k x:=by rw[List.set_append_right _ _ (Nat.le_add_right _ _),Nat.add_sub_cancel_left]
variable{b:Nat}
theorem neb{a:Nat}:(aa h+a==aa h+b)=(a==b):=by rw[Bool.eq_iff_iff];simp
theorem Y5:(aa h==aa h+(b+1))=am:=by simp
variable{l:List Pq}
theorem mF{e:E}{id len cap:Nat}(hc:h[id]? =ar (aw (l.flatMap λp=>[vi p.1,vi p.2])))(hl:len=aa l):aH e h (.ls id 2 0 len cap) (prs l) :=
 aH.ls hc (aj.dat (P9 l)) (UY l) (Wj l) (by simpa using hl)
theorem MM(c:List Pq)(hc:aa c<=1000000):EvF TE 110 [prs c] 2 (aa c) (c.flatMap λp=>[vi p.1,vi p.2]):=by
 have hM:=mLx;have hl:=BF c;have hv:=Wj c;have ho:=UX c;unfold EvF;refine ah Tryz.func110 rfl (by simp[nts]) (vm ?_);simp only[wq.1,seval,Tryz.results110];intro b hb;cases b with
 |true =>
  have:c=[]:=by simpa using hb rfl
  subst this;simp only[wq.1,↓reduceIte,Nat.reduceLT,reduceCtorEq];simp
 |false=>simp only[wq.1,↓reduceIte,Nat.reduceEqDiff,Nat.reduceLT,Nat.reduceAdd,reduceCtorEq,Nat.reduceMul,hv];refine⟨⟨rfl,by decide⟩,Qa c,⟨rfl,by omega,by show _<=_;omega⟩,.inr ⟨0,_,rfl,zrb _,rfl⟩⟩
variable{R:AEnd->H->(Nat->Bool)->Prop}
theorem MN(hr:R (.ret .nils) h (λ_=>am)):ag TE 110 [.nils] h R:=by refine ah Tryz.func110 rfl (by simp[nts]) (vm ?_);simp only[wq.1,seval,Tryz.results110];exact hr
variable{n1:Int}
theorem FZ{nx ini:V}(h1:nx.one=ab)(h2:ini.one=ab)(hf1:nx.fit=ab)(hf2:ini.fit=ab)
 (hr:R (.ret (.lp (aa h+2) 0)) (h++[aw [vi n1,nx,ini,.nils,.nils],.map [] [],aw [vi n1,nx,ini,.nils,.nils,.lm (aa h+1),.nils]]) (λ_=>am)) :
 ag TE 85 [.agg [vi n1,nx,ini,.nils,.nils]] h R:=by
 have hM:=mLx;refine ah Tryz.func85 rfl (by simp[nts]) (vm ?_);simp only[wq.1,seval,Tryz.results85,gE0,zqc];refine MN ?_;simp only[wq.1,seval,gE0,gE,gS];refine aA (λm f h'=>f.t 3= .lp (aa h+2) 0/\f.t 21=vi 0/\f.t 22=vi 0/\f.d=[]/\f.k=(λ_=>am)/\h'=h++[aw [vi n1,nx,ini,.nils,.nils],.map [] [],aw [vi n1,nx,ini,.nils,.nils,.lm (aa h+1),.nils]]) 0 ⟨rfl,rfl,rfl,rfl,rfl,rfl⟩ ?_;rintro m f h' ⟨k3,k21,k22,hd,hk,rfl⟩;refine vm ?_;simp only[wq.1,seval,k3,k21,k22,hd];rw[hk];exact hr
def qw(n:Nat):Cl:=(List.range n).map λi:Nat=>2*(i:Int)
theorem MO(n:Nat):qw (n+1)=qw n++[2*(n:Int)]:=by unfold qw;rw[List.range_succ,zql];rfl
theorem zK(n:Nat):aa (qw n)=n:=by simp[qw]
def UZ:Plan:=tkZ [0,2,4]<| .alt 1 (.alt 3 (onZ [5,6,7,8]<| .take 9<| .fin) (.one 5 (.alt 3 (onZ [6,7,8]<| .take 9<| .fin) (.one 6 (onZ [3,7,8]<| .take 9<| .fin))))) (.alt 3 (.alt 1 (onZ [5,6,7,8]<| .take 9<| .fin) (.one 5 (.alt 1 (onZ [6,7,8]<| .take 9<| .fin) (.one 6 (onZ [1,7,8]<| .take 9<| .fin))))) (.one 5 (.alt 1 (.alt 3 (onZ [6,7,8]<| .take 9<| .fin) (.one 6 (onZ [3,7,8]<| .take 9<| .fin))) (.alt 3 (.alt 1 (onZ [6,7,8]<| .take 9<| .fin) (.one 6 (onZ [1,7,8]<| .take 9<| .fin))) (.one 6 (.alt 1 (onZ [3,7,8]<| .take 9<| .fin) (.one 3 (onZ [1,7,8]<| .take 9<| .fin))))))))
theorem zL(hcd:kJ h){g:Gr}(hg:g.chk=0){R:AEnd->H->(Nat->Bool)->Prop}
 (hr:R (.ret (.lp (aa h+4) 0)) (h++[aw [vi g.ins,az g.next,az g.init,prs g.ands,az g.outs],aw (g.init.map vi),aw [vi g.ins,az g.next,.ls (aa h+1) 1 0 (aa g.init) (aa g.init),.nils,.nils],.map [] [],aw [vi g.ins,az g.next,.ls (aa h+1) 1 0 (aa g.init) (aa g.init),.ls (aa h+5) 2 0 0 0,.nils,.lm (aa h+3),.ls (aa h+6) 1 0 g.first.toNat g.first.toNat],aw [],aw ((qw g.first.toNat).map vi)]) (λ_=>am)) :
 ag TE 50 [.agg [vi g.ins,az g.next,az g.init,prs g.ands,az g.outs]] h R:=by
 have hM:=mLx;obtain⟨_,i0,i1,i2,i3,i4,i5⟩:=aU hg;obtain⟨r1,r2,r3,r4⟩:=aJ i4;have hcl:=BD g.init (by omega);refine ag.fresh ?_;refine ah Tryz.func50 rfl (by simp[nts]) ?_;have hfst:=jY g (by omega) (by omega) (by omega);obtain⟨fn,hfn⟩:∃fn:Nat,g.first=fn:=⟨g.first.toNat,by have:g.first=1+g.ins+aa g.next:=rfl;omega⟩
 have hfl:fn<=4001:=by have:g.first=1+g.ins+aa g.next:=rfl;omega
 rw[hfn,zsg]at hr;rw[hfn]at hfst;have dvi:∀p,aE p (g.init.map vi)=g.init.map vi:=λp=>aN _;refine vn ?_;simp only[wq.1,Nat.reduceLT,Tryz.results50];refine ak (bK dV UZ (λf' h'=>f'.t 1= .lp (aa h) 0/\f'.t 3= .lp (aa h+4) 0/\f'.d=[]/\(∀j,j<aa h->f'.k j=am)/\h'=h++[aw [vi g.ins,az g.next,az g.init,prs g.ands,az g.outs],aw (g.init.map vi),aw [vi g.ins,az g.next,.ls (aa h+1) 1 0 (aa g.init) (aa g.init),.nils,.nils],.map [] [],aw [vi g.ins,az g.next,.ls (aa h+1) 1 0 (aa g.init) (aa g.init),.nils,.nils,.lm (aa h+3),.nils]]) (by decide +kernel) (by decide +kernel) ?_ ?_)
 ·simp only[wq.1,seval,UZ,gE0]
  repeat' apply zsa
  all_goals
   refine jM hcl rfl (jP _) ?_;simp only[wq.1,seval,gE0,zqc]
   repeat' apply zsa
  all_goals
   refine FZ rfl rfl rfl rfl ?_;simp only[wq.1,seval,zqc]
 ·rintro f h' ⟨k1,k3,hd,hk,rfl⟩;show awp _ _ _ _ _ _ _;refine gz ?_;refine gz ?_;simp only[wq.1,zqc];have hle:HLe (h++[aw [vi g.ins,az g.next,az g.init,prs g.ands,az g.outs],aw (g.init.map vi),aw [vi g.ins,az g.next,.ls (aa h+1) 1 0 (aa g.init) (aa g.init),.nils,.nils],.map [] [],aw [vi g.ins,az g.next,.ls (aa h+1) 1 0 (aa g.init) (aa g.init),.nils,.nils,.lm (aa h+3),.nils],aw [],aw []]) (h++[aw [vi g.ins,az g.next,az g.init,prs g.ands,az g.outs],aw (g.init.map vi),aw [vi g.ins,az g.next,.ls (aa h+1) 1 0 (aa g.init) (aa g.init),.nils,.nils],.map [] [],aw [vi g.ins,az g.next,.ls (aa h+1) 1 0 (aa g.init) (aa g.init),.ls (aa h+5) 2 0 0 0,.nils,.lm (aa h+3),.ls (aa h+6) 1 0 0 0],aw [],aw []]):=by
   have hv:fD [vi g.ins,az g.next,.ls (aa h+1) 1 0 (aa g.init) (aa g.init),.nils,.nils,.lm (aa h+3),.nils] [vi g.ins,az g.next,.ls (aa h+1) 1 0 (aa g.init) (aa g.init),.ls (aa h+5) 2 0 0 0,.nils,.lm (aa h+3),.ls (aa h+6) 1 0 0 0]:=fD.cons (VLe.refl _) (fD.cons (VLe.refl _) (fD.cons (VLe.refl _) (fD.cons dH (fD.cons (VLe.refl _) (fD.cons (VLe.refl _) (fD.cons dH (fD.refl _)))))));have:=HLe.set (h:=h++[aw [vi g.ins,az g.next,az g.init,prs g.ands,az g.outs],aw (g.init.map vi),aw [vi g.ins,az g.next,.ls (aa h+1) 1 0 (aa g.init) (aa g.init),.nils,.nils],.map [] [],aw [vi g.ins,az g.next,.ls (aa h+1) 1 0 (aa g.init) (aa g.init),.nils,.nils,.lm (aa h+3),.nils],aw [],aw []]) (i:=h.length+4) (o':=aw [vi g.ins,az g.next,.ls (aa h+1) 1 0 (aa g.init) (aa g.init),.ls (aa h+5) 2 0 0 0,.nils,.lm (aa h+3),.ls (aa h+6) 1 0 0 0]) (o:=aw [vi g.ins,az g.next,.ls (aa h+1) 1 0 (aa g.init) (aa g.init),.nils,.nils,.lm (aa h+3),.nils]) (gE.trans rfl) (OLe.cells (zrb _) hv);rw[gS]at this;exact this
  refine lF hle ?_;refine vm ?_;simp only[wq.1,seval,gE0,k1];refine ag.ev hfst (by simp only[a7,a6,zre]) ?_;simp only[wq.1,Nat.reduceLT];refine aA (λm f h'=>∃i,m+i=fn/\f.t 3= .lp (aa h+4) 0/\f.t 15=vi fn/\f.t 16=vi i/\f.d=[]/\(∀j,j<aa h->f.k j=am)/\h'=h++[aw [vi g.ins,az g.next,az g.init,prs g.ands,az g.outs],aw (g.init.map vi),aw [vi g.ins,az g.next,.ls (aa h+1) 1 0 (aa g.init) (aa g.init),.nils,.nils],.map [] [],aw [vi g.ins,az g.next,.ls (aa h+1) 1 0 (aa g.init) (aa g.init),.ls (aa h+5) 2 0 0 0,.nils,.lm (aa h+3),.ls (aa h+6) 1 0 i i],aw [],aw ((qw i).map vi)]) fn ⟨0,by omega,k3,rfl,rfl,hd,λj hj=>by(simp only[wq.1]);exact hk j hj,rfl⟩ ?_;rintro m f h' ⟨i,hm,k3,k15,k16,hd,hk,rfl⟩;have hel:=zK i;have hcm:=hcd.one (j:=h.length+6) (by omega);have dve:∀p,aE p ((qw i).map vi)=(qw i).map vi:=λp=>aN _;refine vm ?_;simp only[wq.1,seval,k15,k16];refine vcB.mk (λhlt=> ?_) (λhlt=> ?_)
  ·simp only[zqb,zqi]at hlt;have hw:=ax (show i<maxLen by omega);have w2:a5 .i64 (2*(i:Int))=2*(i:Int):=aV (by omega) (by omega);simp only[wq.1,↓reduceIte,Nat.reduceEqDiff,Nat.reduceLT,Nat.reduceAdd,Nat.reduceBEq,reduceCtorEq,Nat.reduceMul,gE,gS,k3,k16,hd,hw,w2,dvi,dve,hcm,neb];refine⟨⟨rfl,by decide⟩,⟨by omega,by omega,by omega⟩,.inl ⟨m-1,by omega,i+1,by omega,by simp only[wq.1,seval,aG,Tryz.results50,k3,neb,Y5],by simp only[wq.1,seval,aG,Tryz.results50,k15],rfl,hd,λj hj=> ?_,?_⟩⟩
   ·simp only[wq.1,hk j hj];simp;omega
   ·rw[MO,zql];rfl
  ·simp only[zqd,zqi]at hlt;have hi:i=fn:=by omega
   subst hi;simp only[wq.1,seval,k3,hd];exact⟨hk,hr⟩
abbrev fl(l:List Pq):List V:=l.flatMap λp=>[vi p.1,vi p.2]
def Iy(f:Int)(n:Nat):List V:=(List.range n).map λi:Nat=>vi (2*(f+(i:Int)))
theorem Qb(f:Int)(n:Nat):Iy f (n+1)=Iy f n++[vi (2*(f+(n:Int)))]:=by unfold Iy;rw[List.range_succ,zql];rfl
variable{n:Nat}
theorem TT{f:Int}{i:Nat}(h:i<n)(d:V):(Iy f n).getD i d=vi (2*(f+(i:Int))):=by simp[Iy,zqg,h]
abbrev bo(n1:Int)(nx:Cl)(J k a la:Nat)(outs:V)(m c lc:Nat):O:=aw [vi n1,az nx,.ls J 1 0 k k,.ls a 2 0 la la,outs,.lm m,.ls c 1 0 lc lc]
def jD(f:Int)(A:List Pq)(p q:Int):List Pq×Int :=
 if min p q = 0 \/ qO (max p q) = min p q then (A,0) else if min p q = 1 \/ max p q = min p q then (A,max p q) else
  match A.findIdx? (·==(max p q,min p q))with
  |some i=>(A,2*(f+(i:Int)))
  |none=>(A++[(max p q,min p q)],2*(f+(aa A:Int)))
theorem uF(k:Pq):∀(ks:List Pq),kF (.arr 2 3 (ar .i64)) (prV k) (ks.map prV)=ar (ks.findIdx? (·==k))
 |[]=>rfl
 |x::ks=>by
  have hk:keq (.arr 2 3 (ar .i64)) (prV k) (prV x)=ar (x==k):=by
   show(if 2=2/\IntKind.i64= .i64/\IntKind.i64= .i64/\IntKind.i64= .i64/\IntKind.i64= .i64 then ar ((k.1==x.1)&&(k.2==x.2))else aL)=_;rw[if_pos ⟨rfl,rfl,rfl,rfl,rfl⟩]
   congr 1
   rw[Bool.eq_iff_iff];simp only[zqf,beq_iff_eq];constructor
   ·rintro⟨h1,h2⟩;exact Prod.ext h1.symm h2.symm
   ·rintro rfl;exact⟨rfl,rfl⟩
  rw[zrd,kF,hk,List.findIdx?_cons];cases hx:x==k with
  |true=>rfl
  |false=>rw[uF k ks];cases ks.findIdx? (·==k)<;>rfl
def JO:Plan:=tkZ [0,1,2,5,6,7,8]<| .alt 3 (.alt 4 (onZ [9,10,11,12]<| .take 13<| .fin) (.one 9 (.alt 4 (onZ [10,11,12]<| .take 13<| .fin) (.one 10 (onZ [4,11,12]<| .take 13<| .fin))))) (.one 9 (.alt 3 (.alt 4 (onZ [10,11,12]<| .take 13<| .fin) (.one 10 (onZ [4,11,12]<| .take 13<| .fin))) (.one 10 (onZ [3,4,11,12]<| .take 13<| .fin))))
def JP:Plan:=tkZ [0,1,2,3,4]<| .alt 5 (onZ [6,7,8]<|tkZ [9,10,11]<| .one 12<| .fin) (.one 6 (.alt 5 (.one 7<| .one 8<|tkZ [9,10,11]<| .one 12<| .fin) (.one 7 (.one 5<| .one 8<|tkZ [9,10,11]<| .one 12<| .fin))))
def JQ:Plan:=tkZ [0,1,2,5]<| .alt 3 (.one 4<| .one 6<| .fin) (.one 4 (.one 3<| .one 6<| .fin))
variable{A:List Pq}{f0:Int}
theorem F5{a J m c lc:Nat}{nx ini:Cl}{p q:Int}(hf:f0=1+n1+aa nx)(i0:0<=n1)(i1:n1<=4000)(i2:aa nx<=4000)(i3:aa ini<=4000)(i4:aa A<=4000)
 (p0:0<=p) (p1:p<=100000) (q0:0<=q) (q1:q<=100000)
 (hb:h[b]? =ar (bo n1 nx J (aa ini) a (aa A) .nils m c lc)) (hj:h[J]? =ar (aw (ini.map vi))) (ha:h[a]? =ar (aw (fl A))) (hm:h[m]? =ar (.map (A.map prV) (Iy f0 (aa A))))
 (hdr:∀i o,h[i]? =ar o->i≠b->o.drop (·==a)=o) (hba:b≠a) (hca:c≠a) (hJa:J≠a) {R:AEnd->H->(Nat->Bool)->Prop}
 (hr:∀X,R (.ret (vi (jD f0 A p q).2)) (((h.set b (bo n1 nx J (aa ini) a (jD f0 A p q).1.length .nils m c lc)).set a (aw (fl (jD f0 A p q).1))).set m (.map ((jD f0 A p q).1.map prV) (Iy f0 (jD f0 A p q).1.length))++X) (λi=>i==a)) :
 ag TE 51 [.lp b 0,vi p,vi q] h R:=by
 have hM:=mLx;have same:((h.set b (bo n1 nx J (aa ini) a (aa A) .nils m c lc)).set a (aw (fl A))).set m (.map (A.map prV) (Iy f0 (aa A)))=h:=by
  have s1:∀ {i:Nat} {o:O},h[i]? =ar o->h.set i o=h:=λ{i o} hi=>by obtain⟨hl,rfl⟩:=zqe hi;exact List.set_getElem_self hl
  rw[s1 hb,s1 ha,s1 hm]
 obtain⟨P,hP⟩:∃P,P=max p q:=⟨_,rfl⟩;obtain⟨Q,hQ⟩:∃Q,Q=min p q:=⟨_,rfl⟩;have bP:0<=P/\P<=100000/\0<=Q/\Q<=100000:=by omega
 have hxo:=qp (a:=P) (by omega) (by omega);have hav:jD f0 A p q=if Q=0\/qO P=Q then(A,0)else if Q=1\/P=Q then(A,P)else match A.findIdx? (·==(P,Q))with
  |some i=>(A,2*(f0+(i:Int)))
  |none=>(A++[(P,Q)],2*(f0+(aa A:Int))):=by rw[hP,hQ];rfl
 obtain⟨r,hrv⟩:∃r,r=jD f0 A p q:=⟨_,rfl⟩;rw[<-hrv]at hr hav;have early:∀v,r=(A,v)->∀X,R (.ret (vi v)) (h++X) (λi=>i==a):=λv hv X=>by
  have:=hr X;rw[hv]at this;simp only at this
  rwa [same]at this
 refine ag.kp (λi=>i==a) ?_;refine ah Tryz.func51 rfl (by simp[nts]) ?_;refine vn ?_;simp only[wq.1,Nat.reduceLT,Tryz.results51];refine vn ?_;simp only[wq.1,seval,mx,mn];rw[<-hP,<-hQ];cases e1:Q==0 with
 |true=>refine vn ?_;simp only[wq.1,seval,e1];have:=early 0 (by rw[hav,if_pos (.inl (by simpa using e1))]) [];rw[zqp]at this;exact this
 |false =>
 cases e2:qO P==Q with
 |true=>refine vn ?_;simp only[wq.1,seval,e1,e2,hxo];have:=early 0 (by rw[hav,if_pos (.inr (by simpa using e2))]) [];rw[zqp]at this;exact this
 |false =>
 have n1':¬(Q=0\/qO P=Q):=by
  simp only[beq_eq_false_iff_ne,ne_eq]at e1 e2;rintro(h|h)
  ·exact e1 h
  ·exact e2 h
 rw[if_neg n1']at hav;cases e3:Q==1 with
 |true=>refine vn ?_;simp only[wq.1,seval,e1,e2,e3,hxo];have:=early P (by rw[hav,if_pos (.inl (by simpa using e3))]) [];rw[zqp]at this;exact this
 |false =>
 cases e4:P==Q with
 |true=>refine vn ?_;simp only[wq.1,seval,e1,e2,e3,e4,hxo];have:=early P (by rw[hav,if_pos (.inr (by simpa using e4))]) [];rw[zqp]at this;exact this
 |false =>
 have n2':¬(Q=1\/P=Q):=by
  simp only[beq_eq_false_iff_ne,ne_eq]at e3 e4;rintro(h|h)
  ·exact e3 h
  ·exact e4 h
 rw[if_neg n2']at hav;have lt:∀ {i:Nat} {o:O},h[i]? =ar o->i<aa h:=λhi=>(zqe hi).1;have lb:=lt hb;have la:=lt ha;have lj:=lt hj;have lm:=lt hm;have ap:∀ {i:Nat} {o:O} (X:H),h[i]? =ar o->(h++X)[i]? =ar o:=λX hi=>by rw[zqj (lt hi)];exact hi
 have hbX:=ap [aw [vi P,vi Q]] hb;have haX:=ap [aw [vi P,vi Q]] ha;have hjX:=ap [aw [vi P,vi Q]] hj;have hmX:=ap [aw [vi P,vi Q]] hm;have hfi:=uF (P,Q) A;refine vn ?_;simp only[wq.1,seval,e1,e2,e3,e4,hxo];refine vn ?_;simp only[wq.1,seval,gE0,gS0];cases hfx:A.findIdx? (·==(P,Q))with
 |some i=>rw[hfx]at hav hfi;have hi:i<aa A:=(List.findIdx?_eq_some_iff_getElem.1 hfx).1;refine vn ?_;simp only[wq.1,seval,gE0,hbX,hmX,qF,hfi,K.keyOk,TT hi];refine⟨by decide +kernel,?_⟩;exact early _ hav [aw [vi P,vi Q]]
 |none =>
  rw[hfx]at hav hfi;have hge:=λ(h':H)(h1:h'[J]? =ar (aw (ini.map vi)))(h2:h'[a]? =ar (aw (fl A)))=>(aH.agg (aj.cons (aH.dat rfl) (aj.cons (aH.dat WV) (aj.cons (dG h1 rfl) (aj.cons (mF h2 rfl) (aj.cons aH.nils aj.nil))))):aH TE h' (.agg [vi n1,az nx,.ls J 1 0 (aa ini) (aa ini),.ls a 2 0 (aa A) (aa A),.nils]) (Gr.v ⟨n1,nx,ini,A,[]⟩));have hfst:=jY ⟨n1,nx,ini,A,[]⟩ (by show _<=n1;omega) (by show n1<=_;omega) (by show aa nx<=_;omega);have hfe:Gr.first ⟨n1,nx,ini,A,[]⟩=f0:=hf.symm
  rw[hfe]at hfst;have w1:a5 .i64 (f0+(aa A:Int))=f0+aa A:=aV (by omega) (by omega);have w2:a5 .i64 (2*(f0+(aa A:Int)))=2*(f0+aa A):=aV (by omega) (by omega);refine vn ?_;simp only[wq.1,seval,gE0,hbX,hmX,qF,hfi,K.keyOk];refine⟨by decide +kernel,?_⟩;refine ak (bK dV JO (λf' h'=>f'.t 0= .lp b 0/\f'.t 7= .lp (aa h) 0/\f'.t 10=vi (2*(f0+aa A))/\f'.d=[]/\(∀j,f'.k j=am)/\h'=h++[aw [vi P,vi Q]]) (by decide +kernel) (by decide +kernel) ?_ ?_)
  ·simp only[wq.1,seval,JO,hbX]
   repeat' apply zsa
   all_goals
    refine ag.lend hfst (aj.cons (hge _ hjX haX) aj.nil) rfl ?_;simp only[wq.1,seval,hbX,w1,w2]
  ·rintro f h' ⟨k0,k7,k10,hd,hk,rfl⟩;show awp _ _ _ _ _ _ _;have hne0:(aa h==a)=am:=by simp;omega
   have hma:m≠a:=λe=>by rw[e,ha]at hm;cases hm
   have hba':(b==a)=am:=by simpa using hba
   have hbD:∀(Y:H)(X:O),((h.map (O.drop (λx=>x==a))++Y).set a X)[b]? =ar (aw [vi n1,az nx,.ls J 1 0 (aa ini) (aa ini),.any,.nils,.lm m,.ls c 1 0 lc lc]):=λY X=>by rw[zqn (Ne.symm hba),zqj (by simpa using lb),zqo,hb];simp only[wq.1,↓reduceIte,O.drop,aE,V.drop,show(J==a)=am by simpa using hJa,show(c==a)=am by simpa using hca,show(m==a)=am by simpa using hma]
   refine ak (bK dV JP (λf' h'=>f'.t 0= .lp b 0/\f'.t 7= .lp (aa h) 0/\f'.t 10=vi (2*(f0+aa A))/\f'.d=[]/\(∀j,f'.k j=ab->j=a)/\h'=((h.set b (bo n1 nx J (aa ini) a (aa A+1) .nils m c lc)).set a (aw (fl (A++[(P,Q)]))))++[aw [vi P,vi Q]]) (by decide +kernel) (by decide +kernel) ?_ ?_)
   ·simp only[wq.1,seval,JP,gE0,hbX,haX,k0,k7,k10,hd,hne0,hba']
    repeat' apply zsa
    all_goals first
     |rfl
     |decide
     |exact BF A
     |omega
     |(show _<=_;omega)
     |skip
    all_goals
     rw[hbD];refine⟨by simp,λj hj=> ?_,?_⟩
     ·rw[hk j,Bool.false_or,beq_iff_eq]at hj;exact hj
     ·have e1:aE (λx=>x==a) (fl A)++aE (λx=>x==a) (List.flatMap V.vc [V.agg [vi P,vi Q]])=fl (A++[(P,Q)]):=by rw[zJ];show fl A++[vi P,vi Q]=fl (A++[(P,Q)]);simp only[fl,List.flatMap_append,List.flatMap_cons,List.flatMap_nil,zqp]
      rw[e1,List.set_append_left _ _ (by simpa using la),List.set_append_left _ _ (by simpa using lb),List.set_comm _ _ (Ne.symm hba),xO hdr];rfl
   ·rintro f h' ⟨k0,k7,k10,hd,hk,rfl⟩;show awp _ _ _ _ _ _ _;obtain⟨A',hA'⟩:∃A',A'=A++[(P,Q)]:=⟨_,rfl⟩;have lA':aa A'=aa A+1:=by rw[hA'];simp
    rw[<-hA']at hav ⊢;have j1:((h.set b (bo n1 nx J (aa ini) a (aa A+1) .nils m c lc)).set a (aw (fl A'))++[aw [vi P,vi Q]])[b]? =ar (bo n1 nx J (aa ini) a (aa A+1) .nils m c lc):=by
     rw[zqj (by simpa using lb),zqn (Ne.symm hba),zqt lb]
    have hmb:m≠b:=λe=>by rw[e,hb]at hm;cases hm
    have j2:((h.set b (bo n1 nx J (aa ini) a (aa A+1) .nils m c lc)).set a (aw (fl A'))++[aw [vi P,vi Q]])[m]? =ar (.map (A.map prV) (Iy f0 (aa A))):=by rw[zqj (by simpa using lm),zqn (Ne.symm hma),zqn (Ne.symm hmb)];exact hm
    have j3:((h.set b (bo n1 nx J (aa ini) a (aa A+1) .nils m c lc)).set a (aw (fl A'))++[aw [vi P,vi Q]])[aa h]? =ar (aw [vi P,vi Q]):=by rw[show aa h=aa ((h.set b (bo n1 nx J (aa ini) a (aa A+1) .nils m c lc)).set a (aw (fl A'))) by simp,zsb (zrb _),Nat.sub_self];rfl
    refine ak (bK dV JQ (λf' h'=>f'.t 10=vi (2*(f0+aa A))/\f'.d=[]/\(∀j,f'.k j=ab->j=a)/\h'=((h.set b (bo n1 nx J (aa ini) a (aa A+1) .nils m c lc)).set a (aw (fl A'))).set m (.map (A'.map prV) (Iy f0 (aa A')))++[aw [vi P,vi Q]]) (by decide +kernel) (by decide +kernel) ?_ ?_)
    ·simp only[wq.1,seval,JQ,k0,k7,k10,hd,j1,j2,j3,IZ,hfi,K.keyOk]
     repeat' apply zsa
     all_goals first
      |exact hk
      | (rw [List.set_append_left _ _ (by simpa using lm), hA', zqa, zrk, Qb, zql]
         rfl)
    ·rintro f h' ⟨k10,hd,hk,rfl⟩;show awp _ _ _ _ _ _ _;refine vm ?_;simp only[wq.1,seval,k10,hd];have:=hr [aw [vi P,vi Q]];rw[hav]at this;simp only[lA']at this ⊢;exact⟨λi hi=>by simpa using hk i hi,this⟩
def fB(C:Cl)(a:Int):Int:=if a%2=1 then qO (C.getD (a/2).toNat 0)else C.getD (a/2).toNat 0
theorem nV{c:Nat}{nx ini ands outs there:V}{C:Cl}(h0:0<=a)(h1:a/2<aa C)(h2:a<=1000000000)(hC:∀x∈C,0<=x/\x<=1000000)
 (hb:h[b]? =ar (aw [vi n1,nx,ini,ands,outs,there,.ls c 1 0 (aa C) (aa C)])) (hc:h[c]? =ar (aw (C.map vi))) {R:AEnd->H->(Nat->Bool)->Prop} (hr:R (.ret (vi (fB C a))) h (λ_=>am)):ag TE 52 [.lp b 0,vi a] h R:=by
 obtain⟨k,hk⟩:∃k:Nat,a/2=k:=⟨(a/2).toNat,by omega⟩;have hkl:k<aa C:=by omega
 have hg:(C.map vi).getD k .any=vi C[k]:=sU hkl _;have hx:=hC _ (zqu hkl);have hcv:fB C a=if a%2=1 then qO C[k]else C[k]:=by unfold fB;rw[hk,zsg,aP hkl]
 have hlen:aa (C.map vi)=aa C:=zra ..;refine ah Tryz.func52 rfl (by simp[nts]) (vm ?_);rcases Int.emod_two_eq a with hm|hm
 ·simp only[wq.1,seval,Tryz.results52,VX,WT h0 h2,hk,hb,hc,hg,hm,Nat.mul_one,TS hx.1 (show C[k]<=1000000000 by omega)];rw[hcv,hm,if_neg (by decide)]at hr;exact⟨⟨by omega,by omega⟩,by omega,hr⟩
 ·simp only[wq.1,seval,Tryz.results52,VX,WT h0 h2,hk,hb,hc,hg,hm,Nat.mul_one,qp hx.1 (show C[k]<=1000000000 by omega)];rw[hcv,hm,if_pos rfl]at hr;exact⟨⟨by omega,by omega⟩,by omega,hr⟩
theorem F6(hcd:kJ h){b c:Nat}{n1:Int}{nx ini ands outs there:V}{C l:Cl}(hll:aa l<=4000)(hl:∀a∈l,0<=a/\a/2<aa C/\a<=1000000000)(hC:∀x∈C,0<=x/\x<=1000000)
 (hb:h[b]? =ar (aw [vi n1,nx,ini,ands,outs,there,.ls c 1 0 (aa C) (aa C)])) (hc:h[c]? =ar (aw (C.map vi))) {R:AEnd->H->(Nat->Bool)->Prop}
 (hr:R (.ret (.ls (aa h) 1 0 (aa l) (aa l))) (h++[aw ((l.map (fB C)).map vi)]) (λ_=>am)):ag TE 86 [.lp b 0,az l] h R:=by
 have hM:=mLx;have lt:∀ {i:Nat} {o:O},h[i]? =ar o->i<aa h:=λhi=>(zqe hi).1;have ap:∀ {i:Nat} {o:O} (X:H),h[i]? =ar o->(h++X)[i]? =ar o:=λX hi=>by rw[zqj (lt hi)];exact hi
 have lb:=lt hb;have hbn:(b==aa h)=am:=by simp;omega
 refine ag.fresh ?_;refine ah Tryz.func86 rfl (by simp [nts]) ?_;refine vn ?_;simp only [wq.1,Nat.reduceLT,Tryz.results86];refine vn ?_;simp only [wq.1,Nat.reduceLT];refine iF 5 1 (rfl) ?_;refine vm ?_;simp only [wq.1,seval];refine aA (λm f h' => ∃ (i : Nat) (cs : List V),m + i = aa l /\ f.t 5 = .ls (aa h) 1 0 i i /\ f.t 6 = .fn (.func 52) [.lp b 0] [] /\ f.t 11 = az l /\ f.t 12 = vi (aa l) /\ f.t 13 = vi i /\ f.d = [] /\ (∀ j,j < aa h -> f.k j = am) /\ cs = ((l.take i).map (fB C)).map vi /\ h' = h ++ [aw cs]) (aa l)
  ⟨0,[],by simp,rfl,rfl,rfl,rfl,rfl,rfl,λj hj=>rfl,rfl,rfl⟩ ?_
 rintro m f h' ⟨i,cs,hm,h5,h6,h11,h12,h13,hd,hk,hcs,rfl⟩;have hcl:i<=aa l->aa cs=i:=λhi=>by rw[hcs,zra,zra,zrl];omega
 have hdc:∀p,aE p cs=cs:=λp=>by rw[hcs];exact aN _
 have hcm:=hcd.one (j:=h.length) (by omega);refine vm ?_;simp only[wq.1,seval,h12,h13];refine vcB.mk (λhlt=> ?_) (λhlt=> ?_)
 ·simp only[zqb,zqi]at hlt;obtain⟨o1,o2,o3⟩:=hl _ (zqu hlt);have hg:=sU hlt V.any;have hw:=ax (show i<maxLen by omega);have hcl':=hcl (by omega);simp only[wq.1,seval,h5,h6,h11,h13,hg];refine⟨⟨by omega,by omega⟩,?_⟩;refine nV o1 o2 o3 hC (ap _ hb) (ap _ hc) ?_;simp only[wq.1,↓reduceIte,Nat.reduceEqDiff,Nat.reduceLT,reduceCtorEq,Nat.reduceMul,h13,hd,hw,gE0,gS0,hdc,hcm];refine⟨⟨rfl,by decide⟩,⟨by omega,by omega,by omega⟩,.inl ⟨m-1,by omega,i+1,_,by omega,rfl,by simp only[wq.1,seval,aG,Tryz.results86,h6,hbn],by simp only[wq.1,seval,aG,Tryz.results86,h11],by simp only[wq.1,seval,aG,Tryz.results86,h12],rfl,hd,λj hj=> ?_,?_,rfl⟩⟩
  ·simp only[wq.1,hk j hj];simp;omega
  ·rw[hcs,show l.take (i+1)=l.take i++[l[i]] by rw[zrg,zqk hlt];rfl,zql,zql];rfl
 ·simp only[zqd,zqi]at hlt;have hi:i=aa l:=by omega
  subst hi;simp only[wq.1,seval,h5,hd];rw[zrx]at hcs;rw[hcs];exact⟨hk,hr⟩
def U0:Plan:=tkZ [0,1,2,3,6,7]<| .alt 4 (.alt 5 (.one 8<| .one 9<|tkZ [10,11,12]<| .one 13<|tkZ [14,15,16]<| .one 17<| .fin) (.one 8 (.one 5<| .one 9<|tkZ [10,11,12]<| .one 13<|tkZ [14,15,16]<| .one 17<| .fin))) (.one 8 (onZ [4,5,9]<|tkZ [10,11,12]<| .one 13<|tkZ [14,15,16]<| .one 17<| .fin))
theorem wo(hc:kJ h){cs:List V}(hd:∀p,aE p cs=cs):kJ (h++[aw cs]):=λp hp=>by rw[zql,hc p (λi hi=>hp i (by simp;omega))];show h++[aw (aE p cs)]=_;rw[hd]
theorem BG(hcd:kJ h){b c J a m:Nat}{n1:Int}{nx:Cl}{k la:Nat}{x:Gr}{outs:V}{C:Cl}(hn:aa x.next<=4000)(hol:aa x.outs<=4000)
 (hl:∀a∈x.next,0<=a/\a/2<aa C/\a<=1000000000) (hl2:∀a∈x.outs,0<=a/\a/2<aa C/\a<=1000000000) (hC:∀x∈C,0<=x/\x<=1000000)
 (hb:h[b]? =ar (aw [vi n1,az nx,.ls J 1 0 k k,.ls a 2 0 la la,outs,.lm m,.ls c 1 0 (aa C) (aa C)])) (hc:h[c]? =ar (aw (C.map vi)))
 {R:AEnd->H->(Nat->Bool)->Prop}
 (hr : ∀ X Y,R (.ret (.agg [vi n1,.ls (aa h + 2) 1 0 (aa x.next) (aa x.next),.ls J 1 0 k k,.ls a 2 0 la la,.ls (aa h + 3) 1 0 (aa x.outs) (aa x.outs)]))
  (h.set b (aw [vi n1,.ls (aa h+2) 1 0 (aa x.next) (aa x.next),.ls J 1 0 k k,.ls a 2 0 la la,.ls (aa h+3) 1 0 (aa x.outs) (aa x.outs),.lm m,.ls c 1 0 (aa C) (aa C)])++[X,Y,aw ((x.next.map (fB C)).map vi),aw ((x.outs.map (fB C)).map vi)]) (λ_=>am)) :
 ag TE 53 [.lp b 0,x.v] h R:=by
 have hM:=mLx;have lt:∀ {i:Nat} {o:O},h[i]? =ar o->i<aa h:=λhi=>(zqe hi).1;have ap:∀ {i:Nat} {o:O} (X:H),h[i]? =ar o->(h++X)[i]? =ar o:=λX hi=>by rw[zqj (lt hi)];exact hi
 have lb:=lt hb;unfold Gr.v;refine ag.fresh ?_;refine ah Tryz.func53 rfl (by simp[nts]) ?_;refine vn ?_;simp only[wq.1,Nat.reduceLT,Tryz.results53,zqc];have c1:kJ (h++[aw [vi x.ins,az x.next,az x.init,prs x.ands,az x.outs],aw [vi 0,.nils,.nils,.nils,.nils]]):=by
  have:=wo (wo hcd (cs:=[vi x.ins,az x.next,az x.init,prs x.ands,az x.outs]) (λp=>by simp only[wq.1,aE,V.drop])) (cs:=[vi 0,.nils,.nils,.nils,.nils]) (λp=>by simp only[wq.1,aE,V.drop])
  rwa [zqc]at this
 have c2:kJ (h++[aw [vi x.ins,az x.next,az x.init,prs x.ands,az x.outs],aw [vi 0,.nils,.nils,.nils,.nils],aw ((x.next.map (fB C)).map vi)]):=by
  have:=wo c1 (cs:=(x.next.map (fB C)).map vi) (λp=>aN _)
  rwa [zqc]at this
 have hbS:∀(Z:O)(X:H),(h.set b Z++X)[b]? =ar Z:=λZ X=>by rw[zqj (by simpa using lb),zqt lb]
 have hsA:∀(Z:O)(X:H),(h++X).set b Z=h.set b Z++X:=λZ X=>List.set_append_left _ _ lb;have hsB:∀(Z Y:O)(X:H),(h.set b Z++X).set b Y=h.set b Y++X:=λZ Y X=>by rw[List.set_append_left _ _ (by simpa using lb),List.set_set]
 refine ak (bK dV U0 (λf' h'=>f'.t 0= .lp b 0/\f'.t 4= .lp (aa h+1) 0/\f'.d=[]/\(∀j,j<aa h->f'.k j=am)/\h'=h.set b (aw [vi n1,.ls (aa h+2) 1 0 (aa x.next) (aa x.next),.ls J 1 0 k k,.ls a 2 0 la la,.ls (aa h+3) 1 0 (aa x.outs) (aa x.outs),.lm m,.ls c 1 0 (aa C) (aa C)])++[aw [vi x.ins,az x.next,az x.init,prs x.ands,az x.outs],aw [vi 0,.nils,.nils,.nils,.nils],aw ((x.next.map (fB C)).map vi),aw ((x.outs.map (fB C)).map vi)]) (by decide +kernel) (by decide +kernel) ?_ ?_)
 ·simp only[wq.1,seval,U0,gE0]
  repeat' apply zsa
  all_goals
   refine F6 c1 hn hl hC (ap _ hb) (ap _ hc) ?_;simp only[wq.1,seval,gE0,zqc]
   repeat' apply zsa
  all_goals
   refine F6 c2 hol hl2 hC (ap _ hb) (ap _ hc) ?_;simp only[wq.1,seval,zqc,ap _ hb,hsA,hsB,hbS]
 ·rintro f h' ⟨k0,k4,hd,hk,rfl⟩;show awp _ _ _ _ _ _ _;have hgL:∀(Z:O)(X:H)(i:Nat),(h.set b Z++X)[aa h+i]? =X[i]? :=λZ X i=>by
   rw[show aa h+i=aa (h.set b Z)+i by simp];exact gE
  have hsL:∀(Z:O)(X:H)(i:Nat)(y:O),(h.set b Z++X).set (aa h+i) y=h.set b Z++X.set i y:=λZ X i y=>by rw[show aa h+i=aa (h.set b Z)+i by simp];exact gS
  refine vm ?_;simp only[wq.1,seval,k0,k4,hd,hbS,hgL,hsL];exact⟨hk,hr _ _⟩
theorem Qc{i:Nat}(h:i<aa l)(d:V):(l.map prV).getD i d=prV l[i]:=iO h d
theorem Iz(l:List Pq):Ev TE 112 [prs l] (.fn (.func 128) [] [.ip (prs l)]):=by refine aC Tryz.func112 rfl (by simp[nts]) (vm ?_);simp only[wq.1,seval,Tryz.results112];refine aH.fn aj.nil (aj.cons (aH.lp rfl (aj.dat rfl) rfl rfl (by simp[V.vc]) rfl) aj.nil)
def xy(l:List Pq)(n:Nat):List (List V):=(List.range n).map λj=>[vi ((aa l-1-j:Nat):Int),prV (l.getD (aa l-1-j) (0,0))]
theorem DL(l:List Pq)(hl:aa l<=1000000):YU TE 128 [] [.ip (prs l)] (xy l (aa l)):=by
 have hM:=mLx;intro id h I Stop h0 step;have w0:a5 .i64 ((aa l:Int)-1)=(aa l:Int)-1:=aV (by omega) (by omega);have hbl:aa (xy l (aa l))=aa l:=by simp[xy]
 refine ah Tryz.func128 rfl (by simp[nts]) (vm ?_);simp only[wq.1,seval,Tryz.results128,w0];refine aA (λm f h=>∃i,m+i=aa l/\f.t 0= .yd id/\f.t 1= .ip (prs l)/\f.t 3=vi ((aa l:Int)-1-i)/\f.d=[]/\f.k id=am/\I i h f.k) (aa l) ⟨0,by simp,rfl,rfl,by simp only[wq.1,↓reduceIte];simp,rfl,rfl,h0⟩ ?_;rintro m f h ⟨i,hm,h0,h1,h3,hd,hk,hI⟩;refine vm ?_;simp only[wq.1,seval,h3];refine vcB.mk (λhc=> ?_) (λhc=> ?_)
 ·have hc:i<aa l:=by simp only[zqb]at hc;omega
  obtain⟨p,hp⟩:∃p:Nat,p=aa l-1-i:=⟨_,rfl⟩;have hpl:p<aa l:=by omega
  have e:(aa l:Int)-1-i=(p:Int):=by omega
  have w2:a5 .i64 ((p:Int)-1)=(aa l:Int)-1-((i+1:Nat):Int):=by rw[aV (by omega) (by omega)];omega
  have hz:i<aa (xy l (aa l)):=by omega
  have hg:=step i h f.k hz hk hI;have he:(xy l (aa l))[i]=[vi (p:Int),prV l[p]]:=by simp only[xy,List.getElem_map,List.getElem_range];rw[<-hp,aP hpl]
  rw[he]at hg;obtain⟨t,n',ps,asg,body,pend,hL,hsz,hps,hw⟩:=hg;rw[e]at h3;simp only[wq.1,seval,h0,h1,h3,Qc hpl,hL];refine⟨⟨by omega,by omega⟩,⟨by simpa using hsz,hps⟩,pX hw ?_⟩;intro j h' p' hp' hS;refine⟨by simp[ED,hd],?_⟩;cases j with
  |none=>simp only[wq.1,seval,h3,Option.isNone_none,w2];refine .inl ⟨m-1,by omega,i+1,by omega,by simp only[wq.1,seval,h0,hp'],by simp only[wq.1,seval,h1],rfl,hd,by simp only[wq.1,hk,hp'],by simp only[wq.1];exact hS⟩
  |some c=>simp only[wq.1,seval,hd,hp',Option.isNone_some];exact⟨by simp[hk],.inr ⟨c,hS⟩⟩
 ·have hi:i=aa l:=by simp only[zqd]at hc;omega
  subst hi;simp only[wq.1,hd];refine⟨hk,.inl ?_⟩;rw[hbl];exact hI
variable{g:Gr}
theorem uG{r:Nat}
 (hr:R (.ret (.fn (.func 111) [] [.lp (aa h) 0,.lp (aa h+1) 0])) (h++[aw [vi g.ins,az g.next,az g.init,prs g.ands,az g.outs],aw [.ls r 1 0 n n]]) (λ_=>am)):ag TE 87 [g.v,.ls r 1 0 n n] h R:=by
 unfold Gr.v;refine ah Tryz.func87 rfl (by simp[nts]) (vm ?_);simp only[wq.1,seval,Tryz.results87,zqc];exact hr
def wZ(v:List Bool)(l:Int):List Bool:=v.set (l/2).toNat ab
variable{v:List Bool}
theorem oZ{l:Int}:aa (wZ v l)=aa v:=by simp[wZ]
def JR(g:Gr)(v:List Bool)(n:Nat):List Bool:=((g.next++g.outs).take n).foldl wZ v
def AZ(g:Gr)(v:List Bool):Nat->List Bool
 |0=>v
 | k + 1 => let u := AZ g v k
  let p:=g.ands.getD (aa g.ands-1-k) (0,0)
  if u.getD (g.first+((aa g.ands-1-k:Nat):Int)).toNat am then wZ (wZ u p.1) p.2 else u
theorem JS:aa (JR g v n)=aa v:=by
 unfold JR
 induction (g.next++g.outs).take n generalizing v with
 |nil=>rfl
 |cons a l ih=>rw[List.foldl_cons,ih,oZ]
theorem xP{g:Gr}{v:List Bool}:∀ {k:Nat},aa (AZ g v k)=aa v
 |0=>rfl
 |k+1=>by
  unfold AZ;dsimp only;split
  ·rw[oZ,oZ,xP]
  ·exact xP
structure HV(g:Gr)(k1 k2 rr n N:Nat)(P:List Bool->H->Prop):Prop where
 gr:∀v X,P v X->X[k1]? =ar (aw [vi g.ins,az g.next,az g.init,prs g.ands,az g.outs])
 cl:∀v X,P v X->X[k2]? =ar (aw [.ls rr 1 0 n n])
 rw_:∀v X,P v X->X[rr]? =ar (aw (v.map V.bool))
 len:∀v X,P v X->aa X=N
 vlen:∀v X,P v X->aa v=n
def Qd:Plan:= .take 3<| .alt 0 (onZ [1,2,4]<| .take 5<| .one 6<| .take 7<| .take 9<| .alt 8 (onZ [10,11,12]<| .take 13<| .take 15<| .alt 14 (onZ [16,17,18,19,20]<| .fin) (.one 16 (onZ [14,17,18,19,20]<| .fin))) (.one 10 (onZ [8,11,12]<| .take 13<| .take 15<| .alt 14 (onZ [16,17,18,19,20]<| .fin) (.one 16 (onZ [14,17,18,19,20]<| .fin))))) (.one 1 (.alt 0 (.one 2<| .one 4<| .take 5<| .one 6<| .take 7<| .take 9<| .alt 8 (onZ [10,11,12]<| .take 13<| .take 15<| .alt 14 (onZ [16,17,18,19,20]<| .fin) (.one 16 (onZ [14,17,18,19,20]<| .fin))) (.one 10 (onZ [8,11,12]<| .take 13<| .take 15<| .alt 14 (onZ [16,17,18,19,20]<| .fin) (.one 16 (onZ [14,17,18,19,20]<| .fin))))) (.one 2 (.alt 0 (.one 4<| .take 5<| .one 6<| .take 7<| .take 9<| .alt 8 (onZ [10,11,12]<| .take 13<| .take 15<| .alt 14 (onZ [16,17,18,19,20]<| .fin) (.one 16 (onZ [14,17,18,19,20]<| .fin))) (.one 10 (onZ [8,11,12]<| .take 13<| .take 15<| .alt 14 (onZ [16,17,18,19,20]<| .fin) (.one 16 (onZ [14,17,18,19,20]<| .fin))))) (.one 4 (.one 0<| .take 5<| .one 6<| .take 7<| .take 9<| .alt 8 (onZ [10,11,12]<| .take 13<| .take 15<| .alt 14 (onZ [16,17,18,19,20]<| .fin) (.one 16 (onZ [14,17,18,19,20]<| .fin))) (.one 10 (onZ [8,11,12]<| .take 13<| .take 15<| .alt 14 (onZ [16,17,18,19,20]<| .fin) (.one 16 (onZ [14,17,18,19,20]<| .fin))))))))))
theorem rG(hg:g.chk=0){id k1 k2 rr n N:Nat}{P:List Bool->H->Prop}(hn:(n:Int)=g.first+aa g.ands)(hv:HV g k1 k2 rr n N P)(hid:id<N)
 (hy:∀(v:List Bool)(X Y:H)(lit:Int),P v X->0<=lit->lit/2<n->Xl TE id [vi lit] (X++Y) λj h'' p=>j=aL/\(∀i,p i=am)/\∃X',h''=X'++Y/\P (wZ v lit) X')
 {v0:List Bool} {X0:H} (h0:P v0 X0):ag TE 111 [.yd id,.lp k1 0,.lp k2 0] X0 λae h' p=>(∀i,i<N->p i=am)/\(∃w,ae= .ret w)/\∃X Y,h'=X++Y/\P (AZ g (JR g v0 (aa (g.next++g.outs))) (aa g.ands)) X:=by
 have hM:=mLx;obtain⟨_,i0,i1,i2,i3,i4,i5⟩:=aU hg;obtain⟨r1,r2,r3,r4⟩:=aJ i4;have wf:g.first=1+g.ins+aa g.next:=rfl
 have wa:g.all=2*(g.first+aa g.ands):=rfl;have x1:=hv.gr _ _ h0;have lN:=hv.len _ _ h0;have lt:∀ {X:H} {i:Nat} {o:O},X[i]? =ar o->i<aa X:=λhi=>(zqe hi).1;have ap:∀ {X:H} {i:Nat} {o:O} (Y:H),X[i]? =ar o->(X++Y)[i]? =ar o:=λY hi=>by rw[zqj (lt hi)];exact hi
 have gN:∀ {X:H},aa X=N->∀(Y:H)(k:Nat),(X++Y)[N+k]? =Y[k]? :=λ{X} hX Y k=>by rw[<-hX];exact gE
 have gN0:∀ {X:H},aa X=N->∀(Y:H),(X++Y)[N]? =Y[0]? :=λ{X} hX Y=>by rw[<-hX];exact gE0
 have sN:∀ {A:H},aa A=N->∀(Z:H)(k:Nat)(y:O),(A++Z).set (N+k) y=A++Z.set k y:=λ{A} hA Z k y=>by rw[<-hA];exact gS
 obtain⟨lits,hlits⟩:∃lits,lits=g.next++g.outs:=⟨_,rfl⟩
 have hlok:∀a∈lits,0<=a/\a/2<n:=λa ha=>by
  rw[hlits]at ha;rcases zrf.1 ha with ha|ha
  ·have:=r3 a ha;omega
  ·have:=r4 a ha;omega
 have hll:aa lits=aa g.next+aa g.outs:=by rw[hlits,zqa]
 have hcat:EvF TE 56 [.is ab 1 [az g.next,az g.outs]] 1 (aa lits) (lits.map vi):=by
  have:=wS [g.next,g.outs] (by simp;omega) (by simp)
  rwa [show [g.next,g.outs].flatten=lits by rw[hlits];simp]at this
 refine ah Tryz.func111 rfl (by simp[nts]) ?_;refine vn ?_;simp only[wq.1,Nat.reduceLT,Tryz.results111,lN];refine ak (ak (dh (Q:=λxe f h=>xe= .normal/\f.t 1= .lp k1 0/\f.t 2= .lp k2 0/\f.t 3= .lp N 0/\f.t 13= .ls (N+1) 1 0 (aa lits) (aa lits)/\f.t 14=vi (aa lits)/\f.t 15=vi 0/\f.d=[]/\(∀j,f.k j=am)/\h=X0++[aw [.yd id],aw (lits.map vi)]) ?_ ?_))
 ·rintro xe f h ⟨rfl,t1,t2,t3,t13,t14,t15,hd,hk,rfl⟩;show awp _ _ _ _ _ _ _;refine dh (Q:=λxe f h=>xe= .normal/\f.t 1= .lp k1 0/\f.t 2= .lp k2 0/\f.t 3= .lp N 0/\f.d=[]/\(∀j,j<N->f.k j=am)/\∃X,P (JR g v0 (aa lits)) X/\h=X++[aw [.yd id],aw (lits.map vi)]) ?_ ?_
  ·rintro xe f h ⟨rfl,t1,t2,t3,hd,hk,X,hX,rfl⟩;show awp _ _ _ _ _ _ _;have lX:=hv.len _ _ hX;have x1:=hv.gr _ _ hX;have lX0:=lX;obtain⟨vS,hvS⟩:∃vS,vS=JR g v0 (aa lits):=⟨_,rfl⟩;rw[<-hvS]at hX;obtain⟨ydb,hydb⟩:∃ydb:O,ydb=aw [.yd id]:=⟨_,rfl⟩;obtain⟨row,hrow⟩:∃row:O,row=aw (lits.map vi):=⟨_,rfl⟩;rw[<-hydb,<-hrow];have hlh:aa (X++[ydb,row])=N+2:=by simp[lX]
   refine ak (dh (Q:=λxe f h=>xe= .normal/\f.t 1= .lp k1 0/\f.t 2= .lp k2 0/\f.t 3= .lp N 0/\f.t 26= .fn (.func 128) [] [.ip (prs g.ands)]/\f.d=[]/\(∀j,j<N->f.k j=am)/\h=X++[ydb,row]) ?_ ?_)
   ·rintro xe f h ⟨rfl,t1,t2,t3,t26,hd,hkf,rfl⟩;show awp _ _ _ _ _ _ _;refine aB ?_;refine OC (n := 50) (q := 128) (first := []) (captured := [.ip (prs g.ands)]) (by simp only [wq.1,t26]) (by simp only [wq.1,t26]) rfl (DL g.ands (by omega)) (by intro v hv;simp only [xy,zrh] at hv;obtain ⟨p,_,rfl⟩ := hv;rfl) (by decide)
     (λL i h k=>∃t X Y,P (AZ g vS i) X/\t 1= .lp k1 0/\t 2= .lp k2 0/\t 3= .lp N 0/\(∀j,k j=am)/\h=X++([ydb,row,.misc .dfd,L t .ready]++Y)) ?_ ?_ ?_
    ·intro L;exact⟨f.t,X,[],hX,t1,t2,t3,λ_=>rfl,by simp⟩
    ·rintro L l i h' k hi hdrop hk0 ⟨t,X,Y,hX,t1,t2,t3,hk,rfl⟩;obtain⟨v,hvd⟩:∃v,v=AZ g vS i:=⟨_,rfl⟩;rw[<-hvd]at hX;have lX:=hv.len _ _ hX;have hia:i<aa g.ands:=by simpa [xy]using hi
     obtain⟨p,hp⟩:∃p:Nat,p=aa g.ands-1-i:=⟨_,rfl⟩;have hpl:p<aa g.ands:=by omega
     have he:(xy g.ands (aa g.ands))[i]=[vi (p:Int),prV g.ands[p]]:=by simp only[xy,List.getElem_map,List.getElem_range];rw[<-hp,aP hpl]
     rw[he];refine⟨t,(by rw[hlh];exact gN lX _ 3),?_⟩;obtain⟨H1,hH1⟩:∃H1,H1=X++([ydb,row,.misc .dfd,L t .ready]++Y):=⟨_,rfl⟩;obtain⟨M,hM1⟩:∃M,M=aa H1:=⟨_,rfl⟩;have gM0:∀Z:H,(H1++Z)[M]? =Z[0]? :=λZ=>by rw[hM1];exact gE0
     have sM0:∀(Z:H)(y:O),(H1++Z).set M y=H1++Z.set 0 y:=λZ y=>by rw[hM1];exact gS0
     rw[<-hH1];refine vm ?_;simp only[wq.1,seval,<-hM1,gM0,sM0];rw[lX0];obtain⟨pb,hpb⟩:∃pb:O,pb=aw [vi g.ands[p].fst,vi g.ands[p].snd]:=⟨_,rfl⟩;rw[<-hpb];refine⟨rfl,t,by rw[hH1,zqc,gN lX];rfl,?_⟩;obtain⟨W,hW⟩:∃W:H,W=[ydb,row,.misc .dfd,L t .busy]++Y:=⟨_,rfl⟩;have hWl:M=N+aa W:=by rw[hM1,hH1,hW];simp[lX]
     rw[show(H1++[pb]).set (N+3) (L t .busy)=X++(W++[pb]) by rw[hH1,zqc,sN lX,hW];rfl];have gW:∀ {A:H},aa A=N->∀(Z:H),(A++(W++Z))[M]? =Z[0]? :=λ{A} hA Z=>by rw[hWl,gN hA];exact gE0
     have gy:∀ {A:H},aa A=N->∀(Z:H),(A++(W++Z))[N]? =ar (aw [.yd id]):=λ{A} hA Z=>by rw[gN0 hA,hW,hydb];rfl
     have hvl:=hv.vlen _ _ hX;have c2:=hv.cl _ _ hX;have c3:=hv.rw_ _ _ hX;have c1:=hv.gr _ _ hX;have hfst:=jY g (by omega) (by omega) (by omega);have wp:a5 .i64 (g.first+(p:Int))=g.first+p:=aV (by omega) (by omega)
     obtain⟨o1,o2,o3,o4⟩:=iq i5 hpl;have q1:0<=g.first+(p:Int):=by omega
     have hvn:(g.first+(p:Int)).toNat<aa v:=by rw[hvl];omega
     have key:∀(v:List Bool)(A:H),P v A->∀lit,0<=lit->lit<2*(g.first+(p:Int))->∀Z:H,Xl TE id [vi lit] (A++(W++Z)) λj h'' p=>j=aL/\(∀i,p i=am)/\∃X',h''=X'++(W++Z)/\P (wZ v lit) X':=λv A hA lit h1 h2 Z=>hy v A (W++Z) lit hA h1 (by omega);refine aB ?_;refine ak (bK dV Qd (λf' h'=>f'.t 1= .lp k1 0/\f'.t 2= .lp k2 0/\f'.t 3= .lp N 0/\f'.t 49= .bool am/\f'.d=[]/\(∀j,f'.k j=am)/\∃X',P (AZ g vS (i+1)) X'/\h'=X'++(W++[pb])) (by decide +kernel) (by decide +kernel) ?_ ?_)
     ·have hLs:AZ g vS (i+1)=if v.getD (g.first+(p:Int)).toNat am then wZ (wZ v g.ands[p].1) g.ands[p].2 else v:=by simp only[AZ,<-hp,<-hvd,aP hpl]
      have hgd:∀(b:Bool),v.getD (g.first+(p:Int)).toNat am=b->(v.map V.bool).getD ((g.first+(p:Int)).toNat*1) V.any=V.bool b:=λb hb=>by rw[<-hb,Nat.mul_one,zqg,zqo,zqk hvn,aP hvn];rfl
      have q2:g.first+(p:Int)<n:=by omega
      have q3:(g.first+(p:Int)).toNat*1+1<=aa v:=by omega
      cases hb:v.getD (g.first+(p:Int)).toNat am
      ·simp only[wq.1,seval,Qd,t1,t2,ap _ c1,ap _ c2,hpb]
       repeat' apply zsa
       all_goals
        refine ag.ev hfst (by simp only[a7,a6,zre]) ?_;simp only[wq.1,seval,t1,t2,t3,ap _ c2,ap _ c3,gW lX,gy lX,wp,hgd _ hb,q1,q2,q3,CG];refine⟨.bool am,.bool am,?_⟩;simp only[wq.1,reduceCtorEq];simp only[hb,zrm,if_false]at hLs;rw[hLs];exact⟨X,hX,rfl⟩
      ·simp only[hb,if_true]at hLs;simp only[wq.1,seval,Qd,t1,t2,ap _ c1,ap _ c2,hpb]
       repeat' apply zsa
       all_goals
        refine ag.ev hfst (by simp only[a7,a6,zre]) ?_;obtain⟨t',n',ps,asg,body,pend,hL,hsz,hps,hwy⟩:=key v X hX g.ands[p].1 o1 o3 [aw [vi g.ands[p].fst,vi g.ands[p].snd]];simp only[wq.1,seval,t1,t2,t3,ap _ c2,ap _ c3,gW lX,gy lX,wp,hgd _ hb,q1,q2,q3,CG,hL,hps]
       repeat' apply zsa
       all_goals first
        |decide
        |(simpa using hsz)
        |skip
       all_goals
        refine pX hwy ?_;rintro j h'' q hq ⟨rfl,hqf,X',rfl,hX'⟩;have hqf':q=λ_=>am:=funext hqf;subst hqf';refine⟨λi _=>rfl,?_⟩;have lX':=hv.len _ _ hX';obtain⟨t'',n'',ps',asg',body',pend',hL',hsz',hps',hwy'⟩:=key _ X' hX' g.ands[p].2 o2 o4 [aw [vi g.ands[p].fst,vi g.ands[p].snd]];simp only[wq.1,seval,t1,t2,t3,gW lX',gy lX',Option.isNone_none,CG,hL',hps']
       repeat' apply zsa
       all_goals first
        |decide
        |(simpa using hsz')
        |skip
       all_goals
        refine pX hwy' ?_;rintro j h'' q hq ⟨rfl,hqf,X'',rfl,hX''⟩;have hqf':q=λ_=>am:=funext hqf;subst hqf';refine⟨λi _=>rfl,?_⟩;simp only[wq.1,seval,t1,t2,t3,Option.isNone_none];rw[hLs];exact⟨X'',hX'',rfl⟩
     ·rintro f' h' ⟨u1,u2,u3,u49,ud,uk,X',hX',rfl⟩;show awp _ _ _ _ _ _ _;refine vm ?_;simp only[wq.1,u49];have lX':=hv.len _ _ hX';exact⟨uk _,t,by rw[gN lX',hW];rfl,t,X',Y++[pb],hX',t1,t2,t3,λj=>by rw[hk,uk];rfl,by rw[sN lX',hW];simp⟩
    ·rintro L h' k hk0 ⟨t,X,Y,hX,t1,t2,t3,hk,rfl⟩;have lX:=hv.len _ _ hX;refine⟨t,(by rw[hlh];exact gN lX _ 3),λj _=>hk j,?_⟩;simp only[wq.1,Nat.reduceAdd,hd,lX0,sN lX,gN lX];refine⟨λj hj=>by rw[hkf j hj,hk j];rfl,⟨_,rfl⟩,X,_,rfl,?_⟩;have:aa (xy g.ands (aa g.ands))=aa g.ands:=by simp[xy]
     rw[this,hvS,hll]at hX;exact hX
   ·refine vm ?_;simp only[wq.1,seval,t1,ap _ x1];refine ag.ev (Iz g.ands) (by simp only[a7,a6,zre]) ?_;simp only[wq.1,seval,t1,t2,t3,hd];exact hk
  ·refine aB ?_;refine aA (λm f h => ∃ i,m + i = aa lits /\ f.t 1 = .lp k1 0 /\ f.t 2 = .lp k2 0 /\ f.t 3 = .lp N 0 /\ f.t 13 = .ls (N + 1) 1 0 (aa lits) (aa lits) /\ f.t 14 = vi (aa lits) /\ f.t 15 = vi i /\ f.d = [] /\ (∀ j,f.k j = am) /\ ∃ X,P (JR g v0 i) X /\ h = X ++ [aw [.yd id],aw (lits.map vi)]) (aa lits)
    ⟨0,by omega,t1,t2,t3,t13,t14,t15,hd,hk,X0,h0,rfl⟩ ?_
   rintro m f h ⟨i,hm,t1,t2,t3,t13,t14,t15,hd,hk,X,hX,rfl⟩;have lX:=hv.len _ _ hX;have hlm:aa (lits.map vi)=aa lits:=zra ..;refine vm ?_;simp only[wq.1,seval,t14,t15];refine vcB.mk (λhlt=> ?_) (λhlt=> ?_)
   ·simp only[zqb,zqi]at hlt;have hgi:=sU hlt V.any;have hw:=ax (show i<maxLen by omega);obtain⟨o1,o2⟩:=hlok _ (zqu hlt);obtain⟨t,n',ps,asg,body,pend,hL,hsz,hps,hwy⟩:=hy _ X [aw [.yd id],aw (lits.map vi)] lits[i] hX o1 o2;simp only[wq.1,seval,t3,t13,t15,gN lX,gN0 lX,hgi,hL,Nat.mul_one];refine⟨⟨by omega,by omega⟩,by omega,⟨by simpa using hsz,hps⟩,pX hwy ?_⟩;rintro j h'' p hp ⟨rfl,hpf,X',rfl,hX'⟩;have hpf':p=λ_=>am:=funext hpf;subst hpf';refine⟨by simp[ED,hd],?_⟩;simp only[wq.1,seval,t15,hw,Option.isNone_none];refine .inl ⟨m-1,by omega,i+1,by omega,by simp only[wq.1,seval,t1],by simp only[wq.1,seval,t2],by simp only[wq.1,seval,t3],by simp only[wq.1,seval,t13],by simp only[wq.1,seval,t14],rfl,hd,λj=>by(simp only[wq.1]);simpa using hk j,X',?_,rfl⟩;have:JR g v0 (i+1)=wZ (JR g v0 i) lits[i]:=by
     unfold JR;rw[<-hlits,show lits.take (i+1)=lits.take i++[lits[i]] by rw[zrg,zqk hlt];rfl,List.foldl_append];rfl
    rw[this];exact hX'
   ·simp only[zqd,zqi]at hlt;have hi:i=aa lits:=by omega
    subst hi;simp only[wq.1,↓reduceIte,Nat.reduceEqDiff,t1,t2,t3,hd];exact⟨λj _=>hk j,X,hX,rfl⟩
 ·refine vm ?_;simp only[wq.1,↓reduceIte,Nat.reduceEqDiff,Nat.reduceLT,Nat.reduceLeDiff,Nat.reduceAdd,reduceCtorEq,Nat.reduceMul,ap _ x1];refine⟨⟨rfl,by decide⟩,jM hcat rfl (jP _) ?_⟩;simp only[wq.1,seval,lN,zqc]
def Gr.vars(g:Gr):Nat:=1+g.ins.toNat+aa g.next+aa g.ands
def wu(g:Gr):List Bool:=AZ g (JR g (aD g.vars am) (aa (g.next++g.outs))) (aa g.ands)
theorem TU:aa (wu g)=g.vars:=by unfold wu;rw[xP,JS,zsc]
def U1:Plan:= .take 2<| .alt 0 (.alt 1 (.alt 3 (.alt 4 (.alt 5 (.alt 6 (.one 7<| .one 8<| .fin) (.one 7 (.one 6<| .one 8<| .fin))) (.one 7 (onZ [5,6,8]<| .fin))) (.one 7 (onZ [4,5,6,8]<| .fin))) (.one 7 (onZ [3,4,5,6,8]<| .fin))) (.alt 3 (.alt 1 (.alt 4 (.alt 5 (.alt 6 (.one 7<| .one 8<| .fin) (.one 7 (.one 6<| .one 8<| .fin))) (.one 7 (onZ [5,6,8]<| .fin))) (.one 7 (onZ [4,5,6,8]<| .fin))) (.alt 4 (.alt 1 (.alt 5 (.alt 6 (.one 7<| .one 8<| .fin) (.one 7 (.one 6<| .one 8<| .fin))) (.one 7 (onZ [5,6,8]<| .fin))) (.one 7 (onZ [1,5,6,8]<| .fin))) (.one 7 (.alt 1 (onZ [4,5,6,8]<| .fin) (.one 4 (onZ [1,5,6,8]<| .fin)))))) (.one 7 (.alt 1 (onZ [3,4,5,6,8]<| .fin) (.one 3 (.alt 1 (onZ [4,5,6,8]<| .fin) (.one 4 (onZ [1,5,6,8]<| .fin)))))))) (.alt 3 (.alt 0 (.alt 1 (.alt 4 (.alt 5 (.alt 6 (.one 7<| .one 8<| .fin) (.one 7 (.one 6<| .one 8<| .fin))) (.one 7 (onZ [5,6,8]<| .fin))) (.one 7 (onZ [4,5,6,8]<| .fin))) (.alt 4 (.alt 1 (.alt 5 (.alt 6 (.one 7<| .one 8<| .fin) (.one 7 (.one 6<| .one 8<| .fin))) (.one 7 (onZ [5,6,8]<| .fin))) (.one 7 (onZ [1,5,6,8]<| .fin))) (.one 7 (.alt 1 (onZ [4,5,6,8]<| .fin) (.one 4 (onZ [1,5,6,8]<| .fin)))))) (.alt 4 (.alt 0 (.alt 1 (.alt 5 (.alt 6 (.one 7<| .one 8<| .fin) (.one 7 (.one 6<| .one 8<| .fin))) (.one 7 (onZ [5,6,8]<| .fin))) (.one 7 (onZ [1,5,6,8]<| .fin))) (.one 7 (onZ [0,1,5,6,8]<| .fin))) (.one 7 (.alt 0 (.alt 1 (onZ [4,5,6,8]<| .fin) (.one 4 (onZ [1,5,6,8]<| .fin))) (.one 4 (onZ [0,1,5,6,8]<| .fin)))))) (.one 7 (.alt 0 (.alt 1 (onZ [3,4,5,6,8]<| .fin) (.one 3 (.alt 1 (onZ [4,5,6,8]<| .fin) (.one 4 (onZ [1,5,6,8]<| .fin))))) (.one 3 (.alt 0 (.alt 1 (onZ [4,5,6,8]<| .fin) (.one 4 (onZ [1,5,6,8]<| .fin))) (.one 4 (onZ [0,1,5,6,8]<| .fin)))))))
theorem Wl(hg:g.chk=0):EvF TE 54 [g.v] 1 g.vars ((wu g).map V.bool):=by
 have hM:=mLx;obtain⟨_,i0,i1,i2,i3,i4,i5⟩:=aU hg;have wf:g.first=1+g.ins+aa g.next:=rfl
 have hfst:=jY g (by omega) (by omega) (by omega);obtain⟨n,hn⟩:∃n,n=g.vars:=⟨_,rfl⟩;have hnv:(n:Int)=g.first+aa g.ands:=by rw[hn];unfold Gr.vars;omega
 have wn:a5 .i64 (g.first+(aa g.ands:Int))=(n:Int):=by rw[hnv];exact aV (by omega) (by omega)
 unfold EvF;unfold Gr.v at hfst ⊢;rw[<-hn];refine ah Tryz.func54 rfl (by simp[nts]) ?_;refine vn ?_;simp only[wq.1,Nat.reduceLT,Tryz.results54];refine ak (bK dV U1 (λf' h'=>f'.t 1= .lp 0 0/\f'.d=[]/\(∀j,f'.k j=am)/\((f'.t 3= .lp 2 0/\h'=[aw [vi g.ins,az g.next,az g.init,prs g.ands,az g.outs],aw (aD n (V.bool am)),aw [.ls 1 1 0 n n]])\/(f'.t 3= .lp 1 0/\h'=[aw [vi g.ins,az g.next,az g.init,prs g.ands,az g.outs],aw [.ls 2 1 0 n n],aw (aD n (V.bool am))]))) (by decide +kernel) (by decide +kernel) ?_ ?_)
 ·simp only[wq.1,seval,U1]
  repeat' apply zsa
  all_goals
   refine ag.ev hfst (by simp only[a7,a6,zre]) ?_;simp only[wq.1,seval,wn]
  all_goals
   repeat' apply zsa
  all_goals omega
 ·rintro f h' ⟨t1,hd,hk,hcase⟩;show awp _ _ _ _ _ _ _;obtain⟨rr,kc,X0,hX0,t3,rfl,hrk⟩:∃rr kc X0,h'=X0/\f.t 3= .lp kc 0/\X0=(if rr=1 then [aw [vi g.ins,az g.next,az g.init,prs g.ands,az g.outs],aw (aD n (V.bool am)),aw [.ls 1 1 0 n n]]else [aw [vi g.ins,az g.next,az g.init,prs g.ands,az g.outs],aw [.ls 2 1 0 n n],aw (aD n (V.bool am))])/\((rr=1/\kc=2)\/(rr=2/\kc=1)):=by
   rcases hcase with⟨a,b⟩|⟨a,b⟩
   ·exact⟨1,2,h',rfl,a,b,.inl ⟨rfl,rfl⟩⟩
   ·exact⟨2,1,h',rfl,a,b,.inr ⟨rfl,rfl⟩⟩
  clear hcase;subst hX0;rcases hrk with⟨rfl,rfl⟩|⟨rfl,rfl⟩
  ·simp only[if_true];refine vn ?_;simp only[wq.1,seval,t1,t3];refine uG ?_;simp only[wq.1,Nat.reduceAdd];refine vk (n:=21) (q:=111) (first:=[]) (captured:=[.lp 3 0,.lp 4 0]) (by simp only[wq.1,↓reduceIte]) (by simp only[wq.1,↓reduceIte]) rfl (by decide) ?_;intro L hLd gets;refine ag.mono (rG hg (id:=6) (k1:=3) (k2:=4) (rr:=1) (n:=n) (N:=7) (P:=λv X=>∃t,t 3= .lp 2 0/\aa v=n/\X=[aw [vi g.ins,az g.next,az g.init,prs g.ands,az g.outs],aw (v.map V.bool),aw [.ls 1 1 0 n n],aw [vi g.ins,az g.next,az g.init,prs g.ands,az g.outs],aw [.ls 1 1 0 n n],.misc .dfd,L t .ready aL]) hnv ⟨?_,?_,?_,?_,?_⟩ (by omega) ?_ (v0:=aD n am) ⟨_,?_,zsc,by rw[List.map_replicate];rfl⟩) ?_
   ·rintro v X ⟨t,ht,hl,rfl⟩;rfl
   ·rintro v X ⟨t,ht,hl,rfl⟩;rfl
   ·rintro v X ⟨t,ht,hl,rfl⟩;rfl
   ·rintro v X ⟨t,ht,hl,rfl⟩;rfl
   ·rintro v X ⟨t,ht,hl,rfl⟩;exact hl
   ·rintro v X Y lit ⟨t,ht,hl,rfl⟩ h0 h1;refine gets _ _ _ t rfl rfl (λlb=> ?_);refine vm ?_;simp only[wq.1,seval,Jf];refine⟨t,rfl,?_⟩;refine vm ?_;have hdv:lit.fdiv (2^min 1 IntKind.i64.bits)=lit/2:=by
     rw[show(2:Int)^min 1 IntKind.i64.bits=2 from rfl];exact Int.fdiv_eq_ediv_of_nonneg _ (by decide)
    have hlt:(lit/2).toNat<aa v:=by rw[hl];omega
    simp only[wq.1,seval,ht,yJ,XE.jump,hdv,Nat.mul_one,Option.isNone_none];refine⟨⟨by omega,by omega⟩,by omega,t,_,rfl,[_,_,_,_,_,_,_],rfl,t,ht,by rw[oZ,hl],?_⟩;rw[show List.map V.bool (wZ v lit)=(v.map V.bool).take (lit/2).toNat++[V.bool ab]++(v.map V.bool).drop ((lit/2).toNat+1) by
     unfold wZ;rw[List.map_set,List.set_eq_take_append_cons_drop,if_pos (by simpa using hlt),zqc];rfl]
   ·simp only[wq.1,seval,t3]
   ·rintro ae h' p ⟨hp,⟨w,rfl⟩,X,Y,rfl,t,ht,hl,rfl⟩;refine⟨?_,hp 6 (by omega),t,_,aL,(by decide),rfl,?_⟩
    ·intro i hi;have hi:i=5:=by simpa [ED,hd]using hi
     subst hi;exact hp 5 (by omega)
    ·have k0:=hp 0 (by omega);have k1:=hp 1 (by omega);have k2:=hp 2 (by omega);have k3:=hp 3 (by omega);have k5:=hp 5 (by omega);have k6:=hp 6 (by omega);simp only[wq.1,Nat.reduceAdd,Et,hd];refine vm ?_;simp only[wq.1,seval,k2,t3];exact .inr ⟨1,n,rfl,zrb _,by unfold wu;rw[<-hn,zqa];rfl⟩
  ·simp only[show((2:Nat)=1)=False from by simp,if_false];refine vn ?_;simp only[wq.1,seval,t1,t3];refine uG ?_;simp only[wq.1,Nat.reduceAdd];refine vk (n:=21) (q:=111) (first:=[]) (captured:=[.lp 3 0,.lp 4 0]) (by simp only[wq.1,↓reduceIte]) (by simp only[wq.1,↓reduceIte]) rfl (by decide) ?_;intro L hLd gets;refine ag.mono (rG hg (id:=6) (k1:=3) (k2:=4) (rr:=2) (n:=n) (N:=7) (P:=λv X=>∃t,t 3= .lp 1 0/\aa v=n/\X=[aw [vi g.ins,az g.next,az g.init,prs g.ands,az g.outs],aw [.ls 2 1 0 n n],aw (v.map V.bool),aw [vi g.ins,az g.next,az g.init,prs g.ands,az g.outs],aw [.ls 2 1 0 n n],.misc .dfd,L t .ready aL]) hnv ⟨?_,?_,?_,?_,?_⟩ (by omega) ?_ (v0:=aD n am) ⟨_,?_,zsc,by rw[List.map_replicate];rfl⟩) ?_
   ·rintro v X ⟨t,ht,hl,rfl⟩;rfl
   ·rintro v X ⟨t,ht,hl,rfl⟩;rfl
   ·rintro v X ⟨t,ht,hl,rfl⟩;rfl
   ·rintro v X ⟨t,ht,hl,rfl⟩;rfl
   ·rintro v X ⟨t,ht,hl,rfl⟩;exact hl
   ·rintro v X Y lit ⟨t,ht,hl,rfl⟩ h0 h1;refine gets _ _ _ t rfl rfl (λlb=> ?_);refine vm ?_;simp only[wq.1,seval,Jf];refine⟨t,rfl,?_⟩;refine vm ?_;have hdv:lit.fdiv (2^min 1 IntKind.i64.bits)=lit/2:=by
     rw[show(2:Int)^min 1 IntKind.i64.bits=2 from rfl];exact Int.fdiv_eq_ediv_of_nonneg _ (by decide)
    have hlt:(lit/2).toNat<aa v:=by rw[hl];omega
    simp only[wq.1,seval,ht,yJ,XE.jump,hdv,Nat.mul_one,Option.isNone_none];refine⟨⟨by omega,by omega⟩,by omega,t,_,rfl,[_,_,_,_,_,_,_],rfl,t,ht,by rw[oZ,hl],?_⟩;rw[show List.map V.bool (wZ v lit)=(v.map V.bool).take (lit/2).toNat++[V.bool ab]++(v.map V.bool).drop ((lit/2).toNat+1) by
     unfold wZ;rw[List.map_set,List.set_eq_take_append_cons_drop,if_pos (by simpa using hlt),zqc];rfl]
   ·simp only[wq.1,seval,t3]
   ·rintro ae h' p ⟨hp,⟨w,rfl⟩,X,Y,rfl,t,ht,hl,rfl⟩;refine⟨?_,hp 6 (by omega),t,_,aL,(by decide),rfl,?_⟩
    ·intro i hi;have hi:i=5:=by simpa [ED,hd]using hi
     subst hi;exact hp 5 (by omega)
    ·have k0:=hp 0 (by omega);have k1:=hp 1 (by omega);have k2:=hp 2 (by omega);have k3:=hp 3 (by omega);have k5:=hp 5 (by omega);have k6:=hp 6 (by omega);simp only[wq.1,Nat.reduceAdd,Et,hd];refine vm ?_;simp only[wq.1,seval,k1,t3];exact .inr ⟨2,n,rfl,zrb _,by unfold wu;rw[<-hn,zqa];rfl⟩
def lZ(f0:Int)(u:Bool)(s:List Pq×Cl)(p:Pq):List Pq×Cl :=
 if u then((jD f0 s.1 (fB s.2 p.1) (fB s.2 p.2)).1,s.2++[(jD f0 s.1 (fB s.2 p.1) (fB s.2 p.2)).2])else(s.1,s.2++[0])
def dC(g:Gr)(use:Nat->Bool):Nat->List Pq×Cl
 |0=>([],qw g.first.toNat)
 |i+1=>lZ g.first (use i) (dC g use i) (g.ands.getD i (0,0))
def uH(g:Gr)(s:List Pq×Cl):Gr:=⟨g.ins,g.next.map (fB s.2),g.init,s.1,g.outs.map (fB s.2)⟩
theorem IA{x k:Int}(h0:0<=x)(h1:x<2*k):0<=qO x/\qO x<2*k:=by unfold qO;split<;>omega
theorem jI{C:Cl}{k:Int}(hk:0<k)(hC:∀x∈C,0<=x/\x<2*k):0<=fB C a/\fB C a<2*k:=by
 have hg:0<=C.getD (a/2).toNat 0/\C.getD (a/2).toNat 0<2*k:=by
  by_cases hi:(a/2).toNat<aa C
  ·rw[aP hi];exact hC _ (zqu hi)
  ·rw[zqg,zsj (by omega)];exact⟨Int.le_refl _,by simp;omega⟩
 unfold fB;split
 ·exact IA hg.1 hg.2
 ·exact hg
theorem qx(hf:0<f0){A:List Pq}{p q:Int}(hp:0<=p/\p<2*(f0+aa A))(hq:0<=q/\q<2*(f0+aa A)) :
 aa A<=(jD f0 A p q).1.length/\(jD f0 A p q).1.length<=aa A+1/\0<=(jD f0 A p q).2/\(jD f0 A p q).2<2*(f0+(jD f0 A p q).1.length):=by
 unfold jD;split
 ·exact⟨zrb _,Nat.le_succ _,Int.le_refl _,by simp only;omega⟩
 ·split
  ·exact⟨zrb _,Nat.le_succ _,by simp only;omega,by simp only;omega⟩
  ·split
   ·rename_i i hi;have hi:i<aa A:=(List.findIdx?_eq_some_iff_getElem.1 hi).1;exact⟨zrb _,Nat.le_succ _,by simp only;omega,by simp only;omega⟩
   ·simp only[zqa,zrk];exact⟨by omega,by omega,by omega,by omega⟩
theorem lU(h:0<=g.ins):0<g.first:=by
 have:g.first=1+g.ins+aa g.next:=rfl
 omega
theorem jJ{g:Gr}(h:0<=g.ins)(use:Nat->Bool):∀i,(dC g use i).1.length<=i/\(dC g use i).2.length=g.first.toNat+i/\∀x∈(dC g use i).2,0<=x/\x<2*(g.first+(dC g use i).1.length)
 |0=>by have:=lU h;refine⟨zrb _,by simp[dC,qw],λx hx=> ?_⟩;simp only[dC,qw,zrh,List.mem_range]at hx;obtain⟨k,hk,rfl⟩:=hx;simp only[dC,List.length_nil];omega
 |i+1=>by
  have hf:=lU h;obtain⟨h1,h2,h3⟩:=jJ h use i;show(lZ _ _ _ _).1.length<=_/\(lZ _ _ _ _).2.length=_/\_;show _/\_/\∀x∈(lZ _ _ _ _).2,0<=x/\x<2*(g.first+(lZ _ _ _ _).1.length);generalize dC g use i=s at h1 h2 h3 ⊢;generalize g.ands.getD i (0,0)=p;unfold lZ;split
  ·obtain⟨a1,a2,a3,a4⟩:=qx hf (jI (a:=p.1) (by omega) h3) (jI (a:=p.2) (by omega) h3);refine⟨by simp only;omega,by simp only[zqa,zrk];omega,λx hx=> ?_⟩;simp only[zrf,zrc]at hx;rcases hx with hx|rfl
   ·have:=h3 x hx;simp only;omega
   ·exact⟨a3,a4⟩
  ·refine⟨by simp only;omega,by simp only[zqa,zrk];omega,λx hx=> ?_⟩;simp only[zrf,zrc]at hx;rcases hx with hx|rfl
   ·exact h3 x hx
   ·exact⟨Int.le_refl _,by simp only;omega⟩
theorem DN{p q:Int}(hp:0<=p/\p<2*(f0+aa A))(hq:0<=q/\q<2*(f0+aa A))
 (hA:∀k (hk:k<aa A),0<=A[k].1/\0<=A[k].2/\A[k].1<2*(f0+k)/\A[k].2<2*(f0+k)) :
 ∀k (hk:k<(jD f0 A p q).1.length),0<=(jD f0 A p q).1[k].1/\0<=(jD f0 A p q).1[k].2/\(jD f0 A p q).1[k].1<2*(f0+k)/\(jD f0 A p q).1[k].2<2*(f0+k):=by
 have:(jD f0 A p q).1=A\/(jD f0 A p q).1=A++[(max p q,min p q)]:=by
  unfold jD;split
  ·exact .inl rfl
  ·split
   ·exact .inl rfl
   ·split
    ·exact .inl rfl
    ·exact .inr rfl
 generalize (jD f0 A p q).1=B at this ⊢;rcases this with rfl|rfl
 ·exact hA
 ·intro k hk;by_cases hkl:k<aa A
  ·rw[List.getElem_append_left hkl];exact hA k hkl
  ·have:k=aa A:=by simp at hk;omega
   subst this;rw[List.getElem_append_right (zrb _)];simp only[Nat.sub_self,List.getElem_cons_zero];omega
theorem BI{g:Gr}(h:0<=g.ins)(use:Nat->Bool):∀i k (hk:k<(dC g use i).1.length),0<=(dC g use i).1[k].1/\0<=(dC g use i).1[k].2/\(dC g use i).1[k].1<2*(g.first+k)/\(dC g use i).1[k].2<2*(g.first+k)
 |0=>λk hk=>by simp[dC]at hk
 |i+1=>by
  have hf:=lU h;obtain⟨h1,h2,h3⟩:=jJ h use i;have ih:=BI h use i;show ∀k (hk:k<(lZ g.first (use i) (dC g use i) (g.ands.getD i (0,0))).1.length),0<=(lZ g.first (use i) (dC g use i) (g.ands.getD i (0,0))).1[k].1/\0<=(lZ g.first (use i) (dC g use i) (g.ands.getD i (0,0))).1[k].2/\(lZ g.first (use i) (dC g use i) (g.ands.getD i (0,0))).1[k].1<2*(g.first+k)/\(lZ g.first (use i) (dC g use i) (g.ands.getD i (0,0))).1[k].2<2*(g.first+k);generalize dC g use i=s at h1 h2 h3 ih ⊢;generalize g.ands.getD i (0,0)=p;cases use i with
  |true=>exact DN (jI (a:=p.1) (by omega) h3) (jI (a:=p.2) (by omega) h3) ih
  |false=>exact ih
theorem xQ(hg:g.chk=0)(use:Nat->Bool):(uH g (dC g use (aa g.ands))).chk=0:=by
 obtain⟨i,i0,i1,i2,i3,i4,i5⟩:=aU hg;obtain⟨r1,r2,r3,r4⟩:=aJ i4;have hf:=lU i0;obtain⟨h1,h2,h3⟩:=jJ i0 use (aa g.ands);have h4:=BI i0 use (aa g.ands);generalize dC g use (aa g.ands)=s at h1 h2 h3 h4 ⊢;obtain⟨A,C⟩:=s;dsimp only at h1 h2 h3 h4;have hc:=λa=>jI (C:=C) (a:=a) (k:=g.first+aa A) (by omega) h3;have fe:(uH g (A,C)).first=g.first:=by simp[uH,Gr.first]
 have ae:(uH g (A,C)).all=2*(g.first+aa A):=by unfold Gr.all;rw[fe];rfl
 have l1:(uH g (A,C)).lim=am:=by show(aM (g.ins<0)||aM (4000<g.ins)||aM (4000<g.ins+aa (g.next.map (fB C))+aa A)||aM (4000<(aa (g.outs.map (fB C)):Int)))=am;simp only[zra,zsf,zqd];omega
 have l2:(uH g (A,C)).oddR=am:=by
  simp only[Gr.oddR,ae,zsf,bne_eq_false_iff_eq,List.any_eq_false,xx,xN,Bool.not_eq_true,zqd];simp only[uH,zra,zrh];refine⟨⟨⟨r1,λa ha=> ?_⟩,?_⟩,?_⟩
  ·have:=r2 a ha;omega
  ·rintro a ⟨b,hb,rfl⟩;have:=hc b;omega
  ·rintro a ⟨b,hb,rfl⟩;have:=hc b;omega
 have l3:(uH g (A,C)).oddAs (uH g (A,C)).ands.length=am:=by
  unfold Gr.oddAs;rw[List.any_eq_false];intro k hk;have hk:k<aa A:=by simpa [uH]using hk
  rw[fe];show ¬Ny (2*(g.first+k)) (A.getD k (0,0))=ab;rw[aP hk];have:=h4 k hk;simp only[Ny,Bool.or_eq_true,zqb];omega
 unfold Gr.chk;rw[l1,l2,l3];rfl
end Go.Proofs.YthdidjjecjhenaaGreat
