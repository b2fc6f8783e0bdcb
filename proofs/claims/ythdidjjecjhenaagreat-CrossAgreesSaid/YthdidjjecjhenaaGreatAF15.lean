/- Lemmas for this claim, part F15: each holds under what it names. -/
import Derived.Test.YthdidjjecjhenaaGreatAF14
import Derived.Test.YthdidjjecjhenaaGreatAA10
set_option linter.all false
set_option maxRecDepth 20000
set_option maxHeartbeats 16000000
namespace Go.Proofs.YthdidjjecjhenaaGreat
open Go Go.Proofs Go.Abs
open List renaming length → aa, replicate → aD
open Bool renaming true → ab, false → am
open Option renaming some → ar, none → aL
open Decidable renaming decide → aM
open Go.IntKind renaming wrap → a5
open Go.Result renaming andThen → a8
open Go.Abs.O renaming cells → aw
open Go.Abs.V renaming drops → aE, dat → a6, dats → a7
def Ac:Nat->Code->Code
 |n+1,.seq _ y=>Ac n y
 |_,c=>c
def rJ(f:Func):Code:=match f.body with
 |some c=>c
 |none=> .skip
structure JF(a b:Mo)(zs:Cl):Prop where
 zl:aa zs=aa a.lat+aa b.lat
 bl:(mV a b).b.length=aa zs
 ai:aa a.ins<=4000
 n:aa a.ins+aa zs+(aY a.g).ands.length+(aY b.g).ands.length+3*aa a.out<=4000
 jf:(1:Int)+(aa a.ins:Int)+(aa zs:Int)=jf a b
 an:(aY a.g).next.length=aa a.lat
 bn:(aY b.g).next.length=aa b.lat
 ao:(aY a.g).outs.length=aa a.out
 bo:(aY b.g).outs.length=aa b.out
 la:(jA a b).1.length=(aY a.g).ands.length
 lb:(jB a b).1.length=(aY a.g).ands.length+(aY b.g).ands.length
 ta:∀x∈(jA a b).2,0<=x/\x<=1000000
 tb:∀x∈(jB a b).2,0<=x/\x<=1000000
 tal:∀l,(l∈(aY a.g).next\/l∈(aY a.g).outs)->0<=l/\l/2<(jA a b).2.length/\l<=1000000/\0<=mvX (jA a b).2 l/\mvX (jA a b).2 l<2*(Go.Proofs.YthdidjjecjhenaaGreat.jf a b+(jA a b).1.length)
 tbl:∀l,(l∈(aY b.g).next\/l∈(aY b.g).outs)->0<=l/\l/2<(jB a b).2.length/\l<=1000000/\0<=mvX (jB a b).2 l/\mvX (jB a b).2 l<2*(Go.Proofs.YthdidjjecjhenaaGreat.jf a b+(jB a b).1.length)
variable{a b:Mo}
theorem Wv(c:CanOk a b)(big:JBig a b):JF a b (aD (mV a b).b.length 0):=by
 obtain⟨ga1,ga2,ga3,ga4⟩:=cu c.ca;obtain⟨gb1,gb2,gb3,gb4⟩:=cu c.cb;obtain⟨pa1,pa2,pa3,pa4⟩:=cZ (g:=a.g);obtain⟨pb1,pb2,pb3,pb4⟩:=cZ (g:=b.g);have hbn:=big.n;obtain⟨bl1,bl2,bl3⟩:=qV c;have k1:=nX ga1;have k2:=nX gb1;have hci:=c.ins.1;have hdum:JIn a b (aD (aa a.lat) am) (aD (aa b.lat) am) (aD (aa a.ins) am):=⟨zsc,zsc,zsc⟩;have jl:=uN hdum;obtain⟨qa1,qa2,qa3⟩:=IC c hdum;obtain⟨⟨B2,qb1,qb1'⟩,qb2,qb3⟩:=IE c hdum;have lb:(jB a b).1.length=(jA a b).1.length+aa B2:=by rw[qb1,zqa]
 obtain⟨_,ia0,ia1,ia2,ia3,ia4,ia5⟩:=aU (jd ga1);obtain⟨_,ib0,ib1,ib2,ib3,ib4,ib5⟩:=aU (jd gb1);obtain⟨_,_,va3,va4⟩:=aJ ia4;obtain⟨_,_,vb3,vb4⟩:=aJ ib4;have waa:(aY a.g).all=2*((aY a.g).first+(aY a.g).ands.length):=rfl;have wab:(aY b.g).all=2*((aY b.g).first+(aY b.g).ands.length):=rfl;have wfa:(aY a.g).first=1+(aY a.g).ins+(aY a.g).next.length:=rfl
 have wfb:(aY b.g).first=1+(aY b.g).ins+(aY b.g).next.length:=rfl
 have lva:aa ((aY a.g).vals (aD (aa a.lat) am) (aD (aa a.ins) am))=1+aa a.ins+aa a.lat+(aY a.g).ands.length:=by unfold Gr.vals;rw[iY (zrb _)];simp
 have lvb:aa ((aY b.g).vals (aD (aa b.lat) am) (xB a b (aD (aa a.ins) am)))=1+aa b.ins+aa b.lat+(aY b.g).ands.length:=by unfold Gr.vals;rw[iY (zrb _)];simp[xB]
 have ra:=qa3.r;have rb:=qb3.r;have la:=qa3.len;have lb':=qb3.len;have hjd:jf a b=1+(aa a.ins:Int)+((aa a.lat:Int)+(aa b.lat:Int)):=rfl;refine⟨by simp;omega,by simp,by omega,by simp;omega,by simp;omega,by omega,by omega,by omega,by omega,qa1,by omega,λx hx=>by have:=ra x hx;omega,λx hx=>by have:=rb x hx;omega,λl hl=> ?_,λl hl=> ?_⟩
 ·have h:0<=l/\l<(aY a.g).all:=hl.elim (va3 l) (va4 l);obtain⟨m1,m2,_⟩:=qa3.lit (l:=l) h.1 (by omega);exact⟨h.1,by omega,by omega,m1,by omega⟩
 ·have h:0<=l/\l<(aY b.g).all:=hl.elim (vb3 l) (vb4 l);obtain⟨m1,m2,_⟩:=qb3.lit (l:=l) h.1 (by omega);exact⟨h.1,by omega,by omega,m1,by omega⟩
def DY(N zs:Cl)(i:Nat):Cl:=N.take i++zs.drop i
variable{N zs:Cl}
theorem QD(hNl:aa N=aa zs){i:Nat}(h:i<aa N):(DY N zs i).set i N[i]=DY N zs (i+1):=by
 have hz:i<aa zs:=by omega
 unfold DY;rw[List.drop_eq_getElem_cons hz,List.set_append_right _ _ (by simp;omega)];simp only[zrl,Nat.min_eq_left (Nat.le_of_lt h),Nat.sub_self,List.set_cons_zero];rw[zrg,zqk h,Option.toList_some,zqc];rfl
theorem Ud:DY N zs 0=zs:=by simp[DY]
theorem Wx(h:aa N=aa zs):DY N zs (aa N)=N:=by unfold DY;rw[zrx,List.drop_eq_nil_of_le (by omega),zqp]
theorem QE(hNl:aa N=aa zs){i:Nat}(h:i<=aa N):aa (DY N zs i)=aa zs:=by simp[DY];omega
def nA(m:Mo):Mo:={m with g:=aY m.g}
abbrev miV(g:Gr)(b:Cl)(p:List Pq):V:= .agg [vi g.ins,az g.next,az g.init,prs g.ands,az g.outs,az b,prs p]
def DZ(a b:Mo):V:=if pg a b=0 then .tup [miV (aF a b) (mV a b).b (mV a b).p,.bool (mV a b).ok,vi 0]else .tup [miV ⟨0,[],[],[],[]⟩ [] [],.bool am,vi (pg a b)]
theorem Yd{a b:Mo}:∀i,mN (nA a) (nA b) i=mN a b i
 |0=>rfl
 |i+1=>by show l7 _ _ _ (mN (nA a) (nA b) i) i _=l7 _ _ _ (mN a b i) i _;rw[Yd i];rfl
variable{ni f0:Int}{init:Cl}{A:List Pq}
theorem Y6(hf:f0=1+ni+(aa zs:Int))(n0:0<=ni)(hi:aa init=aa zs)(hr:∀x∈init,0<=x/\x<=2)(hz:∀x∈zs,x=0)(hA:OkA f0 A)(hl:ni+(aa zs:Int)+(aa A:Int)<=4000):Gr.chk ⟨ni,zs,init,A,[]⟩=0:=by
 have fe:Gr.first ⟨ni,zs,init,A,[]⟩=f0:=hf.symm
 have ae:Gr.all ⟨ni,zs,init,A,[]⟩=2*(f0+(aa A:Int)):=by unfold Gr.all;rw[fe]
 have l1:Gr.lim ⟨ni,zs,init,A,[]⟩=am:=by show(aM (ni<0)||aM (4000<ni)||aM (4000<ni+(aa zs:Int)+(aa A:Int))||aM (4000<(aa ([]:Cl):Int)))=am;simp only[zsf,zqd,List.length_nil];omega
 have l2:Gr.oddR ⟨ni,zs,init,A,[]⟩=am:=by
  simp only[Gr.oddR,ae,zsf,bne_eq_false_iff_eq,List.any_eq_false,xx,xN,Bool.not_eq_true,zqd];refine⟨⟨⟨hi,λy hy=> ?_⟩,λy hy=> ?_⟩,λy hy=>by cases hy⟩
  ·have:=hr y hy;omega
  ·have:=hz y hy;omega
 have l3:Gr.oddAs ⟨ni,zs,init,A,[]⟩ (aa A)=am:=by
  unfold Gr.oddAs;rw[List.any_eq_false];intro k hk;have hk:k<aa A:=by simpa using hk
  rw[fe];show ¬Ny (2*(f0+k)) (A.getD k (0,0))=ab;rw[aP hk];have:=hA k hk;simp only[Ny,Bool.or_eq_true,zqb];omega
 unfold Gr.chk;rw[l1,l2,l3];rfl
variable{g:Gr}
theorem QF(hg:g.chk=0){f:Int}(hn:f=g.first):OkA f g.ands:=λi hi=>by obtain⟨_,i0,i1,i2,i3,i4,i5⟩:=aU hg;have:=iq i5 hi;omega
theorem QG(c:Cl)(hc:aa c<=1000000):Ev TE 29 [az c] (az c) :=
 (BD c hc).ev (λ_ hc=>by rw[show c=[] by simpa using hc];exact lH) (λh' id cap _ hid=>dG hid rfl) (λ_ hc h'=>by rw[show c=[] by simpa using hc];exact aH.nils)
variable{pr:List Pq}
theorem sK{x0 x1 x2 W:List V}{beg:Cl}{iv:V}{p q:Int}(hf:f0=1+ni+(aa zs:Int))(d0:a7 x0=ab)(d1:a7 x1=ab)(d2:a7 x2=ab)(di:iv.dat=ab)(dW:a7 W=ab)
 (hg:Gr.chk ⟨ni,zs,init,A,[]⟩=0) (hA1:ni+(aa zs:Int)+(aa A:Int)<4000)
 (p0:0<=p/\p<2*(f0+aa A)) (q0:0<=q/\q<2*(f0+aa A)) {R:AEnd->H->(Nat->Bool)->Prop}
 (hr:R (.ret (vi (jD f0 A p q).2)) (hJ5 x0 x1 x2 ni zs init beg pr iv (jD f0 A p q).1++[aw W]) (λ_=>am)) :
 ag TE 31 [.lp 3 0,vi p,vi q] (hJ5 x0 x1 x2 ni zs init beg pr iv A++[aw W]) R:=by
 refine ag.frame (Nb hf d0 d1 d2 di hg hA1 p0.1 p0.2 q0.1 q0.2 ⟨rfl,?_,?_⟩) rfl ?_
 ·rw[zrd,List.map_nil,aZ,bF.dats_drops _ dW]
 ·simpa only[Bool.false_and]using hr
 ·have dd0:∀p,aE p x0=x0:=λp=>bF.dats_drops _ d0;have dd1:∀p,aE p x1=x1:=λp=>bF.dats_drops _ d1;have dd2:∀p,aE p x2=x2:=λp=>bF.dats_drops _ d2;have ddi:∀p,iv.drop p=iv:=λp=>bF _ di;have ddz:∀p,aE p (zs.map vi)=zs.map vi:=λp=>aN _;simp only[wq.1,seval,aE,V.drop,dd0,dd1,dd2,ddi,ddz,aQ]
theorem QH{bg:Cl}{W:Cl}{okm:Bool}(F:JF a b zs)(hjG:aF a b=⟨aa a.ins,(aY a.g).next.map (mvX (jA a b).2)++(aY b.g).next.map (mvX (jB a b).2),bg,A,W⟩)(hWl:aa W=aa a.out){f:Fr}
 (t2:f.t 2= .lp 0 0) (t3:f.t 3= .lp 1 0) (t4:f.t 4= .lp 2 0) (t8:f.t 8= .lp 3 0) (t9:f.t 9= .bool okm) (t10:f.t 10= .fn (.func 57) [] [.ip (az (jA a b).2)]) (t11:f.t 11= .fn (.func 57) [] [.ip (az (jB a b).2)]) (hd:f.d=[]):awp TE 236 aL (Ac 15 (rJ Tryz.f12)) (Jc TE Tryz.f12.results.toList (V.tup [miV (aF a b) bg pr,.bool okm,vi 0])) f [aw (cCM (nA a)),aw (cCM (nA b)),aw [vi 0,.nils,.nils,.nils,.nils,.nils,.nils],aw [vi (aa a.ins),.ls 4 1 0 (aa zs) (aa zs),az bg,prs A,.ls 5 1 0 (aa a.out) (aa a.out),az bg,prs pr,plV a.ins,.bool am],aw ((zs).map vi),aw (W.map vi)]:=by
 have hM:=mLx;obtain⟨N,hN⟩:∃N,N=(aY a.g).next.map (mvX (jA a b).2)++(aY b.g).next.map (mvX (jB a b).2):=⟨_,rfl⟩
 have hNl:aa N=aa zs:=by rw[hN,zqa,zra,zra,F.an,F.bn,F.zl]
 rw[<-hN]at hjG;have fan:=F.an;have fbn:=F.bn;have fzl:=F.zl;have fn:=F.n;have lnA:((nA a).g.next.length:Int)=aa a.lat:=by show(((aY a.g).next.length:Nat):Int)=_;omega
 have lnB:((nA b).g.next.length:Int)=aa b.lat:=by show(((aY b.g).next.length:Nat):Int)=_;omega
 simp only[Ac,rJ,Tryz.f12];refine ak ?_;refine vn ?_;simp only[wq.1,seval,t2,lnA];refine aB ?_;refine aA (λq f h=>∃i,q+i=aa a.lat/\f.t 2= .lp 0 0/\f.t 3= .lp 1 0/\f.t 4= .lp 2 0/\f.t 8= .lp 3 0/\f.t 9= .bool okm/\f.t 10= .fn (.func 57) [] [.ip (az (jA a b).2)]/\f.t 11= .fn (.func 57) [] [.ip (az (jB a b).2)]/\f.t 186=az (nA a).g.next/\f.t 187=vi (aa a.lat)/\f.t 188=vi i/\f.d=[]/\h=[aw (cCM (nA a)),aw (cCM (nA b)),aw [vi 0,.nils,.nils,.nils,.nils,.nils,.nils],aw [vi (aa a.ins),.ls 4 1 0 (aa zs) (aa zs),az bg,prs A,.ls 5 1 0 (aa a.out) (aa a.out),az bg,prs pr,plV a.ins,.bool am],aw ((DY N zs i).map vi),aw (W.map vi)]) (aa a.lat) ⟨0,by omega,t2,t3,t4,t8,t9,t10,t11,rfl,rfl,rfl,hd,by rw[Ud]⟩ ?_;clear t2 t3 t4 t8 t9 t10 t11 hd f;rintro q f h ⟨i,hq,t2,t3,t4,t8,t9,t10,t11,t186,t187,t188,hd,rfl⟩;refine vn ?_;simp only[wq.1,Nat.reduceLT,t187,t188];refine ak (aX (b:=aM ((i:Int)<aa a.lat)) (by simp only[wq.1,↓reduceIte]) (by simp only[wq.1,↓reduceIte]) (λhlt=> ?_) (λhlt=> ?_))
 ·simp only[zqb,zqi]at hlt;have hw:=ax (show i<maxLen by omega);have hil:i<(aY a.g).next.length:=by omega
  obtain⟨l,hl⟩:∃l,l=(aY a.g).next[i]:=⟨_,rfl⟩
  have hgo:((nA a).g.next.map vi).getD i .any=vi l:=by rw[hl];exact sU hil _
  obtain⟨l1,l2,l3,_,_⟩:=F.tal l (.inl (by rw[hl];exact zqu hil));have ev1:=qW (jA a b).2 l l1 l2 l3 F.ta;have hNi:i<aa N:=by omega
  have hNe:N[i]=mvX (jA a b).2 l:=by simp only[hN,hl];rw[List.getElem_append_left (by simpa using hil),List.getElem_map]
  have hrl:=QE hNl (i:=i) (by omega);have hts:((DY N zs i).map vi).take (i)++[vi (mvX (jA a b).2 l)]++((DY N zs i).map vi).drop (i+1)=(DY N zs (i+1)).map vi:=by rw[uD (by omega),<-hNe,QD hNl hNi]
  refine vm ?_;simp only[wq.1];refine ak (aB ?_);refine vn ?_;simp only[wq.1,seval,t186,t188,hgo];refine⟨⟨by omega,by omega⟩,?_⟩;refine nI dV 11 (.one 11<| .fin) (λf' h'=>f'.t 2= .lp 0 0/\f'.t 3= .lp 1 0/\f'.t 4= .lp 2 0/\f'.t 8= .lp 3 0/\f'.t 9= .bool okm/\f'.t 10= .fn (.func 57) [] [.ip (az (jA a b).2)]/\f'.t 11= .fn (.func 57) [] [.ip (az (jB a b).2)]/\f'.t 186=az (nA a).g.next/\f'.t 187=vi (aa a.lat)/\f'.t 188=vi i/\f'.d=[]/\h'=[aw (cCM (nA a)),aw (cCM (nA b)),aw [vi 0,.nils,.nils,.nils,.nils,.nils,.nils],aw [vi (aa a.ins),.ls 4 1 0 (aa zs) (aa zs),az bg,prs A,.ls 5 1 0 (aa a.out) (aa a.out),az bg,prs pr,plV a.ins,.bool am],aw ((DY N zs (i+1)).map vi),aw (W.map vi)]) (by decide +kernel) ?_ ?_
  ·intro K hK;simp only[List.take_succ_cons,List.take_zero];simp only[wq.1,seval,t8,t10];refine Aq.mk ev1 rfl (by simp only[a7,a6,zre]) ?_;simp only[wq.1,seval];refine⟨⟨by omega,by omega⟩,hK _ ?_⟩;simp only[wq.1,seval,t2,t3,t4,t8,t9,t10,t11,t186,t187,t188,hd];refine⟨by omega,?_⟩;rw[Nat.mul_one,hts]
  ·rintro f h ⟨t2,t3,t4,t8,t9,t10,t11,t186,t187,t188,hd,rfl⟩;show awp _ _ _ _ _ _ _;refine vm ?_;simp only[wq.1,seval,t188,hw];exact .inl ⟨q-1,by omega,i+1,by omega,t2,t3,t4,t8,t9,t10,t11,t186,t187,rfl,hd,rfl⟩
 ·simp only[zqd,zqi]at hlt;have:i=aa a.lat:=by omega
  subst this;refine vm ?_;simp only[wq.1];show awp _ _ _ _ _ _ _;refine ak ?_;refine vn ?_;simp only[wq.1,seval,t3,lnB];refine aB ?_;refine aA (λq f h=>∃i,q+i=aa b.lat/\f.t 2= .lp 0 0/\f.t 3= .lp 1 0/\f.t 4= .lp 2 0/\f.t 8= .lp 3 0/\f.t 9= .bool okm/\f.t 10= .fn (.func 57) [] [.ip (az (jA a b).2)]/\f.t 11= .fn (.func 57) [] [.ip (az (jB a b).2)]/\f.t 207=az (nA b).g.next/\f.t 208=vi (aa b.lat)/\f.t 209=vi i/\f.d=[]/\h=[aw (cCM (nA a)),aw (cCM (nA b)),aw [vi 0,.nils,.nils,.nils,.nils,.nils,.nils],aw [vi (aa a.ins),.ls 4 1 0 (aa zs) (aa zs),az bg,prs A,.ls 5 1 0 (aa a.out) (aa a.out),az bg,prs pr,plV a.ins,.bool am],aw ((DY N zs (aa a.lat+i)).map vi),aw (W.map vi)]) (aa b.lat) ⟨0,by omega,t2,t3,t4,t8,t9,t10,t11,rfl,rfl,rfl,hd,rfl⟩ ?_;clear t186 t187 t188 t2 t3 t4 t8 t9 t10 t11 hd f;rintro q f h ⟨i,hq,t2,t3,t4,t8,t9,t10,t11,t207,t208,t209,hd,rfl⟩;refine vn ?_;simp only[wq.1,Nat.reduceLT,t208,t209];refine ak (aX (b:=aM ((i:Int)<aa b.lat)) (by simp only[wq.1,↓reduceIte]) (by simp only[wq.1,↓reduceIte]) (λhlt=> ?_) (λhlt=> ?_))
  ·simp only[zqb,zqi]at hlt;have hw:=ax (show i<maxLen by omega);have hil:i<(aY b.g).next.length:=by omega
   obtain⟨l,hl⟩:∃l,l=(aY b.g).next[i]:=⟨_,rfl⟩
   have hgo:((nA b).g.next.map vi).getD i .any=vi l:=by rw[hl];exact sU hil _
   obtain⟨l1,l2,l3,_,_⟩:=F.tbl l (.inl (by rw[hl];exact zqu hil));have ev1:=qW (jB a b).2 l l1 l2 l3 F.tb;have wla:a5 .i64 (((nA a).g.next.length:Int)+(i:Int))=((aa a.lat+i:Nat):Int):=by rw[aV (by omega) (by omega)];omega
   have hNi:aa a.lat+i<aa N:=by omega
   have hNe:N[aa a.lat+i]=mvX (jB a b).2 l:=by simp only[hN,hl];rw[List.getElem_append_right (by rw[zra];omega),List.getElem_map];simp[F.an]
   have hrl:=QE hNl (i:=aa a.lat+i) (by omega);have hts:((DY N zs (aa a.lat+i)).map vi).take (aa a.lat+i)++[vi (mvX (jB a b).2 l)]++((DY N zs (aa a.lat+i)).map vi).drop (aa a.lat+i+1)=(DY N zs (aa a.lat+i+1)).map vi:=by rw[uD (by omega),<-hNe,QD hNl hNi]
   refine vm ?_;simp only[wq.1];refine ak (aB ?_);refine vn ?_;simp only[wq.1,seval,t207,t209,hgo];refine⟨⟨by omega,by omega⟩,?_⟩;refine nI dV 16 (.one 16<| .fin) (λf' h'=>f'.t 2= .lp 0 0/\f'.t 3= .lp 1 0/\f'.t 4= .lp 2 0/\f'.t 8= .lp 3 0/\f'.t 9= .bool okm/\f'.t 10= .fn (.func 57) [] [.ip (az (jA a b).2)]/\f'.t 11= .fn (.func 57) [] [.ip (az (jB a b).2)]/\f'.t 207=az (nA b).g.next/\f'.t 208=vi (aa b.lat)/\f'.t 209=vi i/\f'.d=[]/\h'=[aw (cCM (nA a)),aw (cCM (nA b)),aw [vi 0,.nils,.nils,.nils,.nils,.nils,.nils],aw [vi (aa a.ins),.ls 4 1 0 (aa zs) (aa zs),az bg,prs A,.ls 5 1 0 (aa a.out) (aa a.out),az bg,prs pr,plV a.ins,.bool am],aw ((DY N zs (aa a.lat+i+1)).map vi),aw (W.map vi)]) (by decide +kernel) ?_ ?_
   ·intro K hK;simp only[List.take_succ_cons,List.take_zero];simp only[wq.1,seval,t2,t8,t11,wla];refine Aq.mk ev1 rfl (by simp only[a7,a6,zre]) ?_;simp only[wq.1,seval];refine⟨⟨by omega,by omega⟩,hK _ ?_⟩;simp only[wq.1,seval,t2,t3,t4,t8,t9,t10,t11,t207,t208,t209,hd];refine⟨by omega,?_⟩;rw[Nat.mul_one,hts]
   ·rintro f h ⟨t2,t3,t4,t8,t9,t10,t11,t207,t208,t209,hd,rfl⟩;show awp _ _ _ _ _ _ _;refine vm ?_;simp only[wq.1,seval,t209,hw];exact .inl ⟨q-1,by omega,i+1,by omega,t2,t3,t4,t8,t9,t10,t11,t207,t208,rfl,hd,rfl⟩
  ·simp only[zqd,zqi]at hlt;have:i=aa b.lat:=by omega
   subst this;refine vm ?_;simp only[wq.1];show awp _ _ _ _ _ _ _;refine vm ?_;simp only[wq.1,seval,t4,t8,t9,hd];have hNe:aa a.lat+aa b.lat=aa N:=by omega
   rw[hNe,Wx hNl,hjG];exact aH.tup (aj.cons (aH.agg (aj.cons (aH.dat rfl) (aj.cons (dG rfl hNl.symm) (aj.cons (aH.dat WV) (aj.cons (aH.dat (by simp only[a6])) (aj.cons (dG rfl hWl.symm) (aj.dat (by simp only[a7,a6,zre])))))))) (aj.dat rfl))
theorem Ue(c:CanOk a b)(big:JBig a b){zs bg:Cl}{pr:List Pq}{okm:Bool}(hzs:zs=aD (mV a b).b.length 0)(hbg:bg=(mV a b).b){f:Fr}
 (t2:f.t 2= .lp 0 0) (t3:f.t 3= .lp 1 0) (t4:f.t 4= .lp 2 0) (t8:f.t 8= .lp 3 0) (t9:f.t 9= .bool okm) (t10:f.t 10= .fn (.func 57) [] [.ip (az (jA a b).2)]) (t11:f.t 11= .fn (.func 57) [] [.ip (az (jB a b).2)]) (t12:f.t 12=plV b.out) (t13:f.t 13= .ls 5 1 0 0 0) (hd:f.d=[]):awp TE 236 aL (Ac 12 (rJ Tryz.f12)) (Jc TE Tryz.f12.results.toList (V.tup [miV (aF a b) bg pr,.bool okm,vi 0])) f (hJ5 (cCM (nA a)) (cCM (nA b)) [vi 0,.nils,.nils,.nils,.nils,.nils,.nils] (aa a.ins) zs bg bg pr (plV a.ins) (jB a b).1++[aw []]):=by
 have hM:=mLx;have F:=Wv c big;rw[<-hzs]at F;obtain⟨bl1,bl2,bl3⟩:=qV c;have hbgl:aa bg=aa zs:=by rw[hbg];exact F.bl
 have hjf:=F.jf;have fn:=F.n;have fao:=F.ao;have fbo:=F.bo;have fai:=F.ai;have n3:(nA a).out=a.out:=rfl;have hdum:JIn a b (aD (aa a.lat) am) (aD (aa b.lat) am) (aD (aa a.ins) am):=⟨zsc,zsc,zsc⟩;have jl:=uN hdum;simp only[Ac,rJ,Tryz.f12];refine ak ?_;refine vn ?_;simp only[wq.1,seval,t2,n3];refine aB ?_;refine aA (λq f h=>∃i,q+i=aa a.out/\f.t 2= .lp 0 0/\f.t 3= .lp 1 0/\f.t 4= .lp 2 0/\f.t 8= .lp 3 0/\f.t 9= .bool okm/\f.t 10= .fn (.func 57) [] [.ip (az (jA a b).2)]/\f.t 11= .fn (.func 57) [] [.ip (az (jB a b).2)]/\f.t 12=plV b.out/\f.t 13= .ls 5 1 0 i i/\f.t 122=ig a.out/\f.t 123=vi (aa a.out)/\f.t 124=vi i/\f.d=[]/\h=hJ5 (cCM (nA a)) (cCM (nA b)) [vi 0,.nils,.nils,.nils,.nils,.nils,.nils] (aa a.ins) zs bg bg pr (plV a.ins) (jO a b i).1++[aw ((jO a b i).2.map vi)]) (aa a.out) ⟨0,by omega,t2,t3,t4,t8,t9,t10,t11,t12,t13,rfl,rfl,rfl,hd,rfl⟩ ?_;clear t2 t3 t4 t8 t9 t10 t11 t12 t13 hd f;rintro q f h ⟨i,hq,t2,t3,t4,t8,t9,t10,t11,t12,t13,t122,t123,t124,hd,rfl⟩;obtain⟨⟨B,s1⟩,s2,s3,s4,s5,s6⟩:=MR c hdum i (by omega);rw[jl]at s2 s5;obtain⟨A,W,hAO⟩:∃A W,jO a b i=(A,W):=⟨_,_,rfl⟩;have hsu:jO a b (i+1)=Rk (jf a b) (mvX (jA a b).2 ((aY a.g).outs.getD i 0)) (mvX (jB a b).2 ((aY b.g).outs.getD (atI b.out (a.out.getD i [])) 0)) (jO a b i):=rfl;rw[hAO]at s1 s2 s3 s4 s5 hsu ⊢;dsimp only at s1 s2 s3 s4 s5 ⊢;have dW:a7 (W.map vi)=ab:=jP _;refine vn ?_;simp only[wq.1,Nat.reduceLT,t123,t124];refine ak (aX (b:=aM ((i:Int)<aa a.out)) (by simp only[wq.1,↓reduceIte]) (by simp only[wq.1,↓reduceIte]) (λhlt=> ?_) (λhlt=> ?_))
 ·simp only[zqb,zqi]at hlt;have hw:=ax (show i<maxLen by omega);obtain⟨k,hat⟩:=Option.isSome_iff_exists.1 (c.out.2 _ (zqu hlt));have hkl:=(kD hat).1;have hgk:(J7 (aa b.out)).getD k .any=vi k:=uP hkl _;have hge:a.out.getD i []=a.out[i]:=aP hlt;have hai:atI b.out (a.out.getD i [])=k:=by rw[hge];unfold atI;rw[hat];rfl
  rw[hai]at hsu;obtain⟨la,hla⟩:∃la,la=(aY a.g).outs.getD i 0:=⟨_,rfl⟩;obtain⟨lb,hlb⟩:∃lb,lb=(aY b.g).outs.getD k 0:=⟨_,rfl⟩;have hil:i<(aY a.g).outs.length:=by omega
  have hkl2:k<(aY b.g).outs.length:=by omega
  have hgo:((nA a).g.outs.map vi).getD i .any=vi la:=by rw[hla,aP hil];exact sU hil _
  have hgq:((nA b).g.outs.map vi).getD k .any=vi lb:=by rw[hlb,aP hkl2];exact sU hkl2 _
  have hnoa:((nA a).g.outs.length:Int)=aa a.out:=by show(((aY a.g).outs.length:Nat):Int)=_;omega
  have hnob:((nA b).g.outs.length:Int)=aa b.out:=by show(((aY b.g).outs.length:Nat):Int)=_;omega
  rw[<-hla,<-hlb]at hsu;obtain⟨c1,c2,c3,m1,m2⟩:=F.tal la (.inr (by rw[hla,aP hil];exact zqu hil));obtain⟨c4,c5,c6,m3,m4⟩:=F.tbl lb (.inr (by rw[hlb,aP hkl2];exact zqu hkl2));have lA1:=F.la;have lB1:=F.lb;have lA2:aa A=(jB a b).1.length+aa B:=by rw[s1,zqa]
  have ev1:=qW (jA a b).2 la c1 c2 c3 F.ta;have ev2:=qW (jB a b).2 lb c4 c5 c6 F.tb;obtain⟨p,hp⟩:∃p,p=mvX (jA a b).2 la:=⟨_,rfl⟩;obtain⟨q',hq'⟩:∃q',q'=mvX (jB a b).2 lb:=⟨_,rfl⟩;rw[<-hp]at ev1 m1 m2 hsu;rw[<-hq']at ev2 m3 m4 hsu;refine vm ?_;simp only[wq.1];refine ak (aB ?_);refine vn ?_;simp only[wq.1,seval,t122,t124,BA hlt];refine⟨⟨by omega,by omega⟩,?_⟩;refine vn ?_;simp only[wq.1,seval,t2,t10,hgo];refine⟨by decide +kernel,⟨by omega,by omega⟩,Aq.mk ev1 rfl (by simp only[a7,a6,zre]) ?_⟩;simp only[wq.1,seval,t3,t11,t12,hgq,qF,eQ,Abs.K.keyOk,hat,hgk];refine⟨⟨by omega,by omega⟩,Aq.mk ev2 rfl (by simp only[a7,a6,zre]) ?_⟩;simp only[wq.1,seval];have hf0:0<jf a b:=by unfold jf;omega
  have xl:=λ{x k:Int}=>@IA x k;have hck:∀A:List Pq,OkA (jf a b) A->(aa a.ins:Int)+(aa zs:Int)+(aa A:Int)<=4000->Gr.chk ⟨aa a.ins,zs,bg,A,[]⟩=0:=λA h1 h2=>Y6 hjf.symm (by omega) (by omega) (by rw[hbg];exact bl2) (λx hx=>by rw[hzs]at hx;exact List.eq_of_mem_replicate hx) h1 h2;have hp1:0<=p/\p<2*(jf a b+aa A):=by omega
  have hq1:0<=q'/\q'<2*(jf a b+aa A):=by omega
  obtain⟨u,hu⟩:∃u,u=jD (jf a b) A p (qO q'):=⟨_,rfl⟩;obtain⟨u1,u2,u3,u4⟩:=qx hf0 hp1 (xl hq1.1 hq1.2);have uA:=DN hp1 (xl hq1.1 hq1.2) s2;rw[<-hu]at u1 u2 u3 u4 uA;have hp2:0<=p/\p<2*(jf a b+aa u.1):=by omega
  have hq2:0<=q'/\q'<2*(jf a b+aa u.1):=by omega
  obtain⟨v,hv⟩:∃v,v=jD (jf a b) u.1 (qO p) q':=⟨_,rfl⟩;obtain⟨v1,v2,v3,v4⟩:=qx hf0 (xl hp2.1 hp2.2) hq2;have vA:=DN (xl hp2.1 hp2.2) hq2 uA;rw[<-hv]at v1 v2 v3 v4 vA;have hu2:0<=u.2/\u.2<2*(jf a b+aa v.1):=by omega
  obtain⟨w,hw'⟩:∃w,w=jD (jf a b) v.1 (qO u.2) (qO v.2):=⟨_,rfl⟩;obtain⟨w1,w2,w3,w4⟩:=qx hf0 (xl hu2.1 hu2.2) (xl v3 v4);rw[<-hw']at w1 w2 w3 w4;have hsu:jO a b (i+1)=(w.1,W++[qO w.2]):=by rw[hsu,hw',hv,hu];rfl
  have xp:=qp (a:=p) (by omega) (by omega);have xq:=qp (a:=q') (by omega) (by omega);have xu:=qp (a:=u.2) (by omega) (by omega);have xv:=qp (a:=v.2) (by omega) (by omega);have xw:=qp (a:=w.2) (by omega) (by omega);have dx0:a7 (cCM (nA a))=ab:=by simp only[a7,a6,zre]
  have dx1:a7 (cCM (nA b))=ab:=by simp only[a7,a6,zre]
  have ddpl:∀p,(plV a.ins).drop p=plV a.ins:=λp=>bF _ (by simp only[a6]);have dxx:∀m:Mo,∀p,aE p (cCM m)=cCM m:=λm p=>bF.dats_drops _ (by simp only[a7,a6,zre]);refine vn ?_;simp only[wq.1,seval,t8,xq];refine sK (f0:=jf a b) (A:=A) (W:=W.map vi) hjf.symm dx0 dx1 rfl (by simp only[a6]) dW (hck _ s2 (by omega)) (by omega) hp1 (xl hq1.1 hq1.2) ?_;rw[<-hu];simp only[wq.1,seval];refine vn ?_;simp only[wq.1,seval,t8,xp];refine sK (f0:=jf a b) (A:=u.1) (W:=W.map vi) hjf.symm dx0 dx1 rfl (by simp only[a6]) dW (hck _ uA (by omega)) (by omega) (xl hp2.1 hp2.2) hq2 ?_;rw[<-hv];simp only[wq.1,seval];refine vm ?_;simp only[wq.1,↓reduceIte,Nat.reduceEqDiff,Nat.reduceLT,t8,t13,xu,xv];refine sK (f0:=jf a b) (A:=v.1) (W:=W.map vi) hjf.symm dx0 dx1 rfl (by simp only[a6]) dW (hck _ vA (by omega)) (by omega) (xl hu2.1 hu2.2) (xl v3 v4) ?_;rw[<-hw'];simp only[wq.1,↓reduceIte,Nat.reduceEqDiff,Nat.reduceLT,Nat.reduceBEq,reduceCtorEq,Nat.reduceMul,hd,xw];refine⟨⟨rfl,by decide⟩,⟨by omega,by omega,by omega⟩,?_⟩;refine vm ?_;simp only[wq.1,seval,t124,hw];refine .inl ⟨q-1,by omega,i+1,by omega,by simp only[wq.1,seval,t2],by simp only[wq.1,seval,t3],by simp only[wq.1,seval,t4],by simp only[wq.1,seval,t8],by simp only[wq.1,seval,t9],by simp only[wq.1,seval,t10],by simp only[wq.1,seval,t11],by simp only[wq.1,seval,t12],rfl,by simp only[wq.1,seval,t122],by simp only[wq.1,seval,t123],rfl,hd,?_⟩;rw[hsu];simp only[zql,dxx,aN,ddpl];rfl
 ·simp only[zqd,zqi]at hlt;have:i=aa a.out:=by omega
  subst this;have hjG:aF a b=⟨aa a.ins,(aY a.g).next.map (mvX (jA a b).2)++(aY b.g).next.map (mvX (jB a b).2),bg,A,W⟩:=by unfold aF;rw[hAO,hbg]
  have b1:aM (4000<(aa a.out:Int))=am:=by rw[zqd];omega
  refine vm ?_;simp only[wq.1];show awp _ _ _ _ _ _ _;refine ak ?_;refine vn ?_;simp only[wq.1,seval,t8,t13,b1];refine aX (b:=am) (by simp only[wq.1,↓reduceIte]) (by simp only[wq.1,↓reduceIte]) (λh=>by cases h) (λ_=> ?_);refine vm ?_;simp only[wq.1];refine vn ?_;simp only[wq.1,seval,t8,t13];exact QH F hjG s4 (t2) (t3) (t4) (t8) (t9) (t10) (t11) (hd)
theorem D5(a b:Mo)(ha:a.g.Sm)(hb:b.g.Sm)(hbig:pg a b=0->JBig a b):Ev TE 12 [a.v,b.v] (DZ a b):=by
 have hM:=mLx;have hcan:=Uc a b ha hb;unfold Mo.v at hcan ⊢;refine aC Tryz.func12 rfl (by simp[nts]) ?_;refine vn ?_;simp only[wq.1,seval,Tryz.results12];refine ak ?_;refine vn ?_;simp only[wq.1,seval];refine ag.ev hcan (by simp only[a7,a6,zre]) ?_;simp only[wq.1,seval];refine vn ?_;simp only[wq.1,seval];by_cases hz:pg a b=0
 ·have ez:(pg a b != 0)=am:=by simpa using hz
  have c:=o9 hz;have big:=hbig hz;obtain⟨ga1,ga2,ga3,ga4⟩:=cu c.ca;obtain⟨gb1,gb2,gb3,gb4⟩:=cu c.cb;obtain⟨na1,na2,na3⟩:=jZ c.ca;obtain⟨nb1,nb2,nb3⟩:=jZ c.cb;have hNa:=F7 ga1;have hNb:=F7 gb1;unfold Gr.v at hNa hNb;have hpi:=lg a.ins na1;rw[hz];unfold DZ;rw[if_pos hz];refine aX (b:=am) (by simp only[wq.1,seval]) (by simp only[wq.1,seval]) (λh=>by cases h) (λ_=> ?_);refine vm ?_;simp only[wq.1,Int.reduceBNe];refine vn ?_;simp only[wq.1,seval];refine ag.ev hNa (by simp only[a7,a6,zre]) ?_;simp only[wq.1,seval];refine vn ?_;simp only[wq.1,seval];refine ag.ev hNb (by simp only[a7,a6,zre]) ?_;simp only[wq.1,seval];refine vn ?_;simp only[wq.1,seval];refine ag.ev hpi (by simp only[a7,a6,iK,zre]) ?_;simp only[wq.1,seval];obtain⟨pa1,pa2,pa3,pa4⟩:=cZ (g:=a.g);obtain⟨pb1,pb2,pb3,pb4⟩:=cZ (g:=b.g);obtain⟨_,ra0,ra1,ra2,ra3,ra4,ra5⟩:=aU ga1;obtain⟨_,rb0,rb1,rb2,rb3,rb4,rb5⟩:=aU gb1;obtain⟨ta1,ta2,ta3,ta4⟩:=aJ ra4;obtain⟨tb1,tb2,tb3,tb4⟩:=aJ rb4;have hbn:=big.n;have hmv:mV (nA a) (nA b)=mV a b:=Yd _;obtain⟨bl1,bl2,bl3⟩:=qV c;obtain⟨bg,hbg⟩:∃bg,bg=(mV a b).b:=⟨_,rfl⟩;obtain⟨pr,hpr⟩:∃pr,pr=(mV a b).p:=⟨_,rfl⟩;obtain⟨okm,hok⟩:∃okm,okm=(mV a b).ok:=⟨_,rfl⟩;have hbgl:aa bg=aa a.lat+aa b.lat:=by rw[hbg,bl1,bl3]
  refine vn ?_;simp only[wq.1,seval];refine IG (a:=nA a) (b:=nA b) (x0:=cCM (nA a)) (x1:=cCM (nA b)) (x2:=[vi 0,.nils,.nils,.nils,.nils,.nils,.nils]) (iv:=plV a.ins) (by simp only[a6]) rfl (by simp only[a7,a6,zre]) (by simp only[a7,a6,zre]) rfl nb2 (by show aa a.lat=aa a.g.init;omega) (by show aa b.lat=aa b.g.init;omega) (by show aa a.ins<=4000;omega) (by show aa a.lat<=4000;omega) (by show aa b.lat<=4000;omega) ?_;rw[hmv,<-hbg,<-hpr,<-hok];simp only[wq.1,seval];refine ak (YO (nA a) bg okm pr (plV a.ins) (cCM (nA b)) [vi 0,.nils,.nils,.nils,.nils,.nils,.nils] (by omega) (QG bg (by omega)) ?_ ?_ ?_)
  ·intro q hq;simp only[kM,zrj,zrp,or_false]at hq;rcases hq with rfl|rfl|rfl|rfl|rfl<;>simp only[wq.1,seval]
  ·rfl
  ·intro f hg hd _;show awp _ _ _ _ _ _ _;have t2:f.t 2= .lp 0 0:=hg (2,_) (by simp[kM]);have t3:f.t 3= .lp 1 0:=hg (3,_) (by simp[kM]);have t4:f.t 4= .lp 2 0:=hg (4,_) (by simp[kM]);have t8:f.t 8= .lp 3 0:=hg (8,_) (by simp[kM]);have t9:f.t 9= .bool okm:=hg (9,_) (by simp[kM]);clear hg;have k1:=nX ga1;have k2:=nX gb1;have e1:(nA a).g.ands.length=(aY a.g).ands.length:=rfl;have e2:(nA b).g.ands.length=(aY b.g).ands.length:=rfl;obtain⟨zs,hzs⟩:∃zs:Cl,zs=aD (aa bg) 0:=⟨_,rfl⟩;have hzs':zs=aD (mV a b).b.length 0:=by rw[hzs,hbg]
   have hzl:aa zs=aa bg:=by rw[hzs,zsc]
   have hzv:aD (aa bg) (vi 0)=zs.map vi:=by rw[hzs,List.map_replicate]
   have hh0:hz8 (nA a) bg pr (plV a.ins) (cCM (nA b)) [vi 0,.nils,.nils,.nils,.nils,.nils,.nils] ab ab=[aw (cCM (nA a)),aw (cCM (nA b)),aw [vi 0,.nils,.nils,.nils,.nils,.nils,.nils],aw [vi (aa a.ins),.ls 4 1 0 (aa zs) (aa zs),az bg,.nils,.nils,az bg,prs pr,plV a.ins,.bool am],aw (zs.map vi)]:=by rw[hzl,<-hzv];rfl
   rw[hh0];have w1:a5 .i64 ((aa a.ins:Int)+(aa bg:Int))=(aa a.ins:Int)+(aa bg:Int):=aV (by omega) (by omega);have w2:a5 .i64 ((aa a.ins:Int)+(aa bg:Int)+((nA a).g.ands.length:Int))=(aa a.ins:Int)+(aa bg:Int)+((nA a).g.ands.length:Int):=aV (by omega) (by omega);have w3:a5 .i64 ((aa a.ins:Int)+(aa bg:Int)+((nA a).g.ands.length:Int)+((nA b).g.ands.length:Int))=(aa a.ins:Int)+(aa bg:Int)+((nA a).g.ands.length:Int)+((nA b).g.ands.length:Int):=aV (by omega) (by omega);have b1:aM (4000<(aa a.ins:Int)+(aa bg:Int)+((nA a).g.ands.length:Int)+((nA b).g.ands.length:Int))=am:=by rw[zqd];omega
   refine ak ?_;refine vn ?_;simp only [wq.1,seval,t2,t3,t8,w1,w2,w3,b1];refine ⟨by decide +kernel,?_⟩;refine aX (b := am) (by simp only [wq.1,↓reduceIte]) (by simp only [wq.1,↓reduceIte]) (λh => by cases h) (λ_ => ?_);refine vm ?_;simp only [wq.1];refine gz ?_;refine lF (h' := hAd (cCM (nA a)) (cCM (nA b)) [vi 0,.nils,.nils,.nils,.nils,.nils,.nils] (aa a.ins) zs bg bg pr (plV a.ins) [])
    (HLe.set (h := [aw (cCM (nA a)),aw (cCM (nA b)),aw [vi 0,.nils,.nils,.nils,.nils,.nils,.nils],aw [vi (aa a.ins),.ls 4 1 0 (aa zs) (aa zs),az bg,.nils,.nils,az bg,prs pr,plV a.ins,.bool am],aw (zs.map vi),aw []]) (i := 3) (o := aw [vi (aa a.ins),.ls 4 1 0 (aa zs) (aa zs),az bg,.nils,.nils,az bg,prs pr,plV a.ins,.bool am]) rfl
     (OLe.cells (zrb _) (fD.cons (VLe.refl _) (fD.cons (VLe.refl _) (fD.cons (VLe.refl _) (fD.cons dH (fD.refl _))))))) ?_
   have hjf:(1:Int)+(aa a.ins:Int)+(aa zs:Int)=jf a b:=by unfold jf;omega
   have hdum:JIn a b (aD (aa a.lat) am) (aD (aa b.lat) am) (aD (aa a.ins) am):=⟨zsc,zsc,zsc⟩;have jl:=uN hdum;obtain⟨qa1,qa2,qa3⟩:=IC c hdum;obtain⟨⟨B2,qb1,qb1'⟩,qb2,qb3⟩:=IE c hdum;have ja_eq:ww (1+(aa a.ins:Int)+(aa zs:Int)) ([],to0 a.ins (nA a) (1+(aa a.ins:Int))) (nA a).g.ands=jA a b:=by rw[hjf];rfl
   have jb_eq:ww (1+(aa a.ins:Int)+(aa zs:Int)) ((jA a b).1,to0 a.ins (nA b) (1+(aa a.ins:Int)+(aa a.lat:Int))) (nA b).g.ands=jB a b:=by rw[hjf];rfl
   have wi:a5 .i64 (1+(aa a.ins:Int))=1+(aa a.ins:Int):=aV (by omega) (by omega);have wj:a5 .i64 (1+(aa a.ins:Int)+(aa a.lat:Int))=1+(aa a.ins:Int)+(aa a.lat:Int):=aV (by omega) (by omega);have okA:OkA (1+((nA a).ins.length:Int)+((nA a).lat.length:Int)) (nA a).g.ands:=QF (jd ga1) (by show 1+(aa a.ins:Int)+(aa a.lat:Int)=1+(aY a.g).ins+((aY a.g).next.length:Int);omega);have okB:OkA (1+((nA b).ins.length:Int)+((nA b).lat.length:Int)) (nA b).g.ands:=QF (jd gb1) (by show 1+(aa b.ins:Int)+(aa b.lat:Int)=1+(aY b.g).ins+((aY b.g).next.length:Int);omega);have hci:=c.ins.1;have n1:(nA a).ins=a.ins:=rfl;have n2:(nA a).lat=a.lat:=rfl;have n3:(nA a).out=a.out:=rfl;have n4:(nA b).out=b.out:=rfl;refine vn ?_;simp only[wq.1,seval,t2,t8,n1,wi];refine BK (m:=nA a) (l:=a.ins) (zs:=zs) (init:=bg) (beg:=bg) (pr:=pr) (A0:=[]) (ni:=aa a.ins) (first:=1+(aa a.ins:Int)) (x0:=cCM (nA a)) (x1:=cCM (nA b)) (x2:=[vi 0,.nils,.nils,.nils,.nils,.nils,.nils]) (by simp only[a7,a6,zre]) (by simp only[a7,a6,zre]) rfl (λs hs=>uM.2 hs) (by omega) (by omega) (by omega) (by omega) (by omega) (by omega) (by simp) (by omega) (by show aa a.ins<=4000;omega) (by show aa a.lat<=4000;omega) okA ?_;rw[ja_eq];simp only[wq.1,seval,bC,hd];refine vn ?_;simp only[wq.1,seval,t2,t3,t8,n1,n2,wi,wj];refine BK (m:=nA b) (l:=a.ins) (zs:=zs) (init:=bg) (beg:=bg) (pr:=pr) (A0:=(jA a b).1) (ni:=aa a.ins) (first:=1+(aa a.ins:Int)+(aa a.lat:Int)) (x0:=cCM (nA a)) (x1:=cCM (nA b)) (x2:=[vi 0,.nils,.nils,.nils,.nils,.nils,.nils]) (by simp only[a7,a6,zre]) (by simp only[a7,a6,zre]) rfl (qR c.ins na1) (by omega) (by omega) (by omega) (by omega) (by omega) (by omega) (by omega) (by omega) (by show aa b.ins<=4000;omega) (by show aa b.lat<=4000;omega) okB ?_;rw[jb_eq];simp only[wq.1,seval,bC,hd];refine uh (h0:=[aw (cCM (nA a)),aw (cCM (nA b)),aw [vi 0,.nils,.nils,.nils,.nils,.nils,.nils],aw (jcV (aa a.ins) (aa zs) bg bg pr (plV a.ins) (jB a b).1),aw (zs.map vi)]) (Y:=[aw (fl (jB a b).1)]) 3 (jcV (aa a.ins) (aa zs) bg bg pr (plV a.ins) (jB a b).1) (jcJ (aa a.ins) (aa zs) bg bg pr (plV a.ins) (jB a b).1) rfl ?_ ?_ ?_ ?_
   ·intro i o ho hne;rcases i with _|_|_|_|_|i
    ·obtain rfl:=Option.some.inj ho;rfl
    ·obtain rfl:=Option.some.inj ho;rfl
    ·obtain rfl:=Option.some.inj ho;rfl
    ·exact absurd rfl hne
    ·obtain rfl:=Option.some.inj ho;rw[aZ,aN]
    ·simp at ho
   ·refine⟨.inl rfl,.inl rfl,.inl rfl,.inr ⟨rfl,mF ?_ rfl⟩,.inl rfl,.inl rfl,.inl rfl,.inl rfl,.inl rfl,trivial⟩;show ar (aw (aE _ _))=_;rw[zJ]
   ·intro i hi;have hi:i∈f.d:=hi;rw[hd]at hi;cases hi
   refine iL (λf=>f.t 2= .lp 0 0/\f.t 3= .lp 1 0/\f.t 4= .lp 2 0/\f.t 8= .lp 3 0/\f.t 9= .bool okm/\f.t 10= .fn (.func 57) [] [.ip (az (jA a b).2)]/\f.t 11= .fn (.func 57) [] [.ip (az (jB a b).2)]/\f.d=[]) (hJ5 (cCM (nA a)) (cCM (nA b)) [vi 0,.nils,.nils,.nils,.nils,.nils,.nils] (aa a.ins) zs bg bg pr (plV a.ins) (jB a b).1) (λhk=>hk _ ⟨?_,?_,?_,?_,?_,?_,?_,?_⟩) ?_
   ·simp only[wq.1,seval,t2,aQ]
   ·simp only[wq.1,seval,t3,aQ]
   ·simp only[wq.1,seval,t4,aQ]
   ·simp only[wq.1,seval,t8,aQ]
   ·simp only[wq.1,seval,t9]
   ·simp only[wq.1,seval]
   ·simp only[wq.1,seval]
   ·simp only[wq.1,hd]
   clear t2 t3 t4 t8 t9 hd f w1 w2 w3 b1 hh0;rintro f ⟨t2,t3,t4,t8,t9,t10,t11,hd⟩;have hpo:=lg b.out nb3;refine vn ?_;simp only[wq.1,seval,t3,n4];refine ag.ev hpo (by simp only[a7,a6,iK,zre]) ?_;simp only[wq.1,seval];refine vn ?_;simp only[wq.1,Nat.reduceLT];refine gz ?_;refine wL (FLe.one 13 (v:= .ls 5 1 0 0 0) (by simp only[wq.1,↓reduceIte];exact dH)) (HLe.refl _) ?_;rw[hok,hbg,hpr]at *;exact Ue c big hzs' rfl (t2) (t3) (t4) (t8) (t9) (t10) (t11) (rfl) (rfl) (hd)
 ·have ez:(pg a b != 0)=ab:=by simpa using hz
  refine aX (b:=ab) (by simp only[wq.1,↓reduceIte]) (by simp only[wq.1,↓reduceIte,ez]) (λ_=> ?_) (λh=>by cases h);refine vm ?_;simp only[wq.1,seval];unfold DZ;rw[if_neg hz];exact aH.tup (aj.cons (aH.agg (aj.cons (aH.dat rfl) (aj.cons aH.nils (aj.cons aH.nils (aj.cons aH.nils (aj.cons aH.nils (aj.cons aH.nils (aj.cons aH.nils aj.nil)))))))) (aj.dat rfl))
abbrev rwB(l:List (List Bool)):V:= .is am 1 (l.map λc=>aI c)
variable{i:Nat}
theorem II{l:List (List Bool)}(h:i<aa l)(d:V):(l.map λc=>aI c).getD i d=aI l[i]:=iO h d
theorem Ye(l:List (List Bool))(hlen:aa l<=1000000)(q:FuncId)(caps:List V)(p:List Bool->Bool)(he:au P q=ab)(hd:a7 caps=ab)(hq:∀x∈l,Ev TE q (aI x::caps) (.bool (p x))):Ev TE 42 [rwB l,.fn (.func q) [] caps] (vi (idx l p)):=by
 have hM:=mLx;refine aC Tryz.func42 rfl (by simp[nts]) (vm ?_);simp only[wq.1,seval,Tryz.results42];refine aA (λm f h=>∃i,m+i=aa l/\f.t 0=rwB l/\f.t 1= .fn (.func q) [] caps/\f.t 7= .int .i64 (aa l:Int)/\f.t 8= .int .i64 (i:Int)/\f.d=[]/\∀x∈l.take i,p x=am) (aa l) ⟨0,by simp,rfl,rfl,rfl,rfl,rfl,by simp⟩ ?_;rintro m f h ⟨i,hm,h0,h1,h7,h8,hdd,hall⟩;refine vm ?_;simp only[wq.1,seval,h7,h8];refine vcB.mk (λhc=> ?_) (λhc=> ?_)
 ·simp only[zqb,zqi]at hc;simp only[wq.1,seval,h0,h1,h8,II hc,he];refine⟨⟨by omega,by omega⟩,ag.ev (hq _ (zqu _)) (by simp[a7,a6,hd]) ?_⟩;simp only[wq.1,seval];refine vcB.mk (λhc'=> ?_) (λhc'=> ?_)
  ·simp only[wq.1,seval,hdd];rw[oL hc hall hc'];exact aH.dat rfl
  ·simp only[wq.1,seval,h8,ax (show i<maxLen by omega)];exact .inl ⟨m-1,by omega,i+1,by omega,h0,h1,h7,rfl,hdd,dF hc hall hc'⟩
 ·simp only[zqd,zqi]at hc;simp only[wq.1,seval,hdd];rw[zqh (by omega)]at hall;rw[mi hall];exact aH.dat rfl
theorem Yf(l:List (List Bool))(hlen:aa l<=1000000)(q:FuncId)(caps:List V)(p:List Bool->Bool)(he:au P q=ab)(hd:a7 caps=ab)(hq:∀x∈l,Ev TE q (aI x::caps) (.bool (p x))):Ev TE 19 [rwB l,.fn (.func q) [] caps] (.bool (l.any p)):=by refine aC Tryz.func19 rfl (by simp[nts]) (vm ?_);simp only[wq.1,seval,Tryz.results19];refine ag.ev (Ye l hlen q caps p he hd hq) (by simp[a7,a6,hd]) ?_;simp only[wq.1,seval];exact aH.eq rfl (by rw[yT])
def Ec(init:Cl)(st:List Bool)(n:Nat):Bool:=(List.range n).any λi=>init.getD i 0 != 2&&((init.getD i 0==1) != st.getD i am)
variable{st:List Bool}{n:Nat}
theorem Gv:Ec init st (n+1)=(Ec init st n||(init.getD n 0 != 2&&((init.getD n 0==1) != st.getD n am))):=by unfold Ec;rw[List.range_succ,List.any_append];simp
theorem Gw(h:i<=n)(ho:Ec init st i=ab):Ec init st n=ab:=by unfold Ec at ho ⊢;rw[List.any_eq_true]at ho ⊢;obtain⟨x,hx,h2⟩:=ho;exact⟨x,List.mem_range.2 (by have:=List.mem_range.1 hx;omega),h2⟩
theorem J8(m:Mo)(st:List Bool)(h1:aa st<=aa m.g.init)(h2:aa st<=1000000):Ev TE 43 [.agg (cCM m),aI st] (.bool (Ec m.g.init st (aa st))):=by
 have hM:=mLx;refine aC Tryz.func43 rfl (by simp[nts]) (vm ?_);simp only[wq.1,seval,Tryz.results43];refine aA (λq f h=>∃i,q+i=aa st/\f.t 2= .lp 0 0/\f.t 8=aI st/\f.t 9=vi (aa st)/\f.t 10=vi i/\f.d=[]/\h=[aw (cCM m)]/\Ec m.g.init st i=am) (aa st) ⟨0,by simp,rfl,rfl,rfl,rfl,rfl,rfl,rfl⟩ ?_;rintro q f h ⟨i,hq,t2,t8,t9,t10,hd,rfl,hno⟩;refine vm ?_;simp only[wq.1,seval,t9,t10];refine vcB.mk (λhc=> ?_) (λhc=> ?_)
 ·simp only[zqb,zqi]at hc;have hw:=ax (show i<maxLen by omega);have hgi:(m.g.init.map vi).getD i .any=vi (m.g.init.getD i 0):=by rw[aP (show i<aa m.g.init by omega)];exact sU _ _
  have hgb:(st.map V.bool).getD i .any= .bool (st.getD i am):=by rw[aP hc];exact GZ hc _
  have hsu:=Gv (init:=m.g.init) (st:=st) (n:=i);rw[hno,Bool.false_or]at hsu;generalize m.g.init.getD i 0=n at hgi hsu;generalize st.getD i am=v at hgb hsu;simp only[wq.1,seval,t2,t8,t10,hgi,hgb];refine⟨⟨by omega,by omega⟩,⟨by omega,by omega⟩,?_⟩;cases e1:n==2 with
  |true =>
   have e1':(n != 2)=am:=by simpa using e1
   rw[e1',Bool.false_and]at hsu;simp only[wq.1,seval,e1',t10,hw];exact .inl ⟨q-1,by omega,i+1,by omega,t2,t8,t9,rfl,hd,rfl,hsu⟩
  |false =>
   have e1':(n != 2)=ab:=by simpa using e1
   rw[e1',Bool.true_and]at hsu;simp only[wq.1,e1'];refine vcB.mk (λe2=> ?_) (λe2=> ?_)
   ·rw[show((n==1) != v)=ab from e2]at hsu;simp only[wq.1,seval,hd];exact aH.eq rfl (by rw[Gw hc hsu])
   ·rw[show((n==1) != v)=am from e2]at hsu;simp only[wq.1,seval,t10,hw];exact .inl ⟨q-1,by omega,i+1,by omega,t2,t8,t9,rfl,hd,rfl,hsu⟩
 ·simp only[zqd,zqi]at hc;have:i=aa st:=by omega
  subst this;simp only[wq.1,seval,hd];exact aH.eq rfl (by rw[hno])
def nY(a b:Mo)(p q:List Bool)(n:Nat):Bool:=(List.range n).any λi=>match at? b.lat (a.lat.getD i [])with
 |none=>am
 |some k=>p.getD i am != q.getD k am
variable{p q:List Bool}
theorem Ad:nY a b p q (n+1)=(nY a b p q n||(match at? b.lat (a.lat.getD n [])with
 |none=>am
 |some k=>p.getD n am != q.getD k am)):=by
 unfold nY;rw[List.range_succ,List.any_append];simp
theorem Ae(h:i<=n)(ho:nY a b p q i=ab):nY a b p q n=ab:=by unfold nY at ho ⊢;rw[List.any_eq_true]at ho ⊢;obtain⟨x,hx,h2⟩:=ho;exact⟨x,List.mem_range.2 (by have:=List.mem_range.1 hx;omega),h2⟩
def Uf(a b:Mo)(p q:List Bool):Bool:= !(Ec a.g.init p (aa p))&& !(Ec b.g.init q (aa q))&& !(nY a b p q (aa a.lat))
theorem Wy(a b:Mo)(p q:List Bool)(h1:aa p=aa a.g.init)(h2:aa q=aa b.g.init)(h3:aa p=aa a.lat)(h4:aa q=aa b.lat)(h5:aa p<=1000000)(h6:aa q<=1000000)(hn:b.lat.Nodup) :
 Ev TE 20 [.agg (cCM a),.agg (cCM b),aI p,aI q] (.bool (Uf a b p q)):=by
 have hM:=mLx;have e1:=J8 a p (by omega) h5;have e2:=J8 b q (by omega) h6;have hpl:=lg b.lat hn;have dA:∀(m:Mo)(l:List Bool),a7 [.agg (cCM m),aI l]=ab:=λm l=>by simp only[a7,a6,zre]
 refine aC Tryz.func20 rfl (by simp[nts]) ?_;refine vn ?_;simp only[wq.1,seval,Tryz.results20];refine vn ?_;simp only[wq.1,Nat.reduceLT];refine ak ?_;refine vn ?_;simp only[wq.1,seval];refine ag.ev e1 (dA _ _) ?_;simp only[wq.1,seval];unfold Uf;cases Ec a.g.init p (aa p)with
 |true=>simp only[wq.1,seval];refine⟨.bool ab,?_⟩;simp only[wq.1];refine aX (b:=ab) (by simp only[wq.1,↓reduceIte]) (by simp only[wq.1,↓reduceIte]) (λ_=> ?_) (λh=>by cases h);refine vm ?_;simp only[wq.1,seval];exact aH.dat rfl
 |false =>
  simp only[wq.1,seval];refine ag.ev e2 (dA _ _) ?_;simp only[wq.1,seval];cases Ec b.g.init q (aa q)with
  |true=>simp only[wq.1];refine aX (b:=ab) (by simp only[wq.1,↓reduceIte]) (by simp only[wq.1,↓reduceIte]) (λ_=> ?_) (λh=>by cases h);refine vm ?_;simp only[wq.1,seval];exact aH.dat rfl
  |false =>
   simp only[wq.1];refine aX (b:=am) (by simp only[wq.1,↓reduceIte]) (by simp only[wq.1,↓reduceIte]) (λh=>by cases h) (λ_=> ?_);refine vm ?_;simp only[wq.1];refine vn ?_;simp only[wq.1,seval];refine ag.ev hpl (by simp only[a7,a6,zre]) ?_;simp only[wq.1,seval];refine ak ?_;refine vn ?_;simp only[wq.1,seval];refine aB ?_;refine aA (λz f h=>∃i,z+i=aa a.lat/\f.t 2=aI p/\f.t 3=aI q/\f.t 10=plV b.lat/\f.t 29=ig a.lat/\f.t 30=vi (aa a.lat)/\f.t 31=vi i/\f.d=[]/\nY a b p q i=am) (aa a.lat) ⟨0,by omega,rfl,rfl,rfl,rfl,rfl,rfl,rfl,rfl⟩ ?_;rintro z f h ⟨i,hz,t2,t3,t10,t29,t30,t31,hd,hno⟩;refine vm ?_;simp only[wq.1,seval,t30,t31];refine vcB.mk (λhlt=> ?_) (λhlt=> ?_)
   ·simp only[zqb,zqi]at hlt;have hw:=ax (show i<maxLen by omega);have hge:a.lat.getD i []=a.lat[i]:=aP hlt;have hsu:=Ad (a:=a) (b:=b) (p:=p) (q:=q) (n:=i);rw[hno,Bool.false_or,hge]at hsu;have hgp:(p.map V.bool).getD i .any= .bool (p.getD i am):=by rw[aP (show i<aa p by omega)];exact GZ _ _
    cases hat:at? b.lat a.lat[i]with
    |none =>
     rw[hat]at hsu;have hq0:(q.map V.bool).getD 0 .any= .any\/∃b,(q.map V.bool).getD 0 .any= .bool b:=by
      cases q with
      |nil=>exact .inl rfl
      |cons b l=>exact .inr ⟨b,rfl⟩
     rcases hq0 with hq0|⟨b0,hq0⟩
     ·simp only[wq.1,seval,t2,t3,t10,t29,t31,hw,BA hlt,qF,eQ,Abs.K.keyOk,hat,hgp,hq0,V.nil?,gV];refine⟨⟨by omega,by omega⟩,by decide +kernel,?_⟩;exact .inl ⟨z-1,by omega,i+1,by omega,t2,t3,t10,t29,t30,rfl,hd,hsu⟩
     ·simp only[wq.1,seval,t2,t3,t10,t29,t31,hw,BA hlt,qF,eQ,Abs.K.keyOk,hat,hgp,hq0];refine⟨⟨by omega,by omega⟩,by decide +kernel,?_⟩;exact .inl ⟨z-1,by omega,i+1,by omega,t2,t3,t10,t29,t30,rfl,hd,hsu⟩
    |some k =>
     rw[hat]at hsu;have hkl:=(kD hat).1;have hgk:(J7 (aa b.lat)).getD k .any=vi k:=uP hkl _;have hgq:(q.map V.bool).getD k .any= .bool (q.getD k am):=by rw[aP (show k<aa q by omega)];exact GZ _ _
     simp only[wq.1,seval,t2,t3,t10,t29,t31,BA hlt,qF,eQ,Abs.K.keyOk,hat,hgk,hgp,hgq];refine⟨⟨by omega,by omega⟩,by decide +kernel,⟨by omega,by omega⟩,⟨by omega,by omega⟩,vcB.mk (λe2=> ?_) (λe2=> ?_)⟩
     ·have hsu:nY a b p q (i+1)=ab:=by rw[hsu];exact e2
      simp only[wq.1,seval,hd];exact aH.eq rfl (by rw[Ae hlt hsu];rfl)
     ·have hsu:nY a b p q (i+1)=am:=by rw[hsu];exact e2
      simp only[wq.1,seval,t31,hw];exact .inl ⟨z-1,by omega,i+1,by omega,t2,t3,t10,t29,t30,rfl,hd,hsu⟩
   ·simp only[zqd,zqi]at hlt;have:i=aa a.lat:=by omega
    subst this;refine vm ?_;simp only[wq.1,seval,hd];exact aH.eq rfl (by rw[hno];rfl)
def Gr.run(g:Gr)(st:List Bool)(sq:List (List Bool)):List Bool×List Bool:=sq.foldl (λx ins=>(g.out x.2 ins,g.nxt x.2 ins)) ([],st)
theorem sO{sq:List (List Bool)}(h:i<aa sq):g.run st (sq.take (i+1))=(g.out (g.run st (sq.take i)).2 sq[i],g.nxt (g.run st (sq.take i)).2 sq[i]):=by unfold Gr.run;rw[zrg,List.foldl_append];simp[h]
theorem Nc{ins:List Bool}(hg:g.chk=0)(h1:aa st=aa g.next)(h2:(aa ins:Int)=g.ins):g.valE st ins=0/\aa (g.out st ins)=aa g.outs/\aa (g.nxt st ins)=aa g.next:=by
 have hE:g.valE st ins=0:=by unfold Gr.valE;rw[if_neg (by simp[hg]),if_neg (by simp[h1,h2])]
 refine⟨hE,?_,?_⟩
 ·unfold Gr.out;rw[if_pos hE];simp
 ·unfold Gr.nxt;rw[if_pos hE];simp
theorem J9{g:Gr}(hg:g.chk=0){st:List Bool}{sq:List (List Bool)}(h1:aa st=aa g.next)(h2:∀ins∈sq,(aa ins:Int)=g.ins):∀i,i<=aa sq->(g.run st (sq.take i)).2=qm g st (sq.take i)/\aa (qm g st (sq.take i))=aa g.next/\(0<i->(g.run st (sq.take i)).1=oV g (qm g st (sq.take (i-1))) (sq.getD (i-1) []))
 |0,_=>⟨by simp[Gr.run,qm],by simpa [qm]using h1,by simp⟩
 |i+1,h=>by
  have hi:i<aa sq:=by omega
  obtain⟨a1,a2,_⟩:=J9 hg h1 h2 i (by omega);obtain⟨e1,e2,e3⟩:=Nc hg a2 (h2 _ (zqu hi));have et:sq.take (i+1)=sq.take i++[sq[i]]:=by rw[zrg,zqk hi];rfl
  rw[sO hi,a1];refine⟨?_,?_,λ_=> ?_⟩
  ·rw[et,qo];unfold Gr.nxt;rw[if_pos e1];rfl
  ·rw[et,qo,Qr]
  ·rw[Nat.add_sub_cancel,aP hi];unfold Gr.out;rw[if_pos e1];rfl
theorem x8(hg:g.chk=0){st:List Bool}{sq:List (List Bool)}(h1:aa st=aa g.next)(h2:∀ins∈sq,(aa ins:Int)=g.ins)(h0:0<aa sq):(g.run st sq).1=wz g st sq:=by have:=(J9 hg h1 h2 (aa sq) (zrb _)).2.2 h0;rw[zrx]at this;exact this
def bT(ins:List S)(m:Mo)(l:List Bool):List Bool:=m.ins.map λs=>l.getD (atI ins s) am
def uQ(m:Mo)(st:List Bool)(ins:List S)(sq:List (List Bool))(out:S):Bool:=(m.g.run st (sq.map (bT ins m))).1.getD (idx m.out (·==out)).toNat am
theorem Ko(m:Mo)(hm:m.chk=0)(hs:m.g.Sm)(st:List Bool)(ins:List S)(sq:List (List Bool))(out:S)(hn:ins.Nodup)(hin:∀s∈m.ins,(at? ins s).isSome=ab)(h1:aa st=aa m.lat)(h2:∀l∈sq,aa l=aa ins)(h3:aa sq<=1000)(h4:out∈m.out)(h5:0<aa sq) :
 Ev TE 21 [.agg (cCM m),aI st,ig ins,rwB sq,.str out] (.bool (uQ m st ins sq out)):=by
 have hM:=mLx;have hpl:=lg ins hn;obtain⟨g1,g2,g3,g4⟩:=cu hm;obtain⟨_,i0,i1,i2,i3,i4,i5⟩:=aU g1;refine aC Tryz.func21 rfl (by simp[nts]) ?_;refine vn ?_;simp only[wq.1,Nat.reduceLT,Tryz.results21];refine vn ?_;simp only[wq.1,seval];refine ag.ev hpl (by simp only[a7,a6,zre]) ?_;simp only[wq.1,seval];refine vn ?_;simp only[wq.1,Nat.reduceLT];refine wL (FLe.one 12 (v:=aI []) (by simp only[wq.1,↓reduceIte];exact lH)) (HLe.refl _) ?_;refine ak ?_;refine vn ?_;simp only[wq.1,seval];refine aB ?_;refine aA (λq f h=>∃(i:Nat)(X:H),q+i=aa sq/\f.t 1=aI (m.g.run st ((sq.map (bT ins m)).take i)).2/\f.t 4= .str out/\f.t 5= .lp 0 0/\f.t 11=plV ins/\f.t 12=aI (m.g.run st ((sq.map (bT ins m)).take i)).1/\f.t 20=rwB sq/\f.t 21=vi (aa sq)/\f.t 22=vi i/\f.d=[]/\h=[aw (cCM m)]++X) (aa sq) ⟨0,[],by omega,rfl,rfl,rfl,rfl,rfl,rfl,rfl,rfl,rfl,rfl⟩ ?_;rintro q f h ⟨i,X,hq,t1,t4,t5,t11,t12,t20,t21,t22,hd,rfl⟩;refine fU (by rw[hd];simp) ?_;have hcl:([aw (cCM m)]:H).map (O.drop (aQ (aa ([aw (cCM m)]:H))))=[aw (cCM m)]:=rfl;rw[hcl];refine iL (λf=>f.t 1=aI (m.g.run st ((sq.map (bT ins m)).take i)).2/\f.t 4= .str out/\f.t 5= .lp 0 0/\f.t 11=plV ins/\f.t 12=aI (m.g.run st ((sq.map (bT ins m)).take i)).1/\f.t 20=rwB sq/\f.t 21=vi (aa sq)/\f.t 22=vi i/\f.d=[]) [aw (cCM m)] (λhk=>hk _ ⟨by simp only[wq.1,t1],by simp only[wq.1,t4],by simp only[wq.1,seval,t5,aQ],by simp only[wq.1,t11],by simp only[wq.1,t12],by simp only[wq.1,t20],by simp only[wq.1,t21],by simp only[wq.1,t22],hd⟩) ?_;clear t1 t4 t5 t11 t12 t20 t21 t22 hd f X hcl;rintro f ⟨t1,t4,t5,t11,t12,t20,t21,t22,hd⟩;refine vn ?_;simp only[wq.1,Nat.reduceLT,t21,t22];refine ak (aX (b:=aM ((i:Int)<aa sq)) (by simp only[wq.1,↓reduceIte]) (by simp only[wq.1,↓reduceIte]) (λhlt=> ?_) (λhlt=> ?_))
 ·simp only[zqb,zqi]at hlt;have hw:=ax (show i<maxLen by omega);have hgl:=II hlt .any;have hll:=h2 _ (zqu hlt);obtain⟨l,hl⟩:∃l,l=sq[i]:=⟨_,rfl⟩;rw[<-hl]at hgl hll;refine vm ?_;simp only[wq.1];refine ak (aB ?_);refine vn ?_;simp only[wq.1,seval,t20,t22,hgl];refine⟨⟨by omega,by omega⟩,?_⟩;refine vn ?_;simp only[wq.1,Nat.reduceLT];refine ak ?_;refine vn ?_;simp only[wq.1,seval,t5];refine aB ?_;refine iF 15 1 (rfl) ?_;refine aA (λz f h=>∃j,z+j=aa m.ins/\f.t 1=aI (m.g.run st ((sq.map (bT ins m)).take i)).2/\f.t 4= .str out/\f.t 5= .lp 0 0/\f.t 11=plV ins/\f.t 14=aI l/\f.t 15= .ls 1 1 0 j j/\f.t 20=rwB sq/\f.t 21=vi (aa sq)/\f.t 22=vi i/\f.t 27=ig m.ins/\f.t 28=vi (aa m.ins)/\f.t 29=vi j/\f.d=[]/\h=[aw (cCM m),aw (((bT ins m l).take j).map V.bool)]) (aa m.ins) ⟨0,by omega,t1,t4,t5,t11,rfl,rfl,t20,t21,t22,rfl,rfl,rfl,hd,rfl⟩ ?_;clear t1 t4 t5 t11 t12 t20 t21 t22 hd f;rintro z f h ⟨j,hz,t1,t4,t5,t11,t14,t15,t20,t21,t22,t27,t28,t29,hd,rfl⟩;have hml:aa (bT ins m l)=aa m.ins:=by unfold bT;rw[zra]
  have htl:aa (((bT ins m l).take j).map V.bool)=j*1:=by simp;omega
  have dmr:∀p,aE p (((bT ins m l).take j).map V.bool)=((bT ins m l).take j).map V.bool:=λp=>eU _;refine vn ?_;simp only[wq.1,Nat.reduceLT,t28,t29];refine ak (aX (b:=aM ((j:Int)<aa m.ins)) (by simp only[wq.1,↓reduceIte]) (by simp only[wq.1,↓reduceIte]) (λhlt2=> ?_) (λhlt2=> ?_))
  ·simp only[zqb,zqi]at hlt2;have hw2:=ax (show j<maxLen by omega);obtain⟨k,hat⟩:=Option.isSome_iff_exists.1 (hin _ (zqu hlt2));have hkl:=(kD hat).1;have hgk:(J7 (aa ins)).getD k .any=vi k:=uP hkl _;have hgb:(l.map V.bool).getD k .any= .bool (l.getD k am):=by rw[aP (show k<aa l by omega)];exact GZ _ _
   have hsu:(bT ins m l).take (j+1)=(bT ins m l).take j++[l.getD k am]:=by
    rw[zrg,zqk (by omega)];have:(bT ins m l)[j]'(by omega)=l.getD k am:=by
     unfold bT;rw[List.getElem_map];unfold atI;rw[hat];rfl
    rw[this];rfl
   generalize l.getD k am=vb at hgb hsu;refine vm ?_;simp only[wq.1];refine ak (aB ?_);refine vm ?_;simp only[wq.1,↓reduceIte,Nat.reduceEqDiff,Nat.reduceLT,reduceCtorEq,Nat.reduceMul,t11,t14,t15,t27,t29,hd,BA hlt2,qF,eQ,Abs.K.keyOk,hat,hgk,hgb,dmr];refine⟨⟨by omega,by omega⟩,⟨by omega,by omega⟩,⟨rfl,by decide⟩,⟨by simp;omega,by omega,by omega⟩,?_⟩;refine vm ?_;simp only[wq.1,seval,t29,hw2];refine .inl ⟨z-1,by omega,j+1,by omega,by simp only[wq.1,seval,t1],by simp only[wq.1,seval,t4],by simp only[wq.1,seval,t5],by simp only[wq.1,seval,t11],by simp only[wq.1,seval,t14],rfl,by simp only[wq.1,seval,t20],by simp only[wq.1,seval,t21],by simp only[wq.1,seval,t22],by simp only[wq.1,seval,t27],by simp only[wq.1,seval,t28],rfl,hd,?_⟩;rw[hsu,zql];rfl
  ·simp only[zqd,zqi]at hlt2;have:j=aa m.ins:=by omega
   subst this;rw[zqh (show aa (bT ins m l)<=aa m.ins by omega)];refine vm ?_;simp only[wq.1];show awp _ _ _ _ _ _ _;refine uf 1 15 (aI (bT ins m l)) (by simp only[wq.1,seval,t15]) ?_ (by simp only[wq.1,hd]) ?_
   ·simp only[wq.1,seval,t15];refine fG ?_ hml.symm;show ar (aw (aE _ _))=_;rw[eU]
   have hst:=TK m.g (m.g.run st ((sq.map (bT ins m)).take i)).2 (bT ins m l) hs;have hrs:=sO (g:=m.g) (st:=st) (sq:=sq.map (bT ins m)) (i:=i) (by simpa using hlt);rw[List.getElem_map,<-hl]at hrs;refine iL (λf=>f.t 1=aI (m.g.run st ((sq.map (bT ins m)).take i)).2/\f.t 4= .str out/\f.t 5= .lp 0 0/\f.t 11=plV ins/\f.t 15=aI (bT ins m l)/\f.t 20=rwB sq/\f.t 21=vi (aa sq)/\f.t 22=vi i/\f.d=[]) [aw (cCM m),.dead] (λhk=>hk _ ⟨by simp only[wq.1,seval,t1],by simp only[wq.1,seval,t4],by simp only[wq.1,seval,t5],by simp only[wq.1,seval,t11],rfl,by simp only[wq.1,seval,t20],by simp only[wq.1,seval,t21],by simp only[wq.1,seval,t22],hd⟩) ?_;clear t1 t4 t5 t11 t14 t15 t20 t21 t22 t27 t28 t29 hd f;rintro f ⟨t1,t4,t5,t11,t15,t20,t21,t22,hd⟩;refine vm ?_;simp only[wq.1,seval,t1,t5,t15];refine ag.ev hst (by simp only[a7,a6,zre]) ?_;simp only[wq.1,seval];refine vm ?_;simp only[wq.1,seval,t22,hw];exact .inl ⟨q-1,by omega,i+1,[.dead],by omega,by simp only[wq.1,seval];rw[hrs],t4,t5,t11,by simp only[wq.1,seval];rw[hrs],t20,t21,rfl,hd,rfl⟩
 ·simp only[zqd,zqi]at hlt;have:i=aa sq:=by omega
  subst this;rw[zqh (by simp)]at t1 t12;have hmi:∀x∈sq.map (bT ins m),(aa x:Int)=m.g.ins:=λx hx=>by
   obtain⟨l,_,rfl⟩:=zrh.1 hx;unfold bT;rw[zra];omega
  have hrl:(m.g.run st (sq.map (bT ins m))).1.length=aa m.out:=by rw[x8 g1 (by omega) hmi (by simpa using h5),Gp];omega
  obtain⟨k,hk⟩:∃k:Nat,k<aa m.out/\idx m.out (·==out)=k:=by
   unfold idx;cases hf:m.out.findIdx? (·==out)with
   |none=>have:=List.findIdx?_eq_none_iff.1 hf out h4;simp at this
   |some k=>exact⟨k,(List.findIdx?_eq_some_iff_getElem.1 hf).1,rfl⟩
  have hix:=FQ m.out out;unfold uQ;rw[hk.2]at hix ⊢;have hgb:((m.g.run st (sq.map (bT ins m))).1.map V.bool).getD k .any= .bool ((m.g.run st (sq.map (bT ins m))).1.getD k am):=by rw[aP (show k<(m.g.run st (sq.map (bT ins m))).1.length by omega)];exact GZ _ _
  refine vm ?_;simp only[wq.1];show awp _ _ _ _ _ _ _;refine vm ?_;simp only[wq.1,seval,t4,t5,t12];refine ag.ev hix (by simp only[a7,a6,zre]) ?_;simp only[wq.1,seval,hd,hgb];exact⟨⟨by omega,by omega⟩,aH.dat rfl⟩
structure An where
 res:Int
 out:Int
 A:List Bool
 B:List Bool
 seq:List (List Bool)
 conf:Int
abbrev anC(x:An):List V:=[vi x.res,vi x.out,aI x.A,aI x.B,rwB x.seq,vi x.conf]
abbrev An.v(x:An):V:= .agg (anC x)
def BM(a b:Mo)(x:An):Bool:=aM (x.out<0)||aM ((aa a.out:Int)<=x.out)||aM ((aa x.seq:Int)<1)||aM (40<(aa x.seq:Int))||(x.seq.any λl=>(aa l:Int) != (aa a.ins:Int))||((aa x.A:Int) != (aa a.lat:Int))||((aa x.B:Int) != (aa b.lat:Int))
def QI(a b:Mo)(x:An):Bool:=Uf a b x.A x.B&&(uQ a x.A a.ins x.seq (a.out.getD x.out.toNat []) != uQ b x.B a.ins x.seq (a.out.getD x.out.toNat []))
def lW(a b:Mo)(x:An):Bool×Int:=if pg a b≠0 then(am,pg a b)else if BM a b x=ab then(am,1)else(QI a b x,0)
theorem Ug(m:Mo)(l:List Bool):Ev TE 18 [aI l,.ip (.agg (cCM m))] (.bool ((aa l:Int) != (aa m.ins:Int))):=by refine aC Tryz.func18 rfl (by simp[nts]) (vm ?_);simp only[wq.1,seval,Tryz.results18];exact aH.dat rfl
theorem rM:∀l:List (List Bool),a7 (l.map λc=>aI c)=ab
 |[]=>rfl
 |a::l=>by rw[zrd,a7,rM l];simp only[a6,lK,zre]
theorem WA(a b:Mo)(x:An)(ha:a.g.Sm)(hb:b.g.Sm)(hbig:pg a b=0->JBig a b):Ev TE 8 [a.v,b.v,x.v] (.tup [.bool (lW a b x).1,vi (lW a b x).2]):=by
 have hM:=mLx;have hj:=D5 a b ha hb hbig;have dAll:a7 [.agg (cCM a),.agg (cCM b)]=ab:=by simp only[a7,a6,zre]
 unfold Mo.v at hj ⊢;unfold DZ at hj;refine aC Tryz.func8 rfl (by simp[nts]) ?_;refine vn ?_;simp only[wq.1,seval,Tryz.results8];refine ak ?_;by_cases hz:pg a b=0
 ·rw[if_pos hz]at hj;have c:=o9 hz;have big:=hbig hz;obtain⟨ga1,ga2,ga3,ga4⟩:=cu c.ca;obtain⟨gb1,gb2,gb3,gb4⟩:=cu c.cb;obtain⟨na1,na2,na3⟩:=jZ c.ca;obtain⟨nb1,nb2,nb3⟩:=jZ c.cb;have rv:lW a b x=if BM a b x=ab then(am,1)else(QI a b x,0):=by unfold lW;rw[if_neg (by omega)]
  rw[rv];refine vn ?_;simp only[wq.1,seval];refine ag.ev hj dAll ?_;simp only[wq.1,seval];refine vn ?_;simp only[wq.1,seval];refine aX (b:=am) (by simp only[wq.1,↓reduceIte]) (by simp only[wq.1,↓reduceIte]) (λh=>by cases h) (λ_=> ?_);refine vm ?_;simp only[wq.1];refine vn ?_;simp only[wq.1,seval];refine ak ?_;refine vn ?_;simp only[wq.1,seval];cases e1:aM (x.out<0)with
  |true =>
   have hbad:BM a b x=ab:=by unfold BM;rw[e1];simp
   rw[if_pos hbad];simp only[wq.1,seval];refine⟨.bool ab,?_⟩;simp only[wq.1,reduceCtorEq];refine aX (b:=ab) (by simp only[wq.1,↓reduceIte]) (by simp only[wq.1,↓reduceIte]) (λ_=> ?_) (λh=>by cases h);refine vm ?_;simp only[wq.1,seval];exact aH.tup (aj.dat rfl)
  |false =>
   cases e2:aM ((aa a.out:Int)<=x.out)with
   |true =>
    have hbad:BM a b x=ab:=by unfold BM;rw[e1,e2];simp
    rw[if_pos hbad];simp only[wq.1,seval];refine⟨.bool ab,?_⟩;simp only[wq.1,reduceCtorEq];refine aX (b:=ab) (by simp only[wq.1,↓reduceIte]) (by simp only[wq.1,↓reduceIte]) (λ_=> ?_) (λh=>by cases h);refine vm ?_;simp only[wq.1,seval];exact aH.tup (aj.dat rfl)
   |false =>
    cases e3:aM ((aa x.seq:Int)<1)with
    |true =>
     have hbad:BM a b x=ab:=by unfold BM;rw[e1,e2,e3];simp
     rw[if_pos hbad];simp only[wq.1,seval];refine⟨.bool ab,?_⟩;simp only[wq.1,reduceCtorEq];refine aX (b:=ab) (by simp only[wq.1,↓reduceIte]) (by simp only[wq.1,↓reduceIte]) (λ_=> ?_) (λh=>by cases h);refine vm ?_;simp only[wq.1,seval];exact aH.tup (aj.dat rfl)
    |false =>
     cases e4:aM (40<(aa x.seq:Int))with
     |true =>
      have hbad:BM a b x=ab:=by unfold BM;rw[e1,e2,e3,e4];simp
      rw[if_pos hbad];simp only[wq.1,seval];refine⟨.bool ab,?_⟩;simp only[wq.1,reduceCtorEq];refine aX (b:=ab) (by simp only[wq.1,↓reduceIte]) (by simp only[wq.1,↓reduceIte]) (λ_=> ?_) (λh=>by cases h);refine vm ?_;simp only[wq.1,seval];exact aH.tup (aj.dat rfl)
     |false =>
      have hrow:=Yf x.seq (by simp at e4;omega) 18 [.ip (.agg (cCM a))] (λl=>(aa l:Int) != (aa a.ins:Int)) rfl (by simp only[a7,a6,zre]) (λl _=>Ug a l);simp only[wq.1,seval];refine ag.lend hrow (aj.cons (aH.dat (by simp only[a6])) (aj.cons (aH.fn aj.nil (aj.cons (aH.lp rfl (aj.dat (by simp only[a7,a6,zre])) rfl (by simp only[a6,a7,zre]) (by simp[V.vc]) rfl) aj.nil)) aj.nil)) rfl ?_;simp only[wq.1,seval];cases e5:x.seq.any λl=>(aa l:Int) != (aa a.ins:Int)with
      |true =>
       have hbad:BM a b x=ab:=by unfold BM;rw[e5];simp
       rw[if_pos hbad];simp only[wq.1];refine aX (b:=ab) (by simp only[wq.1,↓reduceIte]) (by simp only[wq.1,↓reduceIte]) (λ_=> ?_) (λh=>by cases h);refine vm ?_;simp only[wq.1,seval];exact aH.tup (aj.dat rfl)
      |false =>
       cases e6:((aa x.A:Int) != (aa a.lat:Int))with
       |true =>
        have hbad:BM a b x=ab:=by unfold BM;rw[e6];simp
        rw[if_pos hbad];simp only[wq.1];refine aX (b:=ab) (by simp only[wq.1,↓reduceIte]) (by simp only[wq.1,↓reduceIte]) (λ_=> ?_) (λh=>by cases h);refine vm ?_;simp only[wq.1,seval];exact aH.tup (aj.dat rfl)
       |false =>
        cases e7:((aa x.B:Int) != (aa b.lat:Int))with
        |true =>
         have hbad:BM a b x=ab:=by unfold BM;rw[e7];simp
         rw[if_pos hbad];simp only[wq.1];refine aX (b:=ab) (by simp only[wq.1,↓reduceIte]) (by simp only[wq.1,↓reduceIte]) (λ_=> ?_) (λh=>by cases h);refine vm ?_;simp only[wq.1,seval];exact aH.tup (aj.dat rfl)
        |false =>
         have hgood:BM a b x=am:=by unfold BM;rw[e1,e2,e3,e4,e5,e6,e7];rfl
         rw[if_neg (by rw[hgood];decide)];simp only[wq.1];refine aX (b:=am) (by simp only[wq.1,↓reduceIte]) (by simp only[wq.1,↓reduceIte]) (λh=>by cases h) (λ_=> ?_);refine vm ?_;simp only[wq.1];simp only[zqd,bne_eq_false_iff_eq]at e1 e2 e3 e4 e6 e7;obtain⟨k,hk⟩:∃k:Nat,x.out=k:=⟨x.out.toNat,by omega⟩;have hkl:k<aa a.out:=by omega
         have hge:a.out.getD x.out.toNat []=a.out[k]:=by rw[hk,zsg];exact aP hkl
         have hgs:(a.out.map V.str).getD k .any= .str a.out[k]:=BA hkl _;have hmem:a.out[k]∈a.out:=zqu hkl;obtain⟨_,ra0,ra1,ra2,ra3,ra4,ra5⟩:=aU ga1;obtain⟨_,rb0,rb1,rb2,rb3,rb4,rb5⟩:=aU gb1;obtain⟨ta1,ta2,ta3,ta4⟩:=aJ ra4;obtain⟨tb1,tb2,tb3,tb4⟩:=aJ rb4;have hrl:∀l∈x.seq,aa l=aa a.ins:=λl hl=>by have:=List.any_eq_false.1 e5 l hl;simp only[bne_iff_ne,ne_eq,Classical.not_not]at this;omega
         have hm:=Wy a b x.A x.B (by omega) (by omega) (by omega) (by omega) (by omega) (by omega) nb2;have hla:=Ko a c.ca ha x.A a.ins x.seq a.out[k] na1 (λs hs=>uM.2 hs) (by omega) hrl (by omega) hmem (by omega);have hlb:=Ko b c.cb hb x.B a.ins x.seq a.out[k] na1 (qR c.ins na1) (by omega) hrl (by omega) (uM.1 (c.out.2 _ hmem)) (by omega);have tr:QI a b x=(Uf a b x.A x.B&&(uQ a x.A a.ins x.seq a.out[k] != uQ b x.B a.ins x.seq a.out[k])):=by unfold QI;rw[hge]
         rw[tr];refine vn ?_;simp only[wq.1,seval,hk,hgs];refine⟨⟨by omega,by omega⟩,?_⟩;refine vm ?_;simp only[wq.1,seval];refine⟨by decide +kernel,Aq.mk hm rfl (by simp only[a7,a6,zre]) ?_⟩;cases Uf a b x.A x.B with
         |false=>simp only[wq.1,seval];refine⟨.bool ab,⟨λh=>Bool.noConfusion h,?_⟩⟩;simp only[wq.1,seval];refine⟨.bool ab,⟨λh=>Bool.noConfusion h,?_⟩⟩;simp only[wq.1,seval];exact aH.tup (aj.dat rfl)
         |true=>simp only[wq.1,seval];refine Aq.mk hla rfl (by simp only[a7,a6,zre]) ?_;simp only[wq.1,seval];refine Aq.mk hlb rfl (by simp only[a7,a6,zre]) ?_;simp only[wq.1,seval];exact aH.tup (aj.dat rfl)
 ·rw[if_neg hz]at hj;have ez:(pg a b != 0)=ab:=by simpa using hz
  have rv:lW a b x=(am,pg a b):=by unfold lW;rw[if_pos hz]
  rw[rv];refine vn ?_;simp only[wq.1,seval];refine ag.ev hj dAll ?_;simp only[wq.1,seval];refine vn ?_;simp only[wq.1,seval];refine aX (b:=ab) (by simp only[wq.1,↓reduceIte]) (by simp only[wq.1,↓reduceIte,ez]) (λ_=> ?_) (λh=>by cases h);refine vm ?_;simp only[wq.1,seval];exact aH.tup (aj.dat rfl)
end Go.Proofs.YthdidjjecjhenaaGreat
