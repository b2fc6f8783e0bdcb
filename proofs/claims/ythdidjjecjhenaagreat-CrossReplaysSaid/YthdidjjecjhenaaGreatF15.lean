/- Lemmas for this claim, part F15: each holds under what it names. -/
import Derived.Test.YthdidjjecjhenaaGreatF14
import Derived.Test.YthdidjjecjhenaaGreatA10
set_option linter.unusedVariables false
set_option linter.unusedSimpArgs false
set_option linter.unnecessarySimpa false
set_option maxRecDepth 20000
set_option maxHeartbeats 16000000
namespace Go.Proofs.YthdidjjecjhenaaGreat
open Go Go.Proofs Go.Abs
def zH:Nat->Code->Code
 |n+1,.seq _ y=>zH n y
 |_,c=>c
def qZ(f:Func):Code:=match f.body with
 |some c=>c
 |none=> .skip
structure JF(a b:Mo)(zs:Cl):Prop where
 zl:zs.length=a.lat.length+b.lat.length
 bl:(mV a b).b.length=zs.length
 ai:a.ins.length<=4000
 n:a.ins.length+zs.length+(aY a.g).ands.length+(aY b.g).ands.length+3*a.out.length<=4000
 jf:(1:Int)+(a.ins.length:Int)+(zs.length:Int)=jf a b
 an:(aY a.g).next.length=a.lat.length
 bn:(aY b.g).next.length=b.lat.length
 ao:(aY a.g).outs.length=a.out.length
 bo:(aY b.g).outs.length=b.out.length
 la:(jA a b).1.length=(aY a.g).ands.length
 lb:(jB a b).1.length=(aY a.g).ands.length+(aY b.g).ands.length
 ta:∀x∈(jA a b).2,0<=x/\x<=1000000
 tb:∀x∈(jB a b).2,0<=x/\x<=1000000
 tal:∀l,(l∈(aY a.g).next\/l∈(aY a.g).outs)->0<=l/\l/2<(jA a b).2.length/\l<=1000000/\0<=mvX (jA a b).2 l/\mvX (jA a b).2 l<2*(Go.Proofs.YthdidjjecjhenaaGreat.jf a b+(jA a b).1.length)
 tbl:∀l,(l∈(aY b.g).next\/l∈(aY b.g).outs)->0<=l/\l/2<(jB a b).2.length/\l<=1000000/\0<=mvX (jB a b).2 l/\mvX (jB a b).2 l<2*(Go.Proofs.YthdidjjecjhenaaGreat.jf a b+(jB a b).1.length)
variable{a b:Mo}
theorem VN(c:CanOk a b)(big:JBig a b):JF a b (List.replicate (mV a b).b.length 0):=by
 obtain⟨ga1,ga2,ga3,ga4⟩:=cO c.ca;obtain⟨gb1,gb2,gb3,gb4⟩:=cO c.cb;obtain⟨pa1,pa2,pa3,pa4⟩:=bZ (g:=a.g);obtain⟨pb1,pb2,pb3,pb4⟩:=bZ (g:=b.g);have hbn:=big.n;obtain⟨bl1,bl2,bl3⟩:=qJ c;have k1:=nR ga1;have k2:=nR gb1;have hci:=c.ins.1;have hdum:JIn a b (List.replicate a.lat.length false) (List.replicate b.lat.length false) (List.replicate a.ins.length false):=⟨zsc,zsc,zsc⟩;have jl:=uw hdum;obtain⟨qa1,qa2,qa3⟩:=H9 c hdum;obtain⟨⟨B2,qb1,qb1'⟩,qb2,qb3⟩:=Ia c hdum;have lb:(jB a b).1.length=(jA a b).1.length+B2.length:=by rw[qb1,zqa]
 obtain⟨_,ia0,ia1,ia2,ia3,ia4,ia5⟩:=aW (iP ga1);obtain⟨_,ib0,ib1,ib2,ib3,ib4,ib5⟩:=aW (iP gb1);obtain⟨_,_,va3,va4⟩:=aN ia4;obtain⟨_,_,vb3,vb4⟩:=aN ib4;have waa:(aY a.g).all=2*((aY a.g).first+(aY a.g).ands.length):=rfl;have wab:(aY b.g).all=2*((aY b.g).first+(aY b.g).ands.length):=rfl;have wfa:(aY a.g).first=1+(aY a.g).ins+(aY a.g).next.length:=rfl
 have wfb:(aY b.g).first=1+(aY b.g).ins+(aY b.g).next.length:=rfl
 have lva:((aY a.g).vals (List.replicate a.lat.length false) (List.replicate a.ins.length false)).length=1+a.ins.length+a.lat.length+(aY a.g).ands.length:=by unfold Gr.vals;rw[jv (zrb _)];simp
 have lvb:((aY b.g).vals (List.replicate b.lat.length false) (xB a b (List.replicate a.ins.length false))).length=1+b.ins.length+b.lat.length+(aY b.g).ands.length:=by unfold Gr.vals;rw[jv (zrb _)];simp[xB]
 have ra:=qa3.r;have rb:=qb3.r;have la:=qa3.len;have lb':=qb3.len;have hjd:jf a b=1+(a.ins.length:Int)+((a.lat.length:Int)+(b.lat.length:Int)):=rfl;refine⟨by simp;omega,by simp,by omega,by simp;omega,by simp;omega,by omega,by omega,by omega,by omega,qa1,by omega,fun x hx=>by have:=ra x hx;omega,fun x hx=>by have:=rb x hx;omega,fun l hl=> ?_,fun l hl=> ?_⟩
 ·have h:0<=l/\l<(aY a.g).all:=hl.elim (va3 l) (va4 l);obtain⟨m1,m2,_⟩:=qa3.lit (l:=l) h.1 (by omega);exact⟨h.1,by omega,by omega,m1,by omega⟩
 ·have h:0<=l/\l<(aY b.g).all:=hl.elim (vb3 l) (vb4 l);obtain⟨m1,m2,_⟩:=qb3.lit (l:=l) h.1 (by omega);exact⟨h.1,by omega,by omega,m1,by omega⟩
def Dn(N zs:Cl)(i:Nat):Cl:=N.take i++zs.drop i
variable{N zs:Cl}
theorem Qa(hNl:N.length=zs.length){i:Nat}(h:i<N.length):(Dn N zs i).set i N[i]=Dn N zs (i+1):=by
 have hz:i<zs.length:=by omega
 unfold Dn;rw[List.drop_eq_getElem_cons hz,List.set_append_right _ _ (by simp;omega)];simp only[zrl,Nat.min_eq_left (Nat.le_of_lt h),Nat.sub_self,List.set_cons_zero];rw[zrg,zqk h,Option.toList_some,zqc];rfl
theorem Tu:Dn N zs 0=zs:=by simp[Dn]
theorem VO(h:N.length=zs.length):Dn N zs N.length=N:=by unfold Dn;rw[zrx,List.drop_eq_nil_of_le (by omega),zqp]
theorem Qb(hNl:N.length=zs.length){i:Nat}(h:i<=N.length):(Dn N zs i).length=zs.length:=by simp[Dn];omega
def nA(m:Mo):Mo:={m with g:=aY m.g}
abbrev miV(g:Gr)(b:Cl)(p:List Pq):V:= .agg [vi g.ins,ay g.next,ay g.init,prs g.ands,ay g.outs,ay b,prs p]
def Dp(a b:Mo):V:=if qj a b=0 then .tup [miV (az a b) (mV a b).b (mV a b).p,.bool (mV a b).ok,vi 0]else .tup [miV ⟨0,[],[],[],[]⟩ [] [],.bool false,vi (qj a b)]
theorem XG{a b:Mo}:∀i,mN (nA a) (nA b) i=mN a b i
 |0=>rfl
 |i+1=>by show lS _ _ _ (mN (nA a) (nA b) i) i _=lS _ _ _ (mN a b i) i _;rw[XG i];rfl
variable{ni f0:Int}{init:Cl}{A:List Pq}
theorem YC(hf:f0=1+ni+(zs.length:Int))(n0:0<=ni)(hi:init.length=zs.length)(hr:∀x∈init,0<=x/\x<=2)(hz:∀x∈zs,x=0)(hA:OkA f0 A)(hl:ni+(zs.length:Int)+(A.length:Int)<=4000):Gr.chk ⟨ni,zs,init,A,[]⟩=0:=by
 have fe:Gr.first ⟨ni,zs,init,A,[]⟩=f0:=hf.symm
 have ae:Gr.all ⟨ni,zs,init,A,[]⟩=2*(f0+(A.length:Int)):=by unfold Gr.all;rw[fe]
 have l1:Gr.lim ⟨ni,zs,init,A,[]⟩=false:=by show(decide (ni<0)||decide (4000<ni)||decide (4000<ni+(zs.length:Int)+(A.length:Int))||decide (4000<(([]:Cl).length:Int)))=false;simp only[zsf,zqd,List.length_nil];omega
 have l2:Gr.oddR ⟨ni,zs,init,A,[]⟩=false:=by
  simp only[Gr.oddR,ae,zsf,bne_eq_false_iff_eq,List.any_eq_false,O4,EX,Bool.not_eq_true,zqd];refine⟨⟨⟨hi,fun y hy=> ?_⟩,fun y hy=> ?_⟩,fun y hy=>by cases hy⟩
  ·have:=hr y hy;omega
  ·have:=hz y hy;omega
 have l3:Gr.oddAs ⟨ni,zs,init,A,[]⟩ A.length=false:=by
  unfold Gr.oddAs;rw[List.any_eq_false];intro k hk;have hk:k<A.length:=by simpa using hk
  rw[fe];show ¬Uk (2*(f0+k)) (A.getD k (0,0))=true;rw[aS hk];have:=hA k hk;simp only[Uk,Bool.or_eq_true,zqb];omega
 unfold Gr.chk;rw[l1,l2,l3];rfl
variable{g:Gr}
theorem Qc(hg:g.chk=0){f:Int}(hn:f=g.first):OkA f g.ands:=fun i hi=>by obtain⟨_,i0,i1,i2,i3,i4,i5⟩:=aW hg;have:=iD i5 hi;omega
theorem Qd(c:Cl)(hc:c.length<=1000000):Ev TE 29 [ay c] (ay c) :=
 (AO c hc).ev (fun _ hc=>by rw[show c=[] by simpa using hc];exact oz) (fun h' id cap _ hid=>dw hid rfl) (fun _ hc h'=>by rw[show c=[] by simpa using hc];exact aH.nils)
variable{pr:List Pq}
theorem rV{x0 x1 x2 W:List V}{beg:Cl}{iv:V}{p q:Int}(hf:f0=1+ni+(zs.length:Int))(d0:V.dats x0=true)(d1:V.dats x1=true)(d2:V.dats x2=true)(di:iv.dat=true)(dW:V.dats W=true)
 (hg:Gr.chk ⟨ni,zs,init,A,[]⟩=0) (hA1:ni+(zs.length:Int)+(A.length:Int)<4000)
 (p0:0<=p/\p<2*(f0+A.length)) (q0:0<=q/\q<2*(f0+A.length)) {R:AEnd->H->(Nat->Bool)->Prop}
 (hr:R (.ret (vi (jg f0 A p q).2)) (hJ5 x0 x1 x2 ni zs init beg pr iv (jg f0 A p q).1++[.cells W]) (fun _=>false)) :
 ag TE 31 [.lp 3 0,vi p,vi q] (hJ5 x0 x1 x2 ni zs init beg pr iv A++[.cells W]) R:=by
 refine ag.frame (L9 hf d0 d1 d2 di hg hA1 p0.1 p0.2 q0.1 q0.2 ⟨rfl,?_,?_⟩) rfl ?_
 ·rw[zrd,List.map_nil,aZ,bi.dats_drops _ dW]
 ·simpa only[Bool.false_and]using hr
 ·have dd0:∀p,V.drops p x0=x0:=fun p=>bi.dats_drops _ d0;have dd1:∀p,V.drops p x1=x1:=fun p=>bi.dats_drops _ d1;have dd2:∀p,V.drops p x2=x2:=fun p=>bi.dats_drops _ d2;have ddi:∀p,iv.drop p=iv:=fun p=>bi _ di;have ddz:∀p,V.drops p (zs.map vi)=zs.map vi:=fun p=>aI _;simp only[wq.1,seval,V.drops,V.drop,dd0,dd1,dd2,ddi,ddz,aJ]
theorem Qe{bg:Cl}{W:Cl}{okm:Bool}(F:JF a b zs)(hjG:az a b=⟨a.ins.length,(aY a.g).next.map (mvX (jA a b).2)++(aY b.g).next.map (mvX (jB a b).2),bg,A,W⟩)(hWl:W.length=a.out.length){f:Fr}
 (t2:f.t 2= .lp 0 0) (t3:f.t 3= .lp 1 0) (t4:f.t 4= .lp 2 0) (t8:f.t 8= .lp 3 0) (t9:f.t 9= .bool okm) (t10:f.t 10= .fn (.func 57) [] [.ip (ay (jA a b).2)]) (t11:f.t 11= .fn (.func 57) [] [.ip (ay (jB a b).2)]) (hd:f.d=[]):awp TE 236 none (zH 15 (qZ Tryz.f12)) (IG TE Tryz.f12.results.toList (V.tup [miV (az a b) bg pr,.bool okm,vi 0])) f [.cells (cCM (nA a)),.cells (cCM (nA b)),.cells [vi 0,.nils,.nils,.nils,.nils,.nils,.nils],.cells [vi a.ins.length,.ls 4 1 0 zs.length zs.length,ay bg,prs A,.ls 5 1 0 a.out.length a.out.length,ay bg,prs pr,plV a.ins,.bool false],.cells ((zs).map vi),.cells (W.map vi)]:=by
 have hM:=mLx;obtain⟨N,hN⟩:∃N,N=(aY a.g).next.map (mvX (jA a b).2)++(aY b.g).next.map (mvX (jB a b).2):=⟨_,rfl⟩
 have hNl:N.length=zs.length:=by rw[hN,zqa,zra,zra,F.an,F.bn,F.zl]
 rw[<-hN]at hjG;have fan:=F.an;have fbn:=F.bn;have fzl:=F.zl;have fn:=F.n;have lnA:((nA a).g.next.length:Int)=a.lat.length:=by show(((aY a.g).next.length:Nat):Int)=_;omega
 have lnB:((nA b).g.next.length:Int)=b.lat.length:=by show(((aY b.g).next.length:Nat):Int)=_;omega
 simp only[zH,qZ,Tryz.f12];refine ak ?_;refine vn ?_;simp only[wq.1,seval,t2,lnA];refine aB ?_;refine aC (fun q f h=>∃i,q+i=a.lat.length/\f.t 2= .lp 0 0/\f.t 3= .lp 1 0/\f.t 4= .lp 2 0/\f.t 8= .lp 3 0/\f.t 9= .bool okm/\f.t 10= .fn (.func 57) [] [.ip (ay (jA a b).2)]/\f.t 11= .fn (.func 57) [] [.ip (ay (jB a b).2)]/\f.t 186=ay (nA a).g.next/\f.t 187=vi a.lat.length/\f.t 188=vi i/\f.d=[]/\h=[.cells (cCM (nA a)),.cells (cCM (nA b)),.cells [vi 0,.nils,.nils,.nils,.nils,.nils,.nils],.cells [vi a.ins.length,.ls 4 1 0 zs.length zs.length,ay bg,prs A,.ls 5 1 0 a.out.length a.out.length,ay bg,prs pr,plV a.ins,.bool false],.cells ((Dn N zs i).map vi),.cells (W.map vi)]) a.lat.length ⟨0,by omega,t2,t3,t4,t8,t9,t10,t11,rfl,rfl,rfl,hd,by rw[Tu]⟩ ?_;clear t2 t3 t4 t8 t9 t10 t11 hd f;rintro q f h ⟨i,hq,t2,t3,t4,t8,t9,t10,t11,t186,t187,t188,hd,rfl⟩;refine vn ?_;simp only[wq.1,Nat.reduceLT,t187,t188];refine ak (aV (b:=decide ((i:Int)<a.lat.length)) (by simp only[wq.1,↓reduceIte]) (by simp only[wq.1,↓reduceIte]) (fun hlt=> ?_) (fun hlt=> ?_))
 ·simp only[zqb,zqi]at hlt;have hw:=aA (show i<maxLen by omega);have hil:i<(aY a.g).next.length:=by omega
  obtain⟨l,hl⟩:∃l,l=(aY a.g).next[i]:=⟨_,rfl⟩
  have hgo:((nA a).g.next.map vi).getD i .any=vi l:=by rw[hl];exact wU hil _
  obtain⟨l1,l2,l3,_,_⟩:=F.tal l (.inl (by rw[hl];exact zqu hil));have ev1:=qK (jA a b).2 l l1 l2 l3 F.ta;have hNi:i<N.length:=by omega
  have hNe:N[i]=mvX (jA a b).2 l:=by simp only[hN,hl];rw[List.getElem_append_left (by simpa using hil),List.getElem_map]
  have hrl:=Qb hNl (i:=i) (by omega);have hts:((Dn N zs i).map vi).take (i)++[vi (mvX (jA a b).2 l)]++((Dn N zs i).map vi).drop (i+1)=(Dn N zs (i+1)).map vi:=by rw[ui (by omega),<-hNe,Qa hNl hNi]
  refine vm ?_;simp only[wq.1];refine ak (aB ?_);refine vn ?_;simp only[wq.1,seval,t186,t188,hgo];refine⟨⟨by omega,by omega⟩,?_⟩;refine ny dV 11 (.one 11<| .fin) (fun f' h'=>f'.t 2= .lp 0 0/\f'.t 3= .lp 1 0/\f'.t 4= .lp 2 0/\f'.t 8= .lp 3 0/\f'.t 9= .bool okm/\f'.t 10= .fn (.func 57) [] [.ip (ay (jA a b).2)]/\f'.t 11= .fn (.func 57) [] [.ip (ay (jB a b).2)]/\f'.t 186=ay (nA a).g.next/\f'.t 187=vi a.lat.length/\f'.t 188=vi i/\f'.d=[]/\h'=[.cells (cCM (nA a)),.cells (cCM (nA b)),.cells [vi 0,.nils,.nils,.nils,.nils,.nils,.nils],.cells [vi a.ins.length,.ls 4 1 0 zs.length zs.length,ay bg,prs A,.ls 5 1 0 a.out.length a.out.length,ay bg,prs pr,plV a.ins,.bool false],.cells ((Dn N zs (i+1)).map vi),.cells (W.map vi)]) (by decide +kernel) ?_ ?_
  ·intro K hK;simp only[List.take_succ_cons,List.take_zero];simp only[wq.1,seval,t8,t10];refine Dz.mk ev1 rfl (by simp only[V.dats,V.dat,zre]) ?_;simp only[wq.1,seval];refine⟨⟨by omega,by omega⟩,hK _ ?_⟩;simp only[wq.1,seval,t2,t3,t4,t8,t9,t10,t11,t186,t187,t188,hd];refine⟨by omega,?_⟩;rw[Nat.mul_one,hts]
  ·rintro f h ⟨t2,t3,t4,t8,t9,t10,t11,t186,t187,t188,hd,rfl⟩;show awp _ _ _ _ _ _ _;refine vm ?_;simp only[wq.1,seval,t188,hw];exact .inl ⟨q-1,by omega,i+1,by omega,t2,t3,t4,t8,t9,t10,t11,t186,t187,rfl,hd,rfl⟩
 ·simp only[zqd,zqi]at hlt;have:i=a.lat.length:=by omega
  subst this;refine vm ?_;simp only[wq.1];show awp _ _ _ _ _ _ _;refine ak ?_;refine vn ?_;simp only[wq.1,seval,t3,lnB];refine aB ?_;refine aC (fun q f h=>∃i,q+i=b.lat.length/\f.t 2= .lp 0 0/\f.t 3= .lp 1 0/\f.t 4= .lp 2 0/\f.t 8= .lp 3 0/\f.t 9= .bool okm/\f.t 10= .fn (.func 57) [] [.ip (ay (jA a b).2)]/\f.t 11= .fn (.func 57) [] [.ip (ay (jB a b).2)]/\f.t 207=ay (nA b).g.next/\f.t 208=vi b.lat.length/\f.t 209=vi i/\f.d=[]/\h=[.cells (cCM (nA a)),.cells (cCM (nA b)),.cells [vi 0,.nils,.nils,.nils,.nils,.nils,.nils],.cells [vi a.ins.length,.ls 4 1 0 zs.length zs.length,ay bg,prs A,.ls 5 1 0 a.out.length a.out.length,ay bg,prs pr,plV a.ins,.bool false],.cells ((Dn N zs (a.lat.length+i)).map vi),.cells (W.map vi)]) b.lat.length ⟨0,by omega,t2,t3,t4,t8,t9,t10,t11,rfl,rfl,rfl,hd,rfl⟩ ?_;clear t186 t187 t188 t2 t3 t4 t8 t9 t10 t11 hd f;rintro q f h ⟨i,hq,t2,t3,t4,t8,t9,t10,t11,t207,t208,t209,hd,rfl⟩;refine vn ?_;simp only[wq.1,Nat.reduceLT,t208,t209];refine ak (aV (b:=decide ((i:Int)<b.lat.length)) (by simp only[wq.1,↓reduceIte]) (by simp only[wq.1,↓reduceIte]) (fun hlt=> ?_) (fun hlt=> ?_))
  ·simp only[zqb,zqi]at hlt;have hw:=aA (show i<maxLen by omega);have hil:i<(aY b.g).next.length:=by omega
   obtain⟨l,hl⟩:∃l,l=(aY b.g).next[i]:=⟨_,rfl⟩
   have hgo:((nA b).g.next.map vi).getD i .any=vi l:=by rw[hl];exact wU hil _
   obtain⟨l1,l2,l3,_,_⟩:=F.tbl l (.inl (by rw[hl];exact zqu hil));have ev1:=qK (jB a b).2 l l1 l2 l3 F.tb;have wla:IntKind.i64.wrap (((nA a).g.next.length:Int)+(i:Int))=((a.lat.length+i:Nat):Int):=by rw[aU (by omega) (by omega)];omega
   have hNi:a.lat.length+i<N.length:=by omega
   have hNe:N[a.lat.length+i]=mvX (jB a b).2 l:=by simp only[hN,hl];rw[List.getElem_append_right (by rw[zra];omega),List.getElem_map];simp[F.an]
   have hrl:=Qb hNl (i:=a.lat.length+i) (by omega);have hts:((Dn N zs (a.lat.length+i)).map vi).take (a.lat.length+i)++[vi (mvX (jB a b).2 l)]++((Dn N zs (a.lat.length+i)).map vi).drop (a.lat.length+i+1)=(Dn N zs (a.lat.length+i+1)).map vi:=by rw[ui (by omega),<-hNe,Qa hNl hNi]
   refine vm ?_;simp only[wq.1];refine ak (aB ?_);refine vn ?_;simp only[wq.1,seval,t207,t209,hgo];refine⟨⟨by omega,by omega⟩,?_⟩;refine ny dV 16 (.one 16<| .fin) (fun f' h'=>f'.t 2= .lp 0 0/\f'.t 3= .lp 1 0/\f'.t 4= .lp 2 0/\f'.t 8= .lp 3 0/\f'.t 9= .bool okm/\f'.t 10= .fn (.func 57) [] [.ip (ay (jA a b).2)]/\f'.t 11= .fn (.func 57) [] [.ip (ay (jB a b).2)]/\f'.t 207=ay (nA b).g.next/\f'.t 208=vi b.lat.length/\f'.t 209=vi i/\f'.d=[]/\h'=[.cells (cCM (nA a)),.cells (cCM (nA b)),.cells [vi 0,.nils,.nils,.nils,.nils,.nils,.nils],.cells [vi a.ins.length,.ls 4 1 0 zs.length zs.length,ay bg,prs A,.ls 5 1 0 a.out.length a.out.length,ay bg,prs pr,plV a.ins,.bool false],.cells ((Dn N zs (a.lat.length+i+1)).map vi),.cells (W.map vi)]) (by decide +kernel) ?_ ?_
   ·intro K hK;simp only[List.take_succ_cons,List.take_zero];simp only[wq.1,seval,t2,t8,t11,wla];refine Dz.mk ev1 rfl (by simp only[V.dats,V.dat,zre]) ?_;simp only[wq.1,seval];refine⟨⟨by omega,by omega⟩,hK _ ?_⟩;simp only[wq.1,seval,t2,t3,t4,t8,t9,t10,t11,t207,t208,t209,hd];refine⟨by omega,?_⟩;rw[Nat.mul_one,hts]
   ·rintro f h ⟨t2,t3,t4,t8,t9,t10,t11,t207,t208,t209,hd,rfl⟩;show awp _ _ _ _ _ _ _;refine vm ?_;simp only[wq.1,seval,t209,hw];exact .inl ⟨q-1,by omega,i+1,by omega,t2,t3,t4,t8,t9,t10,t11,t207,t208,rfl,hd,rfl⟩
  ·simp only[zqd,zqi]at hlt;have:i=b.lat.length:=by omega
   subst this;refine vm ?_;simp only[wq.1];show awp _ _ _ _ _ _ _;refine vm ?_;simp only[wq.1,seval,t4,t8,t9,hd];have hNe:a.lat.length+b.lat.length=N.length:=by omega
   rw[hNe,VO hNl,hjG];exact aH.tup (aj.cons (aH.agg (aj.cons (aH.dat rfl) (aj.cons (dw rfl hNl.symm) (aj.cons (aH.dat Wj) (aj.cons (aH.dat (by simp only[V.dat])) (aj.cons (dw rfl hWl.symm) (aj.dat (by simp only[V.dats,V.dat,zre])))))))) (aj.dat rfl))
theorem Tv(c:CanOk a b)(big:JBig a b){zs bg:Cl}{pr:List Pq}{okm:Bool}(hzs:zs=List.replicate (mV a b).b.length 0)(hbg:bg=(mV a b).b){f:Fr}
 (t2:f.t 2= .lp 0 0) (t3:f.t 3= .lp 1 0) (t4:f.t 4= .lp 2 0) (t8:f.t 8= .lp 3 0) (t9:f.t 9= .bool okm) (t10:f.t 10= .fn (.func 57) [] [.ip (ay (jA a b).2)]) (t11:f.t 11= .fn (.func 57) [] [.ip (ay (jB a b).2)]) (t12:f.t 12=plV b.out) (t13:f.t 13= .ls 5 1 0 0 0) (hd:f.d=[]):awp TE 236 none (zH 12 (qZ Tryz.f12)) (IG TE Tryz.f12.results.toList (V.tup [miV (az a b) bg pr,.bool okm,vi 0])) f (hJ5 (cCM (nA a)) (cCM (nA b)) [vi 0,.nils,.nils,.nils,.nils,.nils,.nils] a.ins.length zs bg bg pr (plV a.ins) (jB a b).1++[.cells []]):=by
 have hM:=mLx;have F:=VN c big;rw[<-hzs]at F;obtain⟨bl1,bl2,bl3⟩:=qJ c;have hbgl:bg.length=zs.length:=by rw[hbg];exact F.bl
 have hjf:=F.jf;have fn:=F.n;have fao:=F.ao;have fbo:=F.bo;have fai:=F.ai;have n3:(nA a).out=a.out:=rfl;have hdum:JIn a b (List.replicate a.lat.length false) (List.replicate b.lat.length false) (List.replicate a.ins.length false):=⟨zsc,zsc,zsc⟩;have jl:=uw hdum;simp only[zH,qZ,Tryz.f12];refine ak ?_;refine vn ?_;simp only[wq.1,seval,t2,n3];refine aB ?_;refine aC (fun q f h=>∃i,q+i=a.out.length/\f.t 2= .lp 0 0/\f.t 3= .lp 1 0/\f.t 4= .lp 2 0/\f.t 8= .lp 3 0/\f.t 9= .bool okm/\f.t 10= .fn (.func 57) [] [.ip (ay (jA a b).2)]/\f.t 11= .fn (.func 57) [] [.ip (ay (jB a b).2)]/\f.t 12=plV b.out/\f.t 13= .ls 5 1 0 i i/\f.t 122=jq a.out/\f.t 123=vi a.out.length/\f.t 124=vi i/\f.d=[]/\h=hJ5 (cCM (nA a)) (cCM (nA b)) [vi 0,.nils,.nils,.nils,.nils,.nils,.nils] a.ins.length zs bg bg pr (plV a.ins) (jO a b i).1++[.cells ((jO a b i).2.map vi)]) a.out.length ⟨0,by omega,t2,t3,t4,t8,t9,t10,t11,t12,t13,rfl,rfl,rfl,hd,rfl⟩ ?_;clear t2 t3 t4 t8 t9 t10 t11 t12 t13 hd f;rintro q f h ⟨i,hq,t2,t3,t4,t8,t9,t10,t11,t12,t13,t122,t123,t124,hd,rfl⟩;obtain⟨⟨B,s1⟩,s2,s3,s4,s5,s6⟩:=LV c hdum i (by omega);rw[jl]at s2 s5;obtain⟨A,W,hAO⟩:∃A W,jO a b i=(A,W):=⟨_,_,rfl⟩;have hsu:jO a b (i+1)=QH (jf a b) (mvX (jA a b).2 ((aY a.g).outs.getD i 0)) (mvX (jB a b).2 ((aY b.g).outs.getD (atI b.out (a.out.getD i [])) 0)) (jO a b i):=rfl;rw[hAO]at s1 s2 s3 s4 s5 hsu ⊢;dsimp only at s1 s2 s3 s4 s5 ⊢;have dW:V.dats (W.map vi)=true:=jH _;refine vn ?_;simp only[wq.1,Nat.reduceLT,t123,t124];refine ak (aV (b:=decide ((i:Int)<a.out.length)) (by simp only[wq.1,↓reduceIte]) (by simp only[wq.1,↓reduceIte]) (fun hlt=> ?_) (fun hlt=> ?_))
 ·simp only[zqb,zqi]at hlt;have hw:=aA (show i<maxLen by omega);obtain⟨k,hat⟩:=Option.isSome_iff_exists.1 (c.out.2 _ (zqu hlt));have hkl:=(lH hat).1;have hgk:(JH b.out.length).getD k .any=vi k:=uy hkl _;have hge:a.out.getD i []=a.out[i]:=aS hlt;have hai:atI b.out (a.out.getD i [])=k:=by rw[hge];unfold atI;rw[hat];rfl
  rw[hai]at hsu;obtain⟨la,hla⟩:∃la,la=(aY a.g).outs.getD i 0:=⟨_,rfl⟩;obtain⟨lb,hlb⟩:∃lb,lb=(aY b.g).outs.getD k 0:=⟨_,rfl⟩;have hil:i<(aY a.g).outs.length:=by omega
  have hkl2:k<(aY b.g).outs.length:=by omega
  have hgo:((nA a).g.outs.map vi).getD i .any=vi la:=by rw[hla,aS hil];exact wU hil _
  have hgq:((nA b).g.outs.map vi).getD k .any=vi lb:=by rw[hlb,aS hkl2];exact wU hkl2 _
  have hnoa:((nA a).g.outs.length:Int)=a.out.length:=by show(((aY a.g).outs.length:Nat):Int)=_;omega
  have hnob:((nA b).g.outs.length:Int)=b.out.length:=by show(((aY b.g).outs.length:Nat):Int)=_;omega
  rw[<-hla,<-hlb]at hsu;obtain⟨c1,c2,c3,m1,m2⟩:=F.tal la (.inr (by rw[hla,aS hil];exact zqu hil));obtain⟨c4,c5,c6,m3,m4⟩:=F.tbl lb (.inr (by rw[hlb,aS hkl2];exact zqu hkl2));have lA1:=F.la;have lB1:=F.lb;have lA2:A.length=(jB a b).1.length+B.length:=by rw[s1,zqa]
  have ev1:=qK (jA a b).2 la c1 c2 c3 F.ta;have ev2:=qK (jB a b).2 lb c4 c5 c6 F.tb;obtain⟨p,hp⟩:∃p,p=mvX (jA a b).2 la:=⟨_,rfl⟩;obtain⟨q',hq'⟩:∃q',q'=mvX (jB a b).2 lb:=⟨_,rfl⟩;rw[<-hp]at ev1 m1 m2 hsu;rw[<-hq']at ev2 m3 m4 hsu;refine vm ?_;simp only[wq.1];refine ak (aB ?_);refine vn ?_;simp only[wq.1,seval,t122,t124,Gq hlt];refine⟨⟨by omega,by omega⟩,?_⟩;refine vn ?_;simp only[wq.1,seval,t2,t10,hgo];refine⟨by decide +kernel,⟨by omega,by omega⟩,Dz.mk ev1 rfl (by simp only[V.dats,V.dat,zre]) ?_⟩;simp only[wq.1,seval,t3,t11,t12,hgq,qp,dR,Abs.K.keyOk,hat,hgk];refine⟨⟨by omega,by omega⟩,Dz.mk ev2 rfl (by simp only[V.dats,V.dat,zre]) ?_⟩;simp only[wq.1,seval];have hf0:0<jf a b:=by unfold jf;omega
  have xl:=fun {x k:Int}=>@H7 x k;have hck:∀A:List Pq,OkA (jf a b) A->(a.ins.length:Int)+(zs.length:Int)+(A.length:Int)<=4000->Gr.chk ⟨a.ins.length,zs,bg,A,[]⟩=0:=fun A h1 h2=>YC hjf.symm (by omega) (by omega) (by rw[hbg];exact bl2) (fun x hx=>by rw[hzs]at hx;exact List.eq_of_mem_replicate hx) h1 h2;have hp1:0<=p/\p<2*(jf a b+A.length):=by omega
  have hq1:0<=q'/\q'<2*(jf a b+A.length):=by omega
  obtain⟨u,hu⟩:∃u,u=jg (jf a b) A p (qF q'):=⟨_,rfl⟩;obtain⟨u1,u2,u3,u4⟩:=qf hf0 hp1 (xl hq1.1 hq1.2);have uA:=Dc hp1 (xl hq1.1 hq1.2) s2;rw[<-hu]at u1 u2 u3 u4 uA;have hp2:0<=p/\p<2*(jf a b+u.1.length):=by omega
  have hq2:0<=q'/\q'<2*(jf a b+u.1.length):=by omega
  obtain⟨v,hv⟩:∃v,v=jg (jf a b) u.1 (qF p) q':=⟨_,rfl⟩;obtain⟨v1,v2,v3,v4⟩:=qf hf0 (xl hp2.1 hp2.2) hq2;have vA:=Dc (xl hp2.1 hp2.2) hq2 uA;rw[<-hv]at v1 v2 v3 v4 vA;have hu2:0<=u.2/\u.2<2*(jf a b+v.1.length):=by omega
  obtain⟨w,hw'⟩:∃w,w=jg (jf a b) v.1 (qF u.2) (qF v.2):=⟨_,rfl⟩;obtain⟨w1,w2,w3,w4⟩:=qf hf0 (xl hu2.1 hu2.2) (xl v3 v4);rw[<-hw']at w1 w2 w3 w4;have hsu:jO a b (i+1)=(w.1,W++[qF w.2]):=by rw[hsu,hw',hv,hu];rfl
  have xp:=pY (a:=p) (by omega) (by omega);have xq:=pY (a:=q') (by omega) (by omega);have xu:=pY (a:=u.2) (by omega) (by omega);have xv:=pY (a:=v.2) (by omega) (by omega);have xw:=pY (a:=w.2) (by omega) (by omega);have dx0:V.dats (cCM (nA a))=true:=by simp only[V.dats,V.dat,zre]
  have dx1:V.dats (cCM (nA b))=true:=by simp only[V.dats,V.dat,zre]
  have ddpl:∀p,(plV a.ins).drop p=plV a.ins:=fun p=>bi _ (by simp only[V.dat]);have dxx:∀m:Mo,∀p,V.drops p (cCM m)=cCM m:=fun m p=>bi.dats_drops _ (by simp only[V.dats,V.dat,zre]);refine vn ?_;simp only[wq.1,seval,t8,xq];refine rV (f0:=jf a b) (A:=A) (W:=W.map vi) hjf.symm dx0 dx1 rfl (by simp only[V.dat]) dW (hck _ s2 (by omega)) (by omega) hp1 (xl hq1.1 hq1.2) ?_;rw[<-hu];simp only[wq.1,seval];refine vn ?_;simp only[wq.1,seval,t8,xp];refine rV (f0:=jf a b) (A:=u.1) (W:=W.map vi) hjf.symm dx0 dx1 rfl (by simp only[V.dat]) dW (hck _ uA (by omega)) (by omega) (xl hp2.1 hp2.2) hq2 ?_;rw[<-hv];simp only[wq.1,seval];refine vm ?_;simp only[wq.1,↓reduceIte,Nat.reduceEqDiff,Nat.reduceLT,t8,t13,xu,xv];refine rV (f0:=jf a b) (A:=v.1) (W:=W.map vi) hjf.symm dx0 dx1 rfl (by simp only[V.dat]) dW (hck _ vA (by omega)) (by omega) (xl hu2.1 hu2.2) (xl v3 v4) ?_;rw[<-hw'];simp only[wq.1,↓reduceIte,Nat.reduceEqDiff,Nat.reduceLT,Nat.reduceBEq,reduceCtorEq,Nat.reduceMul,hd,xw];refine⟨⟨rfl,by decide⟩,⟨by omega,by omega,by omega⟩,?_⟩;refine vm ?_;simp only[wq.1,seval,t124,hw];refine .inl ⟨q-1,by omega,i+1,by omega,by simp only[wq.1,seval,t2],by simp only[wq.1,seval,t3],by simp only[wq.1,seval,t4],by simp only[wq.1,seval,t8],by simp only[wq.1,seval,t9],by simp only[wq.1,seval,t10],by simp only[wq.1,seval,t11],by simp only[wq.1,seval,t12],rfl,by simp only[wq.1,seval,t122],by simp only[wq.1,seval,t123],rfl,hd,?_⟩;rw[hsu];simp only[zql,dxx,aI,ddpl];rfl
 ·simp only[zqd,zqi]at hlt;have:i=a.out.length:=by omega
  subst this;have hjG:az a b=⟨a.ins.length,(aY a.g).next.map (mvX (jA a b).2)++(aY b.g).next.map (mvX (jB a b).2),bg,A,W⟩:=by unfold az;rw[hAO,hbg]
  have b1:decide (4000<(a.out.length:Int))=false:=by rw[zqd];omega
  refine vm ?_;simp only[wq.1];show awp _ _ _ _ _ _ _;refine ak ?_;refine vn ?_;simp only[wq.1,seval,t8,t13,b1];refine aV (b:=false) (by simp only[wq.1,↓reduceIte]) (by simp only[wq.1,↓reduceIte]) (fun h=>by cases h) (fun _=> ?_);refine vm ?_;simp only[wq.1];refine vn ?_;simp only[wq.1,seval,t8,t13];exact Qe F hjG s4 (t2) (t3) (t4) (t8) (t9) (t10) (t11) (hd)
theorem Dq(a b:Mo)(ha:a.g.Sm)(hb:b.g.Sm)(hbig:qj a b=0->JBig a b):Ev TE 12 [a.v,b.v] (Dp a b):=by
 have hM:=mLx;have hcan:=Tt a b ha hb;unfold Mo.v at hcan ⊢;refine aF Tryz.func12 rfl (by simp[nts]) ?_;refine vn ?_;simp only[wq.1,seval,Tryz.results12];refine ak ?_;refine vn ?_;simp only[wq.1,seval];refine ag.ev hcan (by simp only[V.dats,V.dat,zre]) ?_;simp only[wq.1,seval];refine vn ?_;simp only[wq.1,seval];by_cases hz:qj a b=0
 ·have ez:(qj a b != 0)=false:=by simpa using hz
  have c:=uu hz;have big:=hbig hz;obtain⟨ga1,ga2,ga3,ga4⟩:=cO c.ca;obtain⟨gb1,gb2,gb3,gb4⟩:=cO c.cb;obtain⟨na1,na2,na3⟩:=kL c.ca;obtain⟨nb1,nb2,nb3⟩:=kL c.cb;have hNa:=FB ga1;have hNb:=FB gb1;unfold Gr.v at hNa hNb;have hpi:=kU a.ins na1;rw[hz];unfold Dp;rw[if_pos hz];refine aV (b:=false) (by simp only[wq.1,seval]) (by simp only[wq.1,seval]) (fun h=>by cases h) (fun _=> ?_);refine vm ?_;simp only[wq.1,Int.reduceBNe];refine vn ?_;simp only[wq.1,seval];refine ag.ev hNa (by simp only[V.dats,V.dat,zre]) ?_;simp only[wq.1,seval];refine vn ?_;simp only[wq.1,seval];refine ag.ev hNb (by simp only[V.dats,V.dat,zre]) ?_;simp only[wq.1,seval];refine vn ?_;simp only[wq.1,seval];refine ag.ev hpi (by simp only[V.dats,V.dat,ji,zre]) ?_;simp only[wq.1,seval];obtain⟨pa1,pa2,pa3,pa4⟩:=bZ (g:=a.g);obtain⟨pb1,pb2,pb3,pb4⟩:=bZ (g:=b.g);obtain⟨_,ra0,ra1,ra2,ra3,ra4,ra5⟩:=aW ga1;obtain⟨_,rb0,rb1,rb2,rb3,rb4,rb5⟩:=aW gb1;obtain⟨ta1,ta2,ta3,ta4⟩:=aN ra4;obtain⟨tb1,tb2,tb3,tb4⟩:=aN rb4;have hbn:=big.n;have hmv:mV (nA a) (nA b)=mV a b:=XG _;obtain⟨bl1,bl2,bl3⟩:=qJ c;obtain⟨bg,hbg⟩:∃bg,bg=(mV a b).b:=⟨_,rfl⟩;obtain⟨pr,hpr⟩:∃pr,pr=(mV a b).p:=⟨_,rfl⟩;obtain⟨okm,hok⟩:∃okm,okm=(mV a b).ok:=⟨_,rfl⟩;have hbgl:bg.length=a.lat.length+b.lat.length:=by rw[hbg,bl1,bl3]
  refine vn ?_;simp only[wq.1,seval];refine Ib (a:=nA a) (b:=nA b) (x0:=cCM (nA a)) (x1:=cCM (nA b)) (x2:=[vi 0,.nils,.nils,.nils,.nils,.nils,.nils]) (iv:=plV a.ins) (by simp only[V.dat]) rfl (by simp only[V.dats,V.dat,zre]) (by simp only[V.dats,V.dat,zre]) rfl nb2 (by show a.lat.length=a.g.init.length;omega) (by show b.lat.length=b.g.init.length;omega) (by show a.ins.length<=4000;omega) (by show a.lat.length<=4000;omega) (by show b.lat.length<=4000;omega) ?_;rw[hmv,<-hbg,<-hpr,<-hok];simp only[wq.1,seval];refine ak (Yj (nA a) bg okm pr (plV a.ins) (cCM (nA b)) [vi 0,.nils,.nils,.nils,.nils,.nils,.nils] (by omega) (Qd bg (by omega)) ?_ ?_ ?_)
  ·intro q hq;simp only[kE,zrj,zrp,or_false]at hq;rcases hq with rfl|rfl|rfl|rfl|rfl<;>simp only[wq.1,seval]
  ·rfl
  ·intro f hg hd _;show awp _ _ _ _ _ _ _;have t2:f.t 2= .lp 0 0:=hg (2,_) (by simp[kE]);have t3:f.t 3= .lp 1 0:=hg (3,_) (by simp[kE]);have t4:f.t 4= .lp 2 0:=hg (4,_) (by simp[kE]);have t8:f.t 8= .lp 3 0:=hg (8,_) (by simp[kE]);have t9:f.t 9= .bool okm:=hg (9,_) (by simp[kE]);clear hg;have k1:=nR ga1;have k2:=nR gb1;have e1:(nA a).g.ands.length=(aY a.g).ands.length:=rfl;have e2:(nA b).g.ands.length=(aY b.g).ands.length:=rfl;obtain⟨zs,hzs⟩:∃zs:Cl,zs=List.replicate bg.length 0:=⟨_,rfl⟩;have hzs':zs=List.replicate (mV a b).b.length 0:=by rw[hzs,hbg]
   have hzl:zs.length=bg.length:=by rw[hzs,zsc]
   have hzv:List.replicate bg.length (vi 0)=zs.map vi:=by rw[hzs,List.map_replicate]
   have hh0:hz8 (nA a) bg pr (plV a.ins) (cCM (nA b)) [vi 0,.nils,.nils,.nils,.nils,.nils,.nils] true true=[.cells (cCM (nA a)),.cells (cCM (nA b)),.cells [vi 0,.nils,.nils,.nils,.nils,.nils,.nils],.cells [vi a.ins.length,.ls 4 1 0 zs.length zs.length,ay bg,.nils,.nils,ay bg,prs pr,plV a.ins,.bool false],.cells (zs.map vi)]:=by rw[hzl,<-hzv];rfl
   rw[hh0];have w1:IntKind.i64.wrap ((a.ins.length:Int)+(bg.length:Int))=(a.ins.length:Int)+(bg.length:Int):=aU (by omega) (by omega);have w2:IntKind.i64.wrap ((a.ins.length:Int)+(bg.length:Int)+((nA a).g.ands.length:Int))=(a.ins.length:Int)+(bg.length:Int)+((nA a).g.ands.length:Int):=aU (by omega) (by omega);have w3:IntKind.i64.wrap ((a.ins.length:Int)+(bg.length:Int)+((nA a).g.ands.length:Int)+((nA b).g.ands.length:Int))=(a.ins.length:Int)+(bg.length:Int)+((nA a).g.ands.length:Int)+((nA b).g.ands.length:Int):=aU (by omega) (by omega);have b1:decide (4000<(a.ins.length:Int)+(bg.length:Int)+((nA a).g.ands.length:Int)+((nA b).g.ands.length:Int))=false:=by rw[zqd];omega
   refine ak ?_;refine vn ?_;simp only [wq.1,seval,t2,t3,t8,w1,w2,w3,b1];refine ⟨by decide +kernel,?_⟩;refine aV (b := false) (by simp only [wq.1,↓reduceIte]) (by simp only [wq.1,↓reduceIte]) (fun h => by cases h) (fun _ => ?_);refine vm ?_;simp only [wq.1];refine fP ?_;refine kZ (h' := hAd (cCM (nA a)) (cCM (nA b)) [vi 0,.nils,.nils,.nils,.nils,.nils,.nils] a.ins.length zs bg bg pr (plV a.ins) [])
    (HLe.set (h := [.cells (cCM (nA a)),.cells (cCM (nA b)),.cells [vi 0,.nils,.nils,.nils,.nils,.nils,.nils],.cells [vi a.ins.length,.ls 4 1 0 zs.length zs.length,ay bg,.nils,.nils,ay bg,prs pr,plV a.ins,.bool false],.cells (zs.map vi),.cells []]) (i := 3) (o := .cells [vi a.ins.length,.ls 4 1 0 zs.length zs.length,ay bg,.nils,.nils,ay bg,prs pr,plV a.ins,.bool false]) rfl
     (OLe.cells (zrb _) (eH.cons (VLe.refl _) (eH.cons (VLe.refl _) (eH.cons (VLe.refl _) (eH.cons dC (eH.refl _))))))) ?_
   have hjf:(1:Int)+(a.ins.length:Int)+(zs.length:Int)=jf a b:=by unfold jf;omega
   have hdum:JIn a b (List.replicate a.lat.length false) (List.replicate b.lat.length false) (List.replicate a.ins.length false):=⟨zsc,zsc,zsc⟩;have jl:=uw hdum;obtain⟨qa1,qa2,qa3⟩:=H9 c hdum;obtain⟨⟨B2,qb1,qb1'⟩,qb2,qb3⟩:=Ia c hdum;have ja_eq:vK (1+(a.ins.length:Int)+(zs.length:Int)) ([],to0 a.ins (nA a) (1+(a.ins.length:Int))) (nA a).g.ands=jA a b:=by rw[hjf];rfl
   have jb_eq:vK (1+(a.ins.length:Int)+(zs.length:Int)) ((jA a b).1,to0 a.ins (nA b) (1+(a.ins.length:Int)+(a.lat.length:Int))) (nA b).g.ands=jB a b:=by rw[hjf];rfl
   have wi:IntKind.i64.wrap (1+(a.ins.length:Int))=1+(a.ins.length:Int):=aU (by omega) (by omega);have wj:IntKind.i64.wrap (1+(a.ins.length:Int)+(a.lat.length:Int))=1+(a.ins.length:Int)+(a.lat.length:Int):=aU (by omega) (by omega);have okA:OkA (1+((nA a).ins.length:Int)+((nA a).lat.length:Int)) (nA a).g.ands:=Qc (iP ga1) (by show 1+(a.ins.length:Int)+(a.lat.length:Int)=1+(aY a.g).ins+((aY a.g).next.length:Int);omega);have okB:OkA (1+((nA b).ins.length:Int)+((nA b).lat.length:Int)) (nA b).g.ands:=Qc (iP gb1) (by show 1+(b.ins.length:Int)+(b.lat.length:Int)=1+(aY b.g).ins+((aY b.g).next.length:Int);omega);have hci:=c.ins.1;have n1:(nA a).ins=a.ins:=rfl;have n2:(nA a).lat=a.lat:=rfl;have n3:(nA a).out=a.out:=rfl;have n4:(nA b).out=b.out:=rfl;refine vn ?_;simp only[wq.1,seval,t2,t8,n1,wi];refine AY (m:=nA a) (l:=a.ins) (zs:=zs) (init:=bg) (beg:=bg) (pr:=pr) (A0:=[]) (ni:=a.ins.length) (first:=1+(a.ins.length:Int)) (x0:=cCM (nA a)) (x1:=cCM (nA b)) (x2:=[vi 0,.nils,.nils,.nils,.nils,.nils,.nils]) (by simp only[V.dats,V.dat,zre]) (by simp only[V.dats,V.dat,zre]) rfl (fun s hs=>zD.2 hs) (by omega) (by omega) (by omega) (by omega) (by omega) (by omega) (by simp) (by omega) (by show a.ins.length<=4000;omega) (by show a.lat.length<=4000;omega) okA ?_;rw[ja_eq];simp only[wq.1,seval,bJ,hd];refine vn ?_;simp only[wq.1,seval,t2,t3,t8,n1,n2,wi,wj];refine AY (m:=nA b) (l:=a.ins) (zs:=zs) (init:=bg) (beg:=bg) (pr:=pr) (A0:=(jA a b).1) (ni:=a.ins.length) (first:=1+(a.ins.length:Int)+(a.lat.length:Int)) (x0:=cCM (nA a)) (x1:=cCM (nA b)) (x2:=[vi 0,.nils,.nils,.nils,.nils,.nils,.nils]) (by simp only[V.dats,V.dat,zre]) (by simp only[V.dats,V.dat,zre]) rfl (vM c.ins na1) (by omega) (by omega) (by omega) (by omega) (by omega) (by omega) (by omega) (by omega) (by show b.ins.length<=4000;omega) (by show b.lat.length<=4000;omega) okB ?_;rw[jb_eq];simp only[wq.1,seval,bJ,hd];refine sZ (h0:=[.cells (cCM (nA a)),.cells (cCM (nA b)),.cells [vi 0,.nils,.nils,.nils,.nils,.nils,.nils],.cells (jcV a.ins.length zs.length bg bg pr (plV a.ins) (jB a b).1),.cells (zs.map vi)]) (Y:=[.cells (fl (jB a b).1)]) 3 (jcV a.ins.length zs.length bg bg pr (plV a.ins) (jB a b).1) (jcJ a.ins.length zs.length bg bg pr (plV a.ins) (jB a b).1) rfl ?_ ?_ ?_ ?_
   ·intro i o ho hne;rcases i with _|_|_|_|_|i
    ·obtain rfl:=Option.some.inj ho;rfl
    ·obtain rfl:=Option.some.inj ho;rfl
    ·obtain rfl:=Option.some.inj ho;rfl
    ·exact absurd rfl hne
    ·obtain rfl:=Option.some.inj ho;rw[aZ,aI]
    ·simp at ho
   ·refine⟨.inl rfl,.inl rfl,.inl rfl,.inr ⟨rfl,l7 ?_ rfl⟩,.inl rfl,.inl rfl,.inl rfl,.inl rfl,.inl rfl,trivial⟩;show some (O.cells (V.drops _ _))=_;rw[y9]
   ·intro i hi;have hi:i∈f.d:=hi;rw[hd]at hi;cases hi
   refine iU (fun f=>f.t 2= .lp 0 0/\f.t 3= .lp 1 0/\f.t 4= .lp 2 0/\f.t 8= .lp 3 0/\f.t 9= .bool okm/\f.t 10= .fn (.func 57) [] [.ip (ay (jA a b).2)]/\f.t 11= .fn (.func 57) [] [.ip (ay (jB a b).2)]/\f.d=[]) (hJ5 (cCM (nA a)) (cCM (nA b)) [vi 0,.nils,.nils,.nils,.nils,.nils,.nils] a.ins.length zs bg bg pr (plV a.ins) (jB a b).1) (fun hk=>hk _ ⟨?_,?_,?_,?_,?_,?_,?_,?_⟩) ?_
   ·simp only[wq.1,seval,t2,aJ]
   ·simp only[wq.1,seval,t3,aJ]
   ·simp only[wq.1,seval,t4,aJ]
   ·simp only[wq.1,seval,t8,aJ]
   ·simp only[wq.1,seval,t9]
   ·simp only[wq.1,seval]
   ·simp only[wq.1,seval]
   ·simp only[wq.1,hd]
   clear t2 t3 t4 t8 t9 hd f w1 w2 w3 b1 hh0;rintro f ⟨t2,t3,t4,t8,t9,t10,t11,hd⟩;have hpo:=kU b.out nb3;refine vn ?_;simp only[wq.1,seval,t3,n4];refine ag.ev hpo (by simp only[V.dats,V.dat,ji,zre]) ?_;simp only[wq.1,seval];refine vn ?_;simp only[wq.1,Nat.reduceLT];refine fP ?_;refine yj (FLe.one 13 (v:= .ls 5 1 0 0 0) (by simp only[wq.1,↓reduceIte];exact dC)) (HLe.refl _) ?_;rw[hok,hbg,hpr]at *;exact Tv c big hzs' rfl (t2) (t3) (t4) (t8) (t9) (t10) (t11) (rfl) (rfl) (hd)
 ·have ez:(qj a b != 0)=true:=by simpa using hz
  refine aV (b:=true) (by simp only[wq.1,↓reduceIte]) (by simp only[wq.1,↓reduceIte,ez]) (fun _=> ?_) (fun h=>by cases h);refine vm ?_;simp only[wq.1,seval];unfold Dp;rw[if_neg hz];exact aH.tup (aj.cons (aH.agg (aj.cons (aH.dat rfl) (aj.cons aH.nils (aj.cons aH.nils (aj.cons aH.nils (aj.cons aH.nils (aj.cons aH.nils (aj.cons aH.nils aj.nil)))))))) (aj.dat rfl))
abbrev rwB(l:List (List Bool)):V:= .is false 1 (l.map fun c=>aX c)
variable{i:Nat}
theorem Tz{l:List (List Bool)}(h:i<l.length)(d:V):(l.map fun c=>aX c).getD i d=aX l[i]:=iM h d
theorem XH(l:List (List Bool))(hlen:l.length<=1000000)(q:FuncId)(caps:List V)(p:List Bool->Bool)(he:au P q=true)(hd:V.dats caps=true)(hq:∀x∈l,Ev TE q (aX x::caps) (.bool (p x))):Ev TE 42 [rwB l,.fn (.func q) [] caps] (vi (idx l p)):=by
 have hM:=mLx;refine aF Tryz.func42 rfl (by simp[nts]) (vm ?_);simp only[wq.1,seval,Tryz.results42];refine aC (fun m f h=>∃i,m+i=l.length/\f.t 0=rwB l/\f.t 1= .fn (.func q) [] caps/\f.t 7= .int .i64 (l.length:Int)/\f.t 8= .int .i64 (i:Int)/\f.d=[]/\∀x∈l.take i,p x=false) l.length ⟨0,by simp,rfl,rfl,rfl,rfl,rfl,by simp⟩ ?_;rintro m f h ⟨i,hm,h0,h1,h7,h8,hdd,hall⟩;refine vm ?_;simp only[wq.1,seval,h7,h8];refine vcB.mk (fun hc=> ?_) (fun hc=> ?_)
 ·simp only[zqb,zqi]at hc;simp only[wq.1,seval,h0,h1,h8,Tz hc,he];refine⟨⟨by omega,by omega⟩,ag.ev (hq _ (zqu _)) (by simp[V.dats,V.dat,hd]) ?_⟩;simp only[wq.1,seval];refine vcB.mk (fun hc'=> ?_) (fun hc'=> ?_)
  ·simp only[wq.1,seval,hdd];rw[qA hc hall hc'];exact aH.dat rfl
  ·simp only[wq.1,seval,h8,aA (show i<maxLen by omega)];exact .inl ⟨m-1,by omega,i+1,by omega,h0,h1,h7,rfl,hdd,gG hc hall hc'⟩
 ·simp only[zqd,zqi]at hc;simp only[wq.1,seval,hdd];rw[zqh (by omega)]at hall;rw[oG hall];exact aH.dat rfl
theorem XI(l:List (List Bool))(hlen:l.length<=1000000)(q:FuncId)(caps:List V)(p:List Bool->Bool)(he:au P q=true)(hd:V.dats caps=true)(hq:∀x∈l,Ev TE q (aX x::caps) (.bool (p x))):Ev TE 19 [rwB l,.fn (.func q) [] caps] (.bool (l.any p)):=by refine aF Tryz.func19 rfl (by simp[nts]) (vm ?_);simp only[wq.1,seval,Tryz.results19];refine ag.ev (XH l hlen q caps p he hd hq) (by simp[V.dats,V.dat,hd]) ?_;simp only[wq.1,seval];exact aH.eq rfl (by rw[yC])
def JI(init:Cl)(st:List Bool)(n:Nat):Bool:=(List.range n).any fun i=>init.getD i 0 != 2&&((init.getD i 0==1) != st.getD i false)
variable{st:List Bool}{n:Nat}
theorem Qg:JI init st (n+1)=(JI init st n||(init.getD n 0 != 2&&((init.getD n 0==1) != st.getD n false))):=by unfold JI;rw[List.range_succ,List.any_append];simp
theorem Qh(h:i<=n)(ho:JI init st i=true):JI init st n=true:=by unfold JI at ho ⊢;rw[List.any_eq_true]at ho ⊢;obtain⟨x,hx,h2⟩:=ho;exact⟨x,List.mem_range.2 (by have:=List.mem_range.1 hx;omega),h2⟩
theorem JJ(m:Mo)(st:List Bool)(h1:st.length<=m.g.init.length)(h2:st.length<=1000000):Ev TE 43 [.agg (cCM m),aX st] (.bool (JI m.g.init st st.length)):=by
 have hM:=mLx;refine aF Tryz.func43 rfl (by simp[nts]) (vm ?_);simp only[wq.1,seval,Tryz.results43];refine aC (fun q f h=>∃i,q+i=st.length/\f.t 2= .lp 0 0/\f.t 8=aX st/\f.t 9=vi st.length/\f.t 10=vi i/\f.d=[]/\h=[.cells (cCM m)]/\JI m.g.init st i=false) st.length ⟨0,by simp,rfl,rfl,rfl,rfl,rfl,rfl,rfl⟩ ?_;rintro q f h ⟨i,hq,t2,t8,t9,t10,hd,rfl,hno⟩;refine vm ?_;simp only[wq.1,seval,t9,t10];refine vcB.mk (fun hc=> ?_) (fun hc=> ?_)
 ·simp only[zqb,zqi]at hc;have hw:=aA (show i<maxLen by omega);have hgi:(m.g.init.map vi).getD i .any=vi (m.g.init.getD i 0):=by rw[aS (show i<m.g.init.length by omega)];exact wU _ _
  have hgb:(st.map V.bool).getD i .any= .bool (st.getD i false):=by rw[aS hc];exact RD hc _
  have hsu:=Qg (init:=m.g.init) (st:=st) (n:=i);rw[hno,Bool.false_or]at hsu;generalize m.g.init.getD i 0=n at hgi hsu;generalize st.getD i false=v at hgb hsu;simp only[wq.1,seval,t2,t8,t10,hgi,hgb];refine⟨⟨by omega,by omega⟩,⟨by omega,by omega⟩,?_⟩;cases e1:n==2 with
  |true =>
   have e1':(n != 2)=false:=by simpa using e1
   rw[e1',Bool.false_and]at hsu;simp only[wq.1,seval,e1',t10,hw];exact .inl ⟨q-1,by omega,i+1,by omega,t2,t8,t9,rfl,hd,rfl,hsu⟩
  |false =>
   have e1':(n != 2)=true:=by simpa using e1
   rw[e1',Bool.true_and]at hsu;simp only[wq.1,e1'];refine vcB.mk (fun e2=> ?_) (fun e2=> ?_)
   ·rw[show((n==1) != v)=true from e2]at hsu;simp only[wq.1,seval,hd];exact aH.eq rfl (by rw[Qh hc hsu])
   ·rw[show((n==1) != v)=false from e2]at hsu;simp only[wq.1,seval,t10,hw];exact .inl ⟨q-1,by omega,i+1,by omega,t2,t8,t9,rfl,hd,rfl,hsu⟩
 ·simp only[zqd,zqi]at hc;have:i=st.length:=by omega
  subst this;simp only[wq.1,seval,hd];exact aH.eq rfl (by rw[hno])
def oZ(a b:Mo)(p q:List Bool)(n:Nat):Bool:=(List.range n).any fun i=>match at? b.lat (a.lat.getD i [])with
 |none=>false
 |some k=>p.getD i false != q.getD k false
variable{p q:List Bool}
theorem Ic:oZ a b p q (n+1)=(oZ a b p q n||(match at? b.lat (a.lat.getD n [])with
 |none=>false
 |some k=>p.getD n false != q.getD k false)):=by
 unfold oZ;rw[List.range_succ,List.any_append];simp
theorem Ie(h:i<=n)(ho:oZ a b p q i=true):oZ a b p q n=true:=by unfold oZ at ho ⊢;rw[List.any_eq_true]at ho ⊢;obtain⟨x,hx,h2⟩:=ho;exact⟨x,List.mem_range.2 (by have:=List.mem_range.1 hx;omega),h2⟩
def VP(a b:Mo)(p q:List Bool):Bool:= !(JI a.g.init p p.length)&& !(JI b.g.init q q.length)&& !(oZ a b p q a.lat.length)
theorem VQ(a b:Mo)(p q:List Bool)(h1:p.length=a.g.init.length)(h2:q.length=b.g.init.length)(h3:p.length=a.lat.length)(h4:q.length=b.lat.length)(h5:p.length<=1000000)(h6:q.length<=1000000)(hn:b.lat.Nodup) :
 Ev TE 20 [.agg (cCM a),.agg (cCM b),aX p,aX q] (.bool (VP a b p q)):=by
 have hM:=mLx;have e1:=JJ a p (by omega) h5;have e2:=JJ b q (by omega) h6;have hpl:=kU b.lat hn;have dA:∀(m:Mo)(l:List Bool),V.dats [.agg (cCM m),aX l]=true:=fun m l=>by simp only[V.dats,V.dat,zre]
 refine aF Tryz.func20 rfl (by simp[nts]) ?_;refine vn ?_;simp only[wq.1,seval,Tryz.results20];refine vn ?_;simp only[wq.1,Nat.reduceLT];refine ak ?_;refine vn ?_;simp only[wq.1,seval];refine ag.ev e1 (dA _ _) ?_;simp only[wq.1,seval];unfold VP;cases JI a.g.init p p.length with
 |true=>simp only[wq.1,seval];refine⟨.bool true,?_⟩;simp only[wq.1];refine aV (b:=true) (by simp only[wq.1,↓reduceIte]) (by simp only[wq.1,↓reduceIte]) (fun _=> ?_) (fun h=>by cases h);refine vm ?_;simp only[wq.1,seval];exact aH.dat rfl
 |false =>
  simp only[wq.1,seval];refine ag.ev e2 (dA _ _) ?_;simp only[wq.1,seval];cases JI b.g.init q q.length with
  |true=>simp only[wq.1];refine aV (b:=true) (by simp only[wq.1,↓reduceIte]) (by simp only[wq.1,↓reduceIte]) (fun _=> ?_) (fun h=>by cases h);refine vm ?_;simp only[wq.1,seval];exact aH.dat rfl
  |false =>
   simp only[wq.1];refine aV (b:=false) (by simp only[wq.1,↓reduceIte]) (by simp only[wq.1,↓reduceIte]) (fun h=>by cases h) (fun _=> ?_);refine vm ?_;simp only[wq.1];refine vn ?_;simp only[wq.1,seval];refine ag.ev hpl (by simp only[V.dats,V.dat,zre]) ?_;simp only[wq.1,seval];refine ak ?_;refine vn ?_;simp only[wq.1,seval];refine aB ?_;refine aC (fun z f h=>∃i,z+i=a.lat.length/\f.t 2=aX p/\f.t 3=aX q/\f.t 10=plV b.lat/\f.t 29=jq a.lat/\f.t 30=vi a.lat.length/\f.t 31=vi i/\f.d=[]/\oZ a b p q i=false) a.lat.length ⟨0,by omega,rfl,rfl,rfl,rfl,rfl,rfl,rfl,rfl⟩ ?_;rintro z f h ⟨i,hz,t2,t3,t10,t29,t30,t31,hd,hno⟩;refine vm ?_;simp only[wq.1,seval,t30,t31];refine vcB.mk (fun hlt=> ?_) (fun hlt=> ?_)
   ·simp only[zqb,zqi]at hlt;have hw:=aA (show i<maxLen by omega);have hge:a.lat.getD i []=a.lat[i]:=aS hlt;have hsu:=Ic (a:=a) (b:=b) (p:=p) (q:=q) (n:=i);rw[hno,Bool.false_or,hge]at hsu;have hgp:(p.map V.bool).getD i .any= .bool (p.getD i false):=by rw[aS (show i<p.length by omega)];exact RD _ _
    cases hat:at? b.lat a.lat[i]with
    |none =>
     rw[hat]at hsu;have hq0:(q.map V.bool).getD 0 .any= .any\/∃b,(q.map V.bool).getD 0 .any= .bool b:=by
      cases q with
      |nil=>exact .inl rfl
      |cons b l=>exact .inr ⟨b,rfl⟩
     rcases hq0 with hq0|⟨b0,hq0⟩
     ·simp only[wq.1,seval,t2,t3,t10,t29,t31,hw,Gq hlt,qp,dR,Abs.K.keyOk,hat,hgp,hq0,V.nil?,gB];refine⟨⟨by omega,by omega⟩,by decide +kernel,?_⟩;exact .inl ⟨z-1,by omega,i+1,by omega,t2,t3,t10,t29,t30,rfl,hd,hsu⟩
     ·simp only[wq.1,seval,t2,t3,t10,t29,t31,hw,Gq hlt,qp,dR,Abs.K.keyOk,hat,hgp,hq0];refine⟨⟨by omega,by omega⟩,by decide +kernel,?_⟩;exact .inl ⟨z-1,by omega,i+1,by omega,t2,t3,t10,t29,t30,rfl,hd,hsu⟩
    |some k =>
     rw[hat]at hsu;have hkl:=(lH hat).1;have hgk:(JH b.lat.length).getD k .any=vi k:=uy hkl _;have hgq:(q.map V.bool).getD k .any= .bool (q.getD k false):=by rw[aS (show k<q.length by omega)];exact RD _ _
     simp only[wq.1,seval,t2,t3,t10,t29,t31,Gq hlt,qp,dR,Abs.K.keyOk,hat,hgk,hgp,hgq];refine⟨⟨by omega,by omega⟩,by decide +kernel,⟨by omega,by omega⟩,⟨by omega,by omega⟩,vcB.mk (fun e2=> ?_) (fun e2=> ?_)⟩
     ·have hsu:oZ a b p q (i+1)=true:=by rw[hsu];exact e2
      simp only[wq.1,seval,hd];exact aH.eq rfl (by rw[Ie hlt hsu];rfl)
     ·have hsu:oZ a b p q (i+1)=false:=by rw[hsu];exact e2
      simp only[wq.1,seval,t31,hw];exact .inl ⟨z-1,by omega,i+1,by omega,t2,t3,t10,t29,t30,rfl,hd,hsu⟩
   ·simp only[zqd,zqi]at hlt;have:i=a.lat.length:=by omega
    subst this;refine vm ?_;simp only[wq.1,seval,hd];exact aH.eq rfl (by rw[hno];rfl)
def Gr.run(g:Gr)(st:List Bool)(sq:List (List Bool)):List Bool×List Bool:=sq.foldl (fun x ins=>(g.out x.2 ins,g.nxt x.2 ins)) ([],st)
theorem zI{sq:List (List Bool)}(h:i<sq.length):g.run st (sq.take (i+1))=(g.out (g.run st (sq.take i)).2 sq[i],g.nxt (g.run st (sq.take i)).2 sq[i]):=by unfold Gr.run;rw[zrg,List.foldl_append];simp[h]
theorem Mc{ins:List Bool}(hg:g.chk=0)(h1:st.length=g.next.length)(h2:(ins.length:Int)=g.ins):g.valE st ins=0/\(g.out st ins).length=g.outs.length/\(g.nxt st ins).length=g.next.length:=by
 have hE:g.valE st ins=0:=by unfold Gr.valE;rw[if_neg (by simp[hg]),if_neg (by simp[h1,h2])]
 refine⟨hE,?_,?_⟩
 ·unfold Gr.out;rw[if_pos hE];simp
 ·unfold Gr.nxt;rw[if_pos hE];simp
theorem JK{g:Gr}(hg:g.chk=0){st:List Bool}{sq:List (List Bool)}(h1:st.length=g.next.length)(h2:∀ins∈sq,(ins.length:Int)=g.ins):∀i,i<=sq.length->(g.run st (sq.take i)).2=pW g st (sq.take i)/\(pW g st (sq.take i)).length=g.next.length/\(0<i->(g.run st (sq.take i)).1=oV g (pW g st (sq.take (i-1))) (sq.getD (i-1) []))
 |0,_=>⟨by simp[Gr.run,pW],by simpa [pW]using h1,by simp⟩
 |i+1,h=>by
  have hi:i<sq.length:=by omega
  obtain⟨a1,a2,_⟩:=JK hg h1 h2 i (by omega);obtain⟨e1,e2,e3⟩:=Mc hg a2 (h2 _ (zqu hi));have et:sq.take (i+1)=sq.take i++[sq[i]]:=by rw[zrg,zqk hi];rfl
  rw[zI hi,a1];refine⟨?_,?_,fun _=> ?_⟩
  ·rw[et,pX];unfold Gr.nxt;rw[if_pos e1];rfl
  ·rw[et,pX,PS]
  ·rw[Nat.add_sub_cancel,aS hi];unfold Gr.out;rw[if_pos e1];rfl
theorem Dt(hg:g.chk=0){st:List Bool}{sq:List (List Bool)}(h1:st.length=g.next.length)(h2:∀ins∈sq,(ins.length:Int)=g.ins)(h0:0<sq.length):(g.run st sq).1=vN g st sq:=by have:=(JK hg h1 h2 sq.length (zrb _)).2.2 h0;rw[zrx]at this;exact this
def iJ(ins:List S)(m:Mo)(l:List Bool):List Bool:=m.ins.map fun s=>l.getD (atI ins s) false
def wM(m:Mo)(st:List Bool)(ins:List S)(sq:List (List Bool))(out:S):Bool:=(m.g.run st (sq.map (iJ ins m))).1.getD (idx m.out (·==out)).toNat false
theorem JL(m:Mo)(hm:m.chk=0)(hs:m.g.Sm)(st:List Bool)(ins:List S)(sq:List (List Bool))(out:S)(hn:ins.Nodup)(hin:∀s∈m.ins,(at? ins s).isSome=true)(h1:st.length=m.lat.length)(h2:∀l∈sq,l.length=ins.length)(h3:sq.length<=1000)(h4:out∈m.out)(h5:0<sq.length) :
 Ev TE 21 [.agg (cCM m),aX st,jq ins,rwB sq,.str out] (.bool (wM m st ins sq out)):=by
 have hM:=mLx;have hpl:=kU ins hn;obtain⟨g1,g2,g3,g4⟩:=cO hm;obtain⟨_,i0,i1,i2,i3,i4,i5⟩:=aW g1;refine aF Tryz.func21 rfl (by simp[nts]) ?_;refine vn ?_;simp only[wq.1,Nat.reduceLT,Tryz.results21];refine vn ?_;simp only[wq.1,seval];refine ag.ev hpl (by simp only[V.dats,V.dat,zre]) ?_;simp only[wq.1,seval];refine vn ?_;simp only[wq.1,Nat.reduceLT];refine yj (FLe.one 12 (v:=aX []) (by simp only[wq.1,↓reduceIte];exact oz)) (HLe.refl _) ?_;refine ak ?_;refine vn ?_;simp only[wq.1,seval];refine aB ?_;refine aC (fun q f h=>∃(i:Nat)(X:H),q+i=sq.length/\f.t 1=aX (m.g.run st ((sq.map (iJ ins m)).take i)).2/\f.t 4= .str out/\f.t 5= .lp 0 0/\f.t 11=plV ins/\f.t 12=aX (m.g.run st ((sq.map (iJ ins m)).take i)).1/\f.t 20=rwB sq/\f.t 21=vi sq.length/\f.t 22=vi i/\f.d=[]/\h=[.cells (cCM m)]++X) sq.length ⟨0,[],by omega,rfl,rfl,rfl,rfl,rfl,rfl,rfl,rfl,rfl,rfl⟩ ?_;rintro q f h ⟨i,X,hq,t1,t4,t5,t11,t12,t20,t21,t22,hd,rfl⟩;refine gp (by rw[hd];simp) ?_;have hcl:([.cells (cCM m)]:H).map (O.drop (aJ ([.cells (cCM m)]:H).length))=[.cells (cCM m)]:=rfl;rw[hcl];refine iU (fun f=>f.t 1=aX (m.g.run st ((sq.map (iJ ins m)).take i)).2/\f.t 4= .str out/\f.t 5= .lp 0 0/\f.t 11=plV ins/\f.t 12=aX (m.g.run st ((sq.map (iJ ins m)).take i)).1/\f.t 20=rwB sq/\f.t 21=vi sq.length/\f.t 22=vi i/\f.d=[]) [.cells (cCM m)] (fun hk=>hk _ ⟨by simp only[wq.1,t1],by simp only[wq.1,t4],by simp only[wq.1,seval,t5,aJ],by simp only[wq.1,t11],by simp only[wq.1,t12],by simp only[wq.1,t20],by simp only[wq.1,t21],by simp only[wq.1,t22],hd⟩) ?_;clear t1 t4 t5 t11 t12 t20 t21 t22 hd f X hcl;rintro f ⟨t1,t4,t5,t11,t12,t20,t21,t22,hd⟩;refine vn ?_;simp only[wq.1,Nat.reduceLT,t21,t22];refine ak (aV (b:=decide ((i:Int)<sq.length)) (by simp only[wq.1,↓reduceIte]) (by simp only[wq.1,↓reduceIte]) (fun hlt=> ?_) (fun hlt=> ?_))
 ·simp only[zqb,zqi]at hlt;have hw:=aA (show i<maxLen by omega);have hgl:=Tz hlt .any;have hll:=h2 _ (zqu hlt);obtain⟨l,hl⟩:∃l,l=sq[i]:=⟨_,rfl⟩;rw[<-hl]at hgl hll;refine vm ?_;simp only[wq.1];refine ak (aB ?_);refine vn ?_;simp only[wq.1,seval,t20,t22,hgl];refine⟨⟨by omega,by omega⟩,?_⟩;refine vn ?_;simp only[wq.1,Nat.reduceLT];refine ak ?_;refine vn ?_;simp only[wq.1,seval,t5];refine aB ?_;refine kN 15 1 (rfl) ?_;refine aC (fun z f h=>∃j,z+j=m.ins.length/\f.t 1=aX (m.g.run st ((sq.map (iJ ins m)).take i)).2/\f.t 4= .str out/\f.t 5= .lp 0 0/\f.t 11=plV ins/\f.t 14=aX l/\f.t 15= .ls 1 1 0 j j/\f.t 20=rwB sq/\f.t 21=vi sq.length/\f.t 22=vi i/\f.t 27=jq m.ins/\f.t 28=vi m.ins.length/\f.t 29=vi j/\f.d=[]/\h=[.cells (cCM m),.cells (((iJ ins m l).take j).map V.bool)]) m.ins.length ⟨0,by omega,t1,t4,t5,t11,rfl,rfl,t20,t21,t22,rfl,rfl,rfl,hd,rfl⟩ ?_;clear t1 t4 t5 t11 t12 t20 t21 t22 hd f;rintro z f h ⟨j,hz,t1,t4,t5,t11,t14,t15,t20,t21,t22,t27,t28,t29,hd,rfl⟩;have hml:(iJ ins m l).length=m.ins.length:=by unfold iJ;rw[zra]
  have htl:(((iJ ins m l).take j).map V.bool).length=j*1:=by simp;omega
  have dmr:∀p,V.drops p (((iJ ins m l).take j).map V.bool)=((iJ ins m l).take j).map V.bool:=fun p=>iF _;refine vn ?_;simp only[wq.1,Nat.reduceLT,t28,t29];refine ak (aV (b:=decide ((j:Int)<m.ins.length)) (by simp only[wq.1,↓reduceIte]) (by simp only[wq.1,↓reduceIte]) (fun hlt2=> ?_) (fun hlt2=> ?_))
  ·simp only[zqb,zqi]at hlt2;have hw2:=aA (show j<maxLen by omega);obtain⟨k,hat⟩:=Option.isSome_iff_exists.1 (hin _ (zqu hlt2));have hkl:=(lH hat).1;have hgk:(JH ins.length).getD k .any=vi k:=uy hkl _;have hgb:(l.map V.bool).getD k .any= .bool (l.getD k false):=by rw[aS (show k<l.length by omega)];exact RD _ _
   have hsu:(iJ ins m l).take (j+1)=(iJ ins m l).take j++[l.getD k false]:=by
    rw[zrg,zqk (by omega)];have:(iJ ins m l)[j]'(by omega)=l.getD k false:=by
     unfold iJ;rw[List.getElem_map];unfold atI;rw[hat];rfl
    rw[this];rfl
   generalize l.getD k false=vb at hgb hsu;refine vm ?_;simp only[wq.1];refine ak (aB ?_);refine vm ?_;simp only[wq.1,↓reduceIte,Nat.reduceEqDiff,Nat.reduceLT,reduceCtorEq,Nat.reduceMul,t11,t14,t15,t27,t29,hd,Gq hlt2,qp,dR,Abs.K.keyOk,hat,hgk,hgb,dmr];refine⟨⟨by omega,by omega⟩,⟨by omega,by omega⟩,⟨rfl,by decide⟩,⟨by simp;omega,by omega,by omega⟩,?_⟩;refine vm ?_;simp only[wq.1,seval,t29,hw2];refine .inl ⟨z-1,by omega,j+1,by omega,by simp only[wq.1,seval,t1],by simp only[wq.1,seval,t4],by simp only[wq.1,seval,t5],by simp only[wq.1,seval,t11],by simp only[wq.1,seval,t14],rfl,by simp only[wq.1,seval,t20],by simp only[wq.1,seval,t21],by simp only[wq.1,seval,t22],by simp only[wq.1,seval,t27],by simp only[wq.1,seval,t28],rfl,hd,?_⟩;rw[hsu,zql];rfl
  ·simp only[zqd,zqi]at hlt2;have:j=m.ins.length:=by omega
   subst this;rw[zqh (show(iJ ins m l).length<=m.ins.length by omega)];refine vm ?_;simp only[wq.1];show awp _ _ _ _ _ _ _;refine yB 1 15 (aX (iJ ins m l)) (by simp only[wq.1,seval,t15]) ?_ (by simp only[wq.1,hd]) ?_
   ·simp only[wq.1,seval,t15];refine jL ?_ hml.symm;show some (O.cells (V.drops _ _))=_;rw[iF]
   have hst:=SL m.g (m.g.run st ((sq.map (iJ ins m)).take i)).2 (iJ ins m l) hs;have hrs:=zI (g:=m.g) (st:=st) (sq:=sq.map (iJ ins m)) (i:=i) (by simpa using hlt);rw[List.getElem_map,<-hl]at hrs;refine iU (fun f=>f.t 1=aX (m.g.run st ((sq.map (iJ ins m)).take i)).2/\f.t 4= .str out/\f.t 5= .lp 0 0/\f.t 11=plV ins/\f.t 15=aX (iJ ins m l)/\f.t 20=rwB sq/\f.t 21=vi sq.length/\f.t 22=vi i/\f.d=[]) [.cells (cCM m),.dead] (fun hk=>hk _ ⟨by simp only[wq.1,seval,t1],by simp only[wq.1,seval,t4],by simp only[wq.1,seval,t5],by simp only[wq.1,seval,t11],rfl,by simp only[wq.1,seval,t20],by simp only[wq.1,seval,t21],by simp only[wq.1,seval,t22],hd⟩) ?_;clear t1 t4 t5 t11 t14 t15 t20 t21 t22 t27 t28 t29 hd f;rintro f ⟨t1,t4,t5,t11,t15,t20,t21,t22,hd⟩;refine vm ?_;simp only[wq.1,seval,t1,t5,t15];refine ag.ev hst (by simp only[V.dats,V.dat,zre]) ?_;simp only[wq.1,seval];refine vm ?_;simp only[wq.1,seval,t22,hw];exact .inl ⟨q-1,by omega,i+1,[.dead],by omega,by simp only[wq.1,seval];rw[hrs],t4,t5,t11,by simp only[wq.1,seval];rw[hrs],t20,t21,rfl,hd,rfl⟩
 ·simp only[zqd,zqi]at hlt;have:i=sq.length:=by omega
  subst this;rw[zqh (by simp)]at t1 t12;have hmi:∀x∈sq.map (iJ ins m),(x.length:Int)=m.g.ins:=fun x hx=>by
   obtain⟨l,_,rfl⟩:=zrh.1 hx;unfold iJ;rw[zra];omega
  have hrl:(m.g.run st (sq.map (iJ ins m))).1.length=m.out.length:=by rw[Dt g1 (by omega) hmi (by simpa using h5),PT];omega
  obtain⟨k,hk⟩:∃k:Nat,k<m.out.length/\idx m.out (·==out)=k:=by
   unfold idx;cases hf:m.out.findIdx? (·==out)with
   |none=>have:=List.findIdx?_eq_none_iff.1 hf out h4;simp at this
   |some k=>exact⟨k,(List.findIdx?_eq_some_iff_getElem.1 hf).1,rfl⟩
  have hix:=Fe m.out out;unfold wM;rw[hk.2]at hix ⊢;have hgb:((m.g.run st (sq.map (iJ ins m))).1.map V.bool).getD k .any= .bool ((m.g.run st (sq.map (iJ ins m))).1.getD k false):=by rw[aS (show k<(m.g.run st (sq.map (iJ ins m))).1.length by omega)];exact RD _ _
  refine vm ?_;simp only[wq.1];show awp _ _ _ _ _ _ _;refine vm ?_;simp only[wq.1,seval,t4,t5,t12];refine ag.ev hix (by simp only[V.dats,V.dat,zre]) ?_;simp only[wq.1,seval,hd,hgb];exact⟨⟨by omega,by omega⟩,aH.dat rfl⟩
structure An where
 res:Int
 out:Int
 A:List Bool
 B:List Bool
 seq:List (List Bool)
 conf:Int
abbrev anC(x:An):List V:=[vi x.res,vi x.out,aX x.A,aX x.B,rwB x.seq,vi x.conf]
abbrev An.v(x:An):V:= .agg (anC x)
def A7(a b:Mo)(x:An):Bool:=decide (x.out<0)||decide ((a.out.length:Int)<=x.out)||decide ((x.seq.length:Int)<1)||decide (40<(x.seq.length:Int))||(x.seq.any fun l=>(l.length:Int) != (a.ins.length:Int))||((x.A.length:Int) != (a.lat.length:Int))||((x.B.length:Int) != (b.lat.length:Int))
def Qi(a b:Mo)(x:An):Bool:=VP a b x.A x.B&&(wM a x.A a.ins x.seq (a.out.getD x.out.toNat []) != wM b x.B a.ins x.seq (a.out.getD x.out.toNat []))
def lK(a b:Mo)(x:An):Bool×Int:=if qj a b≠0 then(false,qj a b)else if A7 a b x=true then(false,1)else(Qi a b x,0)
theorem TA(m:Mo)(l:List Bool):Ev TE 18 [aX l,.ip (.agg (cCM m))] (.bool ((l.length:Int) != (m.ins.length:Int))):=by refine aF Tryz.func18 rfl (by simp[nts]) (vm ?_);simp only[wq.1,seval,Tryz.results18];exact aH.dat rfl
theorem uz:∀l:List (List Bool),V.dats (l.map fun c=>aX c)=true
 |[]=>rfl
 |a::l=>by rw[zrd,V.dats,uz l];simp only[V.dat,lu,zre]
theorem Qj(a b:Mo)(x:An)(ha:a.g.Sm)(hb:b.g.Sm)(hbig:qj a b=0->JBig a b):Ev TE 8 [a.v,b.v,x.v] (.tup [.bool (lK a b x).1,vi (lK a b x).2]):=by
 have hM:=mLx;have hj:=Dq a b ha hb hbig;have dAll:V.dats [.agg (cCM a),.agg (cCM b)]=true:=by simp only[V.dats,V.dat,zre]
 unfold Mo.v at hj ⊢;unfold Dp at hj;refine aF Tryz.func8 rfl (by simp[nts]) ?_;refine vn ?_;simp only[wq.1,seval,Tryz.results8];refine ak ?_;by_cases hz:qj a b=0
 ·rw[if_pos hz]at hj;have c:=uu hz;have big:=hbig hz;obtain⟨ga1,ga2,ga3,ga4⟩:=cO c.ca;obtain⟨gb1,gb2,gb3,gb4⟩:=cO c.cb;obtain⟨na1,na2,na3⟩:=kL c.ca;obtain⟨nb1,nb2,nb3⟩:=kL c.cb;have rv:lK a b x=if A7 a b x=true then(false,1)else(Qi a b x,0):=by unfold lK;rw[if_neg (by omega)]
  rw[rv];refine vn ?_;simp only[wq.1,seval];refine ag.ev hj dAll ?_;simp only[wq.1,seval];refine vn ?_;simp only[wq.1,seval];refine aV (b:=false) (by simp only[wq.1,↓reduceIte]) (by simp only[wq.1,↓reduceIte]) (fun h=>by cases h) (fun _=> ?_);refine vm ?_;simp only[wq.1];refine vn ?_;simp only[wq.1,seval];refine ak ?_;refine vn ?_;simp only[wq.1,seval];cases e1:decide (x.out<0)with
  |true =>
   have hbad:A7 a b x=true:=by unfold A7;rw[e1];simp
   rw[if_pos hbad];simp only[wq.1,seval];refine⟨.bool true,?_⟩;simp only[wq.1,reduceCtorEq];refine aV (b:=true) (by simp only[wq.1,↓reduceIte]) (by simp only[wq.1,↓reduceIte]) (fun _=> ?_) (fun h=>by cases h);refine vm ?_;simp only[wq.1,seval];exact aH.tup (aj.dat rfl)
  |false =>
   cases e2:decide ((a.out.length:Int)<=x.out)with
   |true =>
    have hbad:A7 a b x=true:=by unfold A7;rw[e1,e2];simp
    rw[if_pos hbad];simp only[wq.1,seval];refine⟨.bool true,?_⟩;simp only[wq.1,reduceCtorEq];refine aV (b:=true) (by simp only[wq.1,↓reduceIte]) (by simp only[wq.1,↓reduceIte]) (fun _=> ?_) (fun h=>by cases h);refine vm ?_;simp only[wq.1,seval];exact aH.tup (aj.dat rfl)
   |false =>
    cases e3:decide ((x.seq.length:Int)<1)with
    |true =>
     have hbad:A7 a b x=true:=by unfold A7;rw[e1,e2,e3];simp
     rw[if_pos hbad];simp only[wq.1,seval];refine⟨.bool true,?_⟩;simp only[wq.1,reduceCtorEq];refine aV (b:=true) (by simp only[wq.1,↓reduceIte]) (by simp only[wq.1,↓reduceIte]) (fun _=> ?_) (fun h=>by cases h);refine vm ?_;simp only[wq.1,seval];exact aH.tup (aj.dat rfl)
    |false =>
     cases e4:decide (40<(x.seq.length:Int))with
     |true =>
      have hbad:A7 a b x=true:=by unfold A7;rw[e1,e2,e3,e4];simp
      rw[if_pos hbad];simp only[wq.1,seval];refine⟨.bool true,?_⟩;simp only[wq.1,reduceCtorEq];refine aV (b:=true) (by simp only[wq.1,↓reduceIte]) (by simp only[wq.1,↓reduceIte]) (fun _=> ?_) (fun h=>by cases h);refine vm ?_;simp only[wq.1,seval];exact aH.tup (aj.dat rfl)
     |false =>
      have hrow:=XI x.seq (by simp at e4;omega) 18 [.ip (.agg (cCM a))] (fun l=>(l.length:Int) != (a.ins.length:Int)) rfl (by simp only[V.dats,V.dat,zre]) (fun l _=>TA a l);simp only[wq.1,seval];refine ag.lend hrow (aj.cons (aH.dat (by simp only[V.dat])) (aj.cons (aH.fn aj.nil (aj.cons (aH.lp rfl (aj.dat (by simp only[V.dats,V.dat,zre])) rfl (by simp only[V.dat,V.dats,zre]) (by simp[V.vc]) rfl) aj.nil)) aj.nil)) rfl ?_;simp only[wq.1,seval];cases e5:x.seq.any fun l=>(l.length:Int) != (a.ins.length:Int)with
      |true =>
       have hbad:A7 a b x=true:=by unfold A7;rw[e5];simp
       rw[if_pos hbad];simp only[wq.1];refine aV (b:=true) (by simp only[wq.1,↓reduceIte]) (by simp only[wq.1,↓reduceIte]) (fun _=> ?_) (fun h=>by cases h);refine vm ?_;simp only[wq.1,seval];exact aH.tup (aj.dat rfl)
      |false =>
       cases e6:((x.A.length:Int) != (a.lat.length:Int))with
       |true =>
        have hbad:A7 a b x=true:=by unfold A7;rw[e6];simp
        rw[if_pos hbad];simp only[wq.1];refine aV (b:=true) (by simp only[wq.1,↓reduceIte]) (by simp only[wq.1,↓reduceIte]) (fun _=> ?_) (fun h=>by cases h);refine vm ?_;simp only[wq.1,seval];exact aH.tup (aj.dat rfl)
       |false =>
        cases e7:((x.B.length:Int) != (b.lat.length:Int))with
        |true =>
         have hbad:A7 a b x=true:=by unfold A7;rw[e7];simp
         rw[if_pos hbad];simp only[wq.1];refine aV (b:=true) (by simp only[wq.1,↓reduceIte]) (by simp only[wq.1,↓reduceIte]) (fun _=> ?_) (fun h=>by cases h);refine vm ?_;simp only[wq.1,seval];exact aH.tup (aj.dat rfl)
        |false =>
         have hgood:A7 a b x=false:=by unfold A7;rw[e1,e2,e3,e4,e5,e6,e7];rfl
         rw[if_neg (by rw[hgood];decide)];simp only[wq.1];refine aV (b:=false) (by simp only[wq.1,↓reduceIte]) (by simp only[wq.1,↓reduceIte]) (fun h=>by cases h) (fun _=> ?_);refine vm ?_;simp only[wq.1];simp only[zqd,bne_eq_false_iff_eq]at e1 e2 e3 e4 e6 e7;obtain⟨k,hk⟩:∃k:Nat,x.out=k:=⟨x.out.toNat,by omega⟩;have hkl:k<a.out.length:=by omega
         have hge:a.out.getD x.out.toNat []=a.out[k]:=by rw[hk,zsg];exact aS hkl
         have hgs:(a.out.map V.str).getD k .any= .str a.out[k]:=Gq hkl _;have hmem:a.out[k]∈a.out:=zqu hkl;obtain⟨_,ra0,ra1,ra2,ra3,ra4,ra5⟩:=aW ga1;obtain⟨_,rb0,rb1,rb2,rb3,rb4,rb5⟩:=aW gb1;obtain⟨ta1,ta2,ta3,ta4⟩:=aN ra4;obtain⟨tb1,tb2,tb3,tb4⟩:=aN rb4;have hrl:∀l∈x.seq,l.length=a.ins.length:=fun l hl=>by have:=List.any_eq_false.1 e5 l hl;simp only[bne_iff_ne,ne_eq,Classical.not_not]at this;omega
         have hm:=VQ a b x.A x.B (by omega) (by omega) (by omega) (by omega) (by omega) (by omega) nb2;have hla:=JL a c.ca ha x.A a.ins x.seq a.out[k] na1 (fun s hs=>zD.2 hs) (by omega) hrl (by omega) hmem (by omega);have hlb:=JL b c.cb hb x.B a.ins x.seq a.out[k] na1 (vM c.ins na1) (by omega) hrl (by omega) (zD.1 (c.out.2 _ hmem)) (by omega);have tr:Qi a b x=(VP a b x.A x.B&&(wM a x.A a.ins x.seq a.out[k] != wM b x.B a.ins x.seq a.out[k])):=by unfold Qi;rw[hge]
         rw[tr];refine vn ?_;simp only[wq.1,seval,hk,hgs];refine⟨⟨by omega,by omega⟩,?_⟩;refine vm ?_;simp only[wq.1,seval];refine⟨by decide +kernel,Dz.mk hm rfl (by simp only[V.dats,V.dat,zre]) ?_⟩;cases VP a b x.A x.B with
         |false=>simp only[wq.1,seval];refine⟨.bool true,⟨fun h=>Bool.noConfusion h,?_⟩⟩;simp only[wq.1,seval];refine⟨.bool true,⟨fun h=>Bool.noConfusion h,?_⟩⟩;simp only[wq.1,seval];exact aH.tup (aj.dat rfl)
         |true=>simp only[wq.1,seval];refine Dz.mk hla rfl (by simp only[V.dats,V.dat,zre]) ?_;simp only[wq.1,seval];refine Dz.mk hlb rfl (by simp only[V.dats,V.dat,zre]) ?_;simp only[wq.1,seval];exact aH.tup (aj.dat rfl)
 ·rw[if_neg hz]at hj;have ez:(qj a b != 0)=true:=by simpa using hz
  have rv:lK a b x=(false,qj a b):=by unfold lK;rw[if_pos hz]
  rw[rv];refine vn ?_;simp only[wq.1,seval];refine ag.ev hj dAll ?_;simp only[wq.1,seval];refine vn ?_;simp only[wq.1,seval];refine aV (b:=true) (by simp only[wq.1,↓reduceIte]) (by simp only[wq.1,↓reduceIte,ez]) (fun _=> ?_) (fun h=>by cases h);refine vm ?_;simp only[wq.1,seval];exact aH.tup (aj.dat rfl)
end Go.Proofs.YthdidjjecjhenaaGreat
