/- Lemmas for this claim, part F16: each holds under what it names. -/
import Derived.Test.YthdidjjecjhenaaGreatF15
import Derived.Test.YthdidjjecjhenaaGreatA10
set_option linter.unusedVariables false
set_option linter.unusedSimpArgs false
set_option linter.unnecessarySimpa false
set_option maxRecDepth 20000
set_option maxHeartbeats 8000000
namespace Go.Proofs.YthdidjjecjhenaaGreat
open Go Go.Proofs Go.Abs
variable{i:Nat}
theorem JM{α:Type}{a b:List α}(h:a.take i=b.take i)(ha:i<a.length)(hb:i<b.length)(he:a[i]=b[i]):a.take (i+1)=b.take (i+1):=by rw[zrg,zrg,h,zqk ha,zqk hb,he]
theorem Qk(a b:List Bool):Ev TE 32 [aX a,aX b] (.bool (a==b)):=by
 refine Ev.bnd fun hb=> ?_;have hlen:=Eu hb;refine aF Tryz.func32 rfl (by simp[nts]) (vm ?_);simp only[wq.1,seval,Tryz.results32];refine vcB.mk (fun hc=> ?_) (fun hc=> ?_)
 ·simp only[wq.1,seval];refine aH.eq rfl ?_;simp only[bne_iff_ne,ne_eq,Int.natCast_inj]at hc;have:¬a=b:=fun h=>hc (by rw[h]);simp[this]
 ·have hl:a.length=b.length:=by simpa [Int.natCast_inj]using hc
  simp only[wq.1,seval];refine aC (fun m f h=>∃i,m+i=a.length/\f.t 0=aX a/\f.t 1=aX b/\f.t 12= .int .i64 (a.length:Int)/\f.t 13= .int .i64 (i:Int)/\f.d=[]/\a.take i=b.take i) a.length ⟨0,by simp,rfl,rfl,rfl,rfl,rfl,by simp⟩ ?_;rintro m f h ⟨i,hm,h0,h1,h12,h13,hd,hall⟩;refine vm ?_;simp only[wq.1,seval,h12,h13];refine vcB.mk (fun hc=> ?_) (fun hc=> ?_)
  ·simp only[zqb,zqi]at hc;have hc2:i<b.length:=by omega
   simp only[wq.1,seval,h0,h1,h13,RD hc,RD hc2];refine⟨by decide +kernel,⟨by omega,by omega⟩,⟨by omega,by omega⟩,vcB.mk (fun hc=> ?_) (fun hc=> ?_)⟩
   ·simp only[wq.1,seval,hd];refine aH.eq rfl ?_;have:¬a=b:=fun h=>by subst h;simp at hc
    simp[this]
   ·simp only[wq.1,seval,h13,aA (show i<maxLen by omega)];exact .inl ⟨m-1,by omega,i+1,by omega,h0,h1,h12,rfl,hd,JM hall (by omega) (by omega) (by simpa using hc)⟩
  ·simp only[zqd,zqi]at hc;simp only[wq.1,seval,hd];refine aH.eq rfl ?_;rw[zqh (by omega),zqh (by omega)]at hall;simp[hall]
theorem XJ(a b:List (List Bool))(ha:a.length<=1000000):Ev TE 33 [rwB a,rwB b,.fn (.func 32) [] []] (.bool (a==b)):=by
 have hM:=mLx;refine aF Tryz.func33 rfl (by simp[nts]) (vm ?_);simp only[wq.1,seval,Tryz.results33];refine vcB.mk (fun hc=> ?_) (fun hc=> ?_)
 ·simp only[wq.1,seval];refine aH.eq rfl ?_;simp only[bne_iff_ne,ne_eq,Int.natCast_inj]at hc;have:¬a=b:=fun h=>hc (by rw[h]);simp[this]
 ·have hl:a.length=b.length:=by simpa [Int.natCast_inj]using hc
  simp only[wq.1,seval];refine aC (fun m f h=>∃i,m+i=a.length/\f.t 1=rwB b/\f.t 2= .fn (.func 32) [] []/\f.t 15=rwB a/\f.t 16= .int .i64 (a.length:Int)/\f.t 17= .int .i64 (i:Int)/\f.d=[]/\a.take i=b.take i) a.length ⟨0,by simp,rfl,rfl,rfl,rfl,rfl,rfl,by simp⟩ ?_;rintro m f h ⟨i,hm,h1,h2,h15,h16,h17,hd,hall⟩;refine vm ?_;simp only[wq.1,seval,h16,h17];refine vcB.mk (fun hc=> ?_) (fun hc=> ?_)
  ·simp only[zqb,zqi]at hc;have hc2:i<b.length:=by omega
   simp only[wq.1,seval,h1,h2,h15,h17,Tz hc,Tz hc2];refine⟨⟨by omega,by omega⟩,⟨by omega,by omega⟩,ag.ev (Qk _ _) (by simp only[V.dats,V.dat,zre]) ?_⟩;simp only[wq.1,seval];refine vcB.mk (fun hc=> ?_) (fun hc=> ?_)
   ·simp only[wq.1,seval,hd];refine aH.eq rfl ?_;have:¬a=b:=fun h=>by subst h;simp at hc
    simp[this]
   ·simp only[wq.1,seval,h17,aA (show i<maxLen by omega)];exact .inl ⟨m-1,by omega,i+1,by omega,h1,h2,h15,h16,rfl,hd,JM hall (by omega) (by omega) (by simpa using hc)⟩
  ·simp only[zqd,zqi]at hc;simp only[wq.1,seval,hd];refine aH.eq rfl ?_;rw[zqh (by omega),zqh (by omega)]at hall;simp[hall]
theorem Du(x:An)(hx:x.seq.length<=1000000):Ev TE 13 [x.v,x.v] (.bool true):=by have h1:=Qk x.A x.A;have h2:=Qk x.B x.B;have h3:=XJ x.seq x.seq hx;rw[beq_self_eq_true]at h1 h2 h3;have hi:∀i:Int,(i==i)=true:=fun i=>beq_self_eq_true i;refine aF Tryz.func13 rfl (by simp[nts]) (vm ?_);simp only[wq.1,seval,Tryz.results13];refine ag.ev h1 (by simp only[V.dats,V.dat,zre]) ?_;simp only[wq.1,seval];refine ag.ev h2 (by simp only[V.dats,V.dat,zre]) ?_;simp only[wq.1,seval];refine ag.ev h3 (by simp only[V.dats,V.dat,zre]) ?_;simp only[wq.1,seval];exact aH.dat rfl
theorem Ig(x y:An)(hx:x.res≠y.res):Ev TE 13 [x.v,y.v] (.bool false):=by
 have hi:(x.res==y.res)=false:=by simpa using hx
 refine aF Tryz.func13 rfl (by simp[nts]) (vm ?_);simp only[wq.1,seval,Tryz.results13,hi];refine⟨.bool true,?_⟩;simp only[wq.1,seval];refine⟨.bool true,?_⟩;simp only[wq.1,seval];refine⟨.bool true,?_⟩;simp only[wq.1];exact aH.dat rfl
theorem Md(l:List Cl)(hl:l.length<=1000000):EvF TE 69 [cls l] 1 l.length (l.map fun c=>ay c):=by
 have hM:=mLx;unfold EvF;refine ah Tryz.func69 rfl (by simp[nts]) (vm ?_);simp only[wq.1,↓reduceIte,Nat.reduceLT,reduceCtorEq,Tryz.results69];intro b hb;cases b
 ·simp only[wq.1,↓reduceIte,Nat.reduceEqDiff,Nat.reduceLT,reduceCtorEq,Nat.reduceMul,Aw];exact⟨⟨rfl,by decide⟩,⟨by omega,by omega⟩,.inr ⟨0,l.length,rfl,zrb _,rfl⟩⟩
 ·have:l=[]:=by simpa using hb rfl
  subst this
  first|(simp only[wq.1,seval];exact .inl ⟨rfl,rfl,rfl⟩)|simp only[wq.1,seval]
abbrev uV(n:Int)(cl rows:List Cl):V:= .agg [vi n,cls cl,cls rows]
abbrev fH:=@tC
variable{rows:List Cl}
theorem Ih(hb:∀r∈rows,∀x∈r,-1000000<=x/\x<=1000000)(t a:Int):-1000000<=lM rows t a/\lM rows t a<=1000000:=by
 unfold lM;split
 ·omega
 ·rename_i h;have h1:t.toNat<rows.length:=by omega
  have h2:(a/2).toNat<(rows.getD t.toNat []).length:=by omega
  have hm:rows.getD t.toNat []∈rows:=by rw[aS h1];exact zqu h1
  have:=hb _ hm _ (CU h2);unfold wB;split<;>omega
theorem JO{b b':List V}(h:eH b b'):∀a:List V,eH (a++b) (a++b')
 |[]=>h
 |x::a=>eH.cons (VLe.refl x) (JO h a)
abbrev aqC(g:Gr)(beg:Cl)(pr:List Pq)(left:Int):List V:=[vi g.ins,ay g.next,ay g.init,prs g.ands,ay g.outs,ay beg,prs pr,vi left]
def Yt(g:Gr)(cl rows:List Cl)(pr:List Pq)(k:Int):List Cl:=(cl++pr.flatMap (FV rows))++[g.outs.map fun a=>lM rows (k-1) a]
theorem Ii(g:Gr)(beg:Cl)(pr:List Pq)(left n:Int)(cl rows:List Cl)(k:Nat)(hrb:∀r∈rows,∀x∈r,-1000000<=x/\x<=1000000)(hrl:rows.length<=1000)(hk:k<=100)
 (ho:∀a∈g.outs,a<=1000000) (hol:g.outs.length<=1000000) (hp:∀p∈pr,(-100000<=p.1/\p.1<=100000)/\-100000<=p.2/\p.2<=100000) (hpl:pr.length<=100000) (hcl:cl.length<=1000000) :
 ag TE 37 [.lp 0 0,uV n cl rows,vi k] [.cells (aqC g beg pr left)] fun ae h' p=>ae= .ret (cls (Yt g cl rows pr k))/\h'=[.cells (aqC g beg pr left)]/\p 0=false:=by
 have hM:=mLx;refine ag.kp (fun i=>decide (1<=i)) ?_;refine ah Tryz.func37 rfl (by simp[nts]) ?_;refine vn ?_;simp only[wq.1,seval,Tryz.results37];refine vn ?_;simp only[wq.1,seval];refine jG (Md cl hcl) (by simp only[V.dats,V.dat,fH,zre]) (fH cl) ?_;simp only[wq.1,seval];refine vn ?_;simp only[wq.1,seval];have dA:∀p,(O.cells (aqC g beg pr left)).drop p= .cells (aqC g beg pr left):=fun p=>congrArg O.cells (bi.dats_drops _ rfl);obtain⟨H0,hH0⟩:∃H0:List Cl->H,∀L,H0 L=[.cells (aqC g beg pr left),.cells [vi n,cls cl,cls rows],.cells (L.map fun c=>ay c)]:=⟨_,fun _=>rfl⟩;have hcl0:∀L,(H0 L).map (O.drop (aJ (H0 L).length))=H0 L:=fun L=>by rw[hH0];show [O.cells (V.drops _ _),O.cells (V.drops _ _),O.cells (V.drops _ _)]=_;rw[nz];rfl
 have bl:∀L,(H0 L).length=3:=fun L=>by rw[hH0];rfl
 obtain⟨AC,hAC⟩:∃AC:Nat->List Cl,∀i,AC i=cl++(pr.take i).flatMap (FV rows):=⟨_,fun _=>rfl⟩;have hAl:∀i,i<=pr.length->(AC i).length=cl.length+2*i:=fun i=>by
  induction i with
  |zero=>intro _;rw[hAC];simp
  |succ i ih=>intro hi;have:=ih (by omega);rw[hAC]at this ⊢;rw[zrg,zqk (by omega),Option.toList_some,List.flatMap_append,<-zqc,zqa,this];simp[FV];omega
 refine aC (fun q f h=>∃(i:Nat)(X:H),q+i=pr.length/\f.t 0= .lp 0 0/\f.t 2=vi k/\f.t 4= .lp 1 0/\f.t 7= .ls 2 1 0 (AC i).length (AC i).length/\f.t 22=prs pr/\f.t 23=vi pr.length/\f.t 24=vi i/\f.d=[]/\f.k 0=false/\h=H0 (AC i)++X) pr.length ⟨0,[],by omega,rfl,rfl,rfl,by simp only[wq.1,seval,hAC];simp,rfl,rfl,rfl,rfl,rfl,by rw[hH0,hAC];simp⟩ ?_;rintro q f h ⟨i,X,hq,t0,t2,t4,t7,t22,t23,t24,hd,hk0,rfl⟩;refine gp (by rw[hd];simp) ?_;rw[hcl0];refine iU (fun f=>f.t 0= .lp 0 0/\f.t 2=vi k/\f.t 4= .lp 1 0/\f.t 7= .ls 2 1 0 (AC i).length (AC i).length/\f.t 22=prs pr/\f.t 23=vi pr.length/\f.t 24=vi i/\f.d=[]/\f.k 0=false) (H0 (AC i)) (fun hk=>hk _ ⟨by simp only[wq.1,seval,t0,aJ,bl],by simp only[wq.1,t2],by simp only[wq.1,seval,t4,aJ,bl],by simp only[wq.1,seval,t7,aJ,bl],by simp only[wq.1,t22],by simp only[wq.1,t23],by simp only[wq.1,t24],hd,by simp only[wq.1,seval,hk0,aJ,bl]⟩) ?_;clear t0 t2 t4 t7 t22 t23 t24 hd hk0 f X;rintro f ⟨t0,t2,t4,t7,t22,t23,t24,hd,hk0⟩;have hal:=hAl i (by omega);have hel:((AC i).map fun c=>ay c).length=(AC i).length*1:=by rw[zra];omega
 have dos:∀p,V.drops p ((AC i).map fun c=>ay c)=(AC i).map fun c=>ay c:=fun p=>nz _;refine vn ?_;simp only[wq.1,Nat.reduceLT,t23,t24];refine ak (aV (b:=decide ((i:Int)<pr.length)) (by simp only[wq.1,↓reduceIte]) (by simp only[wq.1,↓reduceIte]) (fun hlt=> ?_) (fun hlt=> ?_))
 ·simp only[zqb,zqi]at hlt;have hw:=aA (show i<maxLen by omega);have hsu:AC (i+1)=AC i++FV rows pr[i]:=by
   rw[hAC,hAC,zrg,zqk hlt,Option.toList_some,List.flatMap_append];simp
  have hpi:=hp _ (zqu hlt);obtain⟨⟨p1,p2⟩,hpe⟩:∃p,p=pr[i]:=⟨_,rfl⟩;have hgp:(pr.map prV).getD i .any= .agg [vi p1,vi p2]:=by rw[iM hlt,<-hpe]
  rw[<-hpe]at hsu hpi;have hx:=CZ n cl rows 0 (2*p1) hrb (by omega) hrl;have hy:=CZ n cl rows 0 (2*p2) hrb (by omega) hrl;have hxb:=Ih hrb 0 (2*p1);have hyb:=Ih hrb 0 (2*p2);have hpc:FV rows (p1,p2)=[[lM rows 0 (2*p1),-lM rows 0 (2*p2)],[-lM rows 0 (2*p1),lM rows 0 (2*p2)]]:=rfl;rw[hpc]at hsu;obtain⟨x,hxe⟩:∃x,x=lM rows 0 (2*p1):=⟨_,rfl⟩;obtain⟨y,hye⟩:∃y,y=lM rows 0 (2*p2):=⟨_,rfl⟩;rw[<-hxe]at hsu hx hxb;rw[<-hye]at hsu hy hyb;have w1:IntKind.i64.wrap (2*p1)=2*p1:=fE (by omega) (by omega);have w2:IntKind.i64.wrap (2*p2)=2*p2:=fE (by omega) (by omega);have w3:IntKind.i64.wrap (0-x)=-x:=by rw[Int.zero_sub];exact fE (by omega) (by omega)
  have w4:IntKind.i64.wrap (0-y)=-y:=by rw[Int.zero_sub];exact fE (by omega) (by omega)
  have dU:∀a:Int,V.dats [V.agg [vi n,cls cl,cls rows],vi 0,vi a]=true:=fun a=>by simp only[V.dats,V.dat,(fH _),zre]
  refine vm ?_;simp only[wq.1];refine ak (aB ?_);simp only[hH0];refine vn ?_;simp only[wq.1,seval,aG,Tryz.results37,t0,t2,t4,t7,t22,t23,t24,hd,hgp];refine⟨⟨by omega,by omega⟩,?_⟩;refine vn ?_;simp only[wq.1,seval,-Int.reduceNatCast,-Int.reduceNatCast',aG,Tryz.results37,t0,t2,t4,t7,t22,t23,t24,hd,hgp,w1,w2];refine⟨by decide +kernel,by decide,?_⟩;refine Dz.mk hx rfl (dU _) ?_;simp only[wq.1,seval,-Int.reduceNatCast,-Int.reduceNatCast',aG,Tryz.results37,t0,t2,t4,t7,t22,t23,t24,hd,hgp,w1,w2];refine⟨by decide,?_⟩;refine Dz.mk hy rfl (dU _) ?_;simp only[wq.1,seval,aG,Tryz.results37,t0,t2,t4,t7,t22,t23,t24,hd,hgp,w1,w2];refine vm ?_;simp only[wq.1,↓reduceIte,Nat.reduceEqDiff,Nat.reduceLT,Nat.reduceLeDiff,Nat.reduceAdd,Nat.reduceSub,Int.reduceToNat,Nat.reduceDiv,Int.reduceLT,Int.reduceLE,Int.reduceNeg,Int.reduceBEq,Int.reduceBNe,Int.reduceAdd,Int.reduceSub,Nat.reduceBEq,reduceCtorEq,Nat.reduceMul,aG,Tryz.results37,t0,t2,t4,t7,t22,t23,t24,hd,w3,w4,hel,dos];refine⟨⟨rfl,by decide⟩,⟨rfl,by decide⟩,⟨rfl,by decide⟩,⟨by omega,by omega,by omega⟩,?_⟩;refine kZ (HLe.set (i:=2) (o':= .cells ((AC i++[[x,-y],[-x,y]]).map fun c=>ay c)) rfl (OLe.cells (by simp) (by rw[zqh (by simp),zql];exact JO (eH.cons VLe.exact (eH.cons VLe.exact eH.nil)) _))) ?_;refine vm ?_;simp only[wq.1,seval,t24,hw];exact .inl ⟨q-1,by omega,i+1,[.cells [vi p1,vi p2]],by omega,by simp only[wq.1,seval,t0],by simp only[wq.1,seval,t2],by simp only[wq.1,seval,t4],by simp only[wq.1,seval];rw[hsu];simp,by simp only[wq.1,seval,t22],by simp only[wq.1,seval,t23],rfl,hd,by simp only[wq.1,Nat.reduceBEq,hk0],by rw[hsu,zql];rfl⟩
 ·simp only[zqd,zqi]at hlt;have:i=pr.length:=by omega
  subst this;refine vm ?_;simp only[wq.1];show awp _ _ _ _ _ _ _;obtain⟨L,hL⟩:∃L,L=AC pr.length:=⟨_,rfl⟩;have hLe:Yt g cl rows pr k=L++[g.outs.map fun a=>lM rows ((k:Int)-1) a]:=by rw[hL,hAC,zrx];rfl
  rw[<-hL]at t7 hal hel dos ⊢;rw[hLe];obtain⟨C,hC⟩:∃C,C=g.outs.map fun a=>lM rows ((k:Int)-1) a:=⟨_,rfl⟩;rw[<-hC];have hCl:C.length=g.outs.length:=by rw[hC,zra]
  refine vn ?_;simp only[wq.1,Nat.reduceLT];refine kN 12 1 (rfl) ?_;rw[bl];refine ak ?_;simp only[hH0];refine vn ?_;simp only[wq.1,seval,t0,hd];refine aB ?_;refine aC (fun q f h=>∃(i:Nat),q+i=g.outs.length/\f.t 2=vi k/\f.t 4= .lp 1 0/\f.t 7= .ls 2 1 0 L.length L.length/\f.t 12= .ls 3 1 0 i i/\f.t 55=ay g.outs/\f.t 56=vi g.outs.length/\f.t 57=vi i/\f.d=[]/\f.k 0=false/\h=H0 L++[.cells ((C.take i).map vi)]) g.outs.length ⟨0,by omega,t2,t4,t7,rfl,rfl,rfl,rfl,rfl,hk0,by rw[hH0];rfl⟩ ?_;clear t0 t2 t4 t7 t22 t23 t24 hd hk0 f;rintro z f h ⟨i,hz,t2,t4,t7,t12,t55,t56,t57,hd,hk0,rfl⟩;simp only[hH0];have htl:((C.take i).map vi).length=i*1:=by simp;omega
  have htm:min i C.length=i:=by omega
  have dmr:∀p,V.drops p ((C.take i).map vi)=(C.take i).map vi:=fun p=>aI _;have dmL:∀p,V.drops p (L.map fun c=>ay c)=L.map fun c=>ay c:=fun p=>nz _;refine vn ?_;simp only[wq.1,Nat.reduceLT,t56,t57];refine ak (aV (b:=decide ((i:Int)<g.outs.length)) (by simp only[wq.1,↓reduceIte]) (by simp only[wq.1,↓reduceIte]) (fun hlt=> ?_) (fun hlt=> ?_))
  ·simp only[zqb,zqi]at hlt;have hw:=aA (show i<maxLen by omega);have hgo:(g.outs.map vi).getD i .any=vi g.outs[i]:=wU hlt _;have hlit:=CZ n cl rows ((k:Int)-1) g.outs[i] hrb (ho _ (zqu hlt)) hrl;have hsu:C.take (i+1)=C.take i++[lM rows ((k:Int)-1) g.outs[i]]:=by
    rw[hC,zrg,zqo,zqk hlt];rfl
   have w5:IntKind.i64.wrap ((k:Int)-1)=(k:Int)-1:=fE (by omega) (by omega);generalize lM rows ((k:Int)-1) g.outs[i]=v at hlit hsu;refine vm ?_;simp only[wq.1];refine ak (aB ?_);refine vn ?_;simp only[wq.1,seval,t55,t57,hgo];refine⟨⟨by omega,by omega⟩,?_⟩;refine vm ?_;simp only[wq.1,↓reduceIte,Nat.reduceEqDiff,Nat.reduceLT,Nat.reduceAdd,reduceCtorEq,t2,t4,t12,w5];refine ag.ev hlit (by simp only[V.dats,V.dat,fH,zre]) ?_;simp only[wq.1,↓reduceIte,Nat.reduceEqDiff,Nat.reduceLT,reduceCtorEq,Nat.reduceMul,hd,dmr,dmL];refine⟨⟨rfl,by decide⟩,⟨by simp;omega,by omega,by omega⟩,?_⟩;refine vm ?_;simp only[wq.1,seval,t57,hw];exact .inl ⟨z-1,by omega,i+1,by omega,by simp only[wq.1,seval,t2],by simp only[wq.1,seval,t4],by simp only[wq.1,seval,t7],rfl,by simp only[wq.1,seval,t55],by simp only[wq.1,seval,t56],rfl,hd,by simp only[wq.1,Nat.reduceBEq,hk0],by rw[hsu,zql];rfl⟩
  ·simp only[zqd,zqi]at hlt;have:i=g.outs.length:=by omega
   subst this;rw[zqh (by omega)];refine vm ?_;simp only[wq.1];show awp _ _ _ _ _ _ _;refine yB 3 12 (ay C) (by simp only[wq.1,seval,t12]) ?_ (by simp only[wq.1,hd]) ?_
   ·simp only[wq.1,↓reduceIte,Nat.reduceEqDiff,t12];refine aH.ls (cs:=C.map vi) ?_ (aj.dat (jH _)) (IQ _) (Ci _) (by simp;omega);show some (O.cells (V.drops _ _))=_;rw[aI]
   have hhp:qN (fun x=>x==3) 0 [O.cells (aqC g beg pr left),.cells [vi n,cls cl,cls rows],.cells (L.map fun c=>ay c),.cells (C.map vi)]=[O.cells (aqC g beg pr left),.cells [vi n,cls cl,cls rows],.cells (L.map fun c=>ay c),.dead]:=by show [O.cells (V.drops _ _),O.cells (V.drops _ _),O.cells (V.drops _ _),_]=_;rw[nz];rfl
   rw[hhp];refine vn ?_;simp only[wq.1,↓reduceIte,Nat.reduceEqDiff,Nat.reduceLT,Nat.reduceBEq,reduceCtorEq,Nat.reduceMul,t7,hd,dos];refine⟨⟨rfl,by decide⟩,⟨by omega,by omega,by omega⟩,?_⟩;refine Em (h0:=[.cells (aqC g beg pr left)]) (Y:=[.cells [vi n,cls cl,cls rows],.cells ((L.map fun c=>ay c)++[ay C]),.dead]) 6 (cls (L++[C])) (fun j hj=>by cases hj) ?_ ?_ ?_
   ·rfl
   ·refine aH.ls (cs:=(L++[C]).map fun c=>ay c) ?_ (aj.dat (tC _)) (G7 _) (Cj _) (by simp);rw[<-List.map_singleton (f:=fun c=>ay c),<-zql];show some (O.cells (V.drops _ _))=_;rw[nz]
   refine vm ?_;simp only[wq.1,↓reduceIte];intro j hj;rcases Nat.eq_zero_or_pos j with rfl|h
   ·simp[hk0,aJ]at hj
   ·simp;omega
variable{vals:List Bool}
theorem YD{a:Int}(h:inU vals.length a):(vals.getD (max a (-a)-1).toNat false==decide (0<a))=hol vals a:=by
 obtain⟨h0,h1,h2⟩:=h;unfold hol;by_cases hp:0<a
 ·rw[if_neg (by omega),show max a (-a)-1=a-1 by omega,decide_eq_true hp];cases vals.getD (a-1).toNat false<;>rfl
 ·rw[if_pos (by omega),show max a (-a)-1=-a-1 by omega,decide_eq_false hp];cases vals.getD (-a-1).toNat false<;>rfl
theorem mxI(a b:Int):xI [vi a,vi b]=(True,vi (max a b)):=by
 simp only[xI];split
 ·rw[show max a b=b by omega]
 ·rw[show max a b=a by omega]
structure RowsOk(rows:List Cl):Prop where
 b:∀r∈rows,∀x∈r,-1000000<=x/\x<=1000000
 l:rows.length<=1000
theorem JP(n:Int)(cl rows:List Cl)(vals:List Bool)(t a:Int)(u:RowsOk rows)(ha:a<=1000000)(hin:inU vals.length (lM rows t a)):Ev TE 38 [vi t,vi a,.ip (uV n cl rows),.ip (aX vals)] (.bool (hol vals (lM rows t a))):=by
 have hM:=mLx;have hl:=CZ n cl rows t a u.b ha u.l;have hbd:=Ih u.b t a;have dU:V.dats [V.agg [vi n,cls cl,cls rows],vi t,vi a]=true:=by simp only[V.dats,V.dat,(fH _),zre]
 obtain⟨c,hc⟩:∃c,c=lM rows t a:=⟨_,rfl⟩;rw[<-hc]at hl hbd hin ⊢;obtain⟨p,hp⟩:∃p:Nat,max c (-c)-1=p:=⟨(max c (-c)-1).toNat,by have:=hin.1;omega⟩;have hpl:p<vals.length:=by have:=hin;unfold inU at this;omega
 have hw0:IntKind.i64.wrap (0-c)=-c:=by rw[Int.zero_sub];exact fE (by omega) (by omega)
 have hw2:IntKind.i64.wrap (max c (-c)-1)=p:=by rw[hp];exact fE (by omega) (by omega)
 have hgv:(vals.map V.bool).getD p .any= .bool vals[p]:=RD hpl _;have hhol:(vals[p]==decide (0<c))=hol vals c:=by rw[<-YD hin,hp,zsg,zqg,zqk hpl];rfl
 refine aF Tryz.func38 rfl (by simp[nts]) (vm ?_);simp only[wq.1,seval,Tryz.results38];refine ag.ev hl dU ?_;simp only[wq.1,seval,hw0,hw2,hgv,hhol,mxI];exact⟨⟨by omega,by omega⟩,aH.dat rfl⟩
theorem XK(n:Int)(cl rows:List Cl)(vals:List Bool)(s a:Int)(u:RowsOk rows)(hs:0<=s/\s<=1000)(ha:a<=1000000)(hin:inU vals.length (lM rows (s-1) a)) :
 Ev TE 41 [vi a,.ip (.fn (.func 38) [] [.ip (uV n cl rows),.ip (aX vals)]),.ip (vi s)] (.bool (hol vals (lM rows (s-1) a))):=by
 have hM:=mLx;have hl:=JP n cl rows vals (s-1) a u ha hin;have w:IntKind.i64.wrap (s-1)=s-1:=fE (by omega) (by omega);refine aF Tryz.func41 rfl (by simp[nts]) (vm ?_);simp only[wq.1,seval,Tryz.results41,w];refine ag.ev hl (by simp only[V.dats,V.dat,fH,lu,zre]) ?_;simp only[wq.1,seval];exact aH.dat rfl
structure DF(a b:Mo)(g:Gr)(rows:List Cl)(vals:List Bool)(s:Nat):Prop where
 u:RowsOk rows
 sl:s<=1000
 rl:rows.length=s+1
 i:a.ins.length<=4000
 x:a.lat.length<=4000
 y:b.lat.length<=4000
 h:∀(t:Nat)(x:Int),t<s->0<=x->x<2*(1+(a.ins.length:Int)+(a.lat.length:Int)+(b.lat.length:Int))->inU vals.length (lM rows t x)
 o:∀l∈g.outs,inU vals.length (lM rows ((s:Int)-1) l)/\l<=1000000
 ol:g.outs.length<=1000000
abbrev hDf(aq:List V)(a b:Mo)(n:Int)(cl rows:List Cl)(vals:List Bool)(s:Int)(A B:List Bool)(S:List (List Bool)):H :=
 [.cells aq,.cells (cCM a),.cells (cCM b),.cells [vi n,cls cl,cls rows],.cells [aX vals],.cells [vi 0,vi 0,.nils,.nils,.nils,vi 0],.cells [vi s],.cells [.fn (.func 38) [] [.lp 3 0,.lp 4 0]],
  .cells [vi 1,vi 0,.ls 9 1 0 A.length A.length,.ls 10 1 0 B.length B.length,.ls 11 1 0 S.length S.length,vi 0],.cells (A.map V.bool),.cells (B.map V.bool),.cells (S.map fun l=>aX l)]
def Me(R:List Cl)(vals:List Bool)(t i:Nat):List Bool:=(List.range i).map fun i:Nat=>hol vals (lM R t (2*(1+(i:Int))))
variable{R:List Cl}
theorem Ql{t:Nat}:Me R vals t (i+1)=Me R vals t i++[hol vals (lM R t (2*(1+(i:Int))))]:=by unfold Me;rw[List.range_succ,zql];rfl
theorem Dv{t:Nat}:(Me R vals t i).length=i:=by unfold Me;simp
variable{ni:Nat}
theorem Qm{k:Nat}:PX R ni (k+1) vals=PX R ni k vals++[Me R vals k ni]:=by unfold PX;rw[List.range_succ,zql];rfl
theorem JQ{k:Nat}:(PX R ni k vals).length=k:=by unfold PX;simp
theorem Dw{p:Nat->Bool}:∀l:List (List Bool),V.drops p (l.map fun c=>aX c)=l.map fun c=>aX c
 |[]=>rfl
 |a::l=>by show V.drop p (aX a)::V.drops p (l.map fun c=>aX c)=_;rw[Dw l];rfl
theorem UD:∀l:List (List Bool),eQ 1 (l.map fun c=>aX c)=true
 |[]=>rfl
 |a::l=>by simp only[zrd,eQ,UD l,V.fit,V.vc,zrk];rfl
theorem Qo:∀l:List (List Bool),(l.map fun c=>aX c).flatMap V.vc=l.map fun c=>aX c
 |[]=>rfl
 |a::l=>by simp only[zrd,List.flatMap_cons,V.vc,Qo l];rfl
def qm(a b:Mo)(g:Gr)(rows:List Cl)(vals:List Bool)(s:Nat):An :=
 ⟨1,idx g.outs (fun l=>hol vals (lM rows ((s:Int)-1) l)),DC rows (1+(a.ins.length:Int)) a.lat.length vals,DC rows (1+(a.ins.length:Int)+(a.lat.length:Int)) b.lat.length vals,PX rows a.ins.length s vals,0⟩
variable{a b:Mo}{g:Gr}{beg:Cl}{pr:List Pq}{left n:Int}{cl:List Cl}{s:Nat}
theorem TB(D:DF a b g rows vals s){f:Fr}
 (t0:f.t 0= .lp 0 0) (t6:f.t 6= .lp 1 0) (t10:f.t 10= .lp 5 0) (t11:f.t 11= .lp 6 0) (t12:f.t 12= .lp 7 0) (t13:f.t 13= .lp 8 0) (hd:f.d=[]) (hk0:f.k 0=false)
 {A B:List Bool} (hA:A=DC rows (1+(a.ins.length:Int)) a.lat.length vals) (hB:B=DC rows (1+(a.ins.length:Int)+(a.lat.length:Int)) b.lat.length vals) :
 awp TE 107 none (zH 7 (qZ Tryz.f17)) (vV P [ResultVar.cell 10 34] fun ae h' p=>(∀i,p i=true->decide (1<=i)=true)/\ae= .ret (qm a b g rows vals s).v/\h'[0]? =some (.cells (aqC g beg pr left))) f (hDf (aqC g beg pr left) a b n cl rows vals s A B []):=by
 have hM:=mLx;have du:=D.u;have ds:=D.sl;have di:=D.i;have dx:=D.x;have dy:=D.y;simp only[zH,qZ,Tryz.f17];refine ak ?_;refine vn ?_;simp only[wq.1,Nat.reduceLT,t11];refine aB ?_;have dA:∀p,V.drops p (A.map V.bool)=A.map V.bool:=fun p=>iF _;have dB:∀p,V.drops p (B.map V.bool)=B.map V.bool:=fun p=>iF _;refine aC (fun q f h=>∃(t:Nat)(X:H),q+t=s/\f.t 0= .lp 0 0/\f.t 6= .lp 1 0/\f.t 10= .lp 5 0/\f.t 11= .lp 6 0/\f.t 12= .lp 7 0/\f.t 13= .lp 8 0/\f.t 70=vi s/\f.t 71=vi t/\f.d=[]/\f.k 0=false/\h=hDf (aqC g beg pr left) a b n cl rows vals s A B (PX rows a.ins.length t vals)++X) s ⟨0,[],by omega,t0,t6,t10,t11,t12,t13,rfl,rfl,hd,hk0,rfl⟩ ?_;clear t0 t6 t10 t11 t12 t13 hd hk0 f;rintro q f h ⟨t,X,hq,t0,t6,t10,t11,t12,t13,t70,t71,hd,hk0,rfl⟩;obtain⟨S,hS⟩:∃S,S=PX rows a.ins.length t vals:=⟨_,rfl⟩;have hSl:S.length=t:=by rw[hS,JQ]
 rw[<-hS];have dS:∀p,V.drops p (S.map fun l=>aX l)=S.map fun l=>aX l:=fun p=>Dw _;have hcl0:(hDf (aqC g beg pr left) a b n cl rows vals s A B S).map (O.drop (aJ (hDf (aqC g beg pr left) a b n cl rows vals s A B S).length))=hDf (aqC g beg pr left) a b n cl rows vals s A B S:=by
  simp only[hDf,zrd,List.map_nil,aZ,V.drops,V.drop,dA,dB,dS];rfl
 refine gp (by rw[hd];simp) ?_;rw[hcl0];refine iU (fun f=>f.t 0= .lp 0 0/\f.t 6= .lp 1 0/\f.t 10= .lp 5 0/\f.t 11= .lp 6 0/\f.t 12= .lp 7 0/\f.t 13= .lp 8 0/\f.t 70=vi s/\f.t 71=vi t/\f.d=[]/\f.k 0=false) (hDf (aqC g beg pr left) a b n cl rows vals s A B S) (fun hk=>hk _ ⟨by simp only[wq.1,seval,t0,aJ],by simp only[wq.1,seval,t6,aJ],by simp only[wq.1,seval,t10,aJ],by simp only[wq.1,seval,t11,aJ],by simp only[wq.1,seval,t12,aJ],by simp only[wq.1,seval,t13,aJ],by simp only[wq.1,Nat.reduceAdd,t70],by simp only[wq.1,Nat.reduceAdd,t71],hd,by simp only[wq.1,seval,hk0,aJ]⟩) ?_;clear t0 t6 t10 t11 t12 t13 t70 t71 hd hk0 f X hcl0;rintro f ⟨t0,t6,t10,t11,t12,t13,t70,t71,hd,hk0⟩;refine vn ?_;simp only[wq.1,Nat.reduceLT,t70,t71];refine ak (aV (b:=decide ((t:Int)<s)) (by simp only[wq.1,↓reduceIte]) (by simp only[wq.1,↓reduceIte]) (fun hlt=> ?_) (fun hlt=> ?_))
 ·simp only[zqb,zqi]at hlt;have hw:=aA (show t<maxLen by omega);have hsu:PX rows a.ins.length (t+1) vals=S++[Me rows vals t a.ins.length]:=by rw[Qm,hS]
  refine vm ?_;simp only[wq.1];refine ak (aB ?_);refine vn ?_;simp only[wq.1,seval,t71];refine vn ?_;simp only[wq.1,Nat.reduceLT];refine kN 18 1 (rfl) ?_;refine ak ?_;refine vn ?_;simp only[wq.1,seval,t6,hd];refine aB ?_;refine aC (fun z f h=>∃i,z+i=a.ins.length/\f.t 0= .lp 0 0/\f.t 6= .lp 1 0/\f.t 10= .lp 5 0/\f.t 11= .lp 6 0/\f.t 12= .lp 7 0/\f.t 13= .lp 8 0/\f.t 17=vi t/\f.t 18= .ls 12 1 0 i i/\f.t 70=vi s/\f.t 71=vi t/\f.t 76=vi a.ins.length/\f.t 77=vi i/\f.d=[]/\f.k 0=false/\h=hDf (aqC g beg pr left) a b n cl rows vals s A B S++[.cells ((Me rows vals t i).map V.bool)]) a.ins.length ⟨0,by omega,t0,t6,t10,t11,t12,t13,rfl,rfl,t70,t71,rfl,by simp only[wq.1,↓reduceIte];rfl,by simp only[wq.1],by simp only[wq.1,hk0],rfl⟩ ?_;clear t0 t6 t10 t11 t12 t13 t70 t71 hd hk0 f;rintro z f h ⟨i,hz,t0,t6,t10,t11,t12,t13,t17,t18,t70,t71,t76,t77,hd,hk0,rfl⟩;have htl:((Me rows vals t i).map V.bool).length=i*1:=by rw[zra,Dv];omega
  have dmr:∀p,V.drops p ((Me rows vals t i).map V.bool)=(Me rows vals t i).map V.bool:=fun p=>iF _;refine vn ?_;simp only[wq.1,Nat.reduceLT,t76,t77];refine ak (aV (b:=decide ((i:Int)<a.ins.length)) (by simp only[wq.1,↓reduceIte]) (by simp only[wq.1,↓reduceIte]) (fun hl2=> ?_) (fun hl2=> ?_))
  ·simp only[zqb,zqi]at hl2;have hw2:=aA (show i<maxLen by omega);have hi:=D.h t (2*(1+(i:Int))) hlt (by omega) (by omega);have hv:=JP n cl rows vals t (2*(1+(i:Int))) du (by omega) hi;have hsd:=Ql (R:=rows) (vals:=vals) (t:=t) (i:=i);generalize hol vals (lM rows t (2*(1+(i:Int))))=v at hv hsd;have w1:IntKind.i64.wrap (1+(i:Int))=1+(i:Int):=fE (by omega) (by omega);have w2:IntKind.i64.wrap (2*(1+(i:Int)))=2*(1+(i:Int)):=fE (by omega) (by omega);have rr:∀Y:H,aj TE (hDf (aqC g beg pr left) a b n cl rows vals s A B S++Y) [vi t,vi (2*(1+(i:Int))),.lp 3 0,.lp 4 0] [vi t,vi (2*(1+(i:Int))),.ip (uV n cl rows),.ip (aX vals)]:=fun Y =>
    aj.cons (aH.dat rfl) (aj.cons (aH.dat rfl) (aj.cons (aH.lp rfl (aj.dat (by simp only[V.dats,V.dat,fH,zre])) rfl (by simp only[V.dat,V.dats,fH,zre]) (by simp[V.vc]) rfl) (aj.cons (aH.lp rfl (aj.dat (by simp only[V.dats,V.dat,lu,zre])) rfl (by simp only[V.dat,V.dats,lu,zre]) (by simp[V.vc]) rfl) aj.nil)))
   refine vm ?_;simp only[wq.1];refine ak (aB ?_);refine vn ?_;simp only[wq.1,seval,t77];refine vm ?_;simp only[wq.1,↓reduceIte,Nat.reduceEqDiff,Nat.reduceLT,t12,t17,t18,w1,w2];refine ag.lend hv (rr [.cells ((Me rows vals t i).map V.bool)]) rfl ?_;simp only[wq.1,↓reduceIte,Nat.reduceEqDiff,Nat.reduceLT,Nat.reduceBEq,reduceCtorEq,Nat.reduceMul,hd,dmr,dA,dB,dS];refine⟨⟨rfl,by decide⟩,⟨by rw[Dv];omega,by omega,by omega⟩,?_⟩;refine vm ?_;simp only[wq.1,seval,t77,hw2];exact .inl ⟨z-1,by omega,i+1,by omega,by simp only[wq.1,seval,t0],by simp only[wq.1,seval,t6],by simp only[wq.1,seval,t10],by simp only[wq.1,seval,t11],by simp only[wq.1,seval,t12],by simp only[wq.1,seval,t13],by simp only[wq.1,seval,t17],by simp only[wq.1,seval],by simp only[wq.1,seval,t70],by simp only[wq.1,seval,t71],by simp only[wq.1,seval,t76],by simp only[wq.1,↓reduceIte],by simp only[wq.1,hd],by simp only[wq.1,Nat.reduceBEq,hk0],by rw[hsd,zql];rfl⟩
  ·simp only[zqd,zqi]at hl2;have:i=a.ins.length:=by omega
   subst this;refine vm ?_;simp only[wq.1];show awp _ _ _ _ _ _ _;obtain⟨row,hrow⟩:∃row,row=Me rows vals t a.ins.length:=⟨_,rfl⟩;have hrl:row.length=a.ins.length:=by rw[hrow,Dv]
   rw[<-hrow]at hsu ⊢;refine yB 12 18 (aX row) (by simp only[wq.1,seval,t18]) ?_ (by simp only[wq.1,hd]) ?_
   ·simp only[wq.1,seval,t18];refine jL ?_ hrl.symm;show some (O.cells (V.drops _ _))=_;rw[iF]
   have hhp:qN (fun x=>x==12) 0 (hDf (aqC g beg pr left) a b n cl rows vals s A B S++[.cells (row.map V.bool)])=hDf (aqC g beg pr left) a b n cl rows vals s A B S++[.dead]:=by simp only[hDf,List.cons_append,List.nil_append,qN,aZ,V.drops,V.drop,dA,dB,dS];rfl
   have hel:(S.map fun l=>aX l).length=S.length*1:=by rw[zra];omega
   simp only[hDf,List.cons_append,List.nil_append]at hhp;rw[hhp];refine iU (fun f=>f.t 0= .lp 0 0/\f.t 6= .lp 1 0/\f.t 10= .lp 5 0/\f.t 11= .lp 6 0/\f.t 12= .lp 7 0/\f.t 13= .lp 8 0/\f.t 18=aX row/\f.t 70=vi s/\f.t 71=vi t/\f.d=[]/\f.k 0=false) (hDf (aqC g beg pr left) a b n cl rows vals s A B S++[.dead]) (fun hk=>hk _ ⟨by simp only[wq.1,seval,t0],by simp only[wq.1,seval,t6],by simp only[wq.1,seval,t10],by simp only[wq.1,seval,t11],by simp only[wq.1,seval,t12],by simp only[wq.1,seval,t13],by simp only[wq.1,↓reduceIte],by simp only[wq.1,seval,t70],by simp only[wq.1,seval,t71],by simp only[wq.1,hd],by simp only[wq.1,Nat.reduceBEq,hk0]⟩) ?_;clear hhp;clear t0 t6 t10 t11 t12 t13 t17 t18 t70 t71 t76 t77 hd hk0 f;rintro f ⟨t0,t6,t10,t11,t12,t13,t18,t70,t71,hd,hk0⟩;refine vm ?_;simp only[wq.1,↓reduceIte,Nat.reduceEqDiff,Nat.reduceLT,Nat.reduceLeDiff,Nat.reduceAdd,Nat.reduceBEq,reduceCtorEq,Nat.reduceMul,t13,t18,hd,dA,dB,dS];refine⟨⟨rfl,by decide⟩,⟨by omega,by omega,by omega⟩,?_⟩;refine vm ?_;simp only[wq.1,seval,t71,hw];exact .inl ⟨q-1,by omega,t+1,[.dead],by omega,by simp only[wq.1,seval,t0],by simp only[wq.1,seval,t6],by simp only[wq.1,seval,t10],by simp only[wq.1,seval,t11],by simp only[wq.1,seval,t12],by simp only[wq.1,seval,t13],by simp only[wq.1,seval,t70],rfl,hd,by simp only[wq.1,Nat.reduceBEq,hk0],by rw[hsu,zqa,zql];rfl⟩
 ·simp only[zqd,zqi]at hlt;have:t=s:=by omega
  subst this;refine vm ?_;simp only[wq.1];show awp _ _ _ _ _ _ _;have hix:=Uj g.outs 41 [.ip (.fn (.func 38) [] [.ip (uV n cl rows),.ip (aX vals)]),.ip (vi t)] (fun l=>hol vals (lM rows ((t:Int)-1) l)) (by decide +kernel) (by simp only[V.dats,V.dat,fH,lu,zre]) (fun l hl=>XK n cl rows vals t l du ⟨by omega,by omega⟩ (D.o l hl).2 (D.o l hl).1);have hixb:idx g.outs (fun l=>hol vals (lM rows ((t:Int)-1) l))=(qm a b g rows vals t).out:=rfl;rw[hixb]at hix;refine vn ?_;simp only[wq.1,seval,t0,t11,t12];refine ag.lend hix ?_ rfl ?_
  ·refine aj.cons (aH.dat rfl) (aj.cons (aH.fn aj.nil (aj.cons (aH.lp (cs:=[.fn (.func 38) [] [.lp 3 0,.lp 4 0]]) rfl (aj.cons (aH.fn aj.nil (aj.cons (aH.lp rfl (aj.dat (by simp only[V.dats,V.dat,fH,zre])) rfl (by simp only[V.dat,V.dats,fH,zre]) (by simp[V.vc]) rfl) (aj.cons (aH.lp rfl (aj.dat (by simp only[V.dats,V.dat,lu,zre])) rfl (by simp only[V.dat,V.dats,lu,zre]) (by simp[V.vc]) rfl) aj.nil))) aj.nil) rfl (by simp only[V.dat,V.dats,fH,lu,zre]) (by simp[V.vc]) rfl) (aj.cons (aH.lp rfl (aj.dat rfl) rfl rfl (by simp[V.vc]) rfl) aj.nil))) aj.nil)
  simp only[wq.1,seval,t13];refine sZ (h0:=[.cells (aqC g beg pr left),.cells (cCM a),.cells (cCM b),.cells [vi n,cls cl,cls rows],.cells [aX vals],.cells [vi 0,vi 0,.nils,.nils,.nils,vi 0],.cells [vi t],.cells [.fn (.func 38) [] [.lp 3 0,.lp 4 0]],
   .cells [vi 1,vi (qm a b g rows vals t).out,.ls 9 1 0 A.length A.length,.ls 10 1 0 B.length B.length,.ls 11 1 0 S.length S.length,vi 0]]) (Y:=[.cells (A.map V.bool),.cells (B.map V.bool),.cells (S.map fun l=>aX l)]) 8 _ [vi 1,vi (qm a b g rows vals t).out,aX A,aX B,rwB S,vi 0] rfl ?_ ?_ (fun i hi=>by have hi:i∈f.d:=hi;rw[hd]at hi;cases hi) ?_
  ·intro i o ho hne;rcases i with _|_|_|_|_|_|_|_|_|i
   ·obtain rfl:=Option.some.inj ho;rfl
   ·obtain rfl:=Option.some.inj ho;rfl
   ·obtain rfl:=Option.some.inj ho;rfl
   ·obtain rfl:=Option.some.inj ho;rfl
   ·obtain rfl:=Option.some.inj ho;rfl
   ·obtain rfl:=Option.some.inj ho;rfl
   ·obtain rfl:=Option.some.inj ho;rfl
   ·obtain rfl:=Option.some.inj ho;rfl
   ·exact absurd rfl hne
   ·simp at ho
  ·refine⟨.inl rfl,.inl rfl,.inr ⟨rfl,jL ?_ rfl⟩,.inr ⟨rfl,jL ?_ rfl⟩,.inr ⟨rfl,aH.ls (cs:=S.map fun l=>aX l) ?_ (aj.dat (uz _)) (UD _) (Qo _) (by simp)⟩,.inl rfl,trivial⟩
   ·show some (O.cells (V.drops _ _))=_;rw[iF]
   ·show some (O.cells (V.drops _ _))=_;rw[iF]
   ·show some (O.cells (V.drops _ _))=_;rw[Dw]
  ·show awp _ _ _ _ _ _ _;refine vn ?_;simp only[wq.1,seval,t10,t13,hd,aJ];refine vm ?_;simp only[wq.1,seval,t10,aJ];refine⟨fun i hi=> ?_,by rw[hA,hB,hS];rfl⟩;rcases Nat.eq_zero_or_pos i with rfl|h
   ·simp[hk0]at hi
   ·simp;omega
theorem FZ{f:Int}{n:Nat}:DC R f (n+1) vals=DC R f n vals++[hol vals (lM R 0 (2*(f+(n:Int))))]:=by unfold DC;rw[List.range_succ,zql];rfl
theorem Dx{f:Int}{n:Nat}:(DC R f n vals).length=n:=by unfold DC;simp
theorem UE{aq:List V}{s:Int}{A B:List Bool}{S:List (List Bool)}(Y:H)(t x:Int) :
 aj TE (hDf aq a b n cl rows vals s A B S++Y) [vi t,vi x,.lp 3 0,.lp 4 0] [vi t,vi x,.ip (uV n cl rows),.ip (aX vals)] :=
 aj.cons (aH.dat rfl) (aj.cons (aH.dat rfl) (aj.cons (aH.lp rfl (aj.dat (by simp only[V.dats,V.dat,fH,zre])) rfl (by simp only[V.dat,V.dats,fH,zre]) (by simp[V.vc]) rfl) (aj.cons (aH.lp rfl (aj.dat (by simp only[V.dats,V.dat,lu,zre])) rfl (by simp only[V.dat,V.dats,lu,zre]) (by simp[V.vc]) rfl) aj.nil)))
theorem TC(D:DF a b g rows vals s)(hs0:0<s){f:Fr}
 (t0:f.t 0= .lp 0 0) (t6:f.t 6= .lp 1 0) (t7:f.t 7= .lp 2 0) (t10:f.t 10= .lp 5 0) (t11:f.t 11= .lp 6 0) (t12:f.t 12= .lp 7 0) (t13:f.t 13= .lp 8 0) (t14:f.t 14=vi (1+(a.ins.length:Int))) (hd:f.d=[]) (hk0:f.k 0=false)
 {A:List Bool} (hA:A=DC rows (1+(a.ins.length:Int)) a.lat.length vals) :
 awp TE 107 none (zH 6 (qZ Tryz.f17)) (vV P [ResultVar.cell 10 34] fun ae h' p=>(∀i,p i=true->decide (1<=i)=true)/\ae= .ret (qm a b g rows vals s).v/\h'[0]? =some (.cells (aqC g beg pr left))) f (hDf (aqC g beg pr left) a b n cl rows vals s A [] []):=by
 have hM:=mLx;have du:=D.u;have ds:=D.sl;have di:=D.i;have dx:=D.x;have dy:=D.y;simp only[zH,qZ,Tryz.f17];refine ak ?_;refine vn ?_;simp only[wq.1,seval,t7];have dA:∀p,V.drops p (A.map V.bool)=A.map V.bool:=fun p=>iF _;have hAl:A.length=a.lat.length:=by rw[hA,Dx]
 refine aB ?_;refine aC (fun q f h=>∃i,q+i=b.lat.length/\f.t 0= .lp 0 0/\f.t 6= .lp 1 0/\f.t 7= .lp 2 0/\f.t 10= .lp 5 0/\f.t 11= .lp 6 0/\f.t 12= .lp 7 0/\f.t 13= .lp 8 0/\f.t 14=vi (1+(a.ins.length:Int))/\f.t 50=vi b.lat.length/\f.t 51=vi i/\f.d=[]/\f.k 0=false/\h=hDf (aqC g beg pr left) a b n cl rows vals s A (DC rows (1+(a.ins.length:Int)+(a.lat.length:Int)) i vals) []) b.lat.length ⟨0,by omega,t0,t6,t7,t10,t11,t12,t13,t14,rfl,rfl,hd,hk0,rfl⟩ ?_;clear t0 t6 t7 t10 t11 t12 t13 t14 hd hk0 f;rintro q f h ⟨i,hq,t0,t6,t7,t10,t11,t12,t13,t14,t50,t51,hd,hk0,rfl⟩;obtain⟨B,hB⟩:∃B,B=DC rows (1+(a.ins.length:Int)+(a.lat.length:Int)) i vals:=⟨_,rfl⟩;have hBl:B.length=i:=by rw[hB,Dx]
 rw[<-hB];have dB:∀p,V.drops p (B.map V.bool)=B.map V.bool:=fun p=>iF _;have hel:(B.map V.bool).length=B.length*1:=by rw[zra];omega
 refine vn ?_;simp only[wq.1,Nat.reduceLT,t50,t51];refine ak (aV (b:=decide ((i:Int)<b.lat.length)) (by simp only[wq.1,↓reduceIte]) (by simp only[wq.1,↓reduceIte]) (fun hlt=> ?_) (fun hlt=> ?_))
 ·simp only[zqb,zqi]at hlt;have hw:=aA (show i<maxLen by omega);have hi:=D.h 0 (2*(1+(a.ins.length:Int)+(a.lat.length:Int)+(i:Int))) hs0 (by omega) (by omega);have hv:=JP n cl rows vals 0 (2*(1+(a.ins.length:Int)+(a.lat.length:Int)+(i:Int))) du (by omega) hi;have hsu:=FZ (R:=rows) (vals:=vals) (f:=1+(a.ins.length:Int)+(a.lat.length:Int)) (n:=i);rw[<-hB]at hsu;generalize hol vals (lM rows 0 (2*(1+(a.ins.length:Int)+(a.lat.length:Int)+(i:Int))))=v at hv hsu;have w1:IntKind.i64.wrap (1+(a.ins.length:Int)+(a.lat.length:Int))=1+(a.ins.length:Int)+(a.lat.length:Int):=fE (by omega) (by omega);have w2:IntKind.i64.wrap (1+(a.ins.length:Int)+(a.lat.length:Int)+(i:Int))=1+(a.ins.length:Int)+(a.lat.length:Int)+(i:Int):=fE (by omega) (by omega);have w3:IntKind.i64.wrap (2*(1+(a.ins.length:Int)+(a.lat.length:Int)+(i:Int)))=2*(1+(a.ins.length:Int)+(a.lat.length:Int)+(i:Int)):=fE (by omega) (by omega);refine vm ?_;simp only[wq.1];refine ak (aB ?_);refine vn ?_;simp only[wq.1,seval,t51];refine pK dV [0] [1,2,3,4,5,6,7,8,9,10,11,12] 13 (.one 13<| .take 14<| .one 15<| .fin) (fun f' h'=>f'.t 0= .lp 0 0/\f'.t 6= .lp 1 0/\f'.t 7= .lp 2 0/\f'.t 10= .lp 5 0/\f'.t 11= .lp 6 0/\f'.t 12= .lp 7 0/\f'.t 13= .lp 8 0/\f'.t 14=vi (1+(a.ins.length:Int))/\f'.t 50=vi b.lat.length/\f'.t 51=vi i/\f'.d=[]/\f'.k 0=false/\h'=hDf (aqC g beg pr left) a b n cl rows vals s A (B++[v]) []) (by decide +kernel) ?_ ?_
  ·intro K hK;simp only[rH,List.filterMap_cons,List.filterMap_nil];simp only[wq.1,↓reduceIte,Nat.reduceEqDiff,Nat.reduceLT,Nat.reduceLeDiff,Nat.reduceAdd,reduceCtorEq,Nat.reduceMul,lh,fQ,t6,t12,t13,t14,w1,w2,w3];refine zV.mk hv (by decide +kernel) (UE [] 0 _) rfl ?_;simp only[wq.1,↓reduceIte];refine⟨⟨rfl,by decide⟩,hK _ _ ?_⟩;simp only[wq.1,seval,t0,t6,t7,t10,t11,t12,t13,t14,t50,t51,hd,dA,dB];refine⟨⟨by omega,by omega,by omega⟩,hk0,?_⟩;simp only[hDf,zql,zqa];rfl
  ·rintro f h ⟨t0,t6,t7,t10,t11,t12,t13,t14,t50,t51,hd,hk0,rfl⟩;show awp _ _ _ _ _ _ _;refine vm ?_;simp only[wq.1,seval,t51,hw];exact .inl ⟨q-1,by omega,i+1,by omega,t0,t6,t7,t10,t11,t12,t13,t14,t50,rfl,hd,hk0,by rw[hsu]⟩
 ·simp only[zqd,zqi]at hlt;have:i=b.lat.length:=by omega
  subst this;refine vm ?_;simp only[wq.1];show awp _ _ _ _ _ _ _;have key:=TB D (beg:=beg) (pr:=pr) (left:=left) (n:=n) (cl:=cl) (f:=f.put (some 52) (.bool (decide ((b.lat.length:Int)<b.lat.length)))) (t0) (t6) (t10) (t11) (t12) (t13) hd hk0 hA hB;simp only[zH,qZ,Tryz.f17]at key;exact key
theorem MB(D:DF a b g rows vals s)(hs0:0<s) :
 ag TE 17 [.lp 0 0,.agg (cCM a),.agg (cCM b),uV n cl rows,aX vals] [.cells (aqC g beg pr left)] fun ae h' p=>ae= .ret (qm a b g rows vals s).v/\h'[0]? =some (.cells (aqC g beg pr left))/\p 0=false:=by
 refine ag.mono (ag.kp (R:=fun ae h' p=>(∀i,p i=true->decide (1<=i)=true)/\ae= .ret (qm a b g rows vals s).v/\h'[0]? =some (.cells (aqC g beg pr left))) (fun i=>decide (1<=i)) ?_) (fun ae h' p ⟨h1,h2,h3⟩=>⟨h2,h3,?_⟩)
 rotate_left
 ·cases hp:p 0 with
  |false=>rfl
  |true=>have:=h1 0 hp;simp at this
 have hM:=mLx;have du:=D.u;have ds:=D.sl;have drl:=D.rl;have di:=D.i;have dx:=D.x;have dy:=D.y;have w0:IntKind.i64.wrap ((rows.length:Int)-1)=s:=by rw[drl,show((s+1:Nat):Int)-1=(s:Int) by omega];exact fE (by omega) (by omega)
 have w00:IntKind.i64.wrap (1+(a.ins.length:Int))=1+(a.ins.length:Int):=fE (by omega) (by omega);refine ah Tryz.func17 rfl (by simp[nts]) ?_;refine vn ?_;simp only[wq.1,seval,Tryz.results17];refine vn ?_;simp only[wq.1,seval,w0];refine vn ?_;simp only[wq.1,seval];refine vn ?_;simp only[wq.1,seval];refine vn ?_;simp only[wq.1,seval,w00];refine fP ?_;refine fP ?_;refine fP ?_;refine kZ (h':=hDf (aqC g beg pr left) a b n cl rows vals s [] [] []) (HLe.set (i:=8) (o':= .cells [vi 1,vi 0,.ls 9 1 0 0 0,.ls 10 1 0 0 0,.ls 11 1 0 0 0,vi 0]) rfl (OLe.cells (by simp) (eH.cons (VLe.refl _) (eH.cons (VLe.refl _) (eH.cons dC (eH.cons dC (eH.cons dC (eH.cons (VLe.refl _) eH.nil)))))))) ?_;refine ak ?_;refine vn ?_;simp only[wq.1,seval];refine aB ?_;refine aC (fun q f h=>∃i,q+i=a.lat.length/\f.t 0= .lp 0 0/\f.t 6= .lp 1 0/\f.t 7= .lp 2 0/\f.t 10= .lp 5 0/\f.t 11= .lp 6 0/\f.t 12= .lp 7 0/\f.t 13= .lp 8 0/\f.t 14=vi (1+(a.ins.length:Int))/\f.t 32=vi a.lat.length/\f.t 33=vi i/\f.d=[]/\f.k 0=false/\h=hDf (aqC g beg pr left) a b n cl rows vals s (DC rows (1+(a.ins.length:Int)) i vals) [] []) a.lat.length ⟨0,by omega,rfl,rfl,rfl,rfl,rfl,rfl,rfl,rfl,rfl,rfl,rfl,rfl,rfl⟩ ?_;rintro q f h ⟨i,hq,t0,t6,t7,t10,t11,t12,t13,t14,t32,t33,hd,hk0,rfl⟩;obtain⟨A,hA⟩:∃A,A=DC rows (1+(a.ins.length:Int)) i vals:=⟨_,rfl⟩;have hAl:A.length=i:=by rw[hA,Dx]
 rw[<-hA];have dA:∀p,V.drops p (A.map V.bool)=A.map V.bool:=fun p=>iF _;have hel:(A.map V.bool).length=A.length*1:=by rw[zra];omega
 refine vn ?_;simp only[wq.1,Nat.reduceLT,t32,t33];refine ak (aV (b:=decide ((i:Int)<a.lat.length)) (by simp only[wq.1,↓reduceIte]) (by simp only[wq.1,↓reduceIte]) (fun hlt=> ?_) (fun hlt=> ?_))
 ·simp only[zqb,zqi]at hlt;have hw:=aA (show i<maxLen by omega);have hi:=D.h 0 (2*(1+(a.ins.length:Int)+(i:Int))) hs0 (by omega) (by omega);have hv:=JP n cl rows vals 0 (2*(1+(a.ins.length:Int)+(i:Int))) du (by omega) hi;have hsu:=FZ (R:=rows) (vals:=vals) (f:=1+(a.ins.length:Int)) (n:=i);rw[<-hA]at hsu;generalize hol vals (lM rows 0 (2*(1+(a.ins.length:Int)+(i:Int))))=v at hv hsu;have w2:IntKind.i64.wrap (1+(a.ins.length:Int)+(i:Int))=1+(a.ins.length:Int)+(i:Int):=fE (by omega) (by omega);have w3:IntKind.i64.wrap (2*(1+(a.ins.length:Int)+(i:Int)))=2*(1+(a.ins.length:Int)+(i:Int)):=fE (by omega) (by omega);refine vm ?_;simp only[wq.1];refine ak (aB ?_);refine vn ?_;simp only[wq.1,seval,t33];refine pK dV [0] [1,2,3,4,5,6,7,8] 9 (.one 9<| .take 10<| .one 11<| .fin) (fun f' h'=>f'.t 0= .lp 0 0/\f'.t 6= .lp 1 0/\f'.t 7= .lp 2 0/\f'.t 10= .lp 5 0/\f'.t 11= .lp 6 0/\f'.t 12= .lp 7 0/\f'.t 13= .lp 8 0/\f'.t 14=vi (1+(a.ins.length:Int))/\f'.t 32=vi a.lat.length/\f'.t 33=vi i/\f'.d=[]/\f'.k 0=false/\h'=hDf (aqC g beg pr left) a b n cl rows vals s (A++[v]) [] []) (by decide +kernel) ?_ ?_
  ·intro K hK;simp only[rH,List.filterMap_cons,List.filterMap_nil];simp only[wq.1,↓reduceIte,Nat.reduceEqDiff,Nat.reduceLT,Nat.reduceLeDiff,Nat.reduceAdd,reduceCtorEq,Nat.reduceMul,lh,fQ,t12,t13,t14,w2,w3];refine zV.mk hv (by decide +kernel) (UE [] 0 _) rfl ?_;simp only[wq.1,↓reduceIte];refine⟨⟨rfl,by decide⟩,hK _ _ ?_⟩;simp only[wq.1,seval,t0,t6,t7,t10,t11,t12,t13,t14,t32,t33,hd,dA];refine⟨⟨by omega,by omega,by omega⟩,hk0,?_⟩;simp only[hDf,zql,zqa];rfl
  ·rintro f h ⟨t0,t6,t7,t10,t11,t12,t13,t14,t32,t33,hd,hk0,rfl⟩;show awp _ _ _ _ _ _ _;refine vm ?_;simp only[wq.1,seval,t33,hw];exact .inl ⟨q-1,by omega,i+1,by omega,t0,t6,t7,t10,t11,t12,t13,t14,t32,rfl,hd,hk0,by rw[hsu]⟩
 ·simp only[zqd,zqi]at hlt;have:i=a.lat.length:=by omega
  subst this;refine vm ?_;simp only[wq.1];show awp _ _ _ _ _ _ _;have key:=TC D hs0 (beg:=beg) (pr:=pr) (left:=left) (n:=n) (cl:=cl) (f:=f.put (some 34) (.bool (decide ((a.lat.length:Int)<a.lat.length)))) (t0) (t6) (t7) (t10) (t11) (t12) (t13) (t14) hd hk0 hA;simp only[zH,qZ,Tryz.f17]at key;exact key
def Qp(l:List Cl)(n bud res:Int)(vals:List Bool)(nn:Int)(ln:List Cl)(e2:Int):Prop:=(chk l n≠0/\e2=chk l n/\res=0/\vals=[]/\nn=0)\/(chk l n=0/\e2=0/\nn=ln.length/\vg l n.toNat (max bud 0) res vals ln)
theorem VR{l:List Cl}{bud:Int}{r:V}(h:yR l n bud r):∃res vals nn ln e2,r= .tup [.agg [vi res,aX vals,vi nn,cls ln],vi e2]/\Qp l n bud res vals nn ln e2:=by
 rcases h with⟨h,rfl⟩|⟨h,res,vals,ln,rfl,ok⟩
 ·exact⟨0,[],0,[],_,rfl,.inl ⟨h,rfl,rfl,rfl,rfl⟩⟩
 ·exact⟨res,vals,_,ln,0,rfl,.inr ⟨h,rfl,rfl,ok⟩⟩
def dH(g:Gr)(beg:Cl)(pr:List Pq)(left:Int)(k:Nat)(n:Int)(cl rows:List Cl)(e:Int):List (Nat×Nat×V):=[(0,15,.lp 5 0),(1,16,.lp 5 0),(2,17,.lp 5 0),(3,18,.lp 5 0),(4,19,.agg [vi g.ins,ay g.next,ay g.init,prs g.ands,ay g.outs]),(5,20,.lp 5 0),(6,21,.lp 5 0),(7,22,.lp 5 0),(8,23,.lp 5 5),(9,24,ay beg),(10,25,vi k),(11,26,.tup [uV n cl rows,vi e]),(12,14,.tup [uV n cl rows,vi e]),(13,27,uV n cl rows),(14,28,vi e),(17,7,vi e)]
def rW(k:Nat)(id:Nat):List (Nat×V):=[(0,.yd id),(1,.lp 9 0),(2,.lp 8 0),(3,.lp 10 0),(5,vi k)]
theorem YE{B:H}(g:Gr)(beg:Cl)(pr:List Pq)(left:Int)(k:Nat)(n:Int)(cl rows:List Cl)(e:Int)(id:Nat)(h8:B[8]? =some (.cells [.lp 5 0]))(h5:B[5]? =some (.cells (aqC g beg pr left)))(hu:Ev TE 35 [.agg [vi g.ins,ay g.next,ay g.init,prs g.ands,ay g.outs],ay beg,vi k] (.tup [uV n cl rows,vi e])){r:Option Nat}{Q:XE->Fr->H->Prop}{f0:Fr}(g0:GA f0 (rW k id))(d0:f0.d=[])
 (hk:∀f ,GA f (rW k id)->f.d=[]->f.k=f0.k->f.t 6= .lp B.length 0/\f.t 7=vi e->Q .normal f (B++[.cells [vi n,cls cl,cls rows]])) :
 awp TE 67 r (.region 3 (KR Tryz.f34 3) true) Q f0 B:=by
 simp only[KR,Tryz.f34,zU,List.nil_append,zqp,List.headD_cons,Nat.reduceBEq,zrm,if_false,if_true,List.cons_append];have hlo:∀o:O,(B++[o])[B.length]? =some o:=fun o=>sW;have hso:∀o o':O,(B++[o]).set B.length o'=B++[o']:=fun o o'=>Ce;obtain⟨I,hI⟩:∃I:Array Bool->Fr->H->Prop,∀L f h,I L f h↔(h=HN L B 15 16 [vi 0,.nils,.nils] [vi n,cls cl,cls rows]/\FA L f (dH g beg pr left k n cl rows e)/\(L.getD 15 false=true->f.t 6= .lp B.length 0)/\GA f (rW k id)/\f.d=[]/\f.k=f0.k):=⟨_,fun _ _ _=>Iff.rfl⟩;refine Cc dV I (by decide +kernel) ?_ ?_ ?_
 ·exact(hI _ _ _).2 ⟨(HN.none).symm,FA.none,fun h=>by exfalso;revert h;decide +kernel,g0,d0,rfl⟩
 ·intro L f h i hcl hII hi;obtain⟨rfl,hfa,hn,hg,hd,hkk⟩:=(hI _ _ _).1 hII;have t0:f.t 0= .yd id:=hg (0,.yd id) (by simp[rW]);have t1:f.t 1= .lp 9 0:=hg (1,.lp 9 0) (by simp[rW]);have t2:f.t 2= .lp 8 0:=hg (2,.lp 8 0) (by simp[rW]);have t3:f.t 3= .lp 10 0:=hg (3,.lp 10 0) (by simp[rW]);have t5:f.t 5=vi k:=hg (5,vi k) (by simp[rW]);have b8:(HN L B 15 16 [vi 0,.nils,.nils] [vi n,cls cl,cls rows])[8]? =some (.cells [.lp 5 0]):=HN.get (h8);have b5:(HN L B 15 16 [vi 0,.nils,.nils] [vi n,cls cl,cls rows])[5]? =some (.cells (aqC g beg pr left)):=HN.get (h5);have hlt:i<18:=Cb hi;have pu:∀(d:Nat)(v:V),(∀x∈(dH g beg pr left k n cl rows e),x.1=i->x.2.1=d/\x.2.2=v)->(∀x∈(dH g beg pr left k n cl rows e),x.2.1=d->x.1=i)->(decide (d∉([0,1,2,3,5,6]:List Nat))&&decide (i∉([15,16]:List Nat)))=true->I (L.setIfInBounds i true) (f.put (some d) v) (HN L B 15 16 [vi 0,.nils,.nils] [vi n,cls cl,cls rows]):=by
   intro d v h1 h2 h3;rw[zqf,zqb,zqb]at h3;simp only[zrj,zrp,or_false,not_or,not_false_eq_true,and_true,true_and]at h3;refine(hI _ _ _).2 ⟨(HN.skip (by omega) (by omega)).symm,hfa.put h1 h2,(by rw[getD_set_ne false (by omega)];exact fun h=>by have:=hn h;simpa [Fr.put,show ¬6=d by omega]using this),hg.put (by simp[rW];omega),hd,hkk⟩
  match i,hlt with
  |0,_=>have pu:=pu 15 (.lp 5 0) (by simp[dH]) (by simp[dH]) (by decide);simp only[wq.1,Nat.reduceLT,t2,b8];exact pu
  |1,_=>have dp:=aQ hi (l:=[0]) (by decide +kernel);have e15:f.t 15= .lp 5 0:=hfa (0,15,.lp 5 0) (by simp[dH]) (dp 0 (by simp));have pu:=pu 16 (.lp 5 0) (by simp[dH]) (by simp[dH]) (by decide);simp only[wq.1,Nat.reduceLT,e15];exact pu
  |2,_=>have dp:=aQ hi (l:=[1]) (by decide +kernel);have e16:f.t 16= .lp 5 0:=hfa (1,16,.lp 5 0) (by simp[dH]) (dp 1 (by simp));have pu:=pu 17 (.lp 5 0) (by simp[dH]) (by simp[dH]) (by decide);simp only[wq.1,Nat.reduceLT,e16];exact pu
  |3,_=>have dp:=aQ hi (l:=[2]) (by decide +kernel);have e17:f.t 17= .lp 5 0:=hfa (2,17,.lp 5 0) (by simp[dH]) (dp 2 (by simp));have pu:=pu 18 (.lp 5 0) (by simp[dH]) (by simp[dH]) (by decide);simp only[wq.1,Nat.reduceLT,e17];exact pu
  |4,_=>have dp:=aQ hi (l:=[3]) (by decide +kernel);have e18:f.t 18= .lp 5 0:=hfa (3,18,.lp 5 0) (by simp[dH]) (dp 3 (by simp));have pu:=pu 19 (.agg [vi g.ins,ay g.next,ay g.init,prs g.ands,ay g.outs]) (by simp[dH]) (by simp[dH]) (by decide);simp only[wq.1,seval,b5,e18];exact pu
  |5,_=>have pu:=pu 20 (.lp 5 0) (by simp[dH]) (by simp[dH]) (by decide);simp only[wq.1,Nat.reduceLT,t2,b8];exact pu
  |6,_=>have dp:=aQ hi (l:=[5]) (by decide +kernel);have e20:f.t 20= .lp 5 0:=hfa (5,20,.lp 5 0) (by simp[dH]) (dp 5 (by simp));have pu:=pu 21 (.lp 5 0) (by simp[dH]) (by simp[dH]) (by decide);simp only[wq.1,Nat.reduceLT,e20];exact pu
  |7,_=>have dp:=aQ hi (l:=[6]) (by decide +kernel);have e21:f.t 21= .lp 5 0:=hfa (6,21,.lp 5 0) (by simp[dH]) (dp 6 (by simp));have pu:=pu 22 (.lp 5 0) (by simp[dH]) (by simp[dH]) (by decide);simp only[wq.1,Nat.reduceLT,e21];exact pu
  |8,_=>have dp:=aQ hi (l:=[7]) (by decide +kernel);have e22:f.t 22= .lp 5 0:=hfa (7,22,.lp 5 0) (by simp[dH]) (dp 7 (by simp));have pu:=pu 23 (.lp 5 5) (by simp[dH]) (by simp[dH]) (by decide);simp only[wq.1,Nat.reduceLT,e22];exact pu
  |9,_=>have dp:=aQ hi (l:=[8]) (by decide +kernel);have e23:f.t 23= .lp 5 5:=hfa (8,23,.lp 5 5) (by simp[dH]) (dp 8 (by simp));have pu:=pu 24 (ay beg) (by simp[dH]) (by simp[dH]) (by decide);simp only[wq.1,seval,b5,e23];exact pu
  |10,_=>have pu:=pu 25 (vi k) (by simp[dH]) (by simp[dH]) (by decide);simp only[wq.1,Nat.reduceLT,t5];exact pu
  |11,_=>have dp:=aQ hi (l:=[4,9,10]) (by decide +kernel);have e19:f.t 19= .agg [vi g.ins,ay g.next,ay g.init,prs g.ands,ay g.outs]:=hfa (4,19,.agg [vi g.ins,ay g.next,ay g.init,prs g.ands,ay g.outs]) (by simp[dH]) (dp 4 (by simp));have e24:f.t 24=ay beg:=hfa (9,24,ay beg) (by simp[dH]) (dp 9 (by simp));have e25:f.t 25=vi k:=hfa (10,25,vi k) (by simp[dH]) (dp 10 (by simp));have pu:=pu 26 (.tup [uV n cl rows,vi e]) (by simp[dH]) (by simp[dH]) (by decide);simp only[wq.1,Nat.reduceLT,e19,e24,e25];refine ag.ev (hu) (by simp only[V.dats,V.dat,zre]) ?_;simp only[wq.1];exact pu
  |12,_=>have dp:=aQ hi (l:=[11]) (by decide +kernel);have e26:f.t 26= .tup [uV n cl rows,vi e]:=hfa (11,26,.tup [uV n cl rows,vi e]) (by simp[dH]) (dp 11 (by simp));have pu:=pu 14 (.tup [uV n cl rows,vi e]) (by simp[dH]) (by simp[dH]) (by decide);simp only[wq.1,Nat.reduceLT,e26];exact pu
  |13,_=>have dp:=aQ hi (l:=[12]) (by decide +kernel);have e14:f.t 14= .tup [uV n cl rows,vi e]:=hfa (12,14,.tup [uV n cl rows,vi e]) (by simp[dH]) (dp 12 (by simp));have pu:=pu 27 (uV n cl rows) (by simp[dH]) (by simp[dH]) (by decide);simp only[wq.1,seval,e14];exact pu
  |14,_=>have dp:=aQ hi (l:=[12]) (by decide +kernel);have e14:f.t 14= .tup [uV n cl rows,vi e]:=hfa (12,14,.tup [uV n cl rows,vi e]) (by simp[dH]) (dp 12 (by simp));have pu:=pu 28 (vi e) (by simp[dH]) (by simp[dH]) (by decide);simp only[wq.1,seval,e14];exact pu
  |15,_=>have no:=jk hi;have n3:L.getD 16 false=false:=eG hcl no (by decide +kernel);rw[HN.old no];simp only[wq.1,Nat.reduceLT];refine(hI _ _ _).2 ⟨(HN.new (B:=B) (kP hi) (by decide) n3).symm,hfa.put' rfl,fun _=>by simp[Fr.put],hg.put rfl,hd,hkk⟩
  |16,_=>have dp:=aQ hi (l:=[13]) (by decide +kernel);have e27:f.t 27=uV n cl rows:=hfa (13,27,uV n cl rows) (by simp[dH]) (dp 13 (by simp));have dp:=aQ hi (l:=[13,15]) (by decide +kernel);have e27:f.t 27=uV n cl rows:=hfa (13,27,uV n cl rows) (by simp[dH]) (dp 13 (by simp));have e6:=hn (dp 15 (by simp));have no:=jk hi;rw[HN.at (dp 15 (by simp)) no];simp only[wq.1,Nat.reduceAdd,e6,e27,hlo,hso];refine(hI _ _ _).2 ⟨(HN.fill (B:=B) (dp 15 (by simp)) (kP hi) (by decide)).symm,hfa.skip (by simp[dH]),fun _=>e6,hg,hd,hkk⟩
  |17,_=>have dp:=aQ hi (l:=[14]) (by decide +kernel);have e28:f.t 28=vi e:=hfa (14,28,vi e) (by simp[dH]) (dp 14 (by simp));have pu:=pu 7 (vi e) (by simp[dH]) (by simp[dH]) (by decide);simp only[wq.1,Nat.reduceLT,e28];exact pu
  |n+18,h=>exact absurd h (by omega)
 ·intro L f h hall hII;obtain⟨rfl,hfa,hn,hg,hd,hkk⟩:=(hI _ _ _).1 hII;have h8:=hn (hall 15 (by decide +kernel));have h9:=hfa (17,7,vi e) (by simp[dH]) (hall 17 (by decide +kernel));rw[HN.done (hall 15 (by decide +kernel)) (hall 16 (by decide +kernel))];exact hk f hg hd hkk ⟨h8,h9⟩
def fM(g:Gr)(beg:Cl)(pr:List Pq)(left:Int)(k:Nat)(n:Int)(cl rows:List Cl)(more:List Cl)(U:Nat):List (Nat×Nat×V):=[(0,35,.lp 5 0),(1,36,uV n cl rows),(2,37,vi k),(3,38,cls more),(4,39,.lp U 0),(5,40,vi n),(6,41,.lp 5 0),(7,42,.lp 5 0),(8,43,.lp 5 7),(9,44,vi left)]
def gz(res:Int)(vals:List Bool)(nn:Int)(ln:List Cl)(e2:Int):List (Nat×Nat×V):=[(10,45,.tup [.agg [vi res,aX vals,vi nn,cls ln],vi e2]),(11,34,.tup [.agg [vi res,aX vals,vi nn,cls ln],vi e2]),(12,46,.agg [vi res,aX vals,vi nn,cls ln]),(13,47,vi e2),(16,7,vi e2)]
def o5(k:Nat)(id:Nat)(U:Nat):List (Nat×V):=[(0,.yd id),(1,.lp 9 0),(2,.lp 8 0),(3,.lp 10 0),(5,vi k),(6,.lp U 0)]
theorem YF{B:H}(g:Gr)(beg:Cl)(pr:List Pq)(left:Int)(k:Nat)(n:Int)(cl rows:List Cl)(more:List Cl)(U:Nat)(id:Nat)(h8:B[8]? =some (.cells [.lp 5 0]))(h5:B[5]? =some (.cells (aqC g beg pr left)))(hU:B[U]? =some (.cells [vi n,cls cl,cls rows]))(hcl:ag TE 37 [.lp 0 0,uV n cl rows,vi k] [.cells (aqC g beg pr left)] fun ae h' p=>ae= .ret (cls more)/\h'[0]? =some (.cells (aqC g beg pr left))/\p 0=false)(hs:EvR TE 36 [cls more,vi n,vi left] (yR more n left)){r:Option Nat}{Q:XE->Fr->H->Prop}{f0:Fr}(g0:GA f0 (o5 k id U))(d0:f0.d=[])
 (hk:∀f (res:Int) (vals:List Bool) (nn:Int) (ln:List Cl) (e2:Int),Qp more n left res vals nn ln e2->GA f (o5 k id U)->f.d=[]->f.k=f0.k->f.t 8= .lp B.length 0/\f.t 7=vi e2->Q .normal f (B++[.cells [vi res,aX vals,vi nn,cls ln]])) :
 awp TE 67 r (.region 6 (KR Tryz.f34 6) true) Q f0 B:=by
 simp only[KR,Tryz.f34,zU,List.nil_append,zqp,List.headD_cons,Nat.reduceBEq,zrm,if_false,if_true,List.cons_append];have hlo:∀o:O,(B++[o])[B.length]? =some o:=fun o=>sW;have hso:∀o o':O,(B++[o]).set B.length o'=B++[o']:=fun o o'=>Ce;obtain⟨I,hI⟩:∃I:Array Bool->Fr->H->Prop,∀L f h,I L f h↔∃(res:Int)(vals:List Bool)(nn:Int)(ln:List Cl)(e2:Int),(h=HN L B 14 15 [vi 0,.nils,vi 0,.nils] [vi res,aX vals,vi nn,cls ln]/\FA L f (fM g beg pr left k n cl rows more U)/\FA L f (gz res vals nn ln e2)/\(L.getD 10 false=true->Qp more n left res vals nn ln e2)/\(L.getD 14 false=true->f.t 8= .lp B.length 0)/\GA f (o5 k id U)/\f.d=[]/\f.k=f0.k):=⟨_,fun _ _ _=>Iff.rfl⟩;refine Cc dV I (by decide +kernel) ?_ ?_ ?_
 ·exact(hI _ _ _).2 ⟨0,[],0,[],0,(HN.none).symm,FA.none,FA.none,fun h=>by exfalso;revert h;decide +kernel,fun h=>by exfalso;revert h;decide +kernel,g0,d0,rfl⟩
 ·intro L f h i hcl0 hII hi;obtain⟨res,vals,nn,ln,e2,rfl,hfa,hfb,hS,hn,hg,hd,hkk⟩:=(hI _ _ _).1 hII;have t0:f.t 0= .yd id:=hg (0,.yd id) (by simp[o5]);have t1:f.t 1= .lp 9 0:=hg (1,.lp 9 0) (by simp[o5]);have t2:f.t 2= .lp 8 0:=hg (2,.lp 8 0) (by simp[o5]);have t3:f.t 3= .lp 10 0:=hg (3,.lp 10 0) (by simp[o5]);have t5:f.t 5=vi k:=hg (5,vi k) (by simp[o5]);have t6:f.t 6= .lp U 0:=hg (6,.lp U 0) (by simp[o5]);have b8:(HN L B 14 15 [vi 0,.nils,vi 0,.nils] [vi res,aX vals,vi nn,cls ln])[8]? =some (.cells [.lp 5 0]):=HN.get (h8);have b5:(HN L B 14 15 [vi 0,.nils,vi 0,.nils] [vi res,aX vals,vi nn,cls ln])[5]? =some (.cells (aqC g beg pr left)):=HN.get (h5);have hlt:i<17:=Cb hi;have pu:∀(d:Nat)(v:V),(∀x∈(fM g beg pr left k n cl rows more U),x.1=i->x.2.1=d/\x.2.2=v)->(∀x∈(fM g beg pr left k n cl rows more U),x.2.1=d->x.1=i)->(∀x∈(gz res vals nn ln e2),x.1=i->x.2.1=d/\x.2.2=v)->(∀x∈(gz res vals nn ln e2),x.2.1=d->x.1=i)->(decide (d∉([0,1,2,3,5,6,8]:List Nat))&&decide (i∉([14,15,10]:List Nat)))=true->I (L.setIfInBounds i true) (f.put (some d) v) (HN L B 14 15 [vi 0,.nils,vi 0,.nils] [vi res,aX vals,vi nn,cls ln]):=by
   intro d v h1 h2 h4 h5 h3;rw[zqf,zqb,zqb]at h3;simp only[zrj,zrp,or_false,not_or,not_false_eq_true,and_true,true_and]at h3;refine(hI _ _ _).2 ⟨res,vals,nn,ln,e2,(HN.skip (by omega) (by omega)).symm,hfa.put h1 h2,hfb.put h4 h5,(by rw[getD_set_ne false (by omega)];exact hS),(by rw[getD_set_ne false (by omega)];exact fun h=>by have:=hn h;simpa [Fr.put,show ¬8=d by omega]using this),hg.put (by simp[o5];omega),hd,hkk⟩
  match i,hlt with
  |0,_=>have pu:=pu 35 (.lp 5 0) (by simp[fM]) (by simp[fM]) (by simp[gz]) (by simp[gz]) (by decide);simp only[wq.1,Nat.reduceLT,t2,b8];exact pu
  |1,_=>have pu:=pu 36 (uV n cl rows) (by simp[fM]) (by simp[fM]) (by simp[gz]) (by simp[gz]) (by decide);have bU:(HN L B 14 15 [vi 0,.nils,vi 0,.nils] [vi res,aX vals,vi nn,cls ln])[U]? =some (.cells [vi n,cls cl,cls rows]):=HN.get hU;simp only[wq.1,seval,t6,bU];exact pu
  |2,_=>have pu:=pu 37 (vi k) (by simp[fM]) (by simp[fM]) (by simp[gz]) (by simp[gz]) (by decide);simp only[wq.1,Nat.reduceLT,t5];exact pu
  |3,_=>have dp:=aQ hi (l:=[0,1,2]) (by decide +kernel);have e35:f.t 35= .lp 5 0:=hfa (0,35,.lp 5 0) (by simp[fM]) (dp 0 (by simp));have e36:f.t 36=uV n cl rows:=hfa (1,36,uV n cl rows) (by simp[fM]) (dp 1 (by simp));have e37:f.t 37=vi k:=hfa (2,37,vi k) (by simp[fM]) (dp 2 (by simp));have pu:=pu 38 (cls more) (by simp[fM]) (by simp[fM]) (by simp[gz]) (by simp[gz]) (by decide);simp only[wq.1,Nat.reduceLT,e35,e36,e37];refine tq (k:=5) hcl (by simp only[V.dat,tC]) rfl b5 ⟨.inr ⟨0,rfl,rfl⟩,.inl ⟨by simp only[V.dats,V.dat,fH,zre],rfl⟩,.inl ⟨rfl,rfl⟩,trivial⟩ ?_;simp only[wq.1];exact pu
  |4,_=>have pu:=pu 39 (.lp U 0) (by simp[fM]) (by simp[fM]) (by simp[gz]) (by simp[gz]) (by decide);simp only[wq.1,Nat.reduceLT,t6];exact pu
  |5,_=>have dp:=aQ hi (l:=[4]) (by decide +kernel);have e39:f.t 39= .lp U 0:=hfa (4,39,.lp U 0) (by simp[fM]) (dp 4 (by simp));have pu:=pu 40 (vi n) (by simp[fM]) (by simp[fM]) (by simp[gz]) (by simp[gz]) (by decide);have bU:(HN L B 14 15 [vi 0,.nils,vi 0,.nils] [vi res,aX vals,vi nn,cls ln])[U]? =some (.cells [vi n,cls cl,cls rows]):=HN.get hU;simp only[wq.1,seval,e39,bU];exact pu
  |6,_=>have pu:=pu 41 (.lp 5 0) (by simp[fM]) (by simp[fM]) (by simp[gz]) (by simp[gz]) (by decide);simp only[wq.1,Nat.reduceLT,t2,b8];exact pu
  |7,_=>have dp:=aQ hi (l:=[6]) (by decide +kernel);have e41:f.t 41= .lp 5 0:=hfa (6,41,.lp 5 0) (by simp[fM]) (dp 6 (by simp));have pu:=pu 42 (.lp 5 0) (by simp[fM]) (by simp[fM]) (by simp[gz]) (by simp[gz]) (by decide);simp only[wq.1,Nat.reduceLT,e41];exact pu
  |8,_=>have dp:=aQ hi (l:=[7]) (by decide +kernel);have e42:f.t 42= .lp 5 0:=hfa (7,42,.lp 5 0) (by simp[fM]) (dp 7 (by simp));have pu:=pu 43 (.lp 5 7) (by simp[fM]) (by simp[fM]) (by simp[gz]) (by simp[gz]) (by decide);simp only[wq.1,Nat.reduceLT,e42];exact pu
  |9,_=>have dp:=aQ hi (l:=[8]) (by decide +kernel);have e43:f.t 43= .lp 5 7:=hfa (8,43,.lp 5 7) (by simp[fM]) (dp 8 (by simp));have pu:=pu 44 (vi left) (by simp[fM]) (by simp[fM]) (by simp[gz]) (by simp[gz]) (by decide);simp only[wq.1,seval,b5,e43];exact pu
  |10,_ =>
   have dp:=aQ hi (l:=[3,5,9]) (by decide +kernel);have e38:f.t 38=cls more:=hfa (3,38,cls more) (by simp[fM]) (dp 3 (by simp));have e40:f.t 40=vi n:=hfa (5,40,vi n) (by simp[fM]) (dp 5 (by simp));have e44:f.t 44=vi left:=hfa (9,44,vi left) (by simp[fM]) (dp 9 (by simp));have no:=jk hi;have n11:=eG hcl0 no (i:=11) (by decide +kernel);have n12:=eG hcl0 n11 (i:=12) (by decide +kernel);have n13:=eG hcl0 n11 (i:=13) (by decide +kernel);have n15:=eG hcl0 no (i:=15) (by decide +kernel);have n16:=eG hcl0 no (i:=16) (by decide +kernel);simp only[wq.1,Nat.reduceLT,e38,e40,e44];refine jF hs (by simp only[V.dats,V.dat,fH,zre]) fun rv hrv=> ?_;obtain⟨res2,vals2,nn2,ln2,e22,rfl,hA⟩:=VR hrv;simp only[wq.1];refine(hI _ _ _).2 ⟨res2,vals2,nn2,ln2,e22,?_,hfa.put' (by simp[fM]),?_,fun _=>hA,(by rw[getD_set_ne false (by decide)];exact fun h=>by have:=hn h;simpa [Fr.put]using this),hg.put (by simp[o5]),hd,hkk⟩
   ·rw[HN.skip (by decide) (by decide)];unfold HN;rw[n15];rfl
   ·intro q hq hl;simp only[gz,zrj,zrp,or_false]at hq;rcases hq with rfl|rfl|rfl|rfl|rfl
    ·simp[Fr.put]
    ·have hl:(L.setIfInBounds 10 true).getD 11 false=true:=hl;rw[getD_set_ne false (show(10:Nat)≠11 by decide),n11]at hl;cases hl
    ·have hl:(L.setIfInBounds 10 true).getD 12 false=true:=hl;rw[getD_set_ne false (show(10:Nat)≠12 by decide),n12]at hl;cases hl
    ·have hl:(L.setIfInBounds 10 true).getD 13 false=true:=hl;rw[getD_set_ne false (show(10:Nat)≠13 by decide),n13]at hl;cases hl
    ·have hl:(L.setIfInBounds 10 true).getD 16 false=true:=hl;rw[getD_set_ne false (show(10:Nat)≠16 by decide),n16]at hl;cases hl
  |11,_=>have dp:=aQ hi (l:=[10]) (by decide +kernel);have e45:f.t 45= .tup [.agg [vi res,aX vals,vi nn,cls ln],vi e2]:=hfb (10,45,.tup [.agg [vi res,aX vals,vi nn,cls ln],vi e2]) (by simp[gz]) (dp 10 (by simp));have pu:=pu 34 (.tup [.agg [vi res,aX vals,vi nn,cls ln],vi e2]) (by simp[fM]) (by simp[fM]) (by simp[gz]) (by simp[gz]) (by decide);simp only[wq.1,Nat.reduceLT,e45];exact pu
  |12,_=>have dp:=aQ hi (l:=[11]) (by decide +kernel);have e34:f.t 34= .tup [.agg [vi res,aX vals,vi nn,cls ln],vi e2]:=hfb (11,34,.tup [.agg [vi res,aX vals,vi nn,cls ln],vi e2]) (by simp[gz]) (dp 11 (by simp));have pu:=pu 46 (.agg [vi res,aX vals,vi nn,cls ln]) (by simp[fM]) (by simp[fM]) (by simp[gz]) (by simp[gz]) (by decide);simp only[wq.1,seval,e34];exact pu
  |13,_=>have dp:=aQ hi (l:=[11]) (by decide +kernel);have e34:f.t 34= .tup [.agg [vi res,aX vals,vi nn,cls ln],vi e2]:=hfb (11,34,.tup [.agg [vi res,aX vals,vi nn,cls ln],vi e2]) (by simp[gz]) (dp 11 (by simp));have pu:=pu 47 (vi e2) (by simp[fM]) (by simp[fM]) (by simp[gz]) (by simp[gz]) (by decide);simp only[wq.1,seval,e34];exact pu
  |14,_=>have no:=jk hi;have n3:L.getD 15 false=false:=eG hcl0 no (by decide +kernel);rw[HN.old no];simp only[wq.1,Nat.reduceLT];refine(hI _ _ _).2 ⟨res,vals,nn,ln,e2,(HN.new (B:=B) (kP hi) (by decide) n3).symm,hfa.put' rfl,hfb.put' rfl,(by rw[getD_set_ne false (by decide)];exact hS),fun _=>by simp[Fr.put],hg.put rfl,hd,hkk⟩
  |15,_=>have dp:=aQ hi (l:=[12]) (by decide +kernel);have e46:f.t 46= .agg [vi res,aX vals,vi nn,cls ln]:=hfb (12,46,.agg [vi res,aX vals,vi nn,cls ln]) (by simp[gz]) (dp 12 (by simp));have dp:=aQ hi (l:=[12,14]) (by decide +kernel);have e46:f.t 46= .agg [vi res,aX vals,vi nn,cls ln]:=hfb (12,46,.agg [vi res,aX vals,vi nn,cls ln]) (by simp[gz]) (dp 12 (by simp));have e8:=hn (dp 14 (by simp));have no:=jk hi;rw[HN.at (dp 14 (by simp)) no];simp only[wq.1,Nat.reduceAdd,e8,e46,hlo,hso];refine(hI _ _ _).2 ⟨res,vals,nn,ln,e2,(HN.fill (B:=B) (dp 14 (by simp)) (kP hi) (by decide)).symm,hfa.skip (by simp[fM]),hfb.skip (by simp[gz]),(by rw[getD_set_ne false (by decide)];exact hS),fun _=>e8,hg,hd,hkk⟩
  |16,_=>have dp:=aQ hi (l:=[13]) (by decide +kernel);have e47:f.t 47=vi e2:=hfb (13,47,vi e2) (by simp[gz]) (dp 13 (by simp));have pu:=pu 7 (vi e2) (by simp[fM]) (by simp[fM]) (by simp[gz]) (by simp[gz]) (by decide);simp only[wq.1,Nat.reduceLT,e47];exact pu
  |n+17,h=>exact absurd h (by omega)
 ·intro L f h hall hII;obtain⟨res,vals,nn,ln,e2,rfl,hfa,hfb,hS,hn,hg,hd,hkk⟩:=(hI _ _ _).1 hII;have h8:=hn (hall 14 (by decide +kernel));have h9:=hfb (16,7,vi e2) (by simp[gz]) (hall 16 (by decide +kernel));rw[HN.done (hall 14 (by decide +kernel)) (hall 15 (by decide +kernel))];exact hk f res vals nn ln e2 (hS (hall 10 (by decide +kernel))) hg hd hkk ⟨h8,h9⟩
end Go.Proofs.YthdidjjecjhenaaGreat
