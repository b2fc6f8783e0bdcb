/- Lemmas for this claim, part F16: each holds under what it names. -/
import Derived.Test.YthdidjjecjhenaaGreatAF15
import Derived.Test.YthdidjjecjhenaaGreatAA10
set_option linter.all false
set_option maxRecDepth 20000
set_option maxHeartbeats 8000000
namespace Go.Proofs.YthdidjjecjhenaaGreat
open Go Go.Proofs Go.Abs
open List renaming length → aa, replicate → aD
open Bool renaming true → ab, false → am
open Option renaming some → ar, none → aL
open Decidable renaming decide → aM
open Go.IntKind renaming wrap → a5
open Go.Result renaming andThen → a8
open Go.Abs.O renaming cells → aw
open Go.Abs.V renaming drops → aE, dat → a6, dats → a7
variable{i:Nat}
theorem Kq{α:Type}{a b:List α}(h:a.take i=b.take i)(ha:i<aa a)(hb:i<aa b)(he:a[i]=b[i]):a.take (i+1)=b.take (i+1):=by rw[zrg,zrg,h,zqk ha,zqk hb,he]
theorem QJ(a b:List Bool):Ev TE 32 [aI a,aI b] (.bool (a==b)):=by
 refine Ev.bnd λhb=> ?_;have hlen:=ES hb;refine aC Tryz.func32 rfl (by simp[nts]) (vm ?_);simp only[wq.1,seval,Tryz.results32];refine vcB.mk (λhc=> ?_) (λhc=> ?_)
 ·simp only[wq.1,seval];refine aH.eq rfl ?_;simp only[bne_iff_ne,ne_eq,Int.natCast_inj]at hc;have:¬a=b:=λh=>hc (by rw[h]);simp[this]
 ·have hl:aa a=aa b:=by simpa [Int.natCast_inj]using hc
  simp only[wq.1,seval];refine aA (λm f h=>∃i,m+i=aa a/\f.t 0=aI a/\f.t 1=aI b/\f.t 12= .int .i64 (aa a:Int)/\f.t 13= .int .i64 (i:Int)/\f.d=[]/\a.take i=b.take i) (aa a) ⟨0,by simp,rfl,rfl,rfl,rfl,rfl,by simp⟩ ?_;rintro m f h ⟨i,hm,h0,h1,h12,h13,hd,hall⟩;refine vm ?_;simp only[wq.1,seval,h12,h13];refine vcB.mk (λhc=> ?_) (λhc=> ?_)
  ·simp only[zqb,zqi]at hc;have hc2:i<aa b:=by omega
   simp only[wq.1,seval,h0,h1,h13,GZ hc,GZ hc2];refine⟨by decide +kernel,⟨by omega,by omega⟩,⟨by omega,by omega⟩,vcB.mk (λhc=> ?_) (λhc=> ?_)⟩
   ·simp only[wq.1,seval,hd];refine aH.eq rfl ?_;have:¬a=b:=λh=>by subst h;simp at hc
    simp[this]
   ·simp only[wq.1,seval,h13,ax (show i<maxLen by omega)];exact .inl ⟨m-1,by omega,i+1,by omega,h0,h1,h12,rfl,hd,Kq hall (by omega) (by omega) (by simpa using hc)⟩
  ·simp only[zqd,zqi]at hc;simp only[wq.1,seval,hd];refine aH.eq rfl ?_;rw[zqh (by omega),zqh (by omega)]at hall;simp[hall]
theorem Yg(a b:List (List Bool))(ha:aa a<=1000000):Ev TE 33 [rwB a,rwB b,.fn (.func 32) [] []] (.bool (a==b)):=by
 have hM:=mLx;refine aC Tryz.func33 rfl (by simp[nts]) (vm ?_);simp only[wq.1,seval,Tryz.results33];refine vcB.mk (λhc=> ?_) (λhc=> ?_)
 ·simp only[wq.1,seval];refine aH.eq rfl ?_;simp only[bne_iff_ne,ne_eq,Int.natCast_inj]at hc;have:¬a=b:=λh=>hc (by rw[h]);simp[this]
 ·have hl:aa a=aa b:=by simpa [Int.natCast_inj]using hc
  simp only[wq.1,seval];refine aA (λm f h=>∃i,m+i=aa a/\f.t 1=rwB b/\f.t 2= .fn (.func 32) [] []/\f.t 15=rwB a/\f.t 16= .int .i64 (aa a:Int)/\f.t 17= .int .i64 (i:Int)/\f.d=[]/\a.take i=b.take i) (aa a) ⟨0,by simp,rfl,rfl,rfl,rfl,rfl,rfl,by simp⟩ ?_;rintro m f h ⟨i,hm,h1,h2,h15,h16,h17,hd,hall⟩;refine vm ?_;simp only[wq.1,seval,h16,h17];refine vcB.mk (λhc=> ?_) (λhc=> ?_)
  ·simp only[zqb,zqi]at hc;have hc2:i<aa b:=by omega
   simp only[wq.1,seval,h1,h2,h15,h17,II hc,II hc2];refine⟨⟨by omega,by omega⟩,⟨by omega,by omega⟩,ag.ev (QJ _ _) (by simp only[a7,a6,zre]) ?_⟩;simp only[wq.1,seval];refine vcB.mk (λhc=> ?_) (λhc=> ?_)
   ·simp only[wq.1,seval,hd];refine aH.eq rfl ?_;have:¬a=b:=λh=>by subst h;simp at hc
    simp[this]
   ·simp only[wq.1,seval,h17,ax (show i<maxLen by omega)];exact .inl ⟨m-1,by omega,i+1,by omega,h1,h2,h15,h16,rfl,hd,Kq hall (by omega) (by omega) (by simpa using hc)⟩
  ·simp only[zqd,zqi]at hc;simp only[wq.1,seval,hd];refine aH.eq rfl ?_;rw[zqh (by omega),zqh (by omega)]at hall;simp[hall]
theorem D6(x:An)(hx:aa x.seq<=1000000):Ev TE 13 [x.v,x.v] (.bool ab):=by have h1:=QJ x.A x.A;have h2:=QJ x.B x.B;have h3:=Yg x.seq x.seq hx;rw[beq_self_eq_true]at h1 h2 h3;have hi:∀i:Int,(i==i)=ab:=λi=>beq_self_eq_true i;refine aC Tryz.func13 rfl (by simp[nts]) (vm ?_);simp only[wq.1,seval,Tryz.results13];refine ag.ev h1 (by simp only[a7,a6,zre]) ?_;simp only[wq.1,seval];refine ag.ev h2 (by simp only[a7,a6,zre]) ?_;simp only[wq.1,seval];refine ag.ev h3 (by simp only[a7,a6,zre]) ?_;simp only[wq.1,seval];exact aH.dat rfl
theorem IJ(x y:An)(hx:x.res≠y.res):Ev TE 13 [x.v,y.v] (.bool am):=by
 have hi:(x.res==y.res)=am:=by simpa using hx
 refine aC Tryz.func13 rfl (by simp[nts]) (vm ?_);simp only[wq.1,seval,Tryz.results13,hi];refine⟨.bool ab,?_⟩;simp only[wq.1,seval];refine⟨.bool ab,?_⟩;simp only[wq.1,seval];refine⟨.bool ab,?_⟩;simp only[wq.1];exact aH.dat rfl
theorem Nh(l:List Cl)(hl:aa l<=1000000):EvF TE 69 [cls l] 1 (aa l) (l.map λc=>az c):=by
 have hM:=mLx;unfold EvF;refine ah Tryz.func69 rfl (by simp[nts]) (vm ?_);simp only[wq.1,↓reduceIte,Nat.reduceLT,reduceCtorEq,Tryz.results69];intro b hb;cases b
 ·simp only[wq.1,↓reduceIte,Nat.reduceEqDiff,Nat.reduceLT,reduceCtorEq,Nat.reduceMul,Bq];exact⟨⟨rfl,by decide⟩,⟨by omega,by omega⟩,.inr ⟨0,aa l,rfl,zrb _,rfl⟩⟩
 ·have:l=[]:=by simpa using hb rfl
  subst this
  first|(simp only[wq.1,seval];exact .inl ⟨rfl,rfl,rfl⟩)|simp only[wq.1,seval]
abbrev uV(n:Int)(cl rows:List Cl):V:= .agg [vi n,cls cl,cls rows]
abbrev fZ:=@ul
variable{rows:List Cl}
theorem IK(hb:∀r∈rows,∀x∈r,-1000000<=x/\x<=1000000)(t a:Int):-1000000<=lY rows t a/\lY rows t a<=1000000:=by
 unfold lY;split
 ·omega
 ·rename_i h;have h1:t.toNat<aa rows:=by omega
  have h2:(a/2).toNat<aa (rows.getD t.toNat []):=by omega
  have hm:rows.getD t.toNat []∈rows:=by rw[aP h1];exact zqu h1
  have:=hb _ hm _ (Dz h2);unfold wV;split<;>omega
theorem Kr{b b':List V}(h:fD b b'):∀a:List V,fD (a++b) (a++b')
 |[]=>h
 |x::a=>fD.cons (VLe.refl x) (Kr h a)
abbrev aqC(g:Gr)(beg:Cl)(pr:List Pq)(left:Int):List V:=[vi g.ins,az g.next,az g.init,prs g.ands,az g.outs,az beg,prs pr,vi left]
def YX(g:Gr)(cl rows:List Cl)(pr:List Pq)(k:Int):List Cl:=(cl++pr.flatMap (Gq rows))++[g.outs.map λa=>lY rows (k-1) a]
theorem IL(g:Gr)(beg:Cl)(pr:List Pq)(left n:Int)(cl rows:List Cl)(k:Nat)(hrb:∀r∈rows,∀x∈r,-1000000<=x/\x<=1000000)(hrl:aa rows<=1000)(hk:k<=100)
 (ho:∀a∈g.outs,a<=1000000) (hol:aa g.outs<=1000000) (hp:∀p∈pr,(-100000<=p.1/\p.1<=100000)/\-100000<=p.2/\p.2<=100000) (hpl:aa pr<=100000) (hcl:aa cl<=1000000) :
 ag TE 37 [.lp 0 0,uV n cl rows,vi k] [aw (aqC g beg pr left)] λae h' p=>ae= .ret (cls (YX g cl rows pr k))/\h'=[aw (aqC g beg pr left)]/\p 0=am:=by
 have hM:=mLx;refine ag.kp (λi=>aM (1<=i)) ?_;refine ah Tryz.func37 rfl (by simp[nts]) ?_;refine vn ?_;simp only[wq.1,seval,Tryz.results37];refine vn ?_;simp only[wq.1,seval];refine jM (Nh cl hcl) (by simp only[a7,a6,fZ,zre]) (fZ cl) ?_;simp only[wq.1,seval];refine vn ?_;simp only[wq.1,seval];have dA:∀p,(aw (aqC g beg pr left)).drop p=aw (aqC g beg pr left):=λp=>congrArg aw (bF.dats_drops _ rfl);obtain⟨H0,hH0⟩:∃H0:List Cl->H,∀L,H0 L=[aw (aqC g beg pr left),aw [vi n,cls cl,cls rows],aw (L.map λc=>az c)]:=⟨_,λ_=>rfl⟩;have hcl0:∀L,(H0 L).map (O.drop (aQ (aa (H0 L))))=H0 L:=λL=>by rw[hH0];show [aw (aE _ _),aw (aE _ _),aw (aE _ _)]=_;rw[nJ];rfl
 have bl:∀L,aa (H0 L)=3:=λL=>by rw[hH0];rfl
 obtain⟨AC,hAC⟩:∃AC:Nat->List Cl,∀i,AC i=cl++(pr.take i).flatMap (Gq rows):=⟨_,λ_=>rfl⟩;have hAl:∀i,i<=aa pr->aa (AC i)=aa cl+2*i:=λi=>by
  induction i with
  |zero=>intro _;rw[hAC];simp
  |succ i ih=>intro hi;have:=ih (by omega);rw[hAC]at this ⊢;rw[zrg,zqk (by omega),Option.toList_some,List.flatMap_append,<-zqc,zqa,this];simp[Gq];omega
 refine aA (λq f h=>∃(i:Nat)(X:H),q+i=aa pr/\f.t 0= .lp 0 0/\f.t 2=vi k/\f.t 4= .lp 1 0/\f.t 7= .ls 2 1 0 (aa (AC i)) (aa (AC i))/\f.t 22=prs pr/\f.t 23=vi (aa pr)/\f.t 24=vi i/\f.d=[]/\f.k 0=am/\h=H0 (AC i)++X) (aa pr) ⟨0,[],by omega,rfl,rfl,rfl,by simp only[wq.1,seval,hAC];simp,rfl,rfl,rfl,rfl,rfl,by rw[hH0,hAC];simp⟩ ?_;rintro q f h ⟨i,X,hq,t0,t2,t4,t7,t22,t23,t24,hd,hk0,rfl⟩;refine fU (by rw[hd];simp) ?_;rw[hcl0];refine iL (λf=>f.t 0= .lp 0 0/\f.t 2=vi k/\f.t 4= .lp 1 0/\f.t 7= .ls 2 1 0 (aa (AC i)) (aa (AC i))/\f.t 22=prs pr/\f.t 23=vi (aa pr)/\f.t 24=vi i/\f.d=[]/\f.k 0=am) (H0 (AC i)) (λhk=>hk _ ⟨by simp only[wq.1,seval,t0,aQ,bl],by simp only[wq.1,t2],by simp only[wq.1,seval,t4,aQ,bl],by simp only[wq.1,seval,t7,aQ,bl],by simp only[wq.1,t22],by simp only[wq.1,t23],by simp only[wq.1,t24],hd,by simp only[wq.1,seval,hk0,aQ,bl]⟩) ?_;clear t0 t2 t4 t7 t22 t23 t24 hd hk0 f X;rintro f ⟨t0,t2,t4,t7,t22,t23,t24,hd,hk0⟩;have hal:=hAl i (by omega);have hel:aa ((AC i).map λc=>az c)=aa (AC i)*1:=by rw[zra];omega
 have dos:∀p,aE p ((AC i).map λc=>az c)=(AC i).map λc=>az c:=λp=>nJ _;refine vn ?_;simp only[wq.1,Nat.reduceLT,t23,t24];refine ak (aX (b:=aM ((i:Int)<aa pr)) (by simp only[wq.1,↓reduceIte]) (by simp only[wq.1,↓reduceIte]) (λhlt=> ?_) (λhlt=> ?_))
 ·simp only[zqb,zqi]at hlt;have hw:=ax (show i<maxLen by omega);have hsu:AC (i+1)=AC i++Gq rows pr[i]:=by
   rw[hAC,hAC,zrg,zqk hlt,Option.toList_some,List.flatMap_append];simp
  have hpi:=hp _ (zqu hlt);obtain⟨⟨p1,p2⟩,hpe⟩:∃p,p=pr[i]:=⟨_,rfl⟩;have hgp:(pr.map prV).getD i .any= .agg [vi p1,vi p2]:=by rw[iO hlt,<-hpe]
  rw[<-hpe]at hsu hpi;have hx:=DK n cl rows 0 (2*p1) hrb (by omega) hrl;have hy:=DK n cl rows 0 (2*p2) hrb (by omega) hrl;have hxb:=IK hrb 0 (2*p1);have hyb:=IK hrb 0 (2*p2);have hpc:Gq rows (p1,p2)=[[lY rows 0 (2*p1),-lY rows 0 (2*p2)],[-lY rows 0 (2*p1),lY rows 0 (2*p2)]]:=rfl;rw[hpc]at hsu;obtain⟨x,hxe⟩:∃x,x=lY rows 0 (2*p1):=⟨_,rfl⟩;obtain⟨y,hye⟩:∃y,y=lY rows 0 (2*p2):=⟨_,rfl⟩;rw[<-hxe]at hsu hx hxb;rw[<-hye]at hsu hy hyb;have w1:a5 .i64 (2*p1)=2*p1:=fM (by omega) (by omega);have w2:a5 .i64 (2*p2)=2*p2:=fM (by omega) (by omega);have w3:a5 .i64 (0-x)=-x:=by rw[Int.zero_sub];exact fM (by omega) (by omega)
  have w4:a5 .i64 (0-y)=-y:=by rw[Int.zero_sub];exact fM (by omega) (by omega)
  have dU:∀a:Int,a7 [V.agg [vi n,cls cl,cls rows],vi 0,vi a]=ab:=λa=>by simp only[a7,a6,(fZ _),zre]
  refine vm ?_;simp only[wq.1];refine ak (aB ?_);simp only[hH0];refine vn ?_;simp only[wq.1,seval,aG,Tryz.results37,t0,t2,t4,t7,t22,t23,t24,hd,hgp];refine⟨⟨by omega,by omega⟩,?_⟩;refine vn ?_;simp only[wq.1,seval,-Int.reduceNatCast,-Int.reduceNatCast',aG,Tryz.results37,t0,t2,t4,t7,t22,t23,t24,hd,hgp,w1,w2];refine⟨by decide +kernel,by decide,?_⟩;refine Aq.mk hx rfl (dU _) ?_;simp only[wq.1,seval,-Int.reduceNatCast,-Int.reduceNatCast',aG,Tryz.results37,t0,t2,t4,t7,t22,t23,t24,hd,hgp,w1,w2];refine⟨by decide,?_⟩;refine Aq.mk hy rfl (dU _) ?_;simp only[wq.1,seval,aG,Tryz.results37,t0,t2,t4,t7,t22,t23,t24,hd,hgp,w1,w2];refine vm ?_;simp only[wq.1,↓reduceIte,Nat.reduceEqDiff,Nat.reduceLT,t0,t2,t4,t7,t22,t23,t24,hd,w3,w4,hel,dos];refine⟨⟨rfl,by decide⟩,⟨rfl,by decide⟩,⟨rfl,by decide⟩,⟨by omega,by omega,by omega⟩,?_⟩;refine lF (HLe.set (i:=2) (o':=aw ((AC i++[[x,-y],[-x,y]]).map λc=>az c)) rfl (OLe.cells (by simp) (by rw[zqh (by simp),zql];exact Kr (fD.cons VLe.exact (fD.cons VLe.exact fD.nil)) _))) ?_;refine vm ?_;simp only[wq.1,seval,t24,hw];exact .inl ⟨q-1,by omega,i+1,[aw [vi p1,vi p2]],by omega,by simp only[wq.1,seval,t0],by simp only[wq.1,seval,t2],by simp only[wq.1,seval,t4],by simp only[wq.1,seval];rw[hsu];simp,by simp only[wq.1,seval,t22],by simp only[wq.1,seval,t23],rfl,hd,by simp only[wq.1,Nat.reduceBEq,hk0],by rw[hsu,zql];rfl⟩
 ·simp only[zqd,zqi]at hlt;have:i=aa pr:=by omega
  subst this;refine vm ?_;simp only[wq.1];show awp _ _ _ _ _ _ _;obtain⟨L,hL⟩:∃L,L=AC (aa pr):=⟨_,rfl⟩;have hLe:YX g cl rows pr k=L++[g.outs.map λa=>lY rows ((k:Int)-1) a]:=by rw[hL,hAC,zrx];rfl
  rw[<-hL]at t7 hal hel dos ⊢;rw[hLe];obtain⟨C,hC⟩:∃C,C=g.outs.map λa=>lY rows ((k:Int)-1) a:=⟨_,rfl⟩;rw[<-hC];have hCl:aa C=aa g.outs:=by rw[hC,zra]
  refine vn ?_;simp only[wq.1,Nat.reduceLT];refine iF 12 1 (rfl) ?_;rw[bl];refine ak ?_;simp only[hH0];refine vn ?_;simp only[wq.1,seval,t0,hd];refine aB ?_;refine aA (λq f h=>∃(i:Nat),q+i=aa g.outs/\f.t 2=vi k/\f.t 4= .lp 1 0/\f.t 7= .ls 2 1 0 (aa L) (aa L)/\f.t 12= .ls 3 1 0 i i/\f.t 55=az g.outs/\f.t 56=vi (aa g.outs)/\f.t 57=vi i/\f.d=[]/\f.k 0=am/\h=H0 L++[aw ((C.take i).map vi)]) (aa g.outs) ⟨0,by omega,t2,t4,t7,rfl,rfl,rfl,rfl,rfl,hk0,by rw[hH0];rfl⟩ ?_;clear t0 t2 t4 t7 t22 t23 t24 hd hk0 f;rintro z f h ⟨i,hz,t2,t4,t7,t12,t55,t56,t57,hd,hk0,rfl⟩;simp only[hH0];have htl:aa ((C.take i).map vi)=i*1:=by simp;omega
  have htm:min i (aa C)=i:=by omega
  have dmr:∀p,aE p ((C.take i).map vi)=(C.take i).map vi:=λp=>aN _;have dmL:∀p,aE p (L.map λc=>az c)=L.map λc=>az c:=λp=>nJ _;refine vn ?_;simp only[wq.1,Nat.reduceLT,t56,t57];refine ak (aX (b:=aM ((i:Int)<aa g.outs)) (by simp only[wq.1,↓reduceIte]) (by simp only[wq.1,↓reduceIte]) (λhlt=> ?_) (λhlt=> ?_))
  ·simp only[zqb,zqi]at hlt;have hw:=ax (show i<maxLen by omega);have hgo:(g.outs.map vi).getD i .any=vi g.outs[i]:=sU hlt _;have hlit:=DK n cl rows ((k:Int)-1) g.outs[i] hrb (ho _ (zqu hlt)) hrl;have hsu:C.take (i+1)=C.take i++[lY rows ((k:Int)-1) g.outs[i]]:=by
    rw[hC,zrg,zqo,zqk hlt];rfl
   have w5:a5 .i64 ((k:Int)-1)=(k:Int)-1:=fM (by omega) (by omega);generalize lY rows ((k:Int)-1) g.outs[i]=v at hlit hsu;refine vm ?_;simp only[wq.1];refine ak (aB ?_);refine vn ?_;simp only[wq.1,seval,t55,t57,hgo];refine⟨⟨by omega,by omega⟩,?_⟩;refine vm ?_;simp only[wq.1,↓reduceIte,Nat.reduceEqDiff,Nat.reduceLT,Nat.reduceAdd,reduceCtorEq,t2,t4,t12,w5];refine ag.ev hlit (by simp only[a7,a6,fZ,zre]) ?_;simp only[wq.1,↓reduceIte,Nat.reduceEqDiff,Nat.reduceLT,reduceCtorEq,Nat.reduceMul,hd,dmr,dmL];refine⟨⟨rfl,by decide⟩,⟨by simp;omega,by omega,by omega⟩,?_⟩;refine vm ?_;simp only[wq.1,seval,t57,hw];exact .inl ⟨z-1,by omega,i+1,by omega,by simp only[wq.1,seval,t2],by simp only[wq.1,seval,t4],by simp only[wq.1,seval,t7],rfl,by simp only[wq.1,seval,t55],by simp only[wq.1,seval,t56],rfl,hd,by simp only[wq.1,Nat.reduceBEq,hk0],by rw[hsu,zql];rfl⟩
  ·simp only[zqd,zqi]at hlt;have:i=aa g.outs:=by omega
   subst this;rw[zqh (by omega)];refine vm ?_;simp only[wq.1];show awp _ _ _ _ _ _ _;refine uf 3 12 (az C) (by simp only[wq.1,seval,t12]) ?_ (by simp only[wq.1,hd]) ?_
   ·simp only[wq.1,↓reduceIte,Nat.reduceEqDiff,t12];refine aH.ls (cs:=C.map vi) ?_ (aj.dat (jP _)) (Jj _) (Dk _) (by simp;omega);show ar (aw (aE _ _))=_;rw[aN]
   have hhp:rq (λx=>x==3) 0 [aw (aqC g beg pr left),aw [vi n,cls cl,cls rows],aw (L.map λc=>az c),aw (C.map vi)]=[aw (aqC g beg pr left),aw [vi n,cls cl,cls rows],aw (L.map λc=>az c),.dead]:=by show [aw (aE _ _),aw (aE _ _),aw (aE _ _),_]=_;rw[nJ];rfl
   rw[hhp];refine vn ?_;simp only[wq.1,↓reduceIte,Nat.reduceEqDiff,Nat.reduceLT,Nat.reduceBEq,reduceCtorEq,Nat.reduceMul,t7,hd,dos];refine⟨⟨rfl,by decide⟩,⟨by omega,by omega,by omega⟩,?_⟩;refine EM (h0:=[aw (aqC g beg pr left)]) (Y:=[aw [vi n,cls cl,cls rows],aw ((L.map λc=>az c)++[az C]),.dead]) 6 (cls (L++[C])) (λj hj=>by cases hj) ?_ ?_ ?_
   ·rfl
   ·refine aH.ls (cs:=(L++[C]).map λc=>az c) ?_ (aj.dat (ul _)) (H8 _) (Dl _) (by simp);rw[<-List.map_singleton (f:=λc=>az c),<-zql];show ar (aw (aE _ _))=_;rw[nJ]
   refine vm ?_;simp only[wq.1,↓reduceIte];intro j hj;rcases Nat.eq_zero_or_pos j with rfl|h
   ·simp[hk0,aQ]at hj
   ·simp;omega
variable{vals:List Bool}
theorem Y7{a:Int}(h:inU (aa vals) a):(vals.getD (max a (-a)-1).toNat am==aM (0<a))=hol vals a:=by
 obtain⟨h0,h1,h2⟩:=h;unfold hol;by_cases hp:0<a
 ·rw[if_neg (by omega),show max a (-a)-1=a-1 by omega,decide_eq_true hp];cases vals.getD (a-1).toNat am<;>rfl
 ·rw[if_pos (by omega),show max a (-a)-1=-a-1 by omega,decide_eq_false hp];cases vals.getD (-a-1).toNat am<;>rfl
theorem mxI(a b:Int):yh [vi a,vi b]=(True,vi (max a b)):=by
 simp only[yh];split
 ·rw[show max a b=b by omega]
 ·rw[show max a b=a by omega]
structure RowsOk(rows:List Cl):Prop where
 b:∀r∈rows,∀x∈r,-1000000<=x/\x<=1000000
 l:aa rows<=1000
theorem Kt(n:Int)(cl rows:List Cl)(vals:List Bool)(t a:Int)(u:RowsOk rows)(ha:a<=1000000)(hin:inU (aa vals) (lY rows t a)):Ev TE 38 [vi t,vi a,.ip (uV n cl rows),.ip (aI vals)] (.bool (hol vals (lY rows t a))):=by
 have hM:=mLx;have hl:=DK n cl rows t a u.b ha u.l;have hbd:=IK u.b t a;have dU:a7 [V.agg [vi n,cls cl,cls rows],vi t,vi a]=ab:=by simp only[a7,a6,(fZ _),zre]
 obtain⟨c,hc⟩:∃c,c=lY rows t a:=⟨_,rfl⟩;rw[<-hc]at hl hbd hin ⊢;obtain⟨p,hp⟩:∃p:Nat,max c (-c)-1=p:=⟨(max c (-c)-1).toNat,by have:=hin.1;omega⟩;have hpl:p<aa vals:=by have:=hin;unfold inU at this;omega
 have hw0:a5 .i64 (0-c)=-c:=by rw[Int.zero_sub];exact fM (by omega) (by omega)
 have hw2:a5 .i64 (max c (-c)-1)=p:=by rw[hp];exact fM (by omega) (by omega)
 have hgv:(vals.map V.bool).getD p .any= .bool vals[p]:=GZ hpl _;have hhol:(vals[p]==aM (0<c))=hol vals c:=by rw[<-Y7 hin,hp,zsg,zqg,zqk hpl];rfl
 refine aC Tryz.func38 rfl (by simp[nts]) (vm ?_);simp only[wq.1,seval,Tryz.results38];refine ag.ev hl dU ?_;simp only[wq.1,seval,hw0,hw2,hgv,hhol,mxI];exact⟨⟨by omega,by omega⟩,aH.dat rfl⟩
theorem Yh(n:Int)(cl rows:List Cl)(vals:List Bool)(s a:Int)(u:RowsOk rows)(hs:0<=s/\s<=1000)(ha:a<=1000000)(hin:inU (aa vals) (lY rows (s-1) a)) :
 Ev TE 41 [vi a,.ip (.fn (.func 38) [] [.ip (uV n cl rows),.ip (aI vals)]),.ip (vi s)] (.bool (hol vals (lY rows (s-1) a))):=by
 have hM:=mLx;have hl:=Kt n cl rows vals (s-1) a u ha hin;have w:a5 .i64 (s-1)=s-1:=fM (by omega) (by omega);refine aC Tryz.func41 rfl (by simp[nts]) (vm ?_);simp only[wq.1,seval,Tryz.results41,w];refine ag.ev hl (by simp only[a7,a6,fZ,lK,zre]) ?_;simp only[wq.1,seval];exact aH.dat rfl
structure DF(a b:Mo)(g:Gr)(rows:List Cl)(vals:List Bool)(s:Nat):Prop where
 u:RowsOk rows
 sl:s<=1000
 rl:aa rows=s+1
 i:aa a.ins<=4000
 x:aa a.lat<=4000
 y:aa b.lat<=4000
 h:∀(t:Nat)(x:Int),t<s->0<=x->x<2*(1+(aa a.ins:Int)+(aa a.lat:Int)+(aa b.lat:Int))->inU (aa vals) (lY rows t x)
 o:∀l∈g.outs,inU (aa vals) (lY rows ((s:Int)-1) l)/\l<=1000000
 ol:aa g.outs<=1000000
abbrev hDf(aq:List V)(a b:Mo)(n:Int)(cl rows:List Cl)(vals:List Bool)(s:Int)(A B:List Bool)(S:List (List Bool)):H :=
 [aw aq,aw (cCM a),aw (cCM b),aw [vi n,cls cl,cls rows],aw [aI vals],aw [vi 0,vi 0,.nils,.nils,.nils,vi 0],aw [vi s],aw [.fn (.func 38) [] [.lp 3 0,.lp 4 0]],
  aw [vi 1,vi 0,.ls 9 1 0 (aa A) (aa A),.ls 10 1 0 (aa B) (aa B),.ls 11 1 0 (aa S) (aa S),vi 0],aw (A.map V.bool),aw (B.map V.bool),aw (S.map λl=>aI l)]
def Nj(R:List Cl)(vals:List Bool)(t i:Nat):List Bool:=(List.range i).map λi:Nat=>hol vals (lY R t (2*(1+(i:Int))))
variable{R:List Cl}
theorem QK{t:Nat}:Nj R vals t (i+1)=Nj R vals t i++[hol vals (lY R t (2*(1+(i:Int))))]:=by unfold Nj;rw[List.range_succ,zql];rfl
theorem D7{t:Nat}:aa (Nj R vals t i)=i:=by unfold Nj;simp
variable{ni:Nat}
theorem QL{k:Nat}:Qv R ni (k+1) vals=Qv R ni k vals++[Nj R vals k ni]:=by unfold Qv;rw[List.range_succ,zql];rfl
theorem Ku{k:Nat}:aa (Qv R ni k vals)=k:=by unfold Qv;simp
theorem D8{p:Nat->Bool}:∀l:List (List Bool),aE p (l.map λc=>aI c)=l.map λc=>aI c
 |[]=>rfl
 |a::l=>by show V.drop p (aI a)::aE p (l.map λc=>aI c)=_;rw[D8 l];rfl
theorem U7:∀l:List (List Bool),fH 1 (l.map λc=>aI c)=ab
 |[]=>rfl
 |a::l=>by simp only[zrd,fH,U7 l,V.fit,V.vc,zrk];rfl
theorem QM:∀l:List (List Bool),(l.map λc=>aI c).flatMap V.vc=l.map λc=>aI c
 |[]=>rfl
 |a::l=>by simp only[zrd,List.flatMap_cons,V.vc,QM l];rfl
def qC(a b:Mo)(g:Gr)(rows:List Cl)(vals:List Bool)(s:Nat):An :=
 ⟨1,idx g.outs (λl=>hol vals (lY rows ((s:Int)-1) l)),Eb rows (1+(aa a.ins:Int)) (aa a.lat) vals,Eb rows (1+(aa a.ins:Int)+(aa a.lat:Int)) (aa b.lat) vals,Qv rows (aa a.ins) s vals,0⟩
variable{a b:Mo}{g:Gr}{beg:Cl}{pr:List Pq}{left n:Int}{cl:List Cl}{s:Nat}
theorem Uh(D:DF a b g rows vals s){f:Fr}
 (t0:f.t 0= .lp 0 0) (t6:f.t 6= .lp 1 0) (t10:f.t 10= .lp 5 0) (t11:f.t 11= .lp 6 0) (t12:f.t 12= .lp 7 0) (t13:f.t 13= .lp 8 0) (hd:f.d=[]) (hk0:f.k 0=am)
 {A B:List Bool} (hA:A=Eb rows (1+(aa a.ins:Int)) (aa a.lat) vals) (hB:B=Eb rows (1+(aa a.ins:Int)+(aa a.lat:Int)) (aa b.lat) vals) :
 awp TE 107 aL (Ac 7 (rJ Tryz.f17)) (wJ P [ResultVar.cell 10 34] λae h' p=>(∀i,p i=ab->aM (1<=i)=ab)/\ae= .ret (qC a b g rows vals s).v/\h'[0]? =ar (aw (aqC g beg pr left))) f (hDf (aqC g beg pr left) a b n cl rows vals s A B []):=by
 have hM:=mLx;have du:=D.u;have ds:=D.sl;have di:=D.i;have dx:=D.x;have dy:=D.y;simp only[Ac,rJ,Tryz.f17];refine ak ?_;refine vn ?_;simp only[wq.1,Nat.reduceLT,t11];refine aB ?_;have dA:∀p,aE p (A.map V.bool)=A.map V.bool:=λp=>eU _;have dB:∀p,aE p (B.map V.bool)=B.map V.bool:=λp=>eU _;refine aA (λq f h=>∃(t:Nat)(X:H),q+t=s/\f.t 0= .lp 0 0/\f.t 6= .lp 1 0/\f.t 10= .lp 5 0/\f.t 11= .lp 6 0/\f.t 12= .lp 7 0/\f.t 13= .lp 8 0/\f.t 70=vi s/\f.t 71=vi t/\f.d=[]/\f.k 0=am/\h=hDf (aqC g beg pr left) a b n cl rows vals s A B (Qv rows (aa a.ins) t vals)++X) s ⟨0,[],by omega,t0,t6,t10,t11,t12,t13,rfl,rfl,hd,hk0,rfl⟩ ?_;clear t0 t6 t10 t11 t12 t13 hd hk0 f;rintro q f h ⟨t,X,hq,t0,t6,t10,t11,t12,t13,t70,t71,hd,hk0,rfl⟩;obtain⟨S,hS⟩:∃S,S=Qv rows (aa a.ins) t vals:=⟨_,rfl⟩;have hSl:aa S=t:=by rw[hS,Ku]
 rw[<-hS];have dS:∀p,aE p (S.map λl=>aI l)=S.map λl=>aI l:=λp=>D8 _;have hcl0:(hDf (aqC g beg pr left) a b n cl rows vals s A B S).map (O.drop (aQ (aa (hDf (aqC g beg pr left) a b n cl rows vals s A B S))))=hDf (aqC g beg pr left) a b n cl rows vals s A B S:=by
  simp only[hDf,zrd,List.map_nil,aZ,aE,V.drop,dA,dB,dS];rfl
 refine fU (by rw[hd];simp) ?_;rw[hcl0];refine iL (λf=>f.t 0= .lp 0 0/\f.t 6= .lp 1 0/\f.t 10= .lp 5 0/\f.t 11= .lp 6 0/\f.t 12= .lp 7 0/\f.t 13= .lp 8 0/\f.t 70=vi s/\f.t 71=vi t/\f.d=[]/\f.k 0=am) (hDf (aqC g beg pr left) a b n cl rows vals s A B S) (λhk=>hk _ ⟨by simp only[wq.1,seval,t0,aQ],by simp only[wq.1,seval,t6,aQ],by simp only[wq.1,seval,t10,aQ],by simp only[wq.1,seval,t11,aQ],by simp only[wq.1,seval,t12,aQ],by simp only[wq.1,seval,t13,aQ],by simp only[wq.1,Nat.reduceAdd,t70],by simp only[wq.1,Nat.reduceAdd,t71],hd,by simp only[wq.1,seval,hk0,aQ]⟩) ?_;clear t0 t6 t10 t11 t12 t13 t70 t71 hd hk0 f X hcl0;rintro f ⟨t0,t6,t10,t11,t12,t13,t70,t71,hd,hk0⟩;refine vn ?_;simp only[wq.1,Nat.reduceLT,t70,t71];refine ak (aX (b:=aM ((t:Int)<s)) (by simp only[wq.1,↓reduceIte]) (by simp only[wq.1,↓reduceIte]) (λhlt=> ?_) (λhlt=> ?_))
 ·simp only[zqb,zqi]at hlt;have hw:=ax (show t<maxLen by omega);have hsu:Qv rows (aa a.ins) (t+1) vals=S++[Nj rows vals t (aa a.ins)]:=by rw[QL,hS]
  refine vm ?_;simp only[wq.1];refine ak (aB ?_);refine vn ?_;simp only[wq.1,seval,t71];refine vn ?_;simp only[wq.1,Nat.reduceLT];refine iF 18 1 (rfl) ?_;refine ak ?_;refine vn ?_;simp only[wq.1,seval,t6,hd];refine aB ?_;refine aA (λz f h=>∃i,z+i=aa a.ins/\f.t 0= .lp 0 0/\f.t 6= .lp 1 0/\f.t 10= .lp 5 0/\f.t 11= .lp 6 0/\f.t 12= .lp 7 0/\f.t 13= .lp 8 0/\f.t 17=vi t/\f.t 18= .ls 12 1 0 i i/\f.t 70=vi s/\f.t 71=vi t/\f.t 76=vi (aa a.ins)/\f.t 77=vi i/\f.d=[]/\f.k 0=am/\h=hDf (aqC g beg pr left) a b n cl rows vals s A B S++[aw ((Nj rows vals t i).map V.bool)]) (aa a.ins) ⟨0,by omega,t0,t6,t10,t11,t12,t13,rfl,rfl,t70,t71,rfl,by simp only[wq.1,↓reduceIte];rfl,by simp only[wq.1],by simp only[wq.1,hk0],rfl⟩ ?_;clear t0 t6 t10 t11 t12 t13 t70 t71 hd hk0 f;rintro z f h ⟨i,hz,t0,t6,t10,t11,t12,t13,t17,t18,t70,t71,t76,t77,hd,hk0,rfl⟩;have htl:aa ((Nj rows vals t i).map V.bool)=i*1:=by rw[zra,D7];omega
  have dmr:∀p,aE p ((Nj rows vals t i).map V.bool)=(Nj rows vals t i).map V.bool:=λp=>eU _;refine vn ?_;simp only[wq.1,Nat.reduceLT,t76,t77];refine ak (aX (b:=aM ((i:Int)<aa a.ins)) (by simp only[wq.1,↓reduceIte]) (by simp only[wq.1,↓reduceIte]) (λhl2=> ?_) (λhl2=> ?_))
  ·simp only[zqb,zqi]at hl2;have hw2:=ax (show i<maxLen by omega);have hi:=D.h t (2*(1+(i:Int))) hlt (by omega) (by omega);have hv:=Kt n cl rows vals t (2*(1+(i:Int))) du (by omega) hi;have hsd:=QK (R:=rows) (vals:=vals) (t:=t) (i:=i);generalize hol vals (lY rows t (2*(1+(i:Int))))=v at hv hsd;have w1:a5 .i64 (1+(i:Int))=1+(i:Int):=fM (by omega) (by omega);have w2:a5 .i64 (2*(1+(i:Int)))=2*(1+(i:Int)):=fM (by omega) (by omega);have rr:∀Y:H,aj TE (hDf (aqC g beg pr left) a b n cl rows vals s A B S++Y) [vi t,vi (2*(1+(i:Int))),.lp 3 0,.lp 4 0] [vi t,vi (2*(1+(i:Int))),.ip (uV n cl rows),.ip (aI vals)]:=λY =>
    aj.cons (aH.dat rfl) (aj.cons (aH.dat rfl) (aj.cons (aH.lp rfl (aj.dat (by simp only[a7,a6,fZ,zre])) rfl (by simp only[a6,a7,fZ,zre]) (by simp[V.vc]) rfl) (aj.cons (aH.lp rfl (aj.dat (by simp only[a7,a6,lK,zre])) rfl (by simp only[a6,a7,lK,zre]) (by simp[V.vc]) rfl) aj.nil)))
   refine vm ?_;simp only[wq.1];refine ak (aB ?_);refine vn ?_;simp only[wq.1,seval,t77];refine vm ?_;simp only[wq.1,↓reduceIte,Nat.reduceEqDiff,Nat.reduceLT,t12,t17,t18,w1,w2];refine ag.lend hv (rr [aw ((Nj rows vals t i).map V.bool)]) rfl ?_;simp only[wq.1,↓reduceIte,Nat.reduceEqDiff,Nat.reduceLT,Nat.reduceBEq,reduceCtorEq,Nat.reduceMul,hd,dmr,dA,dB,dS];refine⟨⟨rfl,by decide⟩,⟨by rw[D7];omega,by omega,by omega⟩,?_⟩;refine vm ?_;simp only[wq.1,seval,t77,hw2];exact .inl ⟨z-1,by omega,i+1,by omega,by simp only[wq.1,seval,t0],by simp only[wq.1,seval,t6],by simp only[wq.1,seval,t10],by simp only[wq.1,seval,t11],by simp only[wq.1,seval,t12],by simp only[wq.1,seval,t13],by simp only[wq.1,seval,t17],by simp only[wq.1,seval],by simp only[wq.1,seval,t70],by simp only[wq.1,seval,t71],by simp only[wq.1,seval,t76],by simp only[wq.1,↓reduceIte],by simp only[wq.1,hd],by simp only[wq.1,Nat.reduceBEq,hk0],by rw[hsd,zql];rfl⟩
  ·simp only[zqd,zqi]at hl2;have:i=aa a.ins:=by omega
   subst this;refine vm ?_;simp only[wq.1];show awp _ _ _ _ _ _ _;obtain⟨row,hrow⟩:∃row,row=Nj rows vals t (aa a.ins):=⟨_,rfl⟩;have hrl:aa row=aa a.ins:=by rw[hrow,D7]
   rw[<-hrow]at hsu ⊢;refine uf 12 18 (aI row) (by simp only[wq.1,seval,t18]) ?_ (by simp only[wq.1,hd]) ?_
   ·simp only[wq.1,seval,t18];refine fG ?_ hrl.symm;show ar (aw (aE _ _))=_;rw[eU]
   have hhp:rq (λx=>x==12) 0 (hDf (aqC g beg pr left) a b n cl rows vals s A B S++[aw (row.map V.bool)])=hDf (aqC g beg pr left) a b n cl rows vals s A B S++[.dead]:=by simp only[hDf,List.cons_append,List.nil_append,rq,aZ,aE,V.drop,dA,dB,dS];rfl
   have hel:aa (S.map λl=>aI l)=aa S*1:=by rw[zra];omega
   simp only[hDf,List.cons_append,List.nil_append]at hhp;rw[hhp];refine iL (λf=>f.t 0= .lp 0 0/\f.t 6= .lp 1 0/\f.t 10= .lp 5 0/\f.t 11= .lp 6 0/\f.t 12= .lp 7 0/\f.t 13= .lp 8 0/\f.t 18=aI row/\f.t 70=vi s/\f.t 71=vi t/\f.d=[]/\f.k 0=am) (hDf (aqC g beg pr left) a b n cl rows vals s A B S++[.dead]) (λhk=>hk _ ⟨by simp only[wq.1,seval,t0],by simp only[wq.1,seval,t6],by simp only[wq.1,seval,t10],by simp only[wq.1,seval,t11],by simp only[wq.1,seval,t12],by simp only[wq.1,seval,t13],by simp only[wq.1,↓reduceIte],by simp only[wq.1,seval,t70],by simp only[wq.1,seval,t71],by simp only[wq.1,hd],by simp only[wq.1,Nat.reduceBEq,hk0]⟩) ?_;clear hhp;clear t0 t6 t10 t11 t12 t13 t17 t18 t70 t71 t76 t77 hd hk0 f;rintro f ⟨t0,t6,t10,t11,t12,t13,t18,t70,t71,hd,hk0⟩;refine vm ?_;simp only[wq.1,↓reduceIte,Nat.reduceEqDiff,Nat.reduceLT,Nat.reduceLeDiff,Nat.reduceAdd,Nat.reduceBEq,reduceCtorEq,Nat.reduceMul,t13,t18,hd,dA,dB,dS];refine⟨⟨rfl,by decide⟩,⟨by omega,by omega,by omega⟩,?_⟩;refine vm ?_;simp only[wq.1,seval,t71,hw];exact .inl ⟨q-1,by omega,t+1,[.dead],by omega,by simp only[wq.1,seval,t0],by simp only[wq.1,seval,t6],by simp only[wq.1,seval,t10],by simp only[wq.1,seval,t11],by simp only[wq.1,seval,t12],by simp only[wq.1,seval,t13],by simp only[wq.1,seval,t70],rfl,hd,by simp only[wq.1,Nat.reduceBEq,hk0],by rw[hsu,zqa,zql];rfl⟩
 ·simp only[zqd,zqi]at hlt;have:t=s:=by omega
  subst this;refine vm ?_;simp only[wq.1];show awp _ _ _ _ _ _ _;have hix:=UR g.outs 41 [.ip (.fn (.func 38) [] [.ip (uV n cl rows),.ip (aI vals)]),.ip (vi t)] (λl=>hol vals (lY rows ((t:Int)-1) l)) (by decide +kernel) (by simp only[a7,a6,fZ,lK,zre]) (λl hl=>Yh n cl rows vals t l du ⟨by omega,by omega⟩ (D.o l hl).2 (D.o l hl).1);have hixb:idx g.outs (λl=>hol vals (lY rows ((t:Int)-1) l))=(qC a b g rows vals t).out:=rfl;rw[hixb]at hix;refine vn ?_;simp only[wq.1,seval,t0,t11,t12];refine ag.lend hix ?_ rfl ?_
  ·refine aj.cons (aH.dat rfl) (aj.cons (aH.fn aj.nil (aj.cons (aH.lp (cs:=[.fn (.func 38) [] [.lp 3 0,.lp 4 0]]) rfl (aj.cons (aH.fn aj.nil (aj.cons (aH.lp rfl (aj.dat (by simp only[a7,a6,fZ,zre])) rfl (by simp only[a6,a7,fZ,zre]) (by simp[V.vc]) rfl) (aj.cons (aH.lp rfl (aj.dat (by simp only[a7,a6,lK,zre])) rfl (by simp only[a6,a7,lK,zre]) (by simp[V.vc]) rfl) aj.nil))) aj.nil) rfl (by simp only[a6,a7,fZ,lK,zre]) (by simp[V.vc]) rfl) (aj.cons (aH.lp rfl (aj.dat rfl) rfl rfl (by simp[V.vc]) rfl) aj.nil))) aj.nil)
  simp only[wq.1,seval,t13];refine uh (h0:=[aw (aqC g beg pr left),aw (cCM a),aw (cCM b),aw [vi n,cls cl,cls rows],aw [aI vals],aw [vi 0,vi 0,.nils,.nils,.nils,vi 0],aw [vi t],aw [.fn (.func 38) [] [.lp 3 0,.lp 4 0]],
   aw [vi 1,vi (qC a b g rows vals t).out,.ls 9 1 0 (aa A) (aa A),.ls 10 1 0 (aa B) (aa B),.ls 11 1 0 (aa S) (aa S),vi 0]]) (Y:=[aw (A.map V.bool),aw (B.map V.bool),aw (S.map λl=>aI l)]) 8 _ [vi 1,vi (qC a b g rows vals t).out,aI A,aI B,rwB S,vi 0] rfl ?_ ?_ (λi hi=>by have hi:i∈f.d:=hi;rw[hd]at hi;cases hi) ?_
  ·intro i o ho hne;rcases i with _|_|_|_|_|_|_|_|_|i
   ·obtain rfl:=Option.some.inj ho;rfl
   ·obtain rfl:=Option.some.inj ho;rfl
   ·obtain rfl:=Option.some.inj ho;rfl
   ·obtain rfl:=Option.some.inj ho;rfl
   ·obtain rfl:=Option.some.inj ho;rfl
   ·obtain rfl:=Option.some.inj ho;rfl
   ·obtain rfl:=Option.some.inj ho;rfl
   ·obtain rfl:=Option.some.inj ho;rfl
   ·exact absurd rfl hne
   ·simp at ho
  ·refine⟨.inl rfl,.inl rfl,.inr ⟨rfl,fG ?_ rfl⟩,.inr ⟨rfl,fG ?_ rfl⟩,.inr ⟨rfl,aH.ls (cs:=S.map λl=>aI l) ?_ (aj.dat (rM _)) (U7 _) (QM _) (by simp)⟩,.inl rfl,trivial⟩
   ·show ar (aw (aE _ _))=_;rw[eU]
   ·show ar (aw (aE _ _))=_;rw[eU]
   ·show ar (aw (aE _ _))=_;rw[D8]
  ·show awp _ _ _ _ _ _ _;refine vn ?_;simp only[wq.1,seval,t10,t13,hd,aQ];refine vm ?_;simp only[wq.1,seval,t10,aQ];refine⟨λi hi=> ?_,by rw[hA,hB,hS];rfl⟩;rcases Nat.eq_zero_or_pos i with rfl|h
   ·simp[hk0]at hi
   ·simp;omega
theorem Gx{f:Int}{n:Nat}:Eb R f (n+1) vals=Eb R f n vals++[hol vals (lY R 0 (2*(f+(n:Int))))]:=by unfold Eb;rw[List.range_succ,zql];rfl
theorem D9{f:Int}{n:Nat}:aa (Eb R f n vals)=n:=by unfold Eb;simp
theorem U8{aq:List V}{s:Int}{A B:List Bool}{S:List (List Bool)}(Y:H)(t x:Int) :
 aj TE (hDf aq a b n cl rows vals s A B S++Y) [vi t,vi x,.lp 3 0,.lp 4 0] [vi t,vi x,.ip (uV n cl rows),.ip (aI vals)] :=
 aj.cons (aH.dat rfl) (aj.cons (aH.dat rfl) (aj.cons (aH.lp rfl (aj.dat (by simp only[a7,a6,fZ,zre])) rfl (by simp only[a6,a7,fZ,zre]) (by simp[V.vc]) rfl) (aj.cons (aH.lp rfl (aj.dat (by simp only[a7,a6,lK,zre])) rfl (by simp only[a6,a7,lK,zre]) (by simp[V.vc]) rfl) aj.nil)))
theorem Ui(D:DF a b g rows vals s)(hs0:0<s){f:Fr}
 (t0:f.t 0= .lp 0 0) (t6:f.t 6= .lp 1 0) (t7:f.t 7= .lp 2 0) (t10:f.t 10= .lp 5 0) (t11:f.t 11= .lp 6 0) (t12:f.t 12= .lp 7 0) (t13:f.t 13= .lp 8 0) (t14:f.t 14=vi (1+(aa a.ins:Int))) (hd:f.d=[]) (hk0:f.k 0=am)
 {A:List Bool} (hA:A=Eb rows (1+(aa a.ins:Int)) (aa a.lat) vals) :
 awp TE 107 aL (Ac 6 (rJ Tryz.f17)) (wJ P [ResultVar.cell 10 34] λae h' p=>(∀i,p i=ab->aM (1<=i)=ab)/\ae= .ret (qC a b g rows vals s).v/\h'[0]? =ar (aw (aqC g beg pr left))) f (hDf (aqC g beg pr left) a b n cl rows vals s A [] []):=by
 have hM:=mLx;have du:=D.u;have ds:=D.sl;have di:=D.i;have dx:=D.x;have dy:=D.y;simp only[Ac,rJ,Tryz.f17];refine ak ?_;refine vn ?_;simp only[wq.1,seval,t7];have dA:∀p,aE p (A.map V.bool)=A.map V.bool:=λp=>eU _;have hAl:aa A=aa a.lat:=by rw[hA,D9]
 refine aB ?_;refine aA (λq f h=>∃i,q+i=aa b.lat/\f.t 0= .lp 0 0/\f.t 6= .lp 1 0/\f.t 7= .lp 2 0/\f.t 10= .lp 5 0/\f.t 11= .lp 6 0/\f.t 12= .lp 7 0/\f.t 13= .lp 8 0/\f.t 14=vi (1+(aa a.ins:Int))/\f.t 50=vi (aa b.lat)/\f.t 51=vi i/\f.d=[]/\f.k 0=am/\h=hDf (aqC g beg pr left) a b n cl rows vals s A (Eb rows (1+(aa a.ins:Int)+(aa a.lat:Int)) i vals) []) (aa b.lat) ⟨0,by omega,t0,t6,t7,t10,t11,t12,t13,t14,rfl,rfl,hd,hk0,rfl⟩ ?_;clear t0 t6 t7 t10 t11 t12 t13 t14 hd hk0 f;rintro q f h ⟨i,hq,t0,t6,t7,t10,t11,t12,t13,t14,t50,t51,hd,hk0,rfl⟩;obtain⟨B,hB⟩:∃B,B=Eb rows (1+(aa a.ins:Int)+(aa a.lat:Int)) i vals:=⟨_,rfl⟩;have hBl:aa B=i:=by rw[hB,D9]
 rw[<-hB];have dB:∀p,aE p (B.map V.bool)=B.map V.bool:=λp=>eU _;have hel:aa (B.map V.bool)=aa B*1:=by rw[zra];omega
 refine vn ?_;simp only[wq.1,Nat.reduceLT,t50,t51];refine ak (aX (b:=aM ((i:Int)<aa b.lat)) (by simp only[wq.1,↓reduceIte]) (by simp only[wq.1,↓reduceIte]) (λhlt=> ?_) (λhlt=> ?_))
 ·simp only[zqb,zqi]at hlt;have hw:=ax (show i<maxLen by omega);have hi:=D.h 0 (2*(1+(aa a.ins:Int)+(aa a.lat:Int)+(i:Int))) hs0 (by omega) (by omega);have hv:=Kt n cl rows vals 0 (2*(1+(aa a.ins:Int)+(aa a.lat:Int)+(i:Int))) du (by omega) hi;have hsu:=Gx (R:=rows) (vals:=vals) (f:=1+(aa a.ins:Int)+(aa a.lat:Int)) (n:=i);rw[<-hB]at hsu;generalize hol vals (lY rows 0 (2*(1+(aa a.ins:Int)+(aa a.lat:Int)+(i:Int))))=v at hv hsu;have w1:a5 .i64 (1+(aa a.ins:Int)+(aa a.lat:Int))=1+(aa a.ins:Int)+(aa a.lat:Int):=fM (by omega) (by omega);have w2:a5 .i64 (1+(aa a.ins:Int)+(aa a.lat:Int)+(i:Int))=1+(aa a.ins:Int)+(aa a.lat:Int)+(i:Int):=fM (by omega) (by omega);have w3:a5 .i64 (2*(1+(aa a.ins:Int)+(aa a.lat:Int)+(i:Int)))=2*(1+(aa a.ins:Int)+(aa a.lat:Int)+(i:Int)):=fM (by omega) (by omega);refine vm ?_;simp only[wq.1];refine ak (aB ?_);refine vn ?_;simp only[wq.1,seval,t51];refine qf dV [0] [1,2,3,4,5,6,7,8,9,10,11,12] 13 (.one 13<| .take 14<| .one 15<| .fin) (λf' h'=>f'.t 0= .lp 0 0/\f'.t 6= .lp 1 0/\f'.t 7= .lp 2 0/\f'.t 10= .lp 5 0/\f'.t 11= .lp 6 0/\f'.t 12= .lp 7 0/\f'.t 13= .lp 8 0/\f'.t 14=vi (1+(aa a.ins:Int))/\f'.t 50=vi (aa b.lat)/\f'.t 51=vi i/\f'.d=[]/\f'.k 0=am/\h'=hDf (aqC g beg pr left) a b n cl rows vals s A (B++[v]) []) (by decide +kernel) ?_ ?_
  ·intro K hK;simp only[rY,List.filterMap_cons,List.filterMap_nil];simp only[wq.1,↓reduceIte,Nat.reduceEqDiff,Nat.reduceLT,Nat.reduceLeDiff,Nat.reduceAdd,reduceCtorEq,Nat.reduceMul,lI,gB,t6,t12,t13,t14,w1,w2,w3];refine AO.mk hv (by decide +kernel) (U8 [] 0 _) rfl ?_;simp only[wq.1,↓reduceIte];refine⟨⟨rfl,by decide⟩,hK _ _ ?_⟩;simp only[wq.1,seval,t0,t6,t7,t10,t11,t12,t13,t14,t50,t51,hd,dA,dB];refine⟨⟨by omega,by omega,by omega⟩,hk0,?_⟩;simp only[hDf,zql,zqa];rfl
  ·rintro f h ⟨t0,t6,t7,t10,t11,t12,t13,t14,t50,t51,hd,hk0,rfl⟩;show awp _ _ _ _ _ _ _;refine vm ?_;simp only[wq.1,seval,t51,hw];exact .inl ⟨q-1,by omega,i+1,by omega,t0,t6,t7,t10,t11,t12,t13,t14,t50,rfl,hd,hk0,by rw[hsu]⟩
 ·simp only[zqd,zqi]at hlt;have:i=aa b.lat:=by omega
  subst this;refine vm ?_;simp only[wq.1];show awp _ _ _ _ _ _ _;have key:=Uh D (beg:=beg) (pr:=pr) (left:=left) (n:=n) (cl:=cl) (f:=f.put (ar 52) (.bool (aM ((aa b.lat:Int)<aa b.lat)))) (t0) (t6) (t10) (t11) (t12) (t13) hd hk0 hA hB;simp only[Ac,rJ,Tryz.f17]at key;exact key
theorem Nk(D:DF a b g rows vals s)(hs0:0<s) :
 ag TE 17 [.lp 0 0,.agg (cCM a),.agg (cCM b),uV n cl rows,aI vals] [aw (aqC g beg pr left)] λae h' p=>ae= .ret (qC a b g rows vals s).v/\h'[0]? =ar (aw (aqC g beg pr left))/\p 0=am:=by
 refine ag.mono (ag.kp (R:=λae h' p=>(∀i,p i=ab->aM (1<=i)=ab)/\ae= .ret (qC a b g rows vals s).v/\h'[0]? =ar (aw (aqC g beg pr left))) (λi=>aM (1<=i)) ?_) (λae h' p ⟨h1,h2,h3⟩=>⟨h2,h3,?_⟩)
 rotate_left
 ·cases hp:p 0 with
  |false=>rfl
  |true=>have:=h1 0 hp;simp at this
 have hM:=mLx;have du:=D.u;have ds:=D.sl;have drl:=D.rl;have di:=D.i;have dx:=D.x;have dy:=D.y;have w0:a5 .i64 ((aa rows:Int)-1)=s:=by rw[drl,show((s+1:Nat):Int)-1=(s:Int) by omega];exact fM (by omega) (by omega)
 have w00:a5 .i64 (1+(aa a.ins:Int))=1+(aa a.ins:Int):=fM (by omega) (by omega);refine ah Tryz.func17 rfl (by simp[nts]) ?_;refine vn ?_;simp only[wq.1,seval,Tryz.results17];refine vn ?_;simp only[wq.1,seval,w0];refine vn ?_;simp only[wq.1,seval];refine vn ?_;simp only[wq.1,seval];refine vn ?_;simp only[wq.1,seval,w00];refine gz ?_;refine gz ?_;refine gz ?_;refine lF (h':=hDf (aqC g beg pr left) a b n cl rows vals s [] [] []) (HLe.set (i:=8) (o':=aw [vi 1,vi 0,.ls 9 1 0 0 0,.ls 10 1 0 0 0,.ls 11 1 0 0 0,vi 0]) rfl (OLe.cells (by simp) (fD.cons (VLe.refl _) (fD.cons (VLe.refl _) (fD.cons dH (fD.cons dH (fD.cons dH (fD.cons (VLe.refl _) fD.nil)))))))) ?_;refine ak ?_;refine vn ?_;simp only[wq.1,seval];refine aB ?_;refine aA (λq f h=>∃i,q+i=aa a.lat/\f.t 0= .lp 0 0/\f.t 6= .lp 1 0/\f.t 7= .lp 2 0/\f.t 10= .lp 5 0/\f.t 11= .lp 6 0/\f.t 12= .lp 7 0/\f.t 13= .lp 8 0/\f.t 14=vi (1+(aa a.ins:Int))/\f.t 32=vi (aa a.lat)/\f.t 33=vi i/\f.d=[]/\f.k 0=am/\h=hDf (aqC g beg pr left) a b n cl rows vals s (Eb rows (1+(aa a.ins:Int)) i vals) [] []) (aa a.lat) ⟨0,by omega,rfl,rfl,rfl,rfl,rfl,rfl,rfl,rfl,rfl,rfl,rfl,rfl,rfl⟩ ?_;rintro q f h ⟨i,hq,t0,t6,t7,t10,t11,t12,t13,t14,t32,t33,hd,hk0,rfl⟩;obtain⟨A,hA⟩:∃A,A=Eb rows (1+(aa a.ins:Int)) i vals:=⟨_,rfl⟩;have hAl:aa A=i:=by rw[hA,D9]
 rw[<-hA];have dA:∀p,aE p (A.map V.bool)=A.map V.bool:=λp=>eU _;have hel:aa (A.map V.bool)=aa A*1:=by rw[zra];omega
 refine vn ?_;simp only[wq.1,Nat.reduceLT,t32,t33];refine ak (aX (b:=aM ((i:Int)<aa a.lat)) (by simp only[wq.1,↓reduceIte]) (by simp only[wq.1,↓reduceIte]) (λhlt=> ?_) (λhlt=> ?_))
 ·simp only[zqb,zqi]at hlt;have hw:=ax (show i<maxLen by omega);have hi:=D.h 0 (2*(1+(aa a.ins:Int)+(i:Int))) hs0 (by omega) (by omega);have hv:=Kt n cl rows vals 0 (2*(1+(aa a.ins:Int)+(i:Int))) du (by omega) hi;have hsu:=Gx (R:=rows) (vals:=vals) (f:=1+(aa a.ins:Int)) (n:=i);rw[<-hA]at hsu;generalize hol vals (lY rows 0 (2*(1+(aa a.ins:Int)+(i:Int))))=v at hv hsu;have w2:a5 .i64 (1+(aa a.ins:Int)+(i:Int))=1+(aa a.ins:Int)+(i:Int):=fM (by omega) (by omega);have w3:a5 .i64 (2*(1+(aa a.ins:Int)+(i:Int)))=2*(1+(aa a.ins:Int)+(i:Int)):=fM (by omega) (by omega);refine vm ?_;simp only[wq.1];refine ak (aB ?_);refine vn ?_;simp only[wq.1,seval,t33];refine qf dV [0] [1,2,3,4,5,6,7,8] 9 (.one 9<| .take 10<| .one 11<| .fin) (λf' h'=>f'.t 0= .lp 0 0/\f'.t 6= .lp 1 0/\f'.t 7= .lp 2 0/\f'.t 10= .lp 5 0/\f'.t 11= .lp 6 0/\f'.t 12= .lp 7 0/\f'.t 13= .lp 8 0/\f'.t 14=vi (1+(aa a.ins:Int))/\f'.t 32=vi (aa a.lat)/\f'.t 33=vi i/\f'.d=[]/\f'.k 0=am/\h'=hDf (aqC g beg pr left) a b n cl rows vals s (A++[v]) [] []) (by decide +kernel) ?_ ?_
  ·intro K hK;simp only[rY,List.filterMap_cons,List.filterMap_nil];simp only[wq.1,↓reduceIte,Nat.reduceEqDiff,Nat.reduceLT,Nat.reduceLeDiff,Nat.reduceAdd,reduceCtorEq,Nat.reduceMul,lI,gB,t12,t13,t14,w2,w3];refine AO.mk hv (by decide +kernel) (U8 [] 0 _) rfl ?_;simp only[wq.1,↓reduceIte];refine⟨⟨rfl,by decide⟩,hK _ _ ?_⟩;simp only[wq.1,seval,t0,t6,t7,t10,t11,t12,t13,t14,t32,t33,hd,dA];refine⟨⟨by omega,by omega,by omega⟩,hk0,?_⟩;simp only[hDf,zql,zqa];rfl
  ·rintro f h ⟨t0,t6,t7,t10,t11,t12,t13,t14,t32,t33,hd,hk0,rfl⟩;show awp _ _ _ _ _ _ _;refine vm ?_;simp only[wq.1,seval,t33,hw];exact .inl ⟨q-1,by omega,i+1,by omega,t0,t6,t7,t10,t11,t12,t13,t14,t32,rfl,hd,hk0,by rw[hsu]⟩
 ·simp only[zqd,zqi]at hlt;have:i=aa a.lat:=by omega
  subst this;refine vm ?_;simp only[wq.1];show awp _ _ _ _ _ _ _;have key:=Ui D hs0 (beg:=beg) (pr:=pr) (left:=left) (n:=n) (cl:=cl) (f:=f.put (ar 34) (.bool (aM ((aa a.lat:Int)<aa a.lat)))) (t0) (t6) (t7) (t10) (t11) (t12) (t13) (t14) hd hk0 hA;simp only[Ac,rJ,Tryz.f17]at key;exact key
def QN(l:List Cl)(n bud res:Int)(vals:List Bool)(nn:Int)(ln:List Cl)(e2:Int):Prop:=(chk l n≠0/\e2=chk l n/\res=0/\vals=[]/\nn=0)\/(chk l n=0/\e2=0/\nn=aa ln/\vP l n.toNat (max bud 0) res vals ln)
theorem WB{l:List Cl}{bud:Int}{r:V}(h:zy l n bud r):∃res vals nn ln e2,r= .tup [.agg [vi res,aI vals,vi nn,cls ln],vi e2]/\QN l n bud res vals nn ln e2:=by
 rcases h with⟨h,rfl⟩|⟨h,res,vals,ln,rfl,ok⟩
 ·exact⟨0,[],0,[],_,rfl,.inl ⟨h,rfl,rfl,rfl,rfl⟩⟩
 ·exact⟨res,vals,_,ln,0,rfl,.inr ⟨h,rfl,rfl,ok⟩⟩
def dO(g:Gr)(beg:Cl)(pr:List Pq)(left:Int)(k:Nat)(n:Int)(cl rows:List Cl)(e:Int):List (Nat×Nat×V):=[(0,15,.lp 5 0),(1,16,.lp 5 0),(2,17,.lp 5 0),(3,18,.lp 5 0),(4,19,.agg [vi g.ins,az g.next,az g.init,prs g.ands,az g.outs]),(5,20,.lp 5 0),(6,21,.lp 5 0),(7,22,.lp 5 0),(8,23,.lp 5 5),(9,24,az beg),(10,25,vi k),(11,26,.tup [uV n cl rows,vi e]),(12,14,.tup [uV n cl rows,vi e]),(13,27,uV n cl rows),(14,28,vi e),(17,7,vi e)]
def sQ(k:Nat)(id:Nat):List (Nat×V):=[(0,.yd id),(1,.lp 9 0),(2,.lp 8 0),(3,.lp 10 0),(5,vi k)]
theorem Y8{B:H}(g:Gr)(beg:Cl)(pr:List Pq)(left:Int)(k:Nat)(n:Int)(cl rows:List Cl)(e:Int)(id:Nat)(h8:B[8]? =ar (aw [.lp 5 0]))(h5:B[5]? =ar (aw (aqC g beg pr left)))(hu:Ev TE 35 [.agg [vi g.ins,az g.next,az g.init,prs g.ands,az g.outs],az beg,vi k] (.tup [uV n cl rows,vi e])){r:Option Nat}{Q:XE->Fr->H->Prop}{f0:Fr}(g0:GA f0 (sQ k id))(d0:f0.d=[])
 (hk:∀f ,GA f (sQ k id)->f.d=[]->f.k=f0.k->f.t 6= .lp (aa B) 0/\f.t 7=vi e->Q .normal f (B++[aw [vi n,cls cl,cls rows]])) :
 awp TE 67 r (.region 3 (LP Tryz.f34 3) ab) Q f0 B:=by
 simp only[LP,Tryz.f34,AL,List.nil_append,zqp,List.headD_cons,Nat.reduceBEq,zrm,if_false,if_true,List.cons_append];have hlo:∀o:O,(B++[o])[aa B]? =ar o:=λo=>ug;have hso:∀o o':O,(B++[o]).set (aa B) o'=B++[o']:=λo o'=>Di;obtain⟨I,hI⟩:∃I:Array Bool->Fr->H->Prop,∀L f h,I L f h↔(h=HN L B 15 16 [vi 0,.nils,.nils] [vi n,cls cl,cls rows]/\FA L f (dO g beg pr left k n cl rows e)/\(L.getD 15 am=ab->f.t 6= .lp (aa B) 0)/\GA f (sQ k id)/\f.d=[]/\f.k=f0.k):=⟨_,λ_ _ _=>Iff.rfl⟩;refine Dh dV I (by decide +kernel) ?_ ?_ ?_
 ·exact(hI _ _ _).2 ⟨(HN.none).symm,FA.none,λh=>by exfalso;revert h;decide +kernel,g0,d0,rfl⟩
 ·intro L f h i hcl hII hi;obtain⟨rfl,hfa,hn,hg,hd,hkk⟩:=(hI _ _ _).1 hII;have t0:f.t 0= .yd id:=hg (0,.yd id) (by simp[sQ]);have t1:f.t 1= .lp 9 0:=hg (1,.lp 9 0) (by simp[sQ]);have t2:f.t 2= .lp 8 0:=hg (2,.lp 8 0) (by simp[sQ]);have t3:f.t 3= .lp 10 0:=hg (3,.lp 10 0) (by simp[sQ]);have t5:f.t 5=vi k:=hg (5,vi k) (by simp[sQ]);have b8:(HN L B 15 16 [vi 0,.nils,.nils] [vi n,cls cl,cls rows])[8]? =ar (aw [.lp 5 0]):=HN.get (h8);have b5:(HN L B 15 16 [vi 0,.nils,.nils] [vi n,cls cl,cls rows])[5]? =ar (aw (aqC g beg pr left)):=HN.get (h5);have hlt:i<18:=Df hi;have pu:∀(d:Nat)(v:V),(∀x∈(dO g beg pr left k n cl rows e),x.1=i->x.2.1=d/\x.2.2=v)->(∀x∈(dO g beg pr left k n cl rows e),x.2.1=d->x.1=i)->(aM (d∉([0,1,2,3,5,6]:List Nat))&&aM (i∉([15,16]:List Nat)))=ab->I (L.setIfInBounds i ab) (f.put (ar d) v) (HN L B 15 16 [vi 0,.nils,.nils] [vi n,cls cl,cls rows]):=by
   intro d v h1 h2 h3;rw[zqf,zqb,zqb]at h3;simp only[zrj,zrp,or_false,not_or,not_false_eq_true,and_true,true_and]at h3;refine(hI _ _ _).2 ⟨(HN.skip (by omega) (by omega)).symm,hfa.put h1 h2,(by rw[getD_set_ne am (by omega)];exact λh=>by have:=hn h;simpa [Fr.put,show ¬6=d by omega]using this),hg.put (by simp[sQ];omega),hd,hkk⟩
  match i,hlt with
  |0,_=>have pu:=pu 15 (.lp 5 0) (by simp[dO]) (by simp[dO]) (by decide);simp only[wq.1,Nat.reduceLT,t2,b8];exact pu
  |1,_=>have dp:=aT hi (l:=[0]) (by decide +kernel);have e15:=FAz hfa 0 15 (.lp 5 0) (by simp[dO]) (dp 0 (by simp));have pu:=pu 16 (.lp 5 0) (by simp[dO]) (by simp[dO]) (by decide);simp only[wq.1,Nat.reduceLT,e15];exact pu
  |2,_=>have dp:=aT hi (l:=[1]) (by decide +kernel);have e16:=FAz hfa 1 16 (.lp 5 0) (by simp[dO]) (dp 1 (by simp));have pu:=pu 17 (.lp 5 0) (by simp[dO]) (by simp[dO]) (by decide);simp only[wq.1,Nat.reduceLT,e16];exact pu
  |3,_=>have dp:=aT hi (l:=[2]) (by decide +kernel);have e17:=FAz hfa 2 17 (.lp 5 0) (by simp[dO]) (dp 2 (by simp));have pu:=pu 18 (.lp 5 0) (by simp[dO]) (by simp[dO]) (by decide);simp only[wq.1,Nat.reduceLT,e17];exact pu
  |4,_=>have dp:=aT hi (l:=[3]) (by decide +kernel);have e18:=FAz hfa 3 18 (.lp 5 0) (by simp[dO]) (dp 3 (by simp));have pu:=pu 19 (.agg [vi g.ins,az g.next,az g.init,prs g.ands,az g.outs]) (by simp[dO]) (by simp[dO]) (by decide);simp only[wq.1,seval,b5,e18];exact pu
  |5,_=>have pu:=pu 20 (.lp 5 0) (by simp[dO]) (by simp[dO]) (by decide);simp only[wq.1,Nat.reduceLT,t2,b8];exact pu
  |6,_=>have dp:=aT hi (l:=[5]) (by decide +kernel);have e20:=FAz hfa 5 20 (.lp 5 0) (by simp[dO]) (dp 5 (by simp));have pu:=pu 21 (.lp 5 0) (by simp[dO]) (by simp[dO]) (by decide);simp only[wq.1,Nat.reduceLT,e20];exact pu
  |7,_=>have dp:=aT hi (l:=[6]) (by decide +kernel);have e21:=FAz hfa 6 21 (.lp 5 0) (by simp[dO]) (dp 6 (by simp));have pu:=pu 22 (.lp 5 0) (by simp[dO]) (by simp[dO]) (by decide);simp only[wq.1,Nat.reduceLT,e21];exact pu
  |8,_=>have dp:=aT hi (l:=[7]) (by decide +kernel);have e22:=FAz hfa 7 22 (.lp 5 0) (by simp[dO]) (dp 7 (by simp));have pu:=pu 23 (.lp 5 5) (by simp[dO]) (by simp[dO]) (by decide);simp only[wq.1,Nat.reduceLT,e22];exact pu
  |9,_=>have dp:=aT hi (l:=[8]) (by decide +kernel);have e23:=FAz hfa 8 23 (.lp 5 5) (by simp[dO]) (dp 8 (by simp));have pu:=pu 24 (az beg) (by simp[dO]) (by simp[dO]) (by decide);simp only[wq.1,seval,b5,e23];exact pu
  |10,_=>have pu:=pu 25 (vi k) (by simp[dO]) (by simp[dO]) (by decide);simp only[wq.1,Nat.reduceLT,t5];exact pu
  |11,_=>have dp:=aT hi (l:=[4,9,10]) (by decide +kernel);have e19:=FAz hfa 4 19 (.agg [vi g.ins,az g.next,az g.init,prs g.ands,az g.outs]) (by simp[dO]) (dp 4 (by simp));have e24:=FAz hfa 9 24 (az beg) (by simp[dO]) (dp 9 (by simp));have e25:=FAz hfa 10 25 (vi k) (by simp[dO]) (dp 10 (by simp));have pu:=pu 26 (.tup [uV n cl rows,vi e]) (by simp[dO]) (by simp[dO]) (by decide);simp only[wq.1,Nat.reduceLT,e19,e24,e25];refine ag.ev (hu) (by simp only[a7,a6,zre]) ?_;simp only[wq.1];exact pu
  |12,_=>have dp:=aT hi (l:=[11]) (by decide +kernel);have e26:=FAz hfa 11 26 (.tup [uV n cl rows,vi e]) (by simp[dO]) (dp 11 (by simp));have pu:=pu 14 (.tup [uV n cl rows,vi e]) (by simp[dO]) (by simp[dO]) (by decide);simp only[wq.1,Nat.reduceLT,e26];exact pu
  |13,_=>have dp:=aT hi (l:=[12]) (by decide +kernel);have e14:=FAz hfa 12 14 (.tup [uV n cl rows,vi e]) (by simp[dO]) (dp 12 (by simp));have pu:=pu 27 (uV n cl rows) (by simp[dO]) (by simp[dO]) (by decide);simp only[wq.1,seval,e14];exact pu
  |14,_=>have dp:=aT hi (l:=[12]) (by decide +kernel);have e14:=FAz hfa 12 14 (.tup [uV n cl rows,vi e]) (by simp[dO]) (dp 12 (by simp));have pu:=pu 28 (vi e) (by simp[dO]) (by simp[dO]) (by decide);simp only[wq.1,seval,e14];exact pu
  |15,_=>have no:=jG hi;have n3:L.getD 16 am=am:=fE hcl no (by decide +kernel);rw[HN.old no];simp only[wq.1,Nat.reduceLT];refine(hI _ _ _).2 ⟨(HN.new (B:=B) (kV hi) (by decide) n3).symm,hfa.put' rfl,λ_=>by simp[Fr.put],hg.put rfl,hd,hkk⟩
  |16,_=>have dp:=aT hi (l:=[13]) (by decide +kernel);have e27:=FAz hfa 13 27 (uV n cl rows) (by simp[dO]) (dp 13 (by simp));have dp:=aT hi (l:=[13,15]) (by decide +kernel);have e27:=FAz hfa 13 27 (uV n cl rows) (by simp[dO]) (dp 13 (by simp));have e6:=hn (dp 15 (by simp));have no:=jG hi;rw[HN.at (dp 15 (by simp)) no];simp only[wq.1,Nat.reduceAdd,e6,e27,hlo,hso];refine(hI _ _ _).2 ⟨(HN.fill (B:=B) (dp 15 (by simp)) (kV hi) (by decide)).symm,hfa.skip (by simp[dO]),λ_=>e6,hg,hd,hkk⟩
  |17,_=>have dp:=aT hi (l:=[14]) (by decide +kernel);have e28:=FAz hfa 14 28 (vi e) (by simp[dO]) (dp 14 (by simp));have pu:=pu 7 (vi e) (by simp[dO]) (by simp[dO]) (by decide);simp only[wq.1,Nat.reduceLT,e28];exact pu
  |n+18,h=>exact absurd h (by omega)
 ·intro L f h hall hII;obtain⟨rfl,hfa,hn,hg,hd,hkk⟩:=(hI _ _ _).1 hII;have h8:=hn (hall 15 (by decide +kernel));have h9:=hfa (17,7,vi e) (by simp[dO]) (hall 17 (by decide +kernel));rw[HN.done (hall 15 (by decide +kernel)) (hall 16 (by decide +kernel))];exact hk f hg hd hkk ⟨h8,h9⟩
def gp(g:Gr)(beg:Cl)(pr:List Pq)(left:Int)(k:Nat)(n:Int)(cl rows:List Cl)(more:List Cl)(U:Nat):List (Nat×Nat×V):=[(0,35,.lp 5 0),(1,36,uV n cl rows),(2,37,vi k),(3,38,cls more),(4,39,.lp U 0),(5,40,vi n),(6,41,.lp 5 0),(7,42,.lp 5 0),(8,43,.lp 5 7),(9,44,vi left)]
def gU(res:Int)(vals:List Bool)(nn:Int)(ln:List Cl)(e2:Int):List (Nat×Nat×V):=[(10,45,.tup [.agg [vi res,aI vals,vi nn,cls ln],vi e2]),(11,34,.tup [.agg [vi res,aI vals,vi nn,cls ln],vi e2]),(12,46,.agg [vi res,aI vals,vi nn,cls ln]),(13,47,vi e2),(16,7,vi e2)]
def pq(k:Nat)(id:Nat)(U:Nat):List (Nat×V):=[(0,.yd id),(1,.lp 9 0),(2,.lp 8 0),(3,.lp 10 0),(5,vi k),(6,.lp U 0)]
theorem Y9{B:H}(g:Gr)(beg:Cl)(pr:List Pq)(left:Int)(k:Nat)(n:Int)(cl rows:List Cl)(more:List Cl)(U:Nat)(id:Nat)(h8:B[8]? =ar (aw [.lp 5 0]))(h5:B[5]? =ar (aw (aqC g beg pr left)))(hU:B[U]? =ar (aw [vi n,cls cl,cls rows]))(hcl:ag TE 37 [.lp 0 0,uV n cl rows,vi k] [aw (aqC g beg pr left)] λae h' p=>ae= .ret (cls more)/\h'[0]? =ar (aw (aqC g beg pr left))/\p 0=am)(hs:EvR TE 36 [cls more,vi n,vi left] (zy more n left)){r:Option Nat}{Q:XE->Fr->H->Prop}{f0:Fr}(g0:GA f0 (pq k id U))(d0:f0.d=[])
 (hk:∀f (res:Int) (vals:List Bool) (nn:Int) (ln:List Cl) (e2:Int),QN more n left res vals nn ln e2->GA f (pq k id U)->f.d=[]->f.k=f0.k->f.t 8= .lp (aa B) 0/\f.t 7=vi e2->Q .normal f (B++[aw [vi res,aI vals,vi nn,cls ln]])) :
 awp TE 67 r (.region 6 (LP Tryz.f34 6) ab) Q f0 B:=by
 simp only[LP,Tryz.f34,AL,List.nil_append,zqp,List.headD_cons,Nat.reduceBEq,zrm,if_false,if_true,List.cons_append];have hlo:∀o:O,(B++[o])[aa B]? =ar o:=λo=>ug;have hso:∀o o':O,(B++[o]).set (aa B) o'=B++[o']:=λo o'=>Di;obtain⟨I,hI⟩:∃I:Array Bool->Fr->H->Prop,∀L f h,I L f h↔∃(res:Int)(vals:List Bool)(nn:Int)(ln:List Cl)(e2:Int),(h=HN L B 14 15 [vi 0,.nils,vi 0,.nils] [vi res,aI vals,vi nn,cls ln]/\FA L f (gp g beg pr left k n cl rows more U)/\FA L f (gU res vals nn ln e2)/\(L.getD 10 am=ab->QN more n left res vals nn ln e2)/\(L.getD 14 am=ab->f.t 8= .lp (aa B) 0)/\GA f (pq k id U)/\f.d=[]/\f.k=f0.k):=⟨_,λ_ _ _=>Iff.rfl⟩;refine Dh dV I (by decide +kernel) ?_ ?_ ?_
 ·exact(hI _ _ _).2 ⟨0,[],0,[],0,(HN.none).symm,FA.none,FA.none,λh=>by exfalso;revert h;decide +kernel,λh=>by exfalso;revert h;decide +kernel,g0,d0,rfl⟩
 ·intro L f h i hcl0 hII hi;obtain⟨res,vals,nn,ln,e2,rfl,hfa,hfb,hS,hn,hg,hd,hkk⟩:=(hI _ _ _).1 hII;have t0:f.t 0= .yd id:=hg (0,.yd id) (by simp[pq]);have t1:f.t 1= .lp 9 0:=hg (1,.lp 9 0) (by simp[pq]);have t2:f.t 2= .lp 8 0:=hg (2,.lp 8 0) (by simp[pq]);have t3:f.t 3= .lp 10 0:=hg (3,.lp 10 0) (by simp[pq]);have t5:f.t 5=vi k:=hg (5,vi k) (by simp[pq]);have t6:f.t 6= .lp U 0:=hg (6,.lp U 0) (by simp[pq]);have b8:(HN L B 14 15 [vi 0,.nils,vi 0,.nils] [vi res,aI vals,vi nn,cls ln])[8]? =ar (aw [.lp 5 0]):=HN.get (h8);have b5:(HN L B 14 15 [vi 0,.nils,vi 0,.nils] [vi res,aI vals,vi nn,cls ln])[5]? =ar (aw (aqC g beg pr left)):=HN.get (h5);have hlt:i<17:=Df hi;have pu:∀(d:Nat)(v:V),(∀x∈(gp g beg pr left k n cl rows more U),x.1=i->x.2.1=d/\x.2.2=v)->(∀x∈(gp g beg pr left k n cl rows more U),x.2.1=d->x.1=i)->(∀x∈(gU res vals nn ln e2),x.1=i->x.2.1=d/\x.2.2=v)->(∀x∈(gU res vals nn ln e2),x.2.1=d->x.1=i)->(aM (d∉([0,1,2,3,5,6,8]:List Nat))&&aM (i∉([14,15,10]:List Nat)))=ab->I (L.setIfInBounds i ab) (f.put (ar d) v) (HN L B 14 15 [vi 0,.nils,vi 0,.nils] [vi res,aI vals,vi nn,cls ln]):=by
   intro d v h1 h2 h4 h5 h3;rw[zqf,zqb,zqb]at h3;simp only[zrj,zrp,or_false,not_or,not_false_eq_true,and_true,true_and]at h3;refine(hI _ _ _).2 ⟨res,vals,nn,ln,e2,(HN.skip (by omega) (by omega)).symm,hfa.put h1 h2,hfb.put h4 h5,(by rw[getD_set_ne am (by omega)];exact hS),(by rw[getD_set_ne am (by omega)];exact λh=>by have:=hn h;simpa [Fr.put,show ¬8=d by omega]using this),hg.put (by simp[pq];omega),hd,hkk⟩
  match i,hlt with
  |0,_=>have pu:=pu 35 (.lp 5 0) (by simp[gp]) (by simp[gp]) (by simp[gU]) (by simp[gU]) (by decide);simp only[wq.1,Nat.reduceLT,t2,b8];exact pu
  |1,_=>have pu:=pu 36 (uV n cl rows) (by simp[gp]) (by simp[gp]) (by simp[gU]) (by simp[gU]) (by decide);have bU:(HN L B 14 15 [vi 0,.nils,vi 0,.nils] [vi res,aI vals,vi nn,cls ln])[U]? =ar (aw [vi n,cls cl,cls rows]):=HN.get hU;simp only[wq.1,seval,t6,bU];exact pu
  |2,_=>have pu:=pu 37 (vi k) (by simp[gp]) (by simp[gp]) (by simp[gU]) (by simp[gU]) (by decide);simp only[wq.1,Nat.reduceLT,t5];exact pu
  |3,_=>have dp:=aT hi (l:=[0,1,2]) (by decide +kernel);have e35:=FAz hfa 0 35 (.lp 5 0) (by simp[gp]) (dp 0 (by simp));have e36:=FAz hfa 1 36 (uV n cl rows) (by simp[gp]) (dp 1 (by simp));have e37:=FAz hfa 2 37 (vi k) (by simp[gp]) (dp 2 (by simp));have pu:=pu 38 (cls more) (by simp[gp]) (by simp[gp]) (by simp[gU]) (by simp[gU]) (by decide);simp only[wq.1,Nat.reduceLT,e35,e36,e37];refine ui (k:=5) hcl (by simp only[a6,ul]) rfl b5 ⟨.inr ⟨0,rfl,rfl⟩,.inl ⟨by simp only[a7,a6,fZ,zre],rfl⟩,.inl ⟨rfl,rfl⟩,trivial⟩ ?_;simp only[wq.1];exact pu
  |4,_=>have pu:=pu 39 (.lp U 0) (by simp[gp]) (by simp[gp]) (by simp[gU]) (by simp[gU]) (by decide);simp only[wq.1,Nat.reduceLT,t6];exact pu
  |5,_=>have dp:=aT hi (l:=[4]) (by decide +kernel);have e39:=FAz hfa 4 39 (.lp U 0) (by simp[gp]) (dp 4 (by simp));have pu:=pu 40 (vi n) (by simp[gp]) (by simp[gp]) (by simp[gU]) (by simp[gU]) (by decide);have bU:(HN L B 14 15 [vi 0,.nils,vi 0,.nils] [vi res,aI vals,vi nn,cls ln])[U]? =ar (aw [vi n,cls cl,cls rows]):=HN.get hU;simp only[wq.1,seval,e39,bU];exact pu
  |6,_=>have pu:=pu 41 (.lp 5 0) (by simp[gp]) (by simp[gp]) (by simp[gU]) (by simp[gU]) (by decide);simp only[wq.1,Nat.reduceLT,t2,b8];exact pu
  |7,_=>have dp:=aT hi (l:=[6]) (by decide +kernel);have e41:=FAz hfa 6 41 (.lp 5 0) (by simp[gp]) (dp 6 (by simp));have pu:=pu 42 (.lp 5 0) (by simp[gp]) (by simp[gp]) (by simp[gU]) (by simp[gU]) (by decide);simp only[wq.1,Nat.reduceLT,e41];exact pu
  |8,_=>have dp:=aT hi (l:=[7]) (by decide +kernel);have e42:=FAz hfa 7 42 (.lp 5 0) (by simp[gp]) (dp 7 (by simp));have pu:=pu 43 (.lp 5 7) (by simp[gp]) (by simp[gp]) (by simp[gU]) (by simp[gU]) (by decide);simp only[wq.1,Nat.reduceLT,e42];exact pu
  |9,_=>have dp:=aT hi (l:=[8]) (by decide +kernel);have e43:=FAz hfa 8 43 (.lp 5 7) (by simp[gp]) (dp 8 (by simp));have pu:=pu 44 (vi left) (by simp[gp]) (by simp[gp]) (by simp[gU]) (by simp[gU]) (by decide);simp only[wq.1,seval,b5,e43];exact pu
  |10,_ =>
   have dp:=aT hi (l:=[3,5,9]) (by decide +kernel);have e38:=FAz hfa 3 38 (cls more) (by simp[gp]) (dp 3 (by simp));have e40:=FAz hfa 5 40 (vi n) (by simp[gp]) (dp 5 (by simp));have e44:=FAz hfa 9 44 (vi left) (by simp[gp]) (dp 9 (by simp));have no:=jG hi;have n11:=fE hcl0 no (i:=11) (by decide +kernel);have n12:=fE hcl0 n11 (i:=12) (by decide +kernel);have n13:=fE hcl0 n11 (i:=13) (by decide +kernel);have n15:=fE hcl0 no (i:=15) (by decide +kernel);have n16:=fE hcl0 no (i:=16) (by decide +kernel);simp only[wq.1,Nat.reduceLT,e38,e40,e44];refine jL hs (by simp only[a7,a6,fZ,zre]) λrv hrv=> ?_;obtain⟨res2,vals2,nn2,ln2,e22,rfl,hA⟩:=WB hrv;simp only[wq.1];refine(hI _ _ _).2 ⟨res2,vals2,nn2,ln2,e22,?_,hfa.put' (by simp[gp]),?_,λ_=>hA,(by rw[getD_set_ne am (by decide)];exact λh=>by have:=hn h;simpa [Fr.put]using this),hg.put (by simp[pq]),hd,hkk⟩
   ·rw[HN.skip (by decide) (by decide)];unfold HN;rw[n15];rfl
   ·intro q hq hl;simp only[gU,zrj,zrp,or_false]at hq;rcases hq with rfl|rfl|rfl|rfl|rfl
    ·simp[Fr.put]
    ·have hl:(L.setIfInBounds 10 ab).getD 11 am=ab:=hl;rw[getD_set_ne am (show(10:Nat)≠11 by decide),n11]at hl;cases hl
    ·have hl:(L.setIfInBounds 10 ab).getD 12 am=ab:=hl;rw[getD_set_ne am (show(10:Nat)≠12 by decide),n12]at hl;cases hl
    ·have hl:(L.setIfInBounds 10 ab).getD 13 am=ab:=hl;rw[getD_set_ne am (show(10:Nat)≠13 by decide),n13]at hl;cases hl
    ·have hl:(L.setIfInBounds 10 ab).getD 16 am=ab:=hl;rw[getD_set_ne am (show(10:Nat)≠16 by decide),n16]at hl;cases hl
  |11,_=>have dp:=aT hi (l:=[10]) (by decide +kernel);have e45:=FAz hfb 10 45 (.tup [.agg [vi res,aI vals,vi nn,cls ln],vi e2]) (by simp[gU]) (dp 10 (by simp));have pu:=pu 34 (.tup [.agg [vi res,aI vals,vi nn,cls ln],vi e2]) (by simp[gp]) (by simp[gp]) (by simp[gU]) (by simp[gU]) (by decide);simp only[wq.1,Nat.reduceLT,e45];exact pu
  |12,_=>have dp:=aT hi (l:=[11]) (by decide +kernel);have e34:=FAz hfb 11 34 (.tup [.agg [vi res,aI vals,vi nn,cls ln],vi e2]) (by simp[gU]) (dp 11 (by simp));have pu:=pu 46 (.agg [vi res,aI vals,vi nn,cls ln]) (by simp[gp]) (by simp[gp]) (by simp[gU]) (by simp[gU]) (by decide);simp only[wq.1,seval,e34];exact pu
  |13,_=>have dp:=aT hi (l:=[11]) (by decide +kernel);have e34:=FAz hfb 11 34 (.tup [.agg [vi res,aI vals,vi nn,cls ln],vi e2]) (by simp[gU]) (dp 11 (by simp));have pu:=pu 47 (vi e2) (by simp[gp]) (by simp[gp]) (by simp[gU]) (by simp[gU]) (by decide);simp only[wq.1,seval,e34];exact pu
  |14,_=>have no:=jG hi;have n3:L.getD 15 am=am:=fE hcl0 no (by decide +kernel);rw[HN.old no];simp only[wq.1,Nat.reduceLT];refine(hI _ _ _).2 ⟨res,vals,nn,ln,e2,(HN.new (B:=B) (kV hi) (by decide) n3).symm,hfa.put' rfl,hfb.put' rfl,(by rw[getD_set_ne am (by decide)];exact hS),λ_=>by simp[Fr.put],hg.put rfl,hd,hkk⟩
  |15,_=>have dp:=aT hi (l:=[12]) (by decide +kernel);have e46:=FAz hfb 12 46 (.agg [vi res,aI vals,vi nn,cls ln]) (by simp[gU]) (dp 12 (by simp));have dp:=aT hi (l:=[12,14]) (by decide +kernel);have e46:=FAz hfb 12 46 (.agg [vi res,aI vals,vi nn,cls ln]) (by simp[gU]) (dp 12 (by simp));have e8:=hn (dp 14 (by simp));have no:=jG hi;rw[HN.at (dp 14 (by simp)) no];simp only[wq.1,Nat.reduceAdd,e8,e46,hlo,hso];refine(hI _ _ _).2 ⟨res,vals,nn,ln,e2,(HN.fill (B:=B) (dp 14 (by simp)) (kV hi) (by decide)).symm,hfa.skip (by simp[gp]),hfb.skip (by simp[gU]),(by rw[getD_set_ne am (by decide)];exact hS),λ_=>e8,hg,hd,hkk⟩
  |16,_=>have dp:=aT hi (l:=[13]) (by decide +kernel);have e47:=FAz hfb 13 47 (vi e2) (by simp[gU]) (dp 13 (by simp));have pu:=pu 7 (vi e2) (by simp[gp]) (by simp[gp]) (by simp[gU]) (by simp[gU]) (by decide);simp only[wq.1,Nat.reduceLT,e47];exact pu
  |n+17,h=>exact absurd h (by omega)
 ·intro L f h hall hII;obtain⟨res,vals,nn,ln,e2,rfl,hfa,hfb,hS,hn,hg,hd,hkk⟩:=(hI _ _ _).1 hII;have h8:=hn (hall 14 (by decide +kernel));have h9:=hfb (16,7,vi e2) (by simp[gU]) (hall 16 (by decide +kernel));rw[HN.done (hall 14 (by decide +kernel)) (hall 15 (by decide +kernel))];exact hk f res vals nn ln e2 (hS (hall 10 (by decide +kernel))) hg hd hkk ⟨h8,h9⟩
end Go.Proofs.YthdidjjecjhenaaGreat
