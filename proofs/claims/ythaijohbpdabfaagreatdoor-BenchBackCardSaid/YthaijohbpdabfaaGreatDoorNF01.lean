/- Lemmas for this claim, part F01: each holds under what it names. -/
import Derived.Test.YthaijohbpdabfaaGreatDoorNP0
import Derived.Test.YthaijohbpdabfaaGreatDoorNA8
import Derived.Test.YthaijohbpdabfaaGreatDoorNA7
import Derived.Lib.Builder
import Derived.Lib.UnsafeStr
import Derived.Laws.Externs
set_option linter.all false
set_option maxRecDepth 100000
set_option maxHeartbeats 1000000
namespace Go.Proofs.YthaijohbpdabfaaGreatDoor
open Go Go.Proofs Go.Abs
abbrev vi(n:Int):V:= .int .i64 n
def lit(vars a:Int):Bool:=decide (a≠0)&&(decide (-vars<=a)&&decide (a<=vars))
theorem iL{n:Int}(h1:-9223372036854775808<=n)(h2:n<=9223372036854775807):IntKind.i64.wrap n=n:=zQ h1 (by omega)
theorem bT{α:Type}{l:List α}{i:Nat}(h:i<l.length){P:α->Prop}(h1:∀s∈l.take i,P s)(h2:P l[i]):∀s∈l.take (i+1),P s:=by
 intro s hs;rw[zrg]at hs;simp only[h,zqk,Option.toList_some,zrf,zrc]at hs;rcases hs with hs|rfl
 ·exact h1 s hs
 ·exact h2
theorem Ny{α:Type}{a b:List α}{i:Nat}(h:a.take i=b.take i)(ha:i<a.length)(hb:i<b.length)(he:a[i]=b[i]):a.take (i+1)=b.take (i+1):=by rw[zrg,zrg,h];simp[ha,hb,he]
def hol(vs:List Bool)(a:Int):Bool:=if a<0 then !(vs.getD (-a-1).toNat false)else vs.getD (a-1).toNat false
def idx{α:Type}(l:List α)(p:α->Bool):Int:=match l.findIdx? p with|some i=>i|none=>-1
theorem BO{α:Type}{l:List α}{p:α->Bool}{i:Nat}(h:i<l.length)(hn:∀x∈l.take i,p x=false)(hb:p l[i]=true):idx l p=i:=by
 have:l.findIdx? p=some i:=by
  rw[List.findIdx?_eq_some_iff_getElem];refine⟨h,hb,fun j hj=> ?_⟩;have:l[j]∈l.take i:=by
   rw[List.mem_take_iff_getElem];exact⟨j,by omega,rfl⟩
  simp[hn _ this]
 simp[idx,this]
theorem wM{α:Type}{l:List α}{p:α->Bool}(hn:∀x∈l,p x=false):idx l p=-1:=by
 have:l.findIdx? p=none:=by rw[List.findIdx?_eq_none_iff];simpa using hn
 simp[idx,this]
theorem Nz{α:Type}(l:List α)(p:α->Bool):decide (0<=idx l p)=l.any p:=by
 cases h:l.any p with
 |false=>rw[wM (by simpa using h)];rfl
 |true =>
  have:∃x∈l,p x=true:=by simpa using h
  unfold idx;cases hb:l.findIdx? p with
  |none=>obtain⟨x,hx,hx2⟩:=this;have:=(List.findIdx?_eq_none_iff.1 hb) x hx;simp[hx2]at this
  |some i=>simp
abbrev S:=List UInt8
abbrev aN(l:List S):V:= .is false 1 (l.map V.str)
theorem BP{l:List S}{r:List V}(hb:V.bnds (aN l::r)):l.length<=maxLen:=by simp only[V.bnds,V.bnd,zra]at hb;exact hb.1.1
theorem zW{l:List S}{i:Nat}(h:i<l.length)(d:V):(List.map V.str l).getD i d= .str l[i]:=fP h _
def Qa(n:Nat)(l:List S):Bool:=decide (l.length<=n)&&l.all fun s=>decide (s.length<=60)
theorem sK[MO](l:List S)(n:Nat):Ev TE 116 [aN l,.int .i64 n] (.bool (Qa n l)):=by
 refine Ev.bnd fun hb=> ?_;have hlen:=BP hb;refine ak Tryz.func116 rfl (by simp[nts]) (vm ?_);simp only[wq.1,Nat.reduceLT,Tryz.results116];refine aC (fun m f h=>∃i,m+i=l.length/\f.t 0=aN l/\f.t 1= .int .i64 n/\f.t 5= .int .i64 (i:Int)/\f.d=[]/\∀s∈l.take i,s.length<=60) l.length ⟨0,by simp,rfl,rfl,rfl,rfl,by simp⟩ ?_;rintro m f h ⟨i,hm,h0,h1,h5,hd,hall⟩;refine vm ?_;simp only[wq.1,seval,h0,h1,h5];refine vcB.mk (fun hc=> ?_) (fun hc=> ?_)
 ·simp only[zqf,zqb,zqi,Int.ofNat_le]at hc;obtain⟨hc1,hc2⟩:=hc;simp only[wq.1,seval,h0,h5,zW hc1];refine⟨⟨by omega,by omega⟩,vcB.mk (fun hc=> ?_) (fun hc=> ?_)⟩
  ·simp only[wq.1,seval,hd];have:Qa n l=false:=by
    simp only[zqb]at hc;have hx:∃x∈l,¬x.length<=60:=⟨l[i],zqu _,by omega⟩;simpa [Qa]using fun _=>hx
   rw[this];exact aG.dat rfl
  ·simp only[wq.1,seval,h5,aB (show i<maxLen by omega)];refine .inl ⟨m-1,by omega,i+1,by omega,h0,h1,rfl,hd,?_⟩;simp only[zqd]at hc;intro s hs;rw[zrg]at hs;simp only[hc1,zqk,Option.toList_some,zrf,zrc]at hs;rcases hs with hs|rfl
   ·exact hall s hs
   ·omega
 ·simp only[wq.1,seval,h0,h1,hd];have:(decide ((l.length:Int)<=n))=Qa n l:=by
   simp only[Bool.and_eq_false_iff,zqd,zqi,Int.ofNat_le]at hc;by_cases hi:i<l.length
   ·have h2:¬l.length<=n:=by omega
    simp[Qa,h2]
   ·rw[zqh (by omega)]at hall;have:(l.all fun s=>decide (s.length<=60))=true:=by simpa using hall
    simp[Qa,this]
  rw[this];exact aG.dat rfl
theorem wO[MO](a b:List S):Ev TE 54 [aN a,aN b] (.bool (a==b)):=by
 refine Ev.bnd fun hb=> ?_;have hlen:=BP hb;refine ak Tryz.func54 rfl (by simp[nts]) (vm ?_);simp only[wq.1,seval,Tryz.results54];refine vcB.mk (fun hc=> ?_) (fun hc=> ?_)
 ·simp only[wq.1,seval];refine aG.eq rfl ?_;simp only[bne_iff_ne,ne_eq,Int.natCast_inj]at hc;have:¬a=b:=fun h=>hc (by rw[h]);simp[this]
 ·have hl:a.length=b.length:=by simpa [Int.natCast_inj]using hc
  simp only[wq.1,seval];refine aC (fun m f h=>∃i,m+i=a.length/\f.t 0=aN a/\f.t 1=aN b/\f.t 12= .int .i64 (a.length:Int)/\f.t 13= .int .i64 (i:Int)/\f.d=[]/\a.take i=b.take i) a.length ⟨0,by simp,rfl,rfl,rfl,rfl,rfl,by simp⟩ ?_;rintro m f h ⟨i,hm,h0,h1,h12,h5,hd,hall⟩;refine vm ?_;simp only[wq.1,seval,h12,h5];refine vcB.mk (fun hc=> ?_) (fun hc=> ?_)
  ·simp only[zqb,zqi]at hc;have hc2:i<b.length:=by omega
   simp only[wq.1,seval,h0,h1,h5,zW hc,zW hc2];refine⟨by decide +kernel,⟨by omega,by omega⟩,⟨by omega,by omega⟩,vcB.mk (fun hc=> ?_) (fun hc=> ?_)⟩
   ·simp only[wq.1,seval,hd];refine aG.eq rfl ?_;have:¬a=b:=fun h=>by subst h;simp at hc
    simp[this]
   ·simp only[wq.1,seval,h5,aB (show i<maxLen by omega)];exact .inl ⟨m-1,by omega,i+1,by omega,h0,h1,h12,rfl,hd,Ny hall (by omega) (by omega) (by simpa using hc)⟩
  ·simp only[zqd,zqi]at hc;simp only[wq.1,seval,hd];refine aG.eq rfl ?_;rw[zqh (by omega),zqh (by omega)]at hall;simp[hall]
def iC(c:UInt8):Bool:=decide (33<=c.toNat)&&decide (c.toNat<=126)
def aS(s:S):Bool:=s.all iC&&(decide (1<=s.length)&&decide (s.length<=40))
theorem QQ{s:S}{i:Nat}(h:i<s.length):s.getD i 0=s[i]:=by simp[zqg,h]
def WT(n:Int):Bool:=decide (n<=32)||decide (126<n)
theorem WU[MO](n:Int):Ev TE 234 [.int .i32 n] (.bool (WT n)):=by refine ak Tryz.func234 rfl (by simp[nts]) (vm ?_);simp only[wq.1,seval,Tryz.results234];exact aG.eq rfl rfl
theorem NC{s:S}{i:Nat}(h:i<s.length)(hb:s[i].toNat<128):DN s i=(s[i].toNat,1):=by
 unfold DN Utf8.decode;have:((ByteArray.mk s.toArray).get! (i+0)).toNat=s[i].toNat:=by
  simp[ByteArray.get!,h]
 simp only[this];rw[if_pos hb]
theorem QR{s:S}{i:Nat}(h:i<s.length)(hb:¬s[i].toNat<128):128<=(DN s i).1:=by
 unfold DN Utf8.decode;have:((ByteArray.mk s.toArray).get! (i+0)).toNat=s[i].toNat:=by
  simp[ByteArray.get!,h]
 simp only[this];rw[if_neg hb]
 repeat' split
 all_goals first
  |(simp[Utf8.runeError];done)
  |(rename_i hc;simp only[zqf,zqb,ge_iff_le]at hc;dsimp only;omega)
  |(rename_i hc;simp only[ge_iff_le]at hc;dsimp only;omega)
theorem QS{s:S}{i:Nat}(h:i<s.length):WT (DN s i).1= !iC s[i]:=by
 by_cases hb:s[i].toNat<128
 ·rw[NC h hb];refine Bool.eq_iff_iff.2 ?_;simp only[WT,iC,Bool.or_eq_true,zqb,Bool.not_eq_true',Bool.and_eq_false_iff,zqd];omega
 ·have:=QR h hb;have h1:WT (DN s i).1=true:=by simp only[WT,Bool.or_eq_true,zqb];omega
  have h2:iC s[i]=false:=by simp only[iC,Bool.and_eq_false_iff,zqd];omega
  rw[h1,h2];rfl
def J9(s:S):Option Nat:=s.findIdx? fun c=> !iC c
def TL(s:S):Int:=match J9 s with|some i=>i|none=>-1
theorem ND{s:S}{i:Nat}(h:i<s.length)(hn:∀x∈s.take i,iC x=true)(hb:iC s[i]=false):TL s=i:=by
 have:J9 s=some i:=by
  unfold J9;rw[List.findIdx?_eq_some_iff_getElem];refine⟨h,by simp[hb],fun j hj=> ?_⟩;have:s[j]∈s.take i:=by
   rw[List.mem_take_iff_getElem];exact⟨j,by omega,rfl⟩
  simp[hn _ this]
 simp[TL,this]
theorem Ej{s:S}(hn:∀x∈s,iC x=true):TL s=-1:=by
 have:J9 s=none:=by unfold J9;rw[List.findIdx?_eq_none_iff];simpa using hn
 simp[TL,this]
theorem WV[MO](s:S):Ev TE 270 [.str s,.fn (.func 234) [] [],.bool true] (.int .i64 (TL s)):=by
 refine Ev.bnd fun hb=> ?_;have hlen:s.length<=maxLen:=hb.1;refine ak Tryz.func270 rfl (by simp[nts]) (vm ?_);simp only[wq.1,seval,Tryz.results270];refine aC (fun m f h=>∃i,m+i=s.length/\f.t 1= .fn (.func 234) [] []/\f.t 2= .bool true/\f.t 10= .lp 0 0/\f.d=[]/\h=[.misc (.siter s i)]/\∀x∈s.take i,iC x=true) s.length ⟨0,by simp,rfl,rfl,rfl,rfl,rfl,by simp⟩ ?_;rintro m f h ⟨i,hm,h1,h2,h10,hd,rfl,hall⟩;refine vm ?_;simp only[wq.1,seval,h10];refine lU.mk (fun hc=> ?_) (fun hc=> ?_)
 ·simp only[zqb]at hc;simp only[wq.1,seval,h1,lU];refine ag.ev (WU _) rfl ?_;rw[QS hc];simp only[wq.1,seval,h2];refine vcB.mk (fun hc'=> ?_) (fun hc'=> ?_)
  ·have hb:iC s[i]=false:=by simpa using hc'
   simp only[wq.1,seval,hd];rw[ND hc hall hb];exact aG.dat rfl
  ·have hb:iC s[i]=true:=by simpa using hc'
   have h128:s[i].toNat<128:=by simp only[iC,zqf,zqb]at hb;omega
   simp only[wq.1,Int.reduceNeg];exact .inl ⟨m-1,by omega,i+1,by omega,h1,h2,h10,hd,by rw[NC hc h128],bT hc hall hb⟩
 ·simp only[zqd]at hc;simp only[wq.1,seval,hd,lU];rw[zqh (by omega)]at hall;rw[Ej hall];exact aG.dat rfl
theorem WW[MO](s:S):Ev TE 235 [.str s,.fn (.func 234) [] []] (.int .i64 (TL s)):=by refine ak Tryz.func235 rfl (by simp[nts]) (vm ?_);simp only[wq.1,seval,Tryz.results235];refine ag.ev (WV s) rfl ?_;simp only[wq.1,seval];exact aG.dat rfl
theorem QT(s:S):decide (TL s<0)=s.all iC:=by
 cases h:s.all iC with
 |true=>rw[Ej (by simpa using h)];rfl
 |false =>
  have:∃x∈s,iC x=false:=by simpa using h
  cases hb:J9 s with
  |none=>obtain⟨x,hx,hx2⟩:=this;have:=(List.findIdx?_eq_none_iff.1 hb) x hx;simp[hx2]at this
  |some i=>simp[TL,hb]
theorem QU[MO](s:S):Ev TE 168 [.str s] (.bool (aS s)):=by
 refine ak Tryz.func168 rfl (by simp[nts]) (vm ?_);simp only[wq.1,seval,Tryz.results168];refine Gf.ev (q:=235) (vs:=[.str s,.fn (.func 234) [] []]) (by simp only[wq.1,seval]) (by simp only[wq.1,seval]) rfl (fun _=>WW s) (fun _=>rfl) ?_;simp only[wq.1,seval];refine aG.eq rfl ?_;rw[QT];unfold aS
 congr 1
 have h1:(!s==[])=decide (1<=s.length):=by cases s<;>simp
 have h2:decide ((s.length:Int)<=40)=decide (s.length<=40):=decide_eq_decide.2 (by omega);rw[h1,h2,Bool.and_comm]
theorem wP[MO](s:S):Ev TE 105 [.str s] (.bool (aS s)):=by refine ak Tryz.func105 rfl (by simp[nts]) (vm ?_);simp only[wq.1,seval,Tryz.results105];refine ag.ev (QU s) rfl ?_;simp only[wq.1,seval];exact aG.dat rfl
theorem bu{dst:Option Tmp}{Kn:Fr->H->Prop}{Q:XE->Fr->H->Prop}{f:Fr}{v:V}{h:H}{p:Nat->Bool}:fB dst Kn Q f (.ret v) h p=((∀i∈f.d,p i=false)/\Kn ((f.drop p).put dst v) h):=rfl
theorem Ko[MO](n:Nat)(hn:n<=1000000000)(h:H)(R:AEnd->H->(Nat->Bool)->Prop)(hr0:n=0->R (.ret .nils) h (fun _=>false))
 (hr:0<n->R (.ret (.ls h.length 1 0 0 n)) (h++[.cells (List.replicate n (.str []))]) (fun _=>false)):ag TE 233 [.nils,vi n] h R:=by
 refine aj Tryz.func233 rfl (by simp[nts]) ?_;refine vn ?_;simp only[wq.1,Nat.reduceLT,Tryz.results233];refine ai ?_;refine vm ?_;simp only[wq.1,seval];refine vcB.mk (fun hc=> ?_) (fun hc=> ?_)
 ·simp only[zqb]at hc;omega
 simp only[wq.1];refine ai (ai (iT ?_));refine az rfl rfl ?_;simp only[wq.1,seval];refine az rfl rfl ?_;simp only[wq.1,seval];refine eX rfl rfl ?_;have hq:ti TE.P 23=some ⟨.slice 9,1,24,.nils⟩:=by simp only[wq.1]
 have hqe:ti TE.P 9=some ⟨.str,1,16,.str []⟩:=by simp only[wq.1]
 have hqi:ti TE.P 3=some ⟨.int .i64,1,8,.int .i64 0⟩:=by simp only[wq.1]
 refine kM (t:=23) rfl rfl hq rfl trivial rfl ?_;refine az rfl rfl ?_;simp only[wq.1,seval];refine az rfl rfl ?_;simp only[wq.1,↓reduceIte];refine az rfl rfl ?_;simp only[wq.1,seval];refine az rfl rfl ?_;simp only[wq.1,seval];refine az rfl rfl ?_;simp only[wq.1,↓reduceIte];have w0:IntKind.i64.wrap 0=0:=by decide
 have w1:IntKind.i64.wrap ((n:Int)-0)=n:=by rw[Int.sub_zero];exact iL (by omega) (by omega)
 refine dX ?_;simp only[wq.1,w0,w1];refine ai ?_;refine vm ?_;simp only[wq.1,seval];refine bF (b:=decide ((0:Int)<n)) (by simp only[wq.1,↓reduceIte]) (by simp only[wq.1,↓reduceIte]) (fun hb=> ?_) (fun hb=> ?_)
 ·have hpos:0<n:=by simp only[zqb]at hb;omega
  refine iT ?_;refine az rfl rfl ?_;simp only[wq.1,seval];refine az rfl rfl ?_;simp only[wq.1,seval];refine eX rfl rfl ?_;refine kM (t:=23) rfl rfl hq rfl trivial rfl ?_;refine eX rfl rfl ?_;refine qH rfl hq rfl hqe (by simp only[wq.1,seval]) (by simp only[wq.1,seval]) (by simp only[wq.1,↓reduceIte]) (k:= .i64) (by simp only[wq.1,↓reduceIte]) ?_;refine az rfl rfl ?_;simp only[wq.1,seval];refine eX rfl rfl ?_;refine xJ (x:= .tmp 20) (y:= .tmp 21) (t:=23) (xt:=3) (el:=9) ⟨⟨_,rfl,rfl,rfl⟩,hq,rfl,hqe,rfl,rfl,Nat.zero_lt_one⟩ (by simp only[wq.1,seval]) (by simp only[wq.1,↓reduceIte]) (by simp only[wq.1,seval]) (by simp only[wq.1,↓reduceIte]) hqi rfl hpos (by omega) ?_ rfl (zv:= .str []) rfl ?_
  ·show n*16<=_;omega
  refine az rfl rfl ?_;simp only[wq.1,seval];refine az rfl rfl ?_;simp only[wq.1,↓reduceIte];refine az rfl rfl ?_;simp only[wq.1,seval];refine⟨by omega,?_⟩;refine az rfl rfl ?_;simp only[wq.1,↓reduceIte];refine dX ?_;simp only[wq.1];refine vm ?_;simp only[wq.1,seval];exact hr hpos
 ·have:n=0:=by simp only[zqd]at hb;omega
  refine vm ?_;simp only[wq.1];refine vm ?_;simp only[wq.1,seval];exact hr0 this
theorem Kq{α:Type}(ls:List (List α))(i:Nat):ls.flatten=(ls.take i).flatten++(ls.drop i).flatten:=by rw[<-List.flatten_append,List.take_append_drop]
theorem iD{α:Type}{ls:List (List α)}{i:Nat}(h:i<ls.length):(ls.take (i+1)).flatten=(ls.take i).flatten++ls[i]:=by rw[zrg,List.flatten_append];simp[h]
theorem BQ{α:Type}{ls:List (List α)}{i:Nat}(h:i<ls.length):(ls.take i).flatten.length+ls[i].length<=ls.flatten.length:=by have h1:=congrArg List.length (Kq ls (i+1));rw[iD h]at h1;simp only[zqa]at h1;omega
def Yy(n:Nat)(c:List S)(v:V)(h:H):Prop :=
 (c=[]/\v= .nils/\h=[]/\n=0)\/(c.length<=n/\v= .ls 0 1 0 c.length n/\h=[.cells (c.map V.str++List.replicate (n-c.length) (.str []))])
theorem QV[MO](n:Nat)(hn:n<=1000000000)(R:AEnd->H->(Nat->Bool)->Prop)(hr:∀v h,Yy n [] v h->R (.ret v) h (fun _=>false)):ag TE 233 [.nils,vi n] [] R :=
 Ko n hn [] R (fun hz=>hr _ _ (.inl ⟨rfl,rfl,rfl,hz⟩)) (fun hz=>hr _ _ (.inr ⟨Nat.zero_le _,rfl,rfl⟩))
theorem mZ:∀l:List S,dA (l.map V.str)=true
 |[]=>rfl
 |a::l=>by simp only[zrd,dA,mZ l,V.one,V.vc,zrk];rfl
theorem GL(c l:List S)(n:Nat)(h:c.length+l.length<=n):dm (c.map V.str++List.replicate (n-c.length) (.str [])) c.length (l.map V.str)=(c++l).map V.str++List.replicate (n-(c++l).length) (.str []):=by
 unfold dm;have e1:(c.map V.str++List.replicate (n-c.length) (V.str [])).take c.length=c.map V.str:=by
  simp
 have e2:(c.map V.str++List.replicate (n-c.length) (V.str [])).drop (c.length+(l.map V.str).length)=List.replicate (n-(c++l).length) (V.str []):=by
  rw[List.drop_append];have:(c.map V.str).drop (c.length+(l.map V.str).length)=[]:=List.drop_of_length_le (by simp);rw[this,List.nil_append,List.drop_replicate]
  congr 1
  simp only[zra,zqa];omega
 rw[e1,e2,zql]
theorem GM[MO](ls:List (List S))(hn:ls.flatten.length<=1000000000)(hls:ls.length<=1000000000):EvF TE 167 [.is true 1 (ls.map aN)] 1 ls.flatten.length (ls.flatten.map V.str):=by
 have hM:=mLx;have hget:∀ {i:Nat} (h:i<ls.length) (d:V),(ls.map aN).getD i d=aN ls[i]:=fun h d=>fP h d;unfold EvF;refine aj Tryz.func167 rfl (by simp[nts]) (vm ?_);simp only[wq.1,seval,Tryz.results167];refine aC (fun m f h=>∃i,m+i=ls.length/\f.t 0= .is true 1 (ls.map aN)/\f.t 3=vi (ls.take i).flatten.length/\f.t 9= .is true 1 (ls.map aN)/\f.t 10=vi ls.length/\f.t 11=vi i/\f.d=[]/\h=[]) ls.length ⟨0,by simp,rfl,rfl,rfl,by simp only[wq.1,seval],rfl,rfl,rfl⟩ ?_;rintro m f h ⟨i,hm,h0,h3,h9,h10,h11,hd,rfl⟩;refine vm ?_;simp only[wq.1,seval,h10,h11];refine vcB.mk (fun hc=> ?_) (fun hc=> ?_)
 ·simp only[zqb,zqi]at hc;have hfl:=BQ hc;have hw:IntKind.i64.wrap (((ls.take i).flatten.length:Int)+(ls[i].length:Int))=((ls.take (i+1)).flatten.length:Int):=by
   rw[iD hc,zqa,zQ (by omega) (by omega)];omega
  simp only[wq.1,seval,h3,h9,h11,hget hc,hw];refine⟨⟨by omega,by omega⟩,vcB.mk (fun hc'=> ?_) (fun hc'=> ?_)⟩
  ·simp only[zqb]at hc';omega
  ·simp only[wq.1,seval,h11,aB (show i<maxLen by omega)];exact .inl ⟨m-1,by omega,i+1,by omega,h0,rfl,h9,h10,rfl,hd,rfl⟩
 ·simp only[zqd,zqi]at hc;have hi:ls.take i=ls:=zqh (by omega);rw[hi]at h3;simp only[wq.1,seval,h3];refine QV ls.flatten.length hn _ (fun v0 h0' hcat=> ?_);simp only[wq.1,seval,h0];refine aC (fun m f h=>∃i v,m+i=ls.length/\f.t 25= .is true 1 (ls.map aN)/\f.t 26=vi ls.length/\f.t 27=vi i/\f.t 6=v/\f.d=[]/\Yy ls.flatten.length (ls.take i).flatten v h) ls.length ⟨0,v0,by simp,by simp only[wq.1,seval],by simp only[wq.1,seval],rfl,rfl,by simp only[wq.1,hd],by simpa using hcat⟩ ?_;rintro m f h ⟨i,v,hm,h25,h26,h27,h6,hd,hcat⟩;refine vm ?_;simp only[wq.1,seval,h26,h27];refine vcB.mk (fun hc=> ?_) (fun hc=> ?_)
  ·simp only[zqb,zqi]at hc;have hfl:=BQ hc;have hnext:f.t 27=vi i->IntKind.i64.wrap ((i:Int)+1)=((i+1:Nat):Int):=fun _=>aB (by omega);rcases hcat with⟨hc0,rfl,rfl,hn0⟩|⟨hcl,rfl,rfl⟩
   ·have hl0:ls[i]=[]:=List.eq_nil_of_length_eq_zero (by omega);simp only[wq.1,seval,h25,h27,h6,hget hc,hl0,aB (show i<maxLen by omega)];refine⟨⟨by omega,by omega⟩,by omega,.inl ⟨m-1,by omega,i+1,_,by omega,h25,h26,rfl,rfl,hd,?_⟩⟩;right;rw[iD hc,hl0,hc0,hn0];exact⟨zrb _,rfl,rfl⟩
   ·by_cases hlt:(ls.take i).flatten.length<ls.flatten.length
    ·have hdt:decide ((ls.take i).flatten.length<ls.flatten.length)=true:=by simpa using hlt
     simp only[wq.1,seval,h25,h27,h6,hget hc,aB (show i<maxLen by omega),mZ,hdt];refine⟨⟨by omega,by omega⟩,⟨by omega,by omega,by rw[zsc];omega⟩,.inl ⟨m-1,by omega,i+1,_,by omega,h25,h26,rfl,rfl,hd,?_⟩⟩;right;rw[iD hc];refine⟨by rw[zqa];omega,by simp only[wq.1,seval],?_⟩;have hsp:=GL (ls.take i).flatten ls[i] ls.flatten.length hfl;unfold dm at hsp;rw[zra]at hsp;rw[Nat.mul_one,hsp]
    ·have hdt:decide ((ls.take i).flatten.length<ls.flatten.length)=false:=by simpa using hlt
     have hl0:ls[i]=[]:=List.eq_nil_of_length_eq_zero (by omega);have hne:(ls.take i).flatten.length=ls.flatten.length:=by omega
     simp only[wq.1,seval,h25,h27,h6,hd,hget hc,aB (show i<maxLen by omega),hdt,hl0];refine⟨⟨by omega,by omega⟩,⟨by rw[zsc];omega,by omega,by omega⟩,.inl ⟨m-1,by omega,i+1,_,by omega,by simp only[wq.1,seval,h25],by simp only[wq.1,seval,h26],rfl,rfl,hd,?_⟩⟩;right;rw[iD hc,hl0,zqp,hne,Nat.sub_self];refine⟨zrb _,by simp only[wq.1,seval],?_⟩;simp only[List.replicate_zero,V.drops]
  ·simp only[zqd,zqi]at hc;have hi:ls.take i=ls:=zqh (by omega);rw[hi]at hcat;simp only[wq.1,seval,h6,hd];rcases hcat with⟨hc0,rfl,rfl,hn0⟩|⟨hcl,rfl,rfl⟩
   ·exact .inl ⟨rfl,hn0,by rw[hc0];rfl⟩
   ·rw[Nat.sub_self,List.replicate_zero,zqp];exact .inr ⟨0,_,rfl,zrb _,rfl⟩
open Go.RowKit
theorem zt(b:Nat)(w:World)(h0:w.cell? ⟨b,0,none⟩=some (.pointer (some ⟨b,0,none⟩))) :
 Calls Tryz.prog 83 #[.pointer (some ⟨b,0,none⟩)] w fun e w'=>e= .returned (.tuple #[])/\w'=w:=by
 obtain⟨j,hj,_⟩:∃j,Tryz.prog.info? 81=some j/\True:=⟨_,rfl,trivial⟩
 go_enter Tryz.func83,Tryz.ntmps83
 go_wp2
 rw[Lib.run_neq_ptr_same w _ Tryz.underlying78 hj]
 go_wp2
 go_end0
 exact⟨rfl,rfl⟩
theorem xR(b:Nat)(w:World)(T cells:Nat)(h0:w.cell? ⟨b,0,none⟩=some (.pointer none))(hsh:w.shape? b=some (T,cells))(hc:0<cells)(hl:liesAt Tryz.prog Tryz.prog.depth T (cells/Tryz.prog.cellsOf T) 0 81 1=true)(hfz:w.frozen? ⟨b,0,none⟩=false) :
 Calls Tryz.prog 83 #[.pointer (some ⟨b,0,none⟩)] w fun e w'=>e= .returned (.tuple #[])/\w'=w.setCell ⟨b,0,none⟩ (.pointer (some ⟨b,0,none⟩)):=by
 obtain⟨j,hj,hjs⟩:∃j,Tryz.prog.info? 81=some j/\j.size≠0:=⟨_,rfl,by decide⟩
 go_enter Tryz.func83,Tryz.ntmps83
 go_wp2
 rw[Lib.run_to_unsafe w ⟨b,0,none⟩ Tryz.underlying78 Tryz.underlying215 hj hjs hsh hc];simp only[Result.andThen];rw[Oper.upon_value]
 go_wp2
 rw[run_callFunc_extern Tryz.func144 (by kernel_rfl) (by kernel_rfl) (by kernel_rfl) (e:=Extern.AbiNoEscape.same) (by kernel_rfl)];rw[Lib.run_noEscape];simp only[Result.andThen];rw[Oper.upon_value]
 go_wp2
 rw[Lib.run_from_unsafe w ⟨b,0,none⟩ Tryz.underlying215 Tryz.underlying78 hj hsh hl];simp only[Result.andThen];rw[Oper.upon_value]
 go_wp2
 go_end0
 exact⟨rfl,rfl⟩
def BT(T:Nat):Prop:=Tryz.prog.cellsOf T=2/\∀k,liesAt Tryz.prog Tryz.prog.depth T (k+1) 0 81 1=true
theorem zX:BT 81:=⟨by kernel_rfl,fun k=>by kernel_rfl⟩
theorem QW{h:H}{i:Nat}{o:O}(hi:h[i]? =some o):h.set i o=h:=by obtain⟨h1,h2⟩:=zqe hi;rw[<-h2,List.set_getElem_self]
theorem oO[MO]{T:Nat}(hT:BT T){id:Nat}{a buf:V}{h:H}{R:AEnd->H->(Nat->Bool)->Prop}(ha:a= .nilp\/a= .lp id 0)(hh:h[id]? =some (.typed T [a,buf]))
 (hr:R (.ret (.tup [])) (h.set id (.typed T [.lp id 0,buf])) (fun _=>false)):ag TE 83 [.lp id 0] h R:=by
 intro ok pl w vs hs hl;simp only[VList,VRel]at hl;obtain⟨y,ys,rfl,⟨b,hb,rfl⟩,rfl⟩:=hl;have hb:pl id=some b:=hb;obtain⟨o,ho,hat⟩:=hs.obj id b hb;rw[hh]at ho;cases ho;obtain⟨arr,fz,g1,g2,g3,g4⟩:=hat;have g1:w.heap[b]? =some (.cells arr T fz):=g1;have hsz:2<=arr.size:=g3;have hx0:∃x0,arr[0]? =some x0/\VRel (cx ok pl w) a x0:=by
  obtain⟨x,h1,h2⟩:=VList.get 0 a g4 rfl;refine⟨x,?_,h2⟩;rw[List.getElem?_take_of_lt (by simp)]at h1;simpa using h1
 obtain⟨x0,h0,hr0⟩:=hx0;have hcell:w.cell? ⟨b,0,none⟩=some x0:=by rw[Lib.cell_of_heap g1];exact h0
 rcases ha with rfl|rfl
 ·simp only[VRel]at hr0;subst hr0;have hsh:w.shape? b=some (T,arr.size):=by unfold World.shape?;rw[g1]
  obtain⟨k,hk⟩:∃k,arr.size/2=k+1:=⟨arr.size/2-1,by omega⟩;have hfz:w.frozen? ⟨b,0,none⟩=false:=by have:=g2 0 (by omega);unfold World.frozen?;rw[g1];simp;omega
  refine(xR b w T arr.size hcell hsh (by omega) (by rw[hT.1,hk];exact hT.2 k) hfz).mono ?_;rintro e w' ⟨rfl,rfl⟩;obtain⟨w'',h1,h2,h3⟩:=vz hs hb (off:=0) (vs:=[.lp id 0]) (xs:=[.pointer (some ⟨b,0,none⟩)]) (by simp only[VList,VRel];exact⟨_,_,rfl,⟨b,hb,rfl⟩,rfl⟩) rfl hh (by simp);have h4:=gp (P:=TE.P) (vs:=[.pointer (some ⟨b,0,none⟩)]) (o:=0) g1 g2 (by simp;omega) (fun v hv=>by simp at hv;subst hv;rfl);rw[h4]at h1;cases h1;exact⟨fun _=>false,pl,_,.ret (.tup []),h2,h3,by show VRel _ _ _;simp only[VRel,VList];exact⟨#[],rfl,rfl⟩,hr⟩
 ·simp only[VRel]at hr0;obtain⟨b',hb',rfl⟩:=hr0;have hb':pl id=some b':=hb';rw[hb]at hb';cases hb';refine(zt b w hcell).mono ?_;rintro e w' ⟨rfl,rfl⟩;rw[QW hh]at hr;exact⟨fun _=>false,pl,h,.ret (.tup []),hs,Keeps.refl pl _,by show VRel _ _ _;simp only[VRel,VList];exact⟨#[],rfl,rfl⟩,hr⟩
abbrev vb(c:UInt8):V:= .int .u8 c.toNat
theorem Em:∀l:S,dA (l.map vb)=true
 |[]=>rfl
 |a::l=>by simp only[zrd,dA,Em l,V.one,V.vc,zrk];rfl
theorem sO{p:Nat->Bool}:∀c:S,V.drops p (c.map vb)=c.map vb
 |[]=>rfl
 |a::l=>by simp only[zrd,V.drops,V.drop,sO l]
theorem NE[MO]{T:Nat}(hT:BT T){id:Nat}{a:V}{h:H}{R:AEnd->H->(Nat->Bool)->Prop}(s:S)(ha:a= .nilp\/a= .lp id 0)(hh:h[id]? =some (.typed T [a,.nils]))(hs:s≠[])(hl:s.length<=20000000000000)
 (hr:R (.ret (.tup [vi s.length,.nili])) ((h++[O.typed 5 (s.map vb)]).set id (.typed T [.lp id 0,.ls h.length 1 0 s.length s.length])) (fun _=>false)):ag TE 39 [.lp id 0,.str s] h R:=by
 have hM:=mLx;have hlt:id<h.length:=(zqe hh).1;have hpos:0<s.length:=List.length_pos_iff.2 hs;refine aj Tryz.func39 rfl (by simp[nts]) ?_;refine vn ?_;simp only[wq.1,Nat.reduceLT,Tryz.results39];refine vn ?_;simp only[wq.1,seval];refine oO hT ha hh ?_;simp only[wq.1];have h1:(h.set id (.typed T [.lp id 0,.nils]))[id]? =some (.typed T [.lp id 0,.nils]):=by simp[hlt]
 refine ai (iT ?_);refine az rfl rfl ?_;simp only[wq.1,seval];refine az rfl rfl ?_;simp only[wq.1,seval];refine az rfl rfl ?_;simp only[wq.1,↓reduceIte];refine az rfl rfl ?_;simp only[wq.1,seval];refine az rfl rfl ?_;simp only[wq.1,seval,h1];refine az rfl rfl ?_;simp only[wq.1,seval];have hq:ti TE.P 79=some ⟨.slice 5,1,24,.nils⟩:=by simp only[wq.1]
 have hqe:ti TE.P 5=some ⟨.int .u8,1,1,.int .u8 0⟩:=by simp only[wq.1]
 refine eX rfl rfl ?_;refine uD (x:= .tmp 12) (y:= .tmp 13) (t:=79) (xt:=9) (el:=5) (m:=s.length) (cs:=s.map vb) ⟨⟨_,rfl,rfl,rfl⟩,hq,rfl,hqe,rfl,rfl,Nat.zero_lt_one⟩ (by simp only[wq.1,seval]) (by simp only[wq.1,↓reduceIte]) (by simp only[wq.1,seval]) (by simp only[wq.1,↓reduceIte]) (by simp only[wq.1,↓reduceIte]) (by simp only[wq.1,↓reduceIte]) hpos (by omega) (by show(0+s.length)*1<=_;omega) ?_;have h2:(h.set id (O.typed T [.lp id 0,.nils])++[O.typed 5 (s.map vb)])[id]? =some (.typed T [.lp id 0,.nils]):=by rw[zqj (by simpa using hlt)];exact h1
 simp only[wq.1,zrn];refine az rfl rfl ?_;simp only[wq.1,seval];refine az rfl rfl ?_;simp only[wq.1,seval];refine eX rfl rfl ?_;refine zT (t:=79) (x:= .tmp 16) (y:= .tmp 14) rfl (id:=id) (off:=1) (by simp only[wq.1,↓reduceIte]) (by simp only[wq.1,↓reduceIte]) (by simp only[wq.1,seval]) hq (by simp only[wq.1,seval]) (by simp only[wq.1,seval]) (by simp only[wq.1,seval]) h2 (by simp only[wq.1,seval]) ?_;refine dX ?_;simp only[wq.1,seval];refine vm ?_;simp only[wq.1,seval];rw[List.set_append_left _ _ (by simpa using hlt),List.set_set,<-List.set_append_left _ _ hlt];exact hr
theorem En(p:Nat->Bool)(h:H)(i:Nat)(o:O):(h.set i o).map (O.drop p)=(h.map (O.drop p)).set i (o.drop p):=by rw[List.map_set]
theorem QX[MO]{T:Nat}(hT:BT T){id bid:Nat}{a:V}{h:H}{R:AEnd->H->(Nat->Bool)->Prop}(out s:S)(ha:a= .nilp\/a= .lp id 0)(hne:id≠bid)(hh:h[id]? =some (.typed T [a,.ls bid 1 0 out.length out.length]))(hb:h[bid]? =some (.typed 5 (out.map vb)))(hl:out.length+s.length<=20000000000000)
 (hr:R (.ret (.tup [vi s.length,.nili])) (((h.map (O.drop (·==bid))).set bid (O.typed 5 ((out++s).map vb))).set id (.typed T [.lp id 0,.ls bid 1 0 (out++s).length (out++s).length])) (·==bid)):ag TE 39 [.lp id 0,.str s] h R:=by
 have hM:=mLx;have hlt:id<h.length:=(zqe hh).1;have hltb:bid<h.length:=(zqe hb).1;have hidb:(id==bid)=false:=by simpa using hne
 refine aj Tryz.func39 rfl (by simp[nts]) ?_;refine vn ?_;simp only[wq.1,Nat.reduceLT,Tryz.results39];refine vn ?_;simp only[wq.1,seval];refine oO hT ha hh ?_;simp only[wq.1];have h1:(h.set id (.typed T [.lp id 0,.ls bid 1 0 out.length out.length]))[id]? =some (.typed T [.lp id 0,.ls bid 1 0 out.length out.length]):=by simp[hlt]
 have h1b:(h.set id (.typed T [.lp id 0,.ls bid 1 0 out.length out.length]))[bid]? =some (.typed 5 (out.map vb)):=by rw[zqn hne];exact hb
 refine ai (iT ?_);refine az rfl rfl ?_;simp only[wq.1,seval];refine az rfl rfl ?_;simp only[wq.1,seval];refine az rfl rfl ?_;simp only[wq.1,↓reduceIte];refine az rfl rfl ?_;simp only[wq.1,seval];refine az rfl rfl ?_;simp only[wq.1,seval,h1];refine az rfl rfl ?_;simp only[wq.1,seval];have hq:ti TE.P 79=some ⟨.slice 5,1,24,.nils⟩:=by simp only[wq.1]
 have hqe:ti TE.P 5=some ⟨.int .u8,1,1,.int .u8 0⟩:=by simp only[wq.1]
 refine eX rfl rfl ?_;refine vZ (x:= .tmp 12) (y:= .tmp 13) (t:=79) (xt:=9) (el:=5) (m:=s.length) (cs:=s.map vb) (len:=out.length) (cap:=out.length) ⟨⟨_,rfl,rfl,rfl⟩,hq,rfl,hqe,rfl,rfl,Nat.zero_lt_one⟩ (by simp only[wq.1,seval]) (by simp only[wq.1,↓reduceIte]) (id:=bid) (by simp only[wq.1,seval]) h1b (by rw[zra];show _=out.length*1;omega) (by simp only[wq.1,↓reduceIte]) (by simp only[wq.1,↓reduceIte]) (by simp only[wq.1,↓reduceIte]) (Em s) (by omega) (by show(out.length+s.length)*1<=_;omega) (by simp only[wq.1]) ?_;rw[fG,sO,sO,En];have e1:(O.typed T [.lp id 0,.ls bid 1 0 out.length out.length]).drop (·==bid)= .typed T [.lp id 0,.any]:=by
  simp only[O.drop,V.drops,V.drop,hidb,beq_self_eq_true,zrm,if_false,if_true]
 rw[e1];generalize hG:h.map (O.drop (·==bid))=G at hr ⊢;have hGl:id<G.length:=by rw[<-hG,zra];exact hlt
 have h2:((G.set id (O.typed T [.lp id 0,.any])).set bid (O.typed 5 (out.map vb++s.map vb)))[id]? =some (.typed T [.lp id 0,.any]):=by rw[zqn (Ne.symm hne)];simp[hGl]
 simp only[wq.1];refine az rfl rfl ?_;simp only[wq.1,seval,hidb];refine az rfl rfl ?_;simp only[wq.1,seval];refine eX rfl rfl ?_;refine zT (t:=79) (x:= .tmp 16) (y:= .tmp 14) rfl (id:=id) (off:=1) (by simp only[wq.1,↓reduceIte]) (by simp only[wq.1,↓reduceIte]) (by simp only[wq.1,seval]) hq (by simp only[wq.1,seval]) (by simp only[wq.1,seval]) (by simp only[wq.1,seval]) h2 (by simp only[wq.1,seval]) ?_;refine dX ?_;simp only[wq.1,seval];refine vm ?_;simp only[wq.1,seval];rw[zql,zqa]at hr;rw[List.set_comm _ _ hne,List.set_set];exact hr
theorem Kr(b g len cap cells:Nat)(l:List UInt8)(w:World)(c1:w.drew.cell? ⟨b,1,none⟩=some (.slice (some ⟨g,0,none⟩) l.length cap))(hcap:cap≠0)(hsh:w.drew.shape? g=some (5,cells))(hn:l.length<=cells)(h63:l.length<=9223372036854775807)(h0:l≠[])(hcell:∀j x,l[j]? =some x->w.drew.cell? ((⟨g,0,none⟩:Addr).add j)=some (.int .u8 x.toNat)) :
 Calls Tryz.prog 42 #[.pointer (some ⟨b,0,none⟩)] w fun e w'=>e= .returned (.string ⟨l.toArray⟩)/\w'=w.drew.freeze ⟨g,0,none⟩ l.length:=by
 have hSD:(Builtin.unsafeSliceData_ #[79] 145 #[.slice (some ⟨g,0,none⟩) l.length cap]).run Tryz.prog w.drew= .ok (.pointer (some ⟨g,0,none⟩)) w.drew :=
  Lib.run_unsafeSliceData_row w.drew _ _ _ _ _ hcap
 have hUS:(Builtin.unsafeString_ #[145,3] 9 #[.pointer (some ⟨g,0,none⟩),.int .i64 l.length]).run Tryz.prog w.drew= .ok (.string ⟨l.toArray⟩) (w.drew.freeze ⟨g,0,none⟩ l.length) :=
  Lib.run_unsafeString_row w.drew 145 3 9 5 Tryz.underlying145 (by kernel_rfl) g cells hsh l h0 hn h63 hcell
 go_enter Tryz.func42,Tryz.ntmps42
 go_wp2
 go_region
 all_goals (go_wp2;go_ret;exact⟨rfl,rfl⟩)
theorem UK[MO]{T id bid:Nat}{a:V}{h:H}{R:AEnd->H->(Nat->Bool)->Prop}(out:S)(hh:h[id]? =some (.typed T [a,.ls bid 1 0 out.length out.length]))(hb:h[bid]? =some (.typed 5 (out.map vb)))(h0:out≠[])(hl:out.length<=20000000000000)
 (hr:R (.ret (.str out)) ((h.map (O.drop (·==bid))).set bid .dead) (·==bid)):ag TE 42 [.lp id 0] h R:=by
 intro ok pl w vs hs hv;simp only[VList,VRel]at hv;obtain⟨y,ys,rfl,⟨b,hpb,rfl⟩,rfl⟩:=hv;have hpb:pl id=some b:=hpb;have hpos:0<out.length:=List.length_pos_iff.2 h0;obtain⟨o,ho,hat⟩:=hs.obj id b hpb;rw[hh]at ho;cases ho;obtain⟨arr,fz,g1,g2,g3,g4⟩:=hat;have g1:w.heap[b]? =some (.cells arr T fz):=g1;obtain⟨x1,e1,r1⟩:=VList.get 1 (.ls bid 1 0 out.length out.length) g4 rfl;have e1:arr[1]? =some x1:=by
  rw[List.getElem?_take_of_lt (by simp)]at e1;simpa using e1
 simp only[VRel]at r1;obtain⟨ad,cp,rfl,q2,q3,q4,q5⟩:=r1;rcases q5 with q5|⟨g,arr2,el2,fz2,q6,rfl,q8,q9⟩
 ·omega
 have q6:pl bid=some g:=q6;obtain⟨o,ho,hat⟩:=hs.obj bid g q6;rw[hb]at ho;cases ho;obtain⟨arr3,fz3,k1,k2,k3,k4⟩:=hat;have k1:w.heap[g]? =some (.cells arr3 5 fz3):=k1;have k3:out.length<=arr3.size:=by simpa using k3
 have hcell:w.drew.cell? ⟨b,1,none⟩=some (.slice (some ⟨g,0,none⟩) out.length cp):=by rw[Lib.cell_of_heap (w:=w.drew) g1];exact e1
 have hsh:w.drew.shape? g=some (5,arr3.size):=by unfold World.shape?;show(match w.heap[g]? with|some (.cells c e _)=>some (e,c.size)|_=>none)=_;rw[k1]
 refine(Kr b g out.length cp arr3.size out w hcell (by omega) hsh k3 (by omega) h0 fun j x hx=> ?_).mono ?_
 ·have hj:j<out.length:=(zqe hx).1;obtain⟨x2,hx2,r2⟩:=VList.get j (vb x) k4 (by rw[zqo,hx];rfl);simp only[VRel]at r2;subst r2;rw[zra,List.getElem?_take_of_lt hj]at hx2;rw[di,Lib.cell_of_heap (w:=w.drew) k1,Nat.zero_add];simpa using hx2
 ·rintro en w' ⟨rfl,rfl⟩;have hsz:(w.drew.freeze ⟨g,0,none⟩ out.length).heap.size=w.heap.size:=by
   unfold World.freeze;rw[if_neg (by omega)];exact Array.size_modify
  have hsame:∀i,i≠g->(w.drew.freeze ⟨g,0,none⟩ out.length).heap[i]? =w.heap[i]? :=fun i hi=>by unfold World.freeze;rw[if_neg (by omega)];show(w.heap.modify g _)[i]? =_;rw[Array.getElem?_modify,if_neg (Ne.symm hi)]
  have hrow:∀arr el fz,w.heap[g]? =some (.cells arr el fz)->∃arr' fz',(w.drew.freeze ⟨g,0,none⟩ out.length).heap[g]? =some (.cells arr' el fz')/\arr'.size=arr.size:=fun a3 el fz4 ha=>by unfold World.freeze;rw[if_neg (by omega)];refine⟨a3,(if fz4.1==fz4.2 then(0,0+out.length)else(min fz4.1 0,max fz4.2 (0+out.length))),?_,rfl⟩;show(w.heap.modify g _)[g]? =_;rw[Array.getElem?_modify,if_pos rfl,ha];rfl
  have hos:(w.drew.freeze ⟨g,0,none⟩ out.length).os=w.os/\(w.drew.freeze ⟨g,0,none⟩ out.length).tape=w.tape/\(w.drew.freeze ⟨g,0,none⟩ out.length).output=w.output:=by unfold World.freeze;rw[if_neg (by omega)];exact⟨rfl,rfl,rfl⟩
  obtain⟨s1,s2⟩:=hs.burn q6 hos.1 hos.2.1 hos.2.2 hsz hsame hrow;exact⟨_,_,_,.ret (.str out),s1,s2,by show VRel _ _ _;simp only[VRel];exact⟨_,rfl,by simp,by have:maxLen=9223372036854775807:=rfl;omega⟩,hr⟩
def WX:S:=[48,49,50,51,52,53,54,55,56,57,97,98,99,100,101,102]
def QY(n:Nat):UInt8:=WX.getD n 0
def zg(c:UInt8):Int:=match WX.findIdx? (·==c)with|some i=>i|none=>-1
def qA:S:=[120,95,95]
def QZ(c:UInt8):S:=[QY (c.toNat/16),QY (c.toNat%16)]
def bg(s:S):S:=qA++s.flatMap QZ
def jX:S->S
 |a::b::r=>UInt8.ofNat ((zg a*16+zg b)%256).toNat::jX r
 |_=>[]
def bH(s:S):S:=jX (if qA.isPrefixOf s=true then s.drop 3 else s)
theorem Eo:∀n:Nat,n<16->zg (QY n)=n:=by decide
theorem GN(s:S):jX (s.flatMap QZ)=s:=by
 induction s with
 |nil=>rfl
 |cons c s ih =>
  show UInt8.ofNat ((zg (QY (c.toNat/16))*16+zg (QY (c.toNat%16)))%256).toNat::jX (s.flatMap QZ)=c::s;have h1:=UInt8.toNat_lt c;rw[ih,Eo _ (by omega),Eo _ (by omega)]
  congr 1
  have:((((c.toNat/16:Nat):Int)*16+((c.toNat%16:Nat):Int))%256).toNat=c.toNat:=by omega
  rw[this];exact UInt8.ofNat_toNat
theorem vH(s:S):qA.isPrefixOf (bg s)=true:=by simp[bg,qA,List.isPrefixOf]
theorem uI(s:S):bH (bg s)=s:=by unfold bH;rw[if_pos (vH s)];exact GN s
structure Tk where
 k:Nat
 t:S
 at':Nat
def Tk.s(x:Tk):Nat×S:=(x.k,x.t)
theorem X7{p:UInt8->Bool}{w r:S}(hw:∀c∈w,p c=true)(hr:∀c,r.head? =some c->p c=false):(w++r).takeWhile p=w/\(w++r).dropWhile p=r:=by
 induction w with
 |nil =>
  cases r with
  |nil=>exact⟨rfl,rfl⟩
  |cons c r=>have:=hr c rfl;simp[List.takeWhile,List.dropWhile,this]
 |cons a w ih=>have ha:=hw a (by simp);obtain⟨h1,h2⟩:=ih fun c hc=>hw c (by simp[hc]);simp[List.takeWhile,List.dropWhile,ha,h1,h2]
structure Ga where
 name:S
 op:Int
 ins:List S
 rows:List S
 off:Bool
structure La where
 name:S
 next:S
 init:Int
structure Ci where
 ins:List S
 outs:List S
 lat:List La
 gates:List Ga
def Lh(op n:Nat):Bool:=match op with
 |0=>n==0
 |1=>n==0
 |2=>n==1
 |3=>n==1
 |10=>decide (n<=8)
 |k=>decide (k<10)&&(decide (2<=n)&&decide (n<=8))
def uJ(op:Int)(n:Nat):Bool:=decide (0<=op)&&(decide (op<=10)&&Lh op.toNat n)
def zu:Nat->Nat
 |0=>0
 |k+1=>(k+1)%2+zu ((k+1)/2)
def Kt(n k:Nat):S:=(List.range n).map fun i=>UInt8.ofNat (48+k/2^(n-1-i)%2)
def XU(n:Nat)(odd:Bool):List S:=((List.range (2^n)).filter fun k=>(zu k%2==1)==odd).map (Kt n)
def xU(op n:Nat):List S×Bool:=match op with
 |0=>([],false)
 |1=>([List.replicate n 49],false)
 |2=>([List.replicate n 49],false)
 |3=>([List.replicate n 48],false)
 |4=>([List.replicate n 49],false)
 |5=>([List.replicate n 49],true)
 |6=>([List.replicate n 48],true)
 |7=>([List.replicate n 48],false)
 |8=>(XU n true,false)
 |_=>(XU n false,false)
def jY(n:Nat)(rows:List S)(off:Bool):Option Nat:=(List.range 10).find? fun op=>Lh op n&&(off==(xU op n).2&&(xU op n).1==rows)
def jm(g:Ga):Ga :=
 if g.ins.length = 1 /\ g.rows = [] /\ g.off = false then
  if g.op=4\/g.op=6\/g.op=8 then {g with op:=2} else if g.op=5\/g.op=7\/g.op=9 then {g with op:=3} else g
 else g
def aZ(g:Ga):Ga :=
 if(jm g).op≠10 then jm g else match jY g.ins.length g.rows g.off with
  |some op=>⟨g.name,op,g.ins,[],false⟩
  |none=>jm g
structure GOk(g:Ga):Prop where
 h:uJ g.op g.ins.length=true
 r:g.op≠10->g.rows=[]/\g.off=false
structure GCan(g:Ga):Prop where
 h:uJ g.op g.ins.length=true
 r:g.op≠10->g.rows=[]/\g.off=false
 c:g.op=10->jY g.ins.length g.rows g.off=none
theorem UL{op n:Nat}(h1:op<=10)(h:Lh op n=true):uJ (op:Int) n=true:=by unfold uJ;rw[decide_eq_true (by omega),decide_eq_true (by omega),zsg,h];rfl
theorem UM{op n:Nat}(h:Lh op n=true):n<9:=by
 unfold Lh at h;split at h
 ·have:n=0:=by simpa using h
  omega
 ·have:n=0:=by simpa using h
  omega
 ·have:n=1:=by simpa using h
  omega
 ·have:n=1:=by simpa using h
  omega
 ·have:n<=8:=by simpa using h
  omega
 ·simp only[zqf,zqb]at h;omega
theorem Ku{g:Ga}(h:g.op=10):jm g=g:=by
 unfold jm;split
 ·rw[if_neg (by omega),if_neg (by omega)]
 ·rfl
theorem WY{g:Ga}(h:GOk g):GOk (jm g)/\(jm g).ins=g.ins/\(jm g).name=g.name:=by
 unfold jm;split
 ·rename_i h1;split
  ·exact⟨⟨by show uJ 2 g.ins.length=true;rw[h1.1];rfl,fun _=>⟨h1.2.1,h1.2.2⟩⟩,rfl,rfl⟩
  ·split
   ·exact⟨⟨by show uJ 3 g.ins.length=true;rw[h1.1];rfl,fun _=>⟨h1.2.1,h1.2.2⟩⟩,rfl,rfl⟩
   ·exact⟨h,rfl,rfl⟩
 ·exact⟨h,rfl,rfl⟩
theorem xW{n op:Nat}{rows:List S}{off:Bool}(h:jY n rows off=some op):op<10/\Lh op n=true/\xU op n=(rows,off):=by unfold jY at h;have h1:=List.mem_of_find?_eq_some h;have h2:=List.find?_some h;simp only[zqf,beq_iff_eq]at h2;exact⟨List.mem_range.1 h1,h2.1,by rw[h2.2.1,<-h2.2.2]⟩
theorem Ep{g:Ga}(h:GOk g):GCan (aZ g)/\(aZ g).ins=g.ins/\(aZ g).name=g.name:=by
 obtain⟨o1,o2,o3⟩:=WY h;unfold aZ;split
 ·rename_i h1;exact⟨⟨o1.h,o1.r,fun e=>absurd e h1⟩,o2,o3⟩
 ·rename_i h1;have h1:(jm g).op=10:=Decidable.not_not.1 h1;have hg:g.op=10:=by
   unfold jm at h1;split at h1
   ·split at h1
    ·cases h1
    ·split at h1
     ·cases h1
     ·exact h1
   ·exact h1
  rw[Ku hg];cases hf:jY g.ins.length g.rows g.off with
  |none=>exact⟨⟨h.h,h.r,fun _=>hf⟩,rfl,rfl⟩
  |some op=>obtain⟨f1,f2,_⟩:=xW hf;refine⟨⟨UL (by omega) f2,fun _=>⟨rfl,rfl⟩,fun e=> ?_⟩,rfl,rfl⟩;have e:((op:Nat):Int)=10:=e;omega
def bf(c:Ci):List S:=c.ins++c.lat.map (·.name)++c.gates.map (·.name)
def fZ(c:Ci):List S:=c.outs++c.lat.map (·.next)++c.gates.flatMap (·.ins)
def dG(c:Ci):List S:=c.ins++c.outs++c.lat.flatMap (fun q=>[q.name,q.next])++c.gates.flatMap (fun g=>g.name::g.ins)
def Yz(c:UInt8):Bool:=c==48||c==49||c==45
def ng(n:Nat)(s:S):Bool:=s.length==n&&s.all Yz
def jo(g:Ga):Bool:=(g.op==10||(g.rows.isEmpty&& !g.off))&&(uJ g.op g.ins.length&&(decide (g.rows.length<=128)&&g.rows.all (ng g.ins.length)))
def zY(g:Ga):Bool:=decide (8<g.ins.length)||decide (128<g.rows.length)
def Lj(c:Ci):Bool:=decide (c.ins.length+c.lat.length+c.gates.length<=200)&&(decide (c.outs.length<=200)&& !c.gates.any zY)
def zh:List S->List S->Option S
 |_,[]=>none
 |seen,s::l=>if seen.contains s=true then some s else zh (seen++[s]) l
def oP(q:La):Bool:=decide (0<=q.init)&&decide (q.init<=2)
def nT(c:Ci):Int×S :=
 if Lj c=false then(8,[])else
 match (dG c).find? (fun s=> !aS s)with
 |some s=>(4,s)
 |none=>match zh [] (bf c)with
  |some s=>(5,s)
  |none=>match zh [] c.outs with
   |some s=>(5,s)
   |none=>match c.lat.find? (fun q=> !oP q)with
    |some q=>(1,q.name)
    |none=>match c.gates.find? (fun g=> !jo g)with
     |some g=>(1,g.name)
     |none=>match (fZ c).find? (fun s=> !(bf c).contains s)with
      |some s=>(6,s)
      |none=>(0,[])
structure NetOk(c:Ci):Prop where
 lim:Lj c=true
 told:∀s∈dG c,aS s=true
 nets:zh [] (bf c)=none
 outs:zh [] c.outs=none
 lat:∀q∈c.lat,oP q=true
 gates:∀g∈c.gates,jo g=true
 used:∀s∈fZ c,(bf c).contains s=true
theorem BR(c:Ci):(nT c).1=0↔NetOk c:=by
 unfold nT;constructor
 ·intro h;split at h
  ·cases h
  ·rename_i h1;split at h
   ·cases h
   ·rename_i h2;split at h
    ·cases h
    ·rename_i h3;split at h
     ·cases h
     ·rename_i h4;split at h
      ·cases h
      ·rename_i h5;split at h
       ·cases h
       ·rename_i h6;split at h
        ·cases h
        ·rename_i h7;rw[List.find?_eq_none]at h2 h5 h6 h7;exact⟨by simpa using h1,fun s hs=>by simpa using h2 s hs,h3,h4,fun q hq=>by simpa using h5 q hq,fun g hg=>by simpa using h6 g hg,fun s hs=>by simpa using h7 s hs⟩
 ·intro h;have e2:(dG c).find? (fun s=> !aS s)=none:=by rw[List.find?_eq_none];intro s hs;simp[h.told s hs]
  have e5:c.lat.find? (fun q=> !oP q)=none:=by rw[List.find?_eq_none];intro q hq;simp[h.lat q hq]
  have e6:c.gates.find? (fun g=> !jo g)=none:=by rw[List.find?_eq_none];intro g hg;simp[h.gates g hg]
  have e7:(fZ c).find? (fun s=> !(bf c).contains s)=none:=by rw[List.find?_eq_none];intro s hs;have h7:=h.used s hs;simp at h7;simp[h7]
  rw[if_neg (by rw[h.lim];decide),e2,h.nets,h.outs,e5,e6,e7]
theorem sQ{g:Ga}(h:jo g=true):GOk g/\g.rows.length<=128/\∀r∈g.rows,ng g.ins.length r=true:=by unfold jo at h;simp only[zqf,Bool.or_eq_true,beq_iff_eq,List.isEmpty_iff,Bool.not_eq_true',zqb,zrs]at h;obtain⟨h1,h2,h3,h4⟩:=h;exact⟨⟨h2,fun hn=>h1.resolve_left hn⟩,h3,h4⟩
def qB(l:List Nat)(i j:Nat):List Nat:=(l.set i (l.getD j 0)).set j (l.getD i 0)
def upP:Nat->List Nat->Nat->List Nat
 |0,l,_=>l
 |f+1,l,j=>if j=0\/¬(l.getD j 0<l.getD ((j-1)/2) 0)then l else upP f (qB l ((j-1)/2) j) ((j-1)/2)
def IE(l:List Nat)(i n:Nat):Nat:=if 2*i+2<n/\l.getD (2*i+2) 0<l.getD (2*i+1) 0 then 2*i+2 else 2*i+1
def BU:Nat->List Nat->Nat->Nat->List Nat
 |0,l,_,_=>l
 |f+1,l,i,n=>if n<=2*i+1\/¬(l.getD (IE l i n) 0<l.getD i 0)then l else BU f (qB l i (IE l i n)) (IE l i n) n
def Es(l:List Nat)(x:Nat):List Nat:=upP (l.length+1) (l++[x]) l.length
def ni(l:List Nat):List Nat:=BU l.length (qB l 0 (l.length-1)) 0 (l.length-1)
theorem gW(l:List Nat)(i j:Nat):(qB l i j).length=l.length:=by simp[qB]
theorem xX{l:List Nat}{i j:Nat}(hi:i<l.length)(hj:j<l.length):(qB l i j).Perm l:=by unfold qB;rw[zqg,zqg,zqk hi,zqk hj];exact List.set_set_perm hi hj
theorem NF:∀(f:Nat) {l:List Nat} {j:Nat},j<l.length->(upP f l j).Perm l
 |0,_,_,_=>List.Perm.refl _
 |f+1,l,j,h=>by
  unfold upP;split
  ·exact List.Perm.refl _
  ·exact(NF f (by rw[gW];omega)).trans (xX (by omega) h)
theorem WZ{l:List Nat}{i n:Nat}(h:2*i+1<n):IE l i n<n/\i<IE l i n/\2*i+1<=IE l i n/\IE l i n<=2*i+2:=by unfold IE;split<;>omega
theorem Et:∀(f:Nat) {l:List Nat} {i n:Nat},n<=l.length->(BU f l i n).Perm l
 |0,_,_,_,_=>List.Perm.refl _
 |f+1,l,i,n,h=>by
  unfold BU;split
  ·exact List.Perm.refl _
  ·rename_i hc;have:=WZ (l:=l) (i:=i) (n:=n) (by omega);exact(Et f (by rw[gW];exact h)).trans (xX (by omega) (by omega))
theorem sS(l:List Nat)(x:Nat):(Es l x).Perm (l++[x]):=NF _ (by simp)
theorem IG{l:List Nat}(h:l≠[]):(ni l).Perm l:=by have:0<l.length:=List.length_pos_iff.2 h;exact(Et _ (by rw[gW];omega)).trans (xX this (by omega))
theorem II(l:List Nat)(x:Nat):(Es l x).length=l.length+1:=by rw[(sS l x).length_eq];simp
theorem NG{l:List Nat}(h:l≠[]):(ni l).length=l.length:=(IG h).length_eq
def jb(names:List S)(s:S):Option Nat:=names.findIdx? (·==s)
def fE(names:List S)(i:Nat):List S->List (List Nat)×List (List Nat)->List (List Nat)×List (List Nat)
 |[],x=>x
 |s::l,(N,B)=>match jb names s with
  |some k=>if(N.getD i []).contains k=true then fE names i l (N,B)else fE names i l (N.set i (N.getD i []++[k]),B.set k (B.getD k []++[i]))
  |none=>fE names i l (N,B)
def jd(names:List S):Nat->List (List S)->List (List Nat)×List (List Nat)->List (List Nat)×List (List Nat)
 |_,[],x=>x
 |i,l::r,x=>jd names (i+1) r (fE names i l x)
def sU(names:List S)(ins:List (List S)):List (List Nat)×List (List Nat):=jd names 0 ins (List.replicate ins.length [],List.replicate ins.length [])
def xY(N:List (List Nat)):List Nat->List Nat->List Nat
 |[],Q=>Q
 |i::r,Q=>xY N r (if(N.getD i []).isEmpty=true then Es Q i else Q)
def qC(at':Nat):List Nat->List (List Nat)×List Nat->List (List Nat)×List Nat
 |[],x=>x
 |i::r,(N,Q)=>qC at' r (N.set i ((N.getD i []).filter (· != at')),if((N.getD i []).filter (· != at')).isEmpty=true then Es Q i else Q)
def oQ(B:List (List Nat)):Nat->List (List Nat)->List Nat->List Nat
 |0,_,_=>[]
 | f + 1,N,Q => if Q.isEmpty = true then [] else
  (ni Q).getLastD 0::oQ B f (qC ((ni Q).getLastD 0) (B.getD ((ni Q).getLastD 0) []) (N,(ni Q).dropLast)).1 (qC ((ni Q).getLastD 0) (B.getD ((ni Q).getLastD 0) []) (N,(ni Q).dropLast)).2
def qY(names:List S)(ins:List (List S)):List Nat:=oQ (sU names ins).2 ins.length (sU names ins).1 (xY (sU names ins).1 (List.range ins.length) [])
def nU(names:List S)(ins:List (List S)):List S:=((List.range names.length).filter fun i=> !(qY names ins).contains i).map fun i=>names.getD i []
def zy(c:Ci):List Nat×List S:=if(nT c).1=0 then(qY (c.gates.map (·.name)) (c.gates.map (·.ins)),nU (c.gates.map (·.name)) (c.gates.map (·.ins)))else([],[])
def sV(c:Ci):Int×S:=if(nT c).1≠0 then nT c else match (zy c).2 with
 |s::_=>(7,s)
 |[]=>(0,[])
theorem ny{c:Ci}(h:(sV c).1=0):NetOk c:=by
 unfold sV at h;split at h
 ·rename_i h1;exact absurd h h1
 ·rename_i h1;exact(BR c).1 (Decidable.not_not.1 h1)
abbrev RB(α:Type):=Except (Nat×Int) α
structure Ps where
 c:Ci
 begun:Bool
 ended:Bool
 on:Bool
theorem zZ{s:S}(h:aS s=true):s≠[]/\∀c∈s,iC c=true:=by
 unfold aS at h;simp only[zqf,zqb,zrs]at h;refine⟨fun e=> ?_,?_⟩
 ·rw[e]at h;simp at h
 ·exact fun c hc=>by first|exact h.1 c hc|exact h.2 c hc
def Wd(l:List S):List (Nat×S):=l.map fun w=>(0,w)
abbrev LW:=List (S×List S)
abbrev Ls(ls:List (List Tk))(L:LW):Prop:=ls.map (·.map Tk.s)=L.map fun x=>Wd (x.1::x.2)
theorem Ls.app{ls:List (List Tk)}{A B:LW}(h:Ls ls (A++B)):∃a b,ls=a++b/\Ls a A/\Ls b B:=by unfold Ls at h;rw[zql]at h;obtain⟨a,b,rfl,ha,hb⟩:=List.map_eq_append_iff.1 h;exact⟨a,b,rfl,ha,hb⟩
theorem Ls.nil{ls:List (List Tk)}(h:Ls ls []):ls=[]:=List.map_eq_nil_iff.1 h
structure NamesOk(c:Ci):Prop where
 ins:∀s∈c.ins,aS s=true
 outs:∀s∈c.outs,aS s=true
 lat:∀q∈c.lat,aS q.name=true/\aS q.next=true/\oP q=true
 gates:∀g∈c.gates,jo g=true/\aS g.name=true/\∀s∈g.ins,aS s=true
end Go.Proofs.YthaijohbpdabfaaGreatDoor
