/- Lemmas for this claim, part F01: each holds under what it names. -/
import Derived.Test.YtokppohljajhjaaGreatDoorP0
import Derived.Test.YtokppohljajhjaaGreatDoorA8
import Derived.Test.YtokppohljajhjaaGreatDoorA7
import Derived.Lib.Builder
import Derived.Lib.UnsafeStr
import Derived.Laws.Externs
set_option linter.all false
set_option maxRecDepth 100000
set_option maxHeartbeats 1000000
namespace Go.Proofs.YtokppohljajhjaaGreatDoor
open Go Go.Proofs Go.Abs
abbrev vi(n:Int):V:= .int .i64 n
theorem gG{n:Int}(h1:-9223372036854775808<=n)(h2:n<=9223372036854775807):IntKind.i64.wrap n=n:=DV h1 (by omega)
theorem cO{α:Type}{l:List α}{i:Nat}(h:i<l.length){P:α->Prop}(h1:∀s∈l.take i,P s)(h2:P l[i]):∀s∈l.take (i+1),P s:=by
 intro s hs;rw[zrg]at hs;simp only[h,zqk,Option.toList_some,zrf,zrc]at hs;rcases hs with hs|rfl
 ·exact h1 s hs
 ·exact h2
theorem IL{α:Type}{a b:List α}{i:Nat}(h:a.take i=b.take i)(ha:i<a.length)(hb:i<b.length)(he:a[i]=b[i]):a.take (i+1)=b.take (i+1):=by rw[zrg,zrg,h];simp[ha,hb,he]
abbrev mf(l:List Bool):V:= .is false 1 (l.map V.bool)
theorem IM{l:List Bool}{r:List V}(hb:V.bnds (mf l::r)):l.length<=maxLen:=by simp only[V.bnds,V.bnd,zra]at hb;exact hb.1.1
def hol(vs:List Bool)(a:Int):Bool:=if a<0 then !(vs.getD (-a-1).toNat false)else vs.getD (a-1).toNat false
def idx{α:Type}(l:List α)(p:α->Bool):Int:=match l.findIdx? p with|some i=>i|none=>-1
theorem yt{α:Type}{l:List α}{p:α->Bool}{i:Nat}(h:i<l.length)(hn:∀x∈l.take i,p x=false)(hb:p l[i]=true):idx l p=i:=by
 have:l.findIdx? p=some i:=by
  rw[List.findIdx?_eq_some_iff_getElem];refine⟨h,hb,fun j hj=> ?_⟩;have:l[j]∈l.take i:=by
   rw[List.mem_take_iff_getElem];exact⟨j,by omega,rfl⟩
  simp[hn _ this]
 simp[idx,this]
theorem sG{α:Type}{l:List α}{p:α->Bool}(hn:∀x∈l,p x=false):idx l p=-1:=by
 have:l.findIdx? p=none:=by rw[List.findIdx?_eq_none_iff];simpa using hn
 simp[idx,this]
theorem IP{α:Type}(l:List α)(p:α->Bool):decide (0<=idx l p)=l.any p:=by
 cases h:l.any p with
 |false=>rw[sG (by simpa using h)];rfl
 |true =>
  have:∃x∈l,p x=true:=by simpa using h
  unfold idx;cases hb:l.findIdx? p with
  |none=>obtain⟨x,hx,hx2⟩:=this;have:=(List.findIdx?_eq_none_iff.1 hb) x hx;simp[hx2]at this
  |some i=>simp
abbrev S:=List UInt8
abbrev aW(l:List S):V:= .is false 1 (l.map V.str)
theorem D8{l:List S}{r:List V}(hb:V.bnds (aW l::r)):l.length<=maxLen:=by simp only[V.bnds,V.bnd,zra]at hb;exact hb.1.1
theorem Ko{l:List S}{i:Nat}(h:i<l.length)(d:V):(List.map V.str l).getD i d= .str l[i]:=dG h _
def LC(n:Nat)(l:List S):Bool:=decide (l.length<=n)&&l.all fun s=>decide (s.length<=60)
theorem zL[MO](l:List S)(n:Nat):Ev TE 40 [aW l,.int .i64 n] (.bool (LC n l)):=by
 refine Ev.bnd fun hb=> ?_;have hlen:=D8 hb;refine ah Tryz.func40 rfl (by simp[nts]) (vm ?_);simp only[wq.1,Nat.reduceLT,Tryz.results40];refine aK (fun m f h=>∃i,m+i=l.length/\f.t 0=aW l/\f.t 1= .int .i64 n/\f.t 5= .int .i64 (i:Int)/\f.d=[]/\∀s∈l.take i,s.length<=60) l.length ⟨0,by simp,rfl,rfl,rfl,rfl,by simp⟩ ?_;rintro m f h ⟨i,hm,h0,h1,h5,hd,hall⟩;refine vm ?_;simp only[wq.1,seval,h0,h1,h5];refine vcB.mk (fun hc=> ?_) (fun hc=> ?_)
 ·simp only[zqf,zqb,zqi,Int.ofNat_le]at hc;obtain⟨hc1,hc2⟩:=hc;simp only[wq.1,seval,h0,h5,Ko hc1];refine⟨⟨by omega,by omega⟩,vcB.mk (fun hc=> ?_) (fun hc=> ?_)⟩
  ·simp only[wq.1,seval,hd];have:LC n l=false:=by
    simp only[zqb]at hc;have hx:∃x∈l,¬x.length<=60:=⟨l[i],zqu _,by omega⟩;simpa [LC]using fun _=>hx
   rw[this];exact az.dat rfl
  ·simp only[wq.1,seval,h5,aB (show i<maxLen by omega)];refine .inl ⟨m-1,by omega,i+1,by omega,h0,h1,rfl,hd,?_⟩;simp only[zqd]at hc;intro s hs;rw[zrg]at hs;simp only[hc1,zqk,Option.toList_some,zrf,zrc]at hs;rcases hs with hs|rfl
   ·exact hall s hs
   ·omega
 ·simp only[wq.1,seval,h0,h1,hd];have:(decide ((l.length:Int)<=n))=LC n l:=by
   simp only[Bool.and_eq_false_iff,zqd,zqi,Int.ofNat_le]at hc;by_cases hi:i<l.length
   ·have h2:¬l.length<=n:=by omega
    simp[LC,h2]
   ·rw[zqh (by omega)]at hall;have:(l.all fun s=>decide (s.length<=60))=true:=by simpa using hall
    simp[LC,this]
  rw[this];exact az.dat rfl
theorem zM[MO](a b:List S):Ev TE 17 [aW a,aW b] (.bool (a==b)):=by
 refine Ev.bnd fun hb=> ?_;have hlen:=D8 hb;refine ah Tryz.func17 rfl (by simp[nts]) (vm ?_);simp only[wq.1,seval,Tryz.results17];refine vcB.mk (fun hc=> ?_) (fun hc=> ?_)
 ·simp only[wq.1,seval];refine dN rfl ?_;simp only[bne_iff_ne,ne_eq,Int.natCast_inj]at hc;have:¬a=b:=fun h=>hc (by rw[h]);simp[this]
 ·have hl:a.length=b.length:=by simpa [Int.natCast_inj]using hc
  simp only[wq.1,Nat.reduceLT];refine aK (fun m f h=>∃i,m+i=a.length/\f.t 0=aW a/\f.t 1=aW b/\f.t 5= .int .i64 (i:Int)/\f.d=[]/\a.take i=b.take i) a.length ⟨0,by simp,rfl,rfl,rfl,rfl,by simp⟩ ?_;rintro m f h ⟨i,hm,h0,h1,h5,hd,hall⟩;refine vm ?_;simp only[wq.1,seval,h0,h5];refine vcB.mk (fun hc=> ?_) (fun hc=> ?_)
  ·simp only[zqb,zqi]at hc;have hc2:i<b.length:=by omega
   simp only[wq.1,seval,h0,h1,h5,Ko hc,Ko hc2];refine⟨by decide +kernel,⟨by omega,by omega⟩,⟨by omega,by omega⟩,vcB.mk (fun hc=> ?_) (fun hc=> ?_)⟩
   ·simp only[wq.1,seval,hd];refine dN rfl ?_;have:¬a=b:=fun h=>by subst h;simp at hc
    simp[this]
   ·simp only[wq.1,seval,h5,aB (show i<maxLen by omega)];exact .inl ⟨m-1,by omega,i+1,by omega,h0,h1,rfl,hd,IL hall (by omega) (by omega) (by simpa using hc)⟩
  ·simp only[zqd,zqi]at hc;simp only[wq.1,seval,hd];refine dN rfl ?_;rw[zqh (by omega),zqh (by omega)]at hall;simp[hall]
def gZ(c:UInt8):Bool:=decide (33<=c.toNat)&&decide (c.toNat<=126)
def bz(s:S):Bool:=s.all gZ&&(decide (1<=s.length)&&decide (s.length<=40))
theorem LD{s:S}{i:Nat}(h:i<s.length):s.getD i 0=s[i]:=by simp[zqg,h]
def QZ(n:Int):Bool:=decide (n<=32)||decide (126<n)
theorem Q3[MO](n:Int):Ev TE 126 [.int .i32 n] (.bool (QZ n)):=by refine ah Tryz.func126 rfl (by simp[nts]) (vm ?_);simp only[wq.1,seval,Tryz.results126];exact dN rfl rfl
theorem IQ{s:S}{i:Nat}(h:i<s.length)(hb:s[i].toNat<128):DR s i=(s[i].toNat,1):=by
 unfold DR Utf8.decode;have:((ByteArray.mk s.toArray).get! (i+0)).toNat=s[i].toNat:=by
  simp[ByteArray.get!,h]
 simp only[this];rw[if_pos hb]
theorem LH{s:S}{i:Nat}(h:i<s.length)(hb:¬s[i].toNat<128):128<=(DR s i).1:=by
 unfold DR Utf8.decode;have:((ByteArray.mk s.toArray).get! (i+0)).toNat=s[i].toNat:=by
  simp[ByteArray.get!,h]
 simp only[this];rw[if_neg hb]
 repeat' split
 all_goals first
  |(simp[Utf8.runeError];done)
  |(rename_i hc;simp only[zqf,zqb,ge_iff_le]at hc;dsimp only;omega)
  |(rename_i hc;simp only[ge_iff_le]at hc;dsimp only;omega)
theorem LJ{s:S}{i:Nat}(h:i<s.length):QZ (DR s i).1= !gZ s[i]:=by
 by_cases hb:s[i].toNat<128
 ·rw[IQ h hb];refine Bool.eq_iff_iff.2 ?_;simp only[QZ,gZ,Bool.or_eq_true,zqb,Bool.not_eq_true',Bool.and_eq_false_iff,zqd];omega
 ·have:=LH h hb;have h1:QZ (DR s i).1=true:=by simp only[QZ,Bool.or_eq_true,zqb];omega
  have h2:gZ s[i]=false:=by simp only[gZ,Bool.and_eq_false_iff,zqd];omega
  rw[h1,h2];rfl
def FC(s:S):Option Nat:=s.findIdx? fun c=> !gZ c
def Og(s:S):Int:=match FC s with|some i=>i|none=>-1
theorem IR{s:S}{i:Nat}(h:i<s.length)(hn:∀x∈s.take i,gZ x=true)(hb:gZ s[i]=false):Og s=i:=by
 have:FC s=some i:=by
  unfold FC;rw[List.findIdx?_eq_some_iff_getElem];refine⟨h,by simp[hb],fun j hj=> ?_⟩;have:s[j]∈s.take i:=by
   rw[List.mem_take_iff_getElem];exact⟨j,by omega,rfl⟩
  simp[hn _ this]
 simp[Og,this]
theorem zN{s:S}(hn:∀x∈s,gZ x=true):Og s=-1:=by
 have:FC s=none:=by unfold FC;rw[List.findIdx?_eq_none_iff];simpa using hn
 simp[Og,this]
theorem Q4[MO](s:S):Ev TE 150 [.str s,.fn (.func 126) [] [],.bool true] (.int .i64 (Og s)):=by
 refine Ev.bnd fun hb=> ?_;have hlen:s.length<=maxLen:=hb.1;refine ah Tryz.func150 rfl (by simp[nts]) (vm ?_);simp only[wq.1,seval,Tryz.results150];refine aK (fun m f h=>∃i,m+i=s.length/\f.t 1= .fn (.func 126) [] []/\f.t 2= .bool true/\f.t 10= .lp 0 0/\f.d=[]/\h=[.misc (.siter s i)]/\∀x∈s.take i,gZ x=true) s.length ⟨0,by simp,rfl,rfl,rfl,rfl,rfl,by simp⟩ ?_;rintro m f h ⟨i,hm,h1,h2,h10,hd,rfl,hall⟩;refine vm ?_;simp only[wq.1,seval,h10];refine lW.mk (fun hc=> ?_) (fun hc=> ?_)
 ·simp only[zqb]at hc;simp only[wq.1,seval,h1,lW];refine ag.ev (Q3 _) rfl ?_;rw[LJ hc];simp only[wq.1,seval,h2];refine vcB.mk (fun hc'=> ?_) (fun hc'=> ?_)
  ·have hb:gZ s[i]=false:=by simpa using hc'
   simp only[wq.1,seval,hd];rw[IR hc hall hb];exact az.dat rfl
  ·have hb:gZ s[i]=true:=by simpa using hc'
   have h128:s[i].toNat<128:=by simp only[gZ,zqf,zqb]at hb;omega
   simp only[wq.1,Int.reduceNeg];exact .inl ⟨m-1,by omega,i+1,by omega,h1,h2,h10,hd,by rw[IQ hc h128],cO hc hall hb⟩
 ·simp only[zqd]at hc;simp only[wq.1,seval,hd,lW];rw[zqh (by omega)]at hall;rw[zN hall];exact az.dat rfl
theorem Q5[MO](s:S):Ev TE 127 [.str s,.fn (.func 126) [] []] (.int .i64 (Og s)):=by refine ah Tryz.func127 rfl (by simp[nts]) (vm ?_);simp only[wq.1,seval,Tryz.results127];refine ag.ev (Q4 s) rfl ?_;simp only[wq.1,seval];exact az.dat rfl
theorem LK(s:S):decide (Og s<0)=s.all gZ:=by
 cases h:s.all gZ with
 |true=>rw[zN (by simpa using h)];rfl
 |false =>
  have:∃x∈s,gZ x=false:=by simpa using h
  cases hb:FC s with
  |none=>obtain⟨x,hx,hx2⟩:=this;have:=(List.findIdx?_eq_none_iff.1 hb) x hx;simp[hx2]at this
  |some i=>simp[Og,hb]
theorem LM[MO](s:S):Ev TE 98 [.str s] (.bool (bz s)):=by
 refine ah Tryz.func98 rfl (by simp[nts]) (vm ?_);simp only[wq.1,seval,Tryz.results98];refine zf.ev (q:=127) (vs:=[.str s,.fn (.func 126) [] []]) (by simp only[wq.1,seval]) (by simp only[wq.1,seval]) rfl (fun _=>Q5 s) (fun _=>rfl) ?_;simp only[wq.1,seval];refine dN rfl ?_;rw[LK];unfold bz
 congr 1
 have h1:(!s==[])=decide (1<=s.length):=by cases s<;>simp
 have h2:decide ((s.length:Int)<=40)=decide (s.length<=40):=decide_eq_decide.2 (by omega);rw[h1,h2,Bool.and_comm]
theorem sH[MO](s:S):Ev TE 58 [.str s] (.bool (bz s)):=by refine ah Tryz.func58 rfl (by simp[nts]) (vm ?_);simp only[wq.1,seval,Tryz.results58];refine ag.ev (LM s) rfl ?_;simp only[wq.1,seval];exact az.dat rfl
theorem aX{dst:Option Tmp}{Kn:Fr->H->Prop}{Q:XE->Fr->H->Prop}{f:Fr}{v:V}{h:H}{p:Nat->Bool}:dJ dst Kn Q f (.ret v) h p=((∀i∈f.d,p i=false)/\Kn ((f.drop p).put dst v) h):=rfl
theorem nS:∀l:List Bool,V.dats (l.map V.bool)=true
 |[]=>rfl
 |a::l=>by simp only[zrd,V.dats,V.dat,nS l,zre]
theorem FD[MO](n:Nat)(hn:n<=1000000000)(h:H)(R:AEnd->H->(Nat->Bool)->Prop)(hr0:n=0->R (.ret .nils) h (fun _=>false))
 (hr:0<n->R (.ret (.ls h.length 1 0 0 n)) (h++[.cells (List.replicate n (.str []))]) (fun _=>false)):ag TE 125 [.nils,vi n] h R:=by
 refine ax Tryz.func125 rfl (by simp[nts]) ?_;refine vn ?_;simp only[wq.1,Nat.reduceLT,Tryz.results125];refine au ?_;refine vm ?_;simp only[wq.1,seval];refine vcB.mk (fun hc=> ?_) (fun hc=> ?_)
 ·simp only[zqb]at hc;omega
 simp only[wq.1];refine au (au (iV ?_));refine ay rfl rfl ?_;simp only[wq.1,seval];refine ay rfl rfl ?_;simp only[wq.1,seval];refine fQ rfl rfl ?_;have hq:ti TE.P 22=some ⟨.slice 9,1,24,.nils⟩:=by simp only[wq.1]
 have hqe:ti TE.P 9=some ⟨.str,1,16,.str []⟩:=by simp only[wq.1]
 have hqi:ti TE.P 3=some ⟨.int .i64,1,8,.int .i64 0⟩:=by simp only[wq.1]
 refine qW (t:=22) rfl rfl hq rfl trivial rfl ?_;refine ay rfl rfl ?_;simp only[wq.1,seval];refine ay rfl rfl ?_;simp only[wq.1,↓reduceIte];refine ay rfl rfl ?_;simp only[wq.1,seval];refine ay rfl rfl ?_;simp only[wq.1,seval];refine ay rfl rfl ?_;simp only[wq.1,↓reduceIte];have w0:IntKind.i64.wrap 0=0:=by decide
 have w1:IntKind.i64.wrap ((n:Int)-0)=n:=by rw[Int.sub_zero];exact gG (by omega) (by omega)
 refine eP ?_;simp only[wq.1,w0,w1];refine au ?_;refine vm ?_;simp only[wq.1,seval];refine kS (b:=decide ((0:Int)<n)) (by simp only[wq.1,↓reduceIte]) (by simp only[wq.1,↓reduceIte]) (fun hb=> ?_) (fun hb=> ?_)
 ·have hpos:0<n:=by simp only[zqb]at hb;omega
  refine iV ?_;refine ay rfl rfl ?_;simp only[wq.1,seval];refine ay rfl rfl ?_;simp only[wq.1,seval];refine fQ rfl rfl ?_;refine qW (t:=22) rfl rfl hq rfl trivial rfl ?_;refine fQ rfl rfl ?_;refine vX rfl hq rfl hqe (by simp only[wq.1,seval]) (by simp only[wq.1,seval]) (by simp only[wq.1,↓reduceIte]) (k:= .i64) (by simp only[wq.1,↓reduceIte]) ?_;refine ay rfl rfl ?_;simp only[wq.1,seval];refine fQ rfl rfl ?_;refine ut (x:= .tmp 20) (y:= .tmp 21) (t:=22) (xt:=3) (el:=9) ⟨⟨_,rfl,rfl,rfl⟩,hq,rfl,hqe,rfl,rfl,Nat.zero_lt_one⟩ (by simp only[wq.1,seval]) (by simp only[wq.1,↓reduceIte]) (by simp only[wq.1,seval]) (by simp only[wq.1,↓reduceIte]) hqi rfl hpos (by omega) ?_ rfl (zv:= .str []) rfl ?_
  ·show n*16<=_;omega
  refine ay rfl rfl ?_;simp only[wq.1,seval];refine ay rfl rfl ?_;simp only[wq.1,↓reduceIte];refine ay rfl rfl ?_;simp only[wq.1,seval];refine⟨by omega,?_⟩;refine ay rfl rfl ?_;simp only[wq.1,↓reduceIte];refine eP ?_;simp only[wq.1];refine vm ?_;simp only[wq.1,seval];exact hr hpos
 ·have:n=0:=by simp only[zqd]at hb;omega
  refine vm ?_;simp only[wq.1];refine vm ?_;simp only[wq.1,seval];exact hr0 this
theorem FH{α:Type}(ls:List (List α))(i:Nat):ls.flatten=(ls.take i).flatten++(ls.drop i).flatten:=by rw[<-List.flatten_append,List.take_append_drop]
theorem mg{α:Type}{ls:List (List α)}{i:Nat}(h:i<ls.length):(ls.take (i+1)).flatten=(ls.take i).flatten++ls[i]:=by rw[zrg,List.flatten_append];simp[h]
theorem D9{α:Type}{ls:List (List α)}{i:Nat}(h:i<ls.length):(ls.take i).flatten.length+ls[i].length<=ls.flatten.length:=by have h1:=congrArg List.length (FH ls (i+1));rw[mg h]at h1;simp only[zqa]at h1;omega
def TK(n:Nat)(c:List S)(v:V)(h:H):Prop :=
 (c=[]/\v= .nils/\h=[]/\n=0)\/(c.length<=n/\v= .ls 0 1 0 c.length n/\h=[.cells (c.map V.str++List.replicate (n-c.length) (.str []))])
theorem LQ[MO](n:Nat)(hn:n<=1000000000)(R:AEnd->H->(Nat->Bool)->Prop)(hr:∀v h,TK n [] v h->R (.ret v) h (fun _=>false)):ag TE 125 [.nils,vi n] [] R :=
 FD n hn [] R (fun hz=>hr _ _ (.inl ⟨rfl,rfl,rfl,hz⟩)) (fun hz=>hr _ _ (.inr ⟨Nat.zero_le _,rfl,rfl⟩))
theorem ng:∀l:List S,cZ (l.map V.str)=true
 |[]=>rfl
 |a::l=>by simp only[zrd,cZ,ng l,V.one,V.vc,zrk];rfl
theorem CJ(c l:List S)(n:Nat)(h:c.length+l.length<=n):eG (c.map V.str++List.replicate (n-c.length) (.str [])) c.length (l.map V.str)=(c++l).map V.str++List.replicate (n-(c++l).length) (.str []):=by
 unfold eG;have e1:(c.map V.str++List.replicate (n-c.length) (V.str [])).take c.length=c.map V.str:=by
  simp
 have e2:(c.map V.str++List.replicate (n-c.length) (V.str [])).drop (c.length+(l.map V.str).length)=List.replicate (n-(c++l).length) (V.str []):=by
  rw[List.drop_append];have:(c.map V.str).drop (c.length+(l.map V.str).length)=[]:=List.drop_of_length_le (by simp);rw[this,List.nil_append,List.drop_replicate]
  congr 1
  simp only[zra,zqa];omega
 rw[e1,e2,zql]
theorem CO[MO](ls:List (List S))(hn:ls.flatten.length<=1000000000)(hls:ls.length<=1000000000):EvF TE 97 [.is true 1 (ls.map aW)] 1 ls.flatten.length (ls.flatten.map V.str):=by
 have hM:=mLx;have hget:∀ {i:Nat} (h:i<ls.length) (d:V),(ls.map aW).getD i d=aW ls[i]:=fun h d=>dG h d;unfold EvF;refine ax Tryz.func97 rfl (by simp[nts]) (vm ?_);simp only[wq.1,seval,Tryz.results97];refine aK (fun m f h=>∃i,m+i=ls.length/\f.t 0= .is true 1 (ls.map aW)/\f.t 3=vi (ls.take i).flatten.length/\f.t 9= .is true 1 (ls.map aW)/\f.t 10=vi ls.length/\f.t 11=vi i/\f.d=[]/\h=[]) ls.length ⟨0,by simp,rfl,rfl,rfl,by simp only[wq.1,seval],rfl,rfl,rfl⟩ ?_;rintro m f h ⟨i,hm,h0,h3,h9,h10,h11,hd,rfl⟩;refine vm ?_;simp only[wq.1,seval,h10,h11];refine vcB.mk (fun hc=> ?_) (fun hc=> ?_)
 ·simp only[zqb,zqi]at hc;have hfl:=D9 hc;have hw:IntKind.i64.wrap (((ls.take i).flatten.length:Int)+(ls[i].length:Int))=((ls.take (i+1)).flatten.length:Int):=by
   rw[mg hc,zqa,DV (by omega) (by omega)];omega
  simp only[wq.1,seval,h3,h9,h11,hget hc,hw];refine⟨⟨by omega,by omega⟩,vcB.mk (fun hc'=> ?_) (fun hc'=> ?_)⟩
  ·simp only[zqb]at hc';omega
  ·simp only[wq.1,seval,h11,aB (show i<maxLen by omega)];exact .inl ⟨m-1,by omega,i+1,by omega,h0,rfl,h9,h10,rfl,hd,rfl⟩
 ·simp only[zqd,zqi]at hc;have hi:ls.take i=ls:=zqh (by omega);rw[hi]at h3;simp only[wq.1,seval,h3];refine LQ ls.flatten.length hn _ (fun v0 h0' hcat=> ?_);simp only[wq.1,seval,h0];refine aK (fun m f h=>∃i v,m+i=ls.length/\f.t 25= .is true 1 (ls.map aW)/\f.t 26=vi ls.length/\f.t 27=vi i/\f.t 6=v/\f.d=[]/\TK ls.flatten.length (ls.take i).flatten v h) ls.length ⟨0,v0,by simp,by simp only[wq.1,seval],by simp only[wq.1,seval],rfl,rfl,by simp only[wq.1,hd],by simpa using hcat⟩ ?_;rintro m f h ⟨i,v,hm,h25,h26,h27,h6,hd,hcat⟩;refine vm ?_;simp only[wq.1,seval,h26,h27];refine vcB.mk (fun hc=> ?_) (fun hc=> ?_)
  ·simp only[zqb,zqi]at hc;have hfl:=D9 hc;have hnext:f.t 27=vi i->IntKind.i64.wrap ((i:Int)+1)=((i+1:Nat):Int):=fun _=>aB (by omega);rcases hcat with⟨hc0,rfl,rfl,hn0⟩|⟨hcl,rfl,rfl⟩
   ·have hl0:ls[i]=[]:=List.eq_nil_of_length_eq_zero (by omega);simp only[wq.1,seval,h25,h27,h6,hget hc,hl0,aB (show i<maxLen by omega)];refine⟨⟨by omega,by omega⟩,by omega,.inl ⟨m-1,by omega,i+1,_,by omega,h25,h26,rfl,rfl,hd,?_⟩⟩;right;rw[mg hc,hl0,hc0,hn0];exact⟨zrb _,rfl,rfl⟩
   ·by_cases hlt:(ls.take i).flatten.length<ls.flatten.length
    ·have hdt:decide ((ls.take i).flatten.length<ls.flatten.length)=true:=by simpa using hlt
     simp only[wq.1,seval,h25,h27,h6,hget hc,aB (show i<maxLen by omega),ng,hdt];refine⟨⟨by omega,by omega⟩,⟨by omega,by omega,by rw[zsc];omega⟩,.inl ⟨m-1,by omega,i+1,_,by omega,h25,h26,rfl,rfl,hd,?_⟩⟩;right;rw[mg hc];refine⟨by rw[zqa];omega,by simp only[wq.1,seval],?_⟩;have hsp:=CJ (ls.take i).flatten ls[i] ls.flatten.length hfl;unfold eG at hsp;rw[zra]at hsp;rw[Nat.mul_one,hsp]
    ·have hdt:decide ((ls.take i).flatten.length<ls.flatten.length)=false:=by simpa using hlt
     have hl0:ls[i]=[]:=List.eq_nil_of_length_eq_zero (by omega);have hne:(ls.take i).flatten.length=ls.flatten.length:=by omega
     simp only[wq.1,seval,h25,h27,h6,hd,hget hc,aB (show i<maxLen by omega),hdt,hl0];refine⟨⟨by omega,by omega⟩,⟨by rw[zsc];omega,by omega,by omega⟩,.inl ⟨m-1,by omega,i+1,_,by omega,by simp only[wq.1,seval,h25],by simp only[wq.1,seval,h26],rfl,rfl,hd,?_⟩⟩;right;rw[mg hc,hl0,zqp,hne,Nat.sub_self];refine⟨zrb _,by simp only[wq.1,seval],?_⟩;simp only[List.replicate_zero,V.drops]
  ·simp only[zqd,zqi]at hc;have hi:ls.take i=ls:=zqh (by omega);rw[hi]at hcat;simp only[wq.1,seval,h6,hd];rcases hcat with⟨hc0,rfl,rfl,hn0⟩|⟨hcl,rfl,rfl⟩
   ·exact .inl ⟨rfl,hn0,by rw[hc0];rfl⟩
   ·rw[Nat.sub_self,List.replicate_zero,zqp];exact .inr ⟨0,_,rfl,zrb _,rfl⟩
open Go.RowKit
theorem wo(b:Nat)(w:World)(h0:w.cell? ⟨b,0,none⟩=some (.pointer (some ⟨b,0,none⟩))) :
 Calls Tryz.prog 52 #[.pointer (some ⟨b,0,none⟩)] w fun e w'=>e= .returned (.tuple #[])/\w'=w:=by
 obtain⟨j,hj,_⟩:∃j,Tryz.prog.info? 60=some j/\True:=⟨_,rfl,trivial⟩
 go_enter Tryz.func52,Tryz.ntmps52
 go_wp2
 rw[Lib.run_neq_ptr_same w _ Tryz.underlying57 hj]
 go_wp2
 go_end0
 exact⟨rfl,rfl⟩
theorem uz(b:Nat)(w:World)(T cells:Nat)(h0:w.cell? ⟨b,0,none⟩=some (.pointer none))(hsh:w.shape? b=some (T,cells))(hc:0<cells)(hl:liesAt Tryz.prog Tryz.prog.depth T (cells/Tryz.prog.cellsOf T) 0 60 1=true)(hfz:w.frozen? ⟨b,0,none⟩=false) :
 Calls Tryz.prog 52 #[.pointer (some ⟨b,0,none⟩)] w fun e w'=>e= .returned (.tuple #[])/\w'=w.setCell ⟨b,0,none⟩ (.pointer (some ⟨b,0,none⟩)):=by
 obtain⟨j,hj,hjs⟩:∃j,Tryz.prog.info? 60=some j/\j.size≠0:=⟨_,rfl,by decide⟩
 go_enter Tryz.func52,Tryz.ntmps52
 go_wp2
 rw[Lib.run_to_unsafe w ⟨b,0,none⟩ Tryz.underlying57 Tryz.underlying158 hj hjs hsh hc];simp only[Result.andThen];rw[Oper.upon_value]
 go_wp2
 rw[run_callFunc_extern Tryz.func95 (by kernel_rfl) (by kernel_rfl) (by kernel_rfl) (e:=Extern.AbiNoEscape.same) (by kernel_rfl)];rw[Lib.run_noEscape];simp only[Result.andThen];rw[Oper.upon_value]
 go_wp2
 rw[Lib.run_from_unsafe w ⟨b,0,none⟩ Tryz.underlying158 Tryz.underlying57 hj hsh hl];simp only[Result.andThen];rw[Oper.upon_value]
 go_wp2
 go_end0
 exact⟨rfl,rfl⟩
def BT(T:Nat):Prop:=Tryz.prog.cellsOf T=2/\∀k,liesAt Tryz.prog Tryz.prog.depth T (k+1) 0 60 1=true
theorem LU{h:H}{i:Nat}{o:O}(hi:h[i]? =some o):h.set i o=h:=by obtain⟨h1,h2⟩:=zqe hi;rw[<-h2,List.set_getElem_self]
theorem mi[MO]{T:Nat}(hT:BT T){id:Nat}{a buf:V}{h:H}{R:AEnd->H->(Nat->Bool)->Prop}(ha:a= .nilp\/a= .lp id 0)(hh:h[id]? =some (.typed T [a,buf]))
 (hr:R (.ret (.tup [])) (h.set id (.typed T [.lp id 0,buf])) (fun _=>false)):ag TE 52 [.lp id 0] h R:=by
 intro ok pl w vs hs hl;simp only[VList,VRel]at hl;obtain⟨y,ys,rfl,⟨b,hb,rfl⟩,rfl⟩:=hl;have hb:pl id=some b:=hb;obtain⟨o,ho,hat⟩:=hs.obj id b hb;rw[hh]at ho;cases ho;obtain⟨arr,fz,g1,g2,g3,g4⟩:=hat;have g1:w.heap[b]? =some (.cells arr T fz):=g1;have hsz:2<=arr.size:=g3;have hx0:∃x0,arr[0]? =some x0/\VRel (cx ok pl w) a x0:=by
  obtain⟨x,h1,h2⟩:=VList.get 0 a g4 rfl;refine⟨x,?_,h2⟩;rw[List.getElem?_take_of_lt (by simp)]at h1;simpa using h1
 obtain⟨x0,h0,hr0⟩:=hx0;have hcell:w.cell? ⟨b,0,none⟩=some x0:=by rw[Lib.cell_of_heap g1];exact h0
 rcases ha with rfl|rfl
 ·simp only[VRel]at hr0;subst hr0;have hsh:w.shape? b=some (T,arr.size):=by unfold World.shape?;rw[g1]
  obtain⟨k,hk⟩:∃k,arr.size/2=k+1:=⟨arr.size/2-1,by omega⟩;have hfz:w.frozen? ⟨b,0,none⟩=false:=by have:=g2 0 (by omega);unfold World.frozen?;rw[g1];simp;omega
  refine(uz b w T arr.size hcell hsh (by omega) (by rw[hT.1,hk];exact hT.2 k) hfz).mono ?_;rintro e w' ⟨rfl,rfl⟩;obtain⟨w'',h1,h2,h3⟩:=qU hs hb (off:=0) (vs:=[.lp id 0]) (xs:=[.pointer (some ⟨b,0,none⟩)]) (by simp only[VList,VRel];exact⟨_,_,rfl,⟨b,hb,rfl⟩,rfl⟩) rfl hh (by simp);have h4:=fB (P:=TE.P) (vs:=[.pointer (some ⟨b,0,none⟩)]) (o:=0) g1 g2 (by simp;omega) (fun v hv=>by simp at hv;subst hv;rfl);rw[h4]at h1;cases h1;exact⟨fun _=>false,pl,_,.ret (.tup []),h2,h3,by show VRel _ _ _;simp only[VRel,VList];exact⟨#[],rfl,rfl⟩,hr⟩
 ·simp only[VRel]at hr0;obtain⟨b',hb',rfl⟩:=hr0;have hb':pl id=some b':=hb';rw[hb]at hb';cases hb';refine(wo b w hcell).mono ?_;rintro e w' ⟨rfl,rfl⟩;rw[LU hh]at hr;exact⟨fun _=>false,pl,h,.ret (.tup []),hs,Keeps.refl pl _,by show VRel _ _ _;simp only[VRel,VList];exact⟨#[],rfl,rfl⟩,hr⟩
abbrev vb(c:UInt8):V:= .int .u8 c.toNat
theorem zO:∀l:S,cZ (l.map vb)=true
 |[]=>rfl
 |a::l=>by simp only[zrd,cZ,zO l,V.one,V.vc,zrk];rfl
theorem ni{p:Nat->Bool}:∀c:S,V.drops p (c.map vb)=c.map vb
 |[]=>rfl
 |a::l=>by simp only[zrd,V.drops,V.drop,ni l]
theorem IU[MO]{T:Nat}(hT:BT T){id:Nat}{a:V}{h:H}{R:AEnd->H->(Nat->Bool)->Prop}(s:S)(ha:a= .nilp\/a= .lp id 0)(hh:h[id]? =some (.typed T [a,.nils]))(hs:s≠[])(hl:s.length<=20000000000000)
 (hr:R (.ret (.tup [vi s.length,.nili])) ((h++[O.typed 5 (s.map vb)]).set id (.typed T [.lp id 0,.ls h.length 1 0 s.length s.length])) (fun _=>false)):ag TE 23 [.lp id 0,.str s] h R:=by
 have hM:=mLx;have hlt:id<h.length:=(zqe hh).1;have hpos:0<s.length:=List.length_pos_iff.2 hs;refine ax Tryz.func23 rfl (by simp[nts]) ?_;refine vn ?_;simp only[wq.1,Nat.reduceLT,Tryz.results23];refine vn ?_;simp only[wq.1,seval];refine mi hT ha hh ?_;simp only[wq.1];have h1:(h.set id (.typed T [.lp id 0,.nils]))[id]? =some (.typed T [.lp id 0,.nils]):=by simp[hlt]
 refine au (iV ?_);refine ay rfl rfl ?_;simp only[wq.1,seval];refine ay rfl rfl ?_;simp only[wq.1,seval];refine ay rfl rfl ?_;simp only[wq.1,↓reduceIte];refine ay rfl rfl ?_;simp only[wq.1,seval];refine ay rfl rfl ?_;simp only[wq.1,seval,h1];refine ay rfl rfl ?_;simp only[wq.1,seval];have hq:ti TE.P 58=some ⟨.slice 5,1,24,.nils⟩:=by simp only[wq.1]
 have hqe:ti TE.P 5=some ⟨.int .u8,1,1,.int .u8 0⟩:=by simp only[wq.1]
 refine fQ rfl rfl ?_;refine qm (x:= .tmp 12) (y:= .tmp 13) (t:=58) (xt:=9) (el:=5) (m:=s.length) (cs:=s.map vb) ⟨⟨_,rfl,rfl,rfl⟩,hq,rfl,hqe,rfl,rfl,Nat.zero_lt_one⟩ (by simp only[wq.1,seval]) (by simp only[wq.1,↓reduceIte]) (by simp only[wq.1,seval]) (by simp only[wq.1,↓reduceIte]) (by simp only[wq.1,↓reduceIte]) (by simp only[wq.1,↓reduceIte]) hpos (by omega) (by show(0+s.length)*1<=_;omega) ?_;have h2:(h.set id (O.typed T [.lp id 0,.nils])++[O.typed 5 (s.map vb)])[id]? =some (.typed T [.lp id 0,.nils]):=by rw[zqj (by simpa using hlt)];exact h1
 simp only[wq.1,zrn];refine ay rfl rfl ?_;simp only[wq.1,seval];refine ay rfl rfl ?_;simp only[wq.1,seval];refine fQ rfl rfl ?_;refine wM (t:=58) (x:= .tmp 16) (y:= .tmp 14) rfl (id:=id) (off:=1) (by simp only[wq.1,↓reduceIte]) (by simp only[wq.1,↓reduceIte]) (by simp only[wq.1,seval]) hq (by simp only[wq.1,seval]) (by simp only[wq.1,seval]) (by simp only[wq.1,seval]) h2 (by simp only[wq.1,seval]) ?_;refine eP ?_;simp only[wq.1,seval];refine vm ?_;simp only[wq.1,seval];rw[List.set_append_left _ _ (by simpa using hlt),List.set_set,<-List.set_append_left _ _ hlt];exact hr
theorem zQ(p:Nat->Bool)(h:H)(i:Nat)(o:O):(h.set i o).map (O.drop p)=(h.map (O.drop p)).set i (o.drop p):=by rw[List.map_set]
theorem LV[MO]{T:Nat}(hT:BT T){id bid:Nat}{a:V}{h:H}{R:AEnd->H->(Nat->Bool)->Prop}(out s:S)(ha:a= .nilp\/a= .lp id 0)(hne:id≠bid)(hh:h[id]? =some (.typed T [a,.ls bid 1 0 out.length out.length]))(hb:h[bid]? =some (.typed 5 (out.map vb)))(hl:out.length+s.length<=20000000000000)
 (hr:R (.ret (.tup [vi s.length,.nili])) (((h.map (O.drop (·==bid))).set bid (O.typed 5 ((out++s).map vb))).set id (.typed T [.lp id 0,.ls bid 1 0 (out++s).length (out++s).length])) (·==bid)):ag TE 23 [.lp id 0,.str s] h R:=by
 have hM:=mLx;have hlt:id<h.length:=(zqe hh).1;have hltb:bid<h.length:=(zqe hb).1;have hidb:(id==bid)=false:=by simpa using hne
 refine ax Tryz.func23 rfl (by simp[nts]) ?_;refine vn ?_;simp only[wq.1,Nat.reduceLT,Tryz.results23];refine vn ?_;simp only[wq.1,seval];refine mi hT ha hh ?_;simp only[wq.1];have h1:(h.set id (.typed T [.lp id 0,.ls bid 1 0 out.length out.length]))[id]? =some (.typed T [.lp id 0,.ls bid 1 0 out.length out.length]):=by simp[hlt]
 have h1b:(h.set id (.typed T [.lp id 0,.ls bid 1 0 out.length out.length]))[bid]? =some (.typed 5 (out.map vb)):=by rw[zqn hne];exact hb
 refine au (iV ?_);refine ay rfl rfl ?_;simp only[wq.1,seval];refine ay rfl rfl ?_;simp only[wq.1,seval];refine ay rfl rfl ?_;simp only[wq.1,↓reduceIte];refine ay rfl rfl ?_;simp only[wq.1,seval];refine ay rfl rfl ?_;simp only[wq.1,seval,h1];refine ay rfl rfl ?_;simp only[wq.1,seval];have hq:ti TE.P 58=some ⟨.slice 5,1,24,.nils⟩:=by simp only[wq.1]
 have hqe:ti TE.P 5=some ⟨.int .u8,1,1,.int .u8 0⟩:=by simp only[wq.1]
 refine fQ rfl rfl ?_;refine rM (x:= .tmp 12) (y:= .tmp 13) (t:=58) (xt:=9) (el:=5) (m:=s.length) (cs:=s.map vb) (len:=out.length) (cap:=out.length) ⟨⟨_,rfl,rfl,rfl⟩,hq,rfl,hqe,rfl,rfl,Nat.zero_lt_one⟩ (by simp only[wq.1,seval]) (by simp only[wq.1,↓reduceIte]) (id:=bid) (by simp only[wq.1,seval]) h1b (by rw[zra];show _=out.length*1;omega) (by simp only[wq.1,↓reduceIte]) (by simp only[wq.1,↓reduceIte]) (by simp only[wq.1,↓reduceIte]) (zO s) (by omega) (by show(out.length+s.length)*1<=_;omega) (by simp only[wq.1]) ?_;rw[dX,ni,ni,zQ];have e1:(O.typed T [.lp id 0,.ls bid 1 0 out.length out.length]).drop (·==bid)= .typed T [.lp id 0,.any]:=by
  simp only[O.drop,V.drops,V.drop,hidb,beq_self_eq_true,zrm,if_false,if_true]
 rw[e1];generalize hG:h.map (O.drop (·==bid))=G at hr ⊢;have hGl:id<G.length:=by rw[<-hG,zra];exact hlt
 have h2:((G.set id (O.typed T [.lp id 0,.any])).set bid (O.typed 5 (out.map vb++s.map vb)))[id]? =some (.typed T [.lp id 0,.any]):=by rw[zqn (Ne.symm hne)];simp[hGl]
 simp only[wq.1];refine ay rfl rfl ?_;simp only[wq.1,seval,hidb];refine ay rfl rfl ?_;simp only[wq.1,seval];refine fQ rfl rfl ?_;refine wM (t:=58) (x:= .tmp 16) (y:= .tmp 14) rfl (id:=id) (off:=1) (by simp only[wq.1,↓reduceIte]) (by simp only[wq.1,↓reduceIte]) (by simp only[wq.1,seval]) hq (by simp only[wq.1,seval]) (by simp only[wq.1,seval]) (by simp only[wq.1,seval]) h2 (by simp only[wq.1,seval]) ?_;refine eP ?_;simp only[wq.1,seval];refine vm ?_;simp only[wq.1,seval];rw[zql,zqa]at hr;rw[List.set_comm _ _ hne,List.set_set];exact hr
theorem FI(b g len cap cells:Nat)(l:List UInt8)(w:World)(c1:w.drew.cell? ⟨b,1,none⟩=some (.slice (some ⟨g,0,none⟩) l.length cap))(hcap:cap≠0)(hsh:w.drew.shape? g=some (5,cells))(hn:l.length<=cells)(h63:l.length<=9223372036854775807)(h0:l≠[])(hcell:∀j x,l[j]? =some x->w.drew.cell? ((⟨g,0,none⟩:Addr).add j)=some (.int .u8 x.toNat)) :
 Calls Tryz.prog 24 #[.pointer (some ⟨b,0,none⟩)] w fun e w'=>e= .returned (.string ⟨l.toArray⟩)/\w'=w.drew.freeze ⟨g,0,none⟩ l.length:=by
 have hSD:(Builtin.unsafeSliceData_ #[58] 108 #[.slice (some ⟨g,0,none⟩) l.length cap]).run Tryz.prog w.drew= .ok (.pointer (some ⟨g,0,none⟩)) w.drew :=
  Lib.run_unsafeSliceData_row w.drew _ _ _ _ _ hcap
 have hUS:(Builtin.unsafeString_ #[108,3] 9 #[.pointer (some ⟨g,0,none⟩),.int .i64 l.length]).run Tryz.prog w.drew= .ok (.string ⟨l.toArray⟩) (w.drew.freeze ⟨g,0,none⟩ l.length) :=
  Lib.run_unsafeString_row w.drew 108 3 9 5 Tryz.underlying108 (by kernel_rfl) g cells hsh l h0 hn h63 hcell
 go_enter Tryz.func24,Tryz.ntmps24
 go_wp2
 go_region
 all_goals (go_wp2;go_ret;exact⟨rfl,rfl⟩)
theorem Pg[MO]{T id bid:Nat}{a:V}{h:H}{R:AEnd->H->(Nat->Bool)->Prop}(out:S)(hh:h[id]? =some (.typed T [a,.ls bid 1 0 out.length out.length]))(hb:h[bid]? =some (.typed 5 (out.map vb)))(h0:out≠[])(hl:out.length<=20000000000000)
 (hr:R (.ret (.str out)) ((h.map (O.drop (·==bid))).set bid .dead) (·==bid)):ag TE 24 [.lp id 0] h R:=by
 intro ok pl w vs hs hv;simp only[VList,VRel]at hv;obtain⟨y,ys,rfl,⟨b,hpb,rfl⟩,rfl⟩:=hv;have hpb:pl id=some b:=hpb;have hpos:0<out.length:=List.length_pos_iff.2 h0;obtain⟨o,ho,hat⟩:=hs.obj id b hpb;rw[hh]at ho;cases ho;obtain⟨arr,fz,g1,g2,g3,g4⟩:=hat;have g1:w.heap[b]? =some (.cells arr T fz):=g1;obtain⟨x1,e1,r1⟩:=VList.get 1 (.ls bid 1 0 out.length out.length) g4 rfl;have e1:arr[1]? =some x1:=by
  rw[List.getElem?_take_of_lt (by simp)]at e1;simpa using e1
 simp only[VRel]at r1;obtain⟨ad,cp,rfl,q2,q3,q4,q5⟩:=r1;rcases q5 with q5|⟨g,arr2,el2,fz2,q6,rfl,q8,q9⟩
 ·omega
 have q6:pl bid=some g:=q6;obtain⟨o,ho,hat⟩:=hs.obj bid g q6;rw[hb]at ho;cases ho;obtain⟨arr3,fz3,k1,k2,k3,k4⟩:=hat;have k1:w.heap[g]? =some (.cells arr3 5 fz3):=k1;have k3:out.length<=arr3.size:=by simpa using k3
 have hcell:w.drew.cell? ⟨b,1,none⟩=some (.slice (some ⟨g,0,none⟩) out.length cp):=by rw[Lib.cell_of_heap (w:=w.drew) g1];exact e1
 have hsh:w.drew.shape? g=some (5,arr3.size):=by unfold World.shape?;show(match w.heap[g]? with|some (.cells c e _)=>some (e,c.size)|_=>none)=_;rw[k1]
 refine(FI b g out.length cp arr3.size out w hcell (by omega) hsh k3 (by omega) h0 fun j x hx=> ?_).mono ?_
 ·have hj:j<out.length:=(zqe hx).1;obtain⟨x2,hx2,r2⟩:=VList.get j (vb x) k4 (by rw[zqo,hx];rfl);simp only[VRel]at r2;subst r2;rw[zra,List.getElem?_take_of_lt hj]at hx2;rw[cu,Lib.cell_of_heap (w:=w.drew) k1,Nat.zero_add];simpa using hx2
 ·rintro en w' ⟨rfl,rfl⟩;have hsz:(w.drew.freeze ⟨g,0,none⟩ out.length).heap.size=w.heap.size:=by
   unfold World.freeze;rw[if_neg (by omega)];exact Array.size_modify
  have hsame:∀i,i≠g->(w.drew.freeze ⟨g,0,none⟩ out.length).heap[i]? =w.heap[i]? :=fun i hi=>by unfold World.freeze;rw[if_neg (by omega)];show(w.heap.modify g _)[i]? =_;rw[Array.getElem?_modify,if_neg (Ne.symm hi)]
  have hrow:∀arr el fz,w.heap[g]? =some (.cells arr el fz)->∃arr' fz',(w.drew.freeze ⟨g,0,none⟩ out.length).heap[g]? =some (.cells arr' el fz')/\arr'.size=arr.size:=fun a3 el fz4 ha=>by unfold World.freeze;rw[if_neg (by omega)];refine⟨a3,(if fz4.1==fz4.2 then(0,0+out.length)else(min fz4.1 0,max fz4.2 (0+out.length))),?_,rfl⟩;show(w.heap.modify g _)[g]? =_;rw[Array.getElem?_modify,if_pos rfl,ha];rfl
  have hos:(w.drew.freeze ⟨g,0,none⟩ out.length).os=w.os/\(w.drew.freeze ⟨g,0,none⟩ out.length).tape=w.tape/\(w.drew.freeze ⟨g,0,none⟩ out.length).output=w.output:=by unfold World.freeze;rw[if_neg (by omega)];exact⟨rfl,rfl,rfl⟩
  obtain⟨s1,s2⟩:=hs.burn q6 hos.1 hos.2.1 hos.2.2 hsz hsame hrow;exact⟨_,_,_,.ret (.str out),s1,s2,by show VRel _ _ _;simp only[VRel];exact⟨_,rfl,by simp,by have:maxLen=9223372036854775807:=rfl;omega⟩,hr⟩
def Q7:S:=[48,49,50,51,52,53,54,55,56,57,97,98,99,100,101,102]
def Q8(n:Nat):UInt8:=Q7.getD n 0
def yu(c:UInt8):Int:=match Q7.findIdx? (·==c)with|some i=>i|none=>-1
def ww:S:=[120,95,95]
def Qp(c:UInt8):S:=[Q8 (c.toNat/16),Q8 (c.toNat%16)]
def bC(s:S):S:=ww++s.flatMap Qp
def kY:S->S
 |a::b::r=>UInt8.ofNat ((yu a*16+yu b)%256).toNat::kY r
 |_=>[]
def gJ(s:S):S:=kY (if ww.isPrefixOf s=true then s.drop 3 else s)
def lC(s:S):Bool:=s.headD 0 != 46&& !(s.contains 35||s.contains 92)
def o8(s:S):S:=if(ww.isPrefixOf s|| !lC s)=true then bC s else s
def CP(nm:S->Bool)(s:S):S×Int :=
 if gJ s≠[]/\nm (gJ s)=true/\o8 (gJ s)=s then(gJ s,0)else if(nm s&&lC s)=true then(s,0)else([],4)
structure Tk where
 k:Nat
 t:S
 at':Nat
def rf(c:UInt8):Bool:=c==32||c==9||c==13
def kZ(c:UInt8):Bool:= !(rf c||c==10||c==35||c==92)
def tkB:Nat->Nat->S->List Tk
 |0,_,_=>[]
 |_,_,[]=>[]
 |n+1,p,c::r =>
  if c=35 then tkB n (p+((c::r).takeWhile (· != 10)).length) ((c::r).dropWhile (· != 10))
  else if c=92/\r.head? =some 10 then tkB n (p+2) (r.drop 1)
  else if rf c=true then tkB n (p+1) r
  else if c=10 then⟨3,[],p⟩::tkB n (p+1) r
  else if c=92 then⟨0,[92],p⟩::tkB n (p+1) r
  else⟨0,(c::r).takeWhile kZ,p⟩::tkB n (p+((c::r).takeWhile kZ).length) ((c::r).dropWhile kZ)
def Tk.s(x:Tk):Nat×S:=(x.k,x.t)
structure Ga where
 name:S
 op:Int
 ins:List S
 rows:List S
 off:Bool
structure La where
 name:S
 next:S
 init:Int
structure Ci where
 ins:List S
 outs:List S
 lat:List La
 gates:List Ga
def BC(op n:Nat):Bool:=match op with
 |0=>n==0
 |1=>n==0
 |2=>n==1
 |3=>n==1
 |10=>decide (n<=8)
 |k=>decide (k<10)&&(decide (2<=n)&&decide (n<=8))
def wz(op:Int)(n:Nat):Bool:=decide (0<=op)&&(decide (op<=10)&&BC op.toNat n)
def oz:Nat->Nat
 |0=>0
 |k+1=>(k+1)%2+oz ((k+1)/2)
def zS(n k:Nat):S:=(List.range n).map fun i=>UInt8.ofNat (48+k/2^(n-1-i)%2)
def Gt(n:Nat)(odd:Bool):List S:=((List.range (2^n)).filter fun k=>(oz k%2==1)==odd).map (zS n)
def mr(op n:Nat):List S×Bool:=match op with
 |0=>([],false)
 |1=>([List.replicate n 49],false)
 |2=>([List.replicate n 49],false)
 |3=>([List.replicate n 48],false)
 |4=>([List.replicate n 49],false)
 |5=>([List.replicate n 49],true)
 |6=>([List.replicate n 48],true)
 |7=>([List.replicate n 48],false)
 |8=>(Gt n true,false)
 |_=>(Gt n false,false)
def ji(n:Nat)(rows:List S)(off:Bool):Option Nat:=(List.range 10).find? fun op=>BC op n&&(off==(mr op n).2&&(mr op n).1==rows)
def fF(g:Ga):Ga :=
 if g.ins.length = 1 /\ g.rows = [] /\ g.off = false then
  if g.op=4\/g.op=6\/g.op=8 then {g with op:=2} else if g.op=5\/g.op=7\/g.op=9 then {g with op:=3} else g
 else g
def aQ(g:Ga):Ga :=
 if(fF g).op≠10 then fF g else match ji g.ins.length g.rows g.off with
  |some op=>⟨g.name,op,g.ins,[],false⟩
  |none=>fF g
def bQ(g:Ga):Ga :=
 aQ (if(aQ g).op=10/\(aQ g).rows=[]/\(aQ g).off=true then {aQ g with rows:=[List.replicate (aQ g).ins.length 45],off:=false} else aQ g)
def bT(g:Ga):List S×Bool:=if g.op=10 then(g.rows,g.off)else mr g.op.toNat g.ins.length
structure GOk(g:Ga):Prop where
 h:wz g.op g.ins.length=true
 r:g.op≠10->g.rows=[]/\g.off=false
structure GCan(g:Ga):Prop where
 h:wz g.op g.ins.length=true
 r:g.op≠10->g.rows=[]/\g.off=false
 c:g.op=10->ji g.ins.length g.rows g.off=none
theorem Ph{op n:Nat}(h1:op<=10)(h:BC op n=true):wz (op:Int) n=true:=by unfold wz;rw[decide_eq_true (by omega),decide_eq_true (by omega),zsg,h];rfl
theorem IV{op n:Nat}(h:BC op n=true):n<9:=by
 unfold BC at h;split at h
 ·have:n=0:=by simpa using h
  omega
 ·have:n=0:=by simpa using h
  omega
 ·have:n=1:=by simpa using h
  omega
 ·have:n=1:=by simpa using h
  omega
 ·have:n<=8:=by simpa using h
  omega
 ·simp only[zqf,zqb]at h;omega
theorem qC{g:Ga}(h:g.op=10):fF g=g:=by
 unfold fF;split
 ·rw[if_neg (by omega),if_neg (by omega)]
 ·rfl
theorem Q9{g:Ga}(h:GOk g):GOk (fF g)/\(fF g).ins=g.ins/\(fF g).name=g.name:=by
 unfold fF;split
 ·rename_i h1;split
  ·exact⟨⟨by show wz 2 g.ins.length=true;rw[h1.1];rfl,fun _=>⟨h1.2.1,h1.2.2⟩⟩,rfl,rfl⟩
  ·split
   ·exact⟨⟨by show wz 3 g.ins.length=true;rw[h1.1];rfl,fun _=>⟨h1.2.1,h1.2.2⟩⟩,rfl,rfl⟩
   ·exact⟨h,rfl,rfl⟩
 ·exact⟨h,rfl,rfl⟩
theorem uD{n op:Nat}{rows:List S}{off:Bool}(h:ji n rows off=some op):op<10/\BC op n=true/\mr op n=(rows,off):=by unfold ji at h;have h1:=List.mem_of_find?_eq_some h;have h2:=List.find?_some h;simp only[zqf,beq_iff_eq]at h2;exact⟨List.mem_range.1 h1,h2.1,by rw[h2.2.1,<-h2.2.2]⟩
theorem mD{g:Ga}(h:GOk g):GCan (aQ g)/\(aQ g).ins=g.ins/\(aQ g).name=g.name:=by
 obtain⟨o1,o2,o3⟩:=Q9 h;unfold aQ;split
 ·rename_i h1;exact⟨⟨o1.h,o1.r,fun e=>absurd e h1⟩,o2,o3⟩
 ·rename_i h1;have h1:(fF g).op=10:=Decidable.not_not.1 h1;have hg:g.op=10:=by
   unfold fF at h1;split at h1
   ·split at h1
    ·cases h1
    ·split at h1
     ·cases h1
     ·exact h1
   ·exact h1
  rw[qC hg];cases hf:ji g.ins.length g.rows g.off with
  |none=>exact⟨⟨h.h,h.r,fun _=>hf⟩,rfl,rfl⟩
  |some op=>obtain⟨f1,f2,_⟩:=uD hf;refine⟨⟨Ph (by omega) f2,fun _=>⟨rfl,rfl⟩,fun e=> ?_⟩,rfl,rfl⟩;have e:((op:Nat):Int)=10:=e;omega
theorem LX{g:Ga}(h:GCan g)(h1:g.op=10):aQ g=g:=by unfold aQ;rw[qC h1,if_neg (by omega),h.c h1]
theorem IW{g:Ga}(h:(fF g).op=10):g.op=10:=by
 unfold fF at h;split at h
 ·split at h
  ·cases h
  ·split at h
   ·cases h
   ·exact h
 ·exact h
theorem uF{g:Ga}(h:(aQ g).op=10):aQ g=g:=by
 unfold aQ at h ⊢;by_cases h1:(fF g).op=10
 ·have hg:=IW h1;rw[if_neg (fun e=>e h1)]at h ⊢;cases hf:ji g.ins.length g.rows g.off with
  |none=>exact qC hg
  |some op=>rw[hf]at h;have h:((op:Nat):Int)=10:=h;have:=(uD hf).1;omega
 ·rw[if_pos h1]at h;exact absurd h h1
theorem mF{g:Ga}(h:GOk g):GCan (bQ g)/\(bQ g).ins=g.ins/\(bQ g).name=g.name/\((bQ g).op=10->¬((bQ g).rows=[]/\(bQ g).off=true)):=by
 obtain⟨c1,c2,c3⟩:=mD h;unfold bQ;obtain⟨k,hk⟩:∃k,k=aQ g:=⟨_,rfl⟩;rw[<-hk]at c1 c2 c3 ⊢;split
 ·rename_i hc;obtain⟨m,hm⟩:∃m:Ga,m={k with rows:=[List.replicate k.ins.length 45],off:=false}:=⟨_,rfl⟩;have hm1:m.op=10:=by rw[hm];exact hc.1
  have hm2:m.rows≠[]:=by rw[hm];simp
  obtain⟨d1,d2,d3⟩:=mD (g:=m) ⟨by rw[hm];exact c1.h,fun e=>absurd hm1 e⟩;rw[<-hm];refine⟨d1,d2.trans (by rw[hm];exact c2),d3.trans (by rw[hm];exact c3),fun e hr=> ?_⟩;rw[uF e]at hr;exact hm2 hr.1
 ·rename_i hc;obtain⟨d1,d2,d3⟩:=mD (g:=k) ⟨c1.h,c1.r⟩;refine⟨d1,d2.trans c2,d3.trans c3,fun e hr=> ?_⟩;have e2:=uF e;rw[e2]at e hr;exact hc ⟨e,hr⟩
def fU(c:Ci):List S:=c.ins++c.lat.map (·.name)++c.gates.map (·.name)
def gq(c:Ci):List S:=c.outs++c.lat.map (·.next)++c.gates.flatMap (·.ins)
def iW(c:Ci):List S:=c.ins++c.outs++c.lat.flatMap (fun q=>[q.name,q.next])++c.gates.flatMap (fun g=>g.name::g.ins)
def TL(c:UInt8):Bool:=c==48||c==49||c==45
def ku(n:Nat)(s:S):Bool:=s.length==n&&s.all TL
def fK(g:Ga):Bool:=(g.op==10||(g.rows.isEmpty&& !g.off))&&(wz g.op g.ins.length&&(decide (g.rows.length<=128)&&g.rows.all (ku g.ins.length)))
def zT(g:Ga):Bool:=decide (8<g.ins.length)||decide (128<g.rows.length)
def Oh(c:Ci):Bool:=decide (c.ins.length+c.lat.length+c.gates.length<=200)&&(decide (c.outs.length<=200)&& !c.gates.any zT)
def wQ:List S->List S->Option S
 |_,[]=>none
 |seen,s::l=>if seen.contains s=true then some s else wQ (seen++[s]) l
def o9(q:La):Bool:=decide (0<=q.init)&&decide (q.init<=2)
def lJ(c:Ci):Int×S :=
 if Oh c=false then(8,[])else
 match (iW c).find? (fun s=> !bz s)with
 |some s=>(4,s)
 |none=>match wQ [] (fU c)with
  |some s=>(5,s)
  |none=>match wQ [] c.outs with
   |some s=>(5,s)
   |none=>match c.lat.find? (fun q=> !o9 q)with
    |some q=>(1,q.name)
    |none=>match c.gates.find? (fun g=> !fK g)with
     |some g=>(1,g.name)
     |none=>match (gq c).find? (fun s=> !(fU c).contains s)with
      |some s=>(6,s)
      |none=>(0,[])
structure NetOk(c:Ci):Prop where
 lim:Oh c=true
 told:∀s∈iW c,bz s=true
 nets:wQ [] (fU c)=none
 outs:wQ [] c.outs=none
 lat:∀q∈c.lat,o9 q=true
 gates:∀g∈c.gates,fK g=true
 used:∀s∈gq c,(fU c).contains s=true
theorem IX(c:Ci):(lJ c).1=0↔NetOk c:=by
 unfold lJ;constructor
 ·intro h;split at h
  ·cases h
  ·rename_i h1;split at h
   ·cases h
   ·rename_i h2;split at h
    ·cases h
    ·rename_i h3;split at h
     ·cases h
     ·rename_i h4;split at h
      ·cases h
      ·rename_i h5;split at h
       ·cases h
       ·rename_i h6;split at h
        ·cases h
        ·rename_i h7;rw[List.find?_eq_none]at h2 h5 h6 h7;exact⟨by simpa using h1,fun s hs=>by simpa using h2 s hs,h3,h4,fun q hq=>by simpa using h5 q hq,fun g hg=>by simpa using h6 g hg,fun s hs=>by simpa using h7 s hs⟩
 ·intro h;have e2:(iW c).find? (fun s=> !bz s)=none:=by rw[List.find?_eq_none];intro s hs;simp[h.told s hs]
  have e5:c.lat.find? (fun q=> !o9 q)=none:=by rw[List.find?_eq_none];intro q hq;simp[h.lat q hq]
  have e6:c.gates.find? (fun g=> !fK g)=none:=by rw[List.find?_eq_none];intro g hg;simp[h.gates g hg]
  have e7:(gq c).find? (fun s=> !(fU c).contains s)=none:=by rw[List.find?_eq_none];intro s hs;have h7:=h.used s hs;simp at h7;simp[h7]
  rw[if_neg (by rw[h.lim];decide),e2,h.nets,h.outs,e5,e6,e7]
theorem lg{g:Ga}(h:fK g=true):GOk g/\g.rows.length<=128/\∀r∈g.rows,ku g.ins.length r=true:=by unfold fK at h;simp only[zqf,Bool.or_eq_true,beq_iff_eq,List.isEmpty_iff,Bool.not_eq_true',zqb,zrs]at h;obtain⟨h1,h2,h3,h4⟩:=h;exact⟨⟨h2,fun hn=>h1.resolve_left hn⟩,h3,h4⟩
theorem LY{g:Ga}(h:GOk g)(h2:g.rows.length<=128)(h3:∀r∈g.rows,ku g.ins.length r=true):fK g=true:=by unfold fK;simp only[zqf,Bool.or_eq_true,beq_iff_eq,List.isEmpty_iff,Bool.not_eq_true',zqb,zrs];exact⟨Decidable.or_iff_not_imp_left.2 h.r,h.h,h2,h3⟩
theorem FK(g:Ga):(aQ g).rows=[]\/(aQ g).rows=g.rows:=by
 have h1:(fF g).rows=g.rows:=by
  unfold fF
  repeat' split
  all_goals rfl
 unfold aQ;split
 ·exact .inr h1
 ·split
  ·exact .inl rfl
  ·exact .inr h1
theorem qE{g:Ga}(h:fK g=true):fK (bQ g)=true:=by
 obtain⟨g1,g2,g3⟩:=lg h;obtain⟨c1,c2,c3⟩:=mD g1;obtain⟨p1,p2,p3,_⟩:=mF g1;have hr:(bQ g).rows.length<=128/\∀r∈(bQ g).rows,ku g.ins.length r=true:=by
  have key:∀g':Ga,g'.rows.length<=128->(∀r∈g'.rows,ku g.ins.length r=true)->(aQ g').rows.length<=128/\∀r∈(aQ g').rows,ku g.ins.length r=true:=by
   intro g' a1 a2;rcases FK g' with e|e<;>rw[e]
   ·exact⟨by simp,by simp⟩
   ·exact⟨a1,a2⟩
  unfold bQ;refine key _ ?_ ?_
  ·split
   ·show [_].length<=128;simp
   ·exact(key g g2 g3).1
  ·split
   ·intro r hr;have hr:r∈[List.replicate (aQ g).ins.length 45]:=hr;rw[zrc.1 hr,c2];unfold ku;rw[zsc,zqf,beq_iff_eq,zrs];refine⟨rfl,fun x hx=> ?_⟩;rw[(List.mem_replicate.1 hx).2];rfl
   ·exact(key g g2 g3).2
 exact LY ⟨p1.h,p1.r⟩ hr.1 (by rw[p2];exact hr.2)
def nG(l:List Nat)(i j:Nat):List Nat:=(l.set i (l.getD j 0)).set j (l.getD i 0)
def upP:Nat->List Nat->Nat->List Nat
 |0,l,_=>l
 |f+1,l,j=>if j=0\/¬(l.getD j 0<l.getD ((j-1)/2) 0)then l else upP f (nG l ((j-1)/2) j) ((j-1)/2)
def Ea(l:List Nat)(i n:Nat):Nat:=if 2*i+2<n/\l.getD (2*i+2) 0<l.getD (2*i+1) 0 then 2*i+2 else 2*i+1
def yw:Nat->List Nat->Nat->Nat->List Nat
 |0,l,_,_=>l
 |f+1,l,i,n=>if n<=2*i+1\/¬(l.getD (Ea l i n) 0<l.getD i 0)then l else yw f (nG l i (Ea l i n)) (Ea l i n) n
def zU(l:List Nat)(x:Nat):List Nat:=upP (l.length+1) (l++[x]) l.length
def lK(l:List Nat):List Nat:=yw l.length (nG l 0 (l.length-1)) 0 (l.length-1)
theorem fM(l:List Nat)(i j:Nat):(nG l i j).length=l.length:=by simp[nG]
theorem uG{l:List Nat}{i j:Nat}(hi:i<l.length)(hj:j<l.length):(nG l i j).Perm l:=by unfold nG;rw[zqg,zqg,zqk hi,zqk hj];exact List.set_set_perm hi hj
theorem IY:∀(f:Nat) {l:List Nat} {j:Nat},j<l.length->(upP f l j).Perm l
 |0,_,_,_=>List.Perm.refl _
 |f+1,l,j,h=>by
  unfold upP;split
  ·exact List.Perm.refl _
  ·exact(IY f (by rw[fM];omega)).trans (uG (by omega) h)
theorem Rf{l:List Nat}{i n:Nat}(h:2*i+1<n):Ea l i n<n/\i<Ea l i n/\2*i+1<=Ea l i n/\Ea l i n<=2*i+2:=by unfold Ea;split<;>omega
theorem zV:∀(f:Nat) {l:List Nat} {i n:Nat},n<=l.length->(yw f l i n).Perm l
 |0,_,_,_,_=>List.Perm.refl _
 |f+1,l,i,n,h=>by
  unfold yw;split
  ·exact List.Perm.refl _
  ·rename_i hc;have:=Rf (l:=l) (i:=i) (n:=n) (by omega);exact(zV f (by rw[fM];exact h)).trans (uG (by omega) (by omega))
theorem pg(l:List Nat)(x:Nat):(zU l x).Perm (l++[x]):=IY _ (by simp)
theorem Eb{l:List Nat}(h:l≠[]):(lK l).Perm l:=by have:0<l.length:=List.length_pos_iff.2 h;exact(zV _ (by rw[fM];omega)).trans (uG this (by omega))
theorem Ec(l:List Nat)(x:Nat):(zU l x).length=l.length+1:=by rw[(pg l x).length_eq];simp
theorem IZ{l:List Nat}(h:l≠[]):(lK l).length=l.length:=(Eb h).length_eq
def uH(names:List S)(s:S):Option Nat:=names.findIdx? (·==s)
def jk(names:List S)(i:Nat):List S->List (List Nat)×List (List Nat)->List (List Nat)×List (List Nat)
 |[],x=>x
 |s::l,(N,B)=>match uH names s with
  |some k=>if(N.getD i []).contains k=true then jk names i l (N,B)else jk names i l (N.set i (N.getD i []++[k]),B.set k (B.getD k []++[i]))
  |none=>jk names i l (N,B)
def jO(names:List S):Nat->List (List S)->List (List Nat)×List (List Nat)->List (List Nat)×List (List Nat)
 |_,[],x=>x
 |i,l::r,x=>jO names (i+1) r (jk names i l x)
def zW(names:List S)(ins:List (List S)):List (List Nat)×List (List Nat):=jO names 0 ins (List.replicate ins.length [],List.replicate ins.length [])
def uI(N:List (List Nat)):List Nat->List Nat->List Nat
 |[],Q=>Q
 |i::r,Q=>uI N r (if(N.getD i []).isEmpty=true then zU Q i else Q)
def wB(at':Nat):List Nat->List (List Nat)×List Nat->List (List Nat)×List Nat
 |[],x=>x
 |i::r,(N,Q)=>wB at' r (N.set i ((N.getD i []).filter (· != at')),if((N.getD i []).filter (· != at')).isEmpty=true then zU Q i else Q)
def yx(B:List (List Nat)):Nat->List (List Nat)->List Nat->List Nat
 |0,_,_=>[]
 | f + 1,N,Q => if Q.isEmpty = true then [] else
  (lK Q).getLastD 0::yx B f (wB ((lK Q).getLastD 0) (B.getD ((lK Q).getLastD 0) []) (N,(lK Q).dropLast)).1 (wB ((lK Q).getLastD 0) (B.getD ((lK Q).getLastD 0) []) (N,(lK Q).dropLast)).2
def zX(names:List S)(ins:List (List S)):List Nat:=yx (zW names ins).2 ins.length (zW names ins).1 (uI (zW names ins).1 (List.range ins.length) [])
def Ed(names:List S)(ins:List (List S)):List S:=((List.range names.length).filter fun i=> !(zX names ins).contains i).map fun i=>names.getD i []
def FM(c:Ci):List Nat×List S:=if(lJ c).1=0 then(zX (c.gates.map (·.name)) (c.gates.map (·.ins)),Ed (c.gates.map (·.name)) (c.gates.map (·.ins)))else([],[])
def wR(c:Ci):Int×S:=if(lJ c).1≠0 then lJ c else match (FM c).2 with
 |s::_=>(7,s)
 |[]=>(0,[])
theorem Pi{c:Ci}(h:(wR c).1=0):NetOk c:=by
 unfold wR at h;split at h
 ·rename_i h1;exact absurd h h1
 ·rename_i h1;exact(IX c).1 (Decidable.not_not.1 h1)
abbrev RB(α:Type):=Except (Nat×Int) α
def lF:Bool->List Tk->List Tk
 |_,[]=>[]
 |b,t::r=>if t.k=3 then(if b=true then lF true r else t::lF true r)else t::lF false r
def di:List Tk->List Tk->List (List Tk)
 |_,[]=>[]
 |acc,t::r=>if t.k=3 then acc::di [] r else di (acc++[t]) r
def iO(s:S):List Tk:=lF true (tkB s.length 0 s++[⟨3,[],s.length⟩])
theorem pq:∀(l acc:List Tk),di acc (lF acc.isEmpty l)=(di acc l).filter fun x=> !x.isEmpty
 |[],acc=>by rw[lF,di];rfl
 |t::r,acc=>by
  by_cases h:t.k=3
  ·cases acc with
   |nil=>show di [] (lF true (t::r))=_;rw[lF,if_pos h,if_pos rfl,di,if_pos h];exact pq r []
   |cons a acc=>show di (a::acc) (lF false (t::r))=_;rw[lF,if_pos h,if_neg (by decide),di,if_pos h,di,if_pos h];exact congrArg _ (pq r [])
  ·have e:(acc++[t]).isEmpty=false:=by simp
   rw[lF,if_neg h,di,if_neg h,di,if_neg h,<-pq r (acc++[t]),e]
theorem LZ{s:S}:∀l∈di [] (iO s),l≠[]:=fun l hl=>by have h:iO s=lF ([]:List Tk).isEmpty (tkB s.length 0 s++[⟨3,[],s.length⟩]):=rfl;rw[h,pq]at hl;have:=(List.mem_filter.1 hl).2;intro e;rw[e]at this;exact absurd this (by decide)
structure Ps where
 c:Ci
 begun:Bool
 ended:Bool
 on:Bool
def iD(t:Tk):RB S:=if t.k=0 then(if(CP bz t.t).2=0 then .ok (CP bz t.t).1 else .error (t.at',(CP bz t.t).2))else .error (t.at',4)
def bV:List Tk->RB (List S)
 |[]=> .ok []
 |t::r=>match iD t with
  | .error e=> .error e
  | .ok s=>match bV r with
   | .error e=> .error e
   | .ok l=> .ok (s::l)
def zY(s:S):Option Int:=if s=[48]then some 0 else if s=[49]then some 1 else if s=[50]then some 2 else if s=[51]then some 2 else none
def rU(p:Ps)(y x:S)(k:Int):Ps:={p with c:={p.c with lat:=p.c.lat++[⟨y,x,k⟩]}}
def mG(p:Ps)(t:Tk)(r:List Tk):RB Ps:=match r with
 |a::b::r'=>if r'.length<=1 then(match iD a with
  | .error e=> .error e
  | .ok x=>match iD b with
   | .error e=> .error e
   | .ok y=>match r' with
    |[]=> .ok (rU p y x 2)
    |i::_=>match zY i.t with
     |some k=> .ok (rU p y x k)
     |none=> .error (i.at',1))else .error (t.at',2)
 |_=> .error (t.at',2)
def L6(p:Ps)(r:List Tk):RB Ps:=match bV r with
 | .error e=> .error e
 | .ok l=> .ok {p with c:={p.c with ins:=p.c.ins++l}}
def yz(p:Ps)(r:List Tk):RB Ps:=match bV r with
 | .error e=> .error e
 | .ok l=> .ok {p with c:={p.c with outs:=p.c.outs++l}}
def pz(p:Ps)(t:Tk)(r:List Tk):RB Ps:=match r with
 |[]=> .error (t.at',2)
 |_=>match bV r with
  | .error e=> .error e
  | .ok l=> .ok {p with c:={p.c with gates:=p.c.gates++[⟨l.getLastD [],10,l.dropLast,[],false⟩]},on:=true}
def CQ(t:Tk)(r:List Tk):S:=(r.getLastD t).t
def I4(g:Ga)(t:Tk):S:=if g.ins.length=0 then []else t.t
def SH(g:Ga)(t:Tk)(r:List Tk):Bool:=ku g.ins.length (I4 g t)&&((CQ t r==[48]||CQ t r==[49])&&(g.rows.isEmpty||g.off==(CQ t r==[48])))
def Kq(p:Ps)(t:Tk)(r:List Tk):RB Ps:=match p.on,p.c.gates.getLast? with
 |true,some g =>
  if r.length = min g.ins.length 1 then
   if SH g t r=true then .ok {p with c:={p.c with gates:=p.c.gates.dropLast++[{g with rows:=g.rows++[I4 g t],off:=CQ t r==[48]}]}} else .error (t.at',2)
  else .error (t.at',2)
 |_,_=> .error (t.at',2)
def iK:S:=[46,109,111,100,101,108]
def FN:S:=[46,101,110,100]
def iE:S:=[46,105,110,112,117,116,115]
def fO:S:=[46,111,117,116,112,117,116,115]
def kw:S:=[46,108,97,116,99,104]
def ig:S:=[46,110,97,109,101,115]
def lH(p:Ps)(t:Tk)(r:List Tk):RB Ps :=
 if t.t=FN then(if r=[]then .ok {p with ended:=true} else .error (t.at',2))
 else if t.t=iE then L6 p r
 else if t.t=kw then mG p t r
 else if t.t=iK then(if r.length<=1 then .ok {p with begun:=true} else .error (t.at',2))
 else if t.t=ig then pz p t r
 else if t.t=fO then yz p r
 else .error (t.at',9)
def pF(p:Ps):List Tk->RB Ps
 |[]=> .ok p
 |t::r =>
  if(!p.ended&&p.begun != (t.t==iK))=false then .error (t.at',2)
  else if t.t.headD 0≠46 then Kq p t r
  else lH {p with on:=false} t r
def gW:Ps->List (List Tk)->RB Ps
 |p,[]=> .ok p
 |p,l::r=>match pF p l with
  | .error e=> .error e
  | .ok p=>gW p r
def wC(t:Tk):S×Int:=if t.k=0 then CP bz t.t else([],4)
def isT(s:S)(t:Tk):Bool:=(wC t).2==0&&(wC t).1==s
def I5(l:List Tk)(s:S):Nat:=match l.findIdx? (isT s)with
 |some i=>(l.getD i ⟨0,[],0⟩).at'
 |none=>0
def ps0:Ps:=⟨⟨[],[],[],[]⟩,false,false,false⟩
def jC(c:Ci):Ci:={c with gates:=c.gates.map aQ}
def Rh(s:S)(p:Ps):RB Ci :=
 if p.ended=false then .error (s.length,2)
 else if(wR (jC p.c)).1=0 then .ok (jC p.c)
 else .error (if(wR (jC p.c)).2=[]then 0 else I5 (iO s) (wR (jC p.c)).2,(wR (jC p.c)).1)
def nT(s:S):RB Ci:=match gW ps0 (di [] (iO s))with
 | .error e=> .error e
 | .ok p=>Rh s p
def spV(s:S):S:=if bz s=true then o8 s else []
def fG(w:S)(l:List S):S:=w++l.flatMap (fun x=>32::spV x)++[10]
def I7(i:Int):S:=if i=0 then [48]else if i=1 then [49]else [51]
def Kr(off:Bool)(row:S):S:=(if row=[]then []else row++[32])++[if off=true then 48 else 49,10]
def rV(g:Ga):S:=fG ig ((bQ g).ins++[(bQ g).name])++(bT (bQ g)).1.flatMap (Kr (bT (bQ g)).2)
def SI:S:=[116,111,112]
def wS(c:Ci):S:=fG iK [SI]++fG iE c.ins++fG fO c.outs++c.lat.flatMap (fun q=>fG kw [q.next,q.name,I7 q.init])++c.gates.flatMap rV++fG FN []
def Ee(c:Ci):S×Int:=if(wR c).1=0 then(wS c,0)else([],1)
theorem FO{s:S}(h:bz s=true):s≠[]/\∀c∈s,gZ c=true:=by
 unfold bz at h;simp only[zqf,zqb,zrs]at h;refine⟨fun e=> ?_,?_⟩
 ·rw[e]at h;simp at h
 ·exact fun c hc=>by first|exact h.1 c hc|exact h.2 c hc
def Wd(l:List S):List (Nat×S):=l.map fun w=>(0,w)
abbrev LW:=List (S×List S)
abbrev Ls(ls:List (List Tk))(L:LW):Prop:=ls.map (·.map Tk.s)=L.map fun x=>Wd (x.1::x.2)
theorem Ls.app{ls:List (List Tk)}{A B:LW}(h:Ls ls (A++B)):∃a b,ls=a++b/\Ls a A/\Ls b B:=by unfold Ls at h;rw[zql]at h;obtain⟨a,b,rfl,ha,hb⟩:=List.map_eq_append_iff.1 h;exact⟨a,b,rfl,ha,hb⟩
structure NamesOk(c:Ci):Prop where
 ins:∀s∈c.ins,bz s=true
 outs:∀s∈c.outs,bz s=true
 lat:∀q∈c.lat,bz q.name=true/\bz q.next=true/\o9 q=true
 gates:∀g∈c.gates,fK g=true/\bz g.name=true/\∀s∈g.ins,bz s=true
theorem I8{g:Ga}(h:GOk g):bQ (bQ g)=bQ g:=by
 obtain⟨c,_,_,p4⟩:=mF h;obtain⟨q,hq⟩:∃q,q=bQ g:=⟨_,rfl⟩;rw[<-hq]at c p4 ⊢;have hcan:aQ q=q:=by
  by_cases h10:q.op=10
  ·exact LX c h10
  ·have h1:fF q=q:=by
    unfold fF;split
    ·rename_i hc;have hh:=c.h;rw[hc.1]at hh;split
     ·rename_i ho;rcases ho with e|e|e<;>(rw[e]at hh;exact absurd hh (by decide))
     ·split
      ·rename_i ho;rcases ho with e|e|e<;>(rw[e]at hh;exact absurd hh (by decide))
      ·rfl
    ·rfl
   unfold aQ;rw[h1,if_pos h10]
 unfold bQ;rw[hcan,if_neg (fun hc=>p4 hc.1 hc.2),hcan]
end Go.Proofs.YtokppohljajhjaaGreatDoor
