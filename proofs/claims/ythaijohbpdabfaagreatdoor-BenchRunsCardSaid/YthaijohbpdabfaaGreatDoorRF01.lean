/- Lemmas for this claim, part F01: each holds under what it names. -/
import Derived.Test.YthaijohbpdabfaaGreatDoorRP0
import Derived.Test.YthaijohbpdabfaaGreatDoorRA8
import Derived.Test.YthaijohbpdabfaaGreatDoorRA7
import Derived.Lib.Builder
import Derived.Lib.UnsafeStr
import Derived.Laws.Externs
set_option linter.all false
set_option maxRecDepth 100000
set_option maxHeartbeats 1000000
namespace Go.Proofs.YthaijohbpdabfaaGreatDoor
open Go Go.Proofs Go.Abs
open List renaming length → aa, replicate → ao
open Bool renaming true → ab, false → ac
open Option renaming some → al, none → aq
open Decidable renaming decide → ar
open Go.IntKind renaming wrap → aD
open Go.Result renaming andThen → aM
open Go.Abs.O renaming cells → am
open Go.Abs.V renaming drops → ap, dat → aE, dats → aL
abbrev vi(n:Int):V:= .int .i64 n
def lit(vars a:Int):Bool:=ar (a≠0)&&(ar (-vars<=a)&&ar (a<=vars))
theorem iW{n:Int}(h1:-9223372036854775808<=n)(h2:n<=9223372036854775807):aD .i64 n=n:=yQ h1 (by omega)
theorem cu{α:Type}{l:List α}{i:Nat}(h:i<aa l){P:α->Prop}(h1:∀s∈l.take i,P s)(h2:P l[i]):∀s∈l.take (i+1),P s:=by
 intro s hs;rw[zrg]at hs;simp only[h,zqk,Option.toList_some,zrf,zrc]at hs;rcases hs with hs|rfl
 ·exact h1 s hs
 ·exact h2
theorem Xb{α:Type}{a b:List α}{i:Nat}(h:a.take i=b.take i)(ha:i<aa a)(hb:i<aa b)(he:a[i]=b[i]):a.take (i+1)=b.take (i+1):=by rw[zrg,zrg,h];simp[ha,hb,he]
abbrev dw(l:List Bool):V:= .is ac 1 (l.map V.bool)
theorem Py{l:List Bool}{r:List V}(hb:V.bnds (dw l::r)):aa l<=maxLen:=by simp only[V.bnds,V.bnd,zra]at hb;exact hb.1.1
def hol(vs:List Bool)(a:Int):Bool:=if a<0 then !(vs.getD (-a-1).toNat ac)else vs.getD (a-1).toNat ac
def idx{α:Type}(l:List α)(p:α->Bool):Int:=match l.findIdx? p with|some i=>i|none=>-1
theorem Dz{α:Type}{l:List α}{p:α->Bool}{i:Nat}(h:i<aa l)(hn:∀x∈l.take i,p x=ac)(hb:p l[i]=ab):idx l p=i:=by
 have:l.findIdx? p=al i:=by
  rw[List.findIdx?_eq_some_iff_getElem];refine⟨h,hb,λj hj=> ?_⟩;have:l[j]∈l.take i:=by
   rw[List.mem_take_iff_getElem];exact⟨j,by omega,rfl⟩
  simp[hn _ this]
 simp[idx,this]
theorem yc{α:Type}{l:List α}{p:α->Bool}(hn:∀x∈l,p x=ac):idx l p=-1:=by
 have:l.findIdx? p=aq:=by rw[List.findIdx?_eq_none_iff];simpa using hn
 simp[idx,this]
theorem Pz{α:Type}(l:List α)(p:α->Bool):ar (0<=idx l p)=l.any p:=by
 cases h:l.any p with
 |false=>rw[yc (by simpa using h)];rfl
 |true =>
  have:∃x∈l,p x=ab:=by simpa using h
  unfold idx;cases hb:l.findIdx? p with
  |none=>obtain⟨x,hx,hx2⟩:=this;have:=(List.findIdx?_eq_none_iff.1 hb) x hx;simp[hx2]at this
  |some i=>simp
abbrev S:=List UInt8
abbrev aJ(l:List S):V:= .is ac 1 (l.map V.str)
theorem JU{l:List S}{r:List V}(hb:V.bnds (aJ l::r)):aa l<=maxLen:=by simp only[V.bnds,V.bnd,zra]at hb;exact hb.1.1
theorem Bz{l:List S}{i:Nat}(h:i<aa l)(d:V):(List.map V.str l).getD i d= .str l[i]:=fG h _
def Td(n:Nat)(l:List S):Bool:=ar (aa l<=n)&&l.all λs=>ar (aa s<=60)
theorem uz[MO](l:List S)(n:Nat):Ev TE 116 [aJ l,.int .i64 n] (.bool (Td n l)):=by
 refine Ev.bnd λhb=> ?_;have hlen:=JU hb;refine ai Tryz.func116 rfl (by simp[nts]) (vm ?_);simp only[wq.1,Nat.reduceLT,Tryz.results116];refine aF (λm f h=>∃i,m+i=aa l/\f.t 0=aJ l/\f.t 1= .int .i64 n/\f.t 5= .int .i64 (i:Int)/\f.d=[]/\∀s∈l.take i,aa s<=60) (aa l) ⟨0,by simp,rfl,rfl,rfl,rfl,by simp⟩ ?_;rintro m f h ⟨i,hm,h0,h1,h5,hd,hall⟩;refine vm ?_;simp only[wq.1,seval,h0,h1,h5];refine vcB.mk (λhc=> ?_) (λhc=> ?_)
 ·simp only[zqf,zqb,zqi,Int.ofNat_le]at hc;obtain⟨hc1,hc2⟩:=hc;simp only[wq.1,seval,h0,h5,Bz hc1];refine⟨⟨by omega,by omega⟩,vcB.mk (λhc=> ?_) (λhc=> ?_)⟩
  ·simp only[wq.1,seval,hd];have:Td n l=ac:=by
    simp only[zqb]at hc;have hx:∃x∈l,¬aa x<=60:=⟨l[i],zqu _,by omega⟩;simpa [Td]using λ_=>hx
   rw[this];exact aC.dat rfl
  ·simp only[wq.1,seval,h5,aA (show i<maxLen by omega)];refine .inl ⟨m-1,by omega,i+1,by omega,h0,h1,rfl,hd,?_⟩;simp only[zqd]at hc;intro s hs;rw[zrg]at hs;simp only[hc1,zqk,Option.toList_some,zrf,zrc]at hs;rcases hs with hs|rfl
   ·exact hall s hs
   ·omega
 ·simp only[wq.1,seval,h0,h1,hd];have:(ar ((aa l:Int)<=n))=Td n l:=by
   simp only[Bool.and_eq_false_iff,zqd,zqi,Int.ofNat_le]at hc;by_cases hi:i<aa l
   ·have h2:¬aa l<=n:=by omega
    simp[Td,h2]
   ·rw[zqh (by omega)]at hall;have:(l.all λs=>ar (aa s<=60))=ab:=by simpa using hall
    simp[Td,this]
  rw[this];exact aC.dat rfl
def iP(c:UInt8):Bool:=ar (33<=c.toNat)&&ar (c.toNat<=126)
def aU(s:S):Bool:=s.all iP&&(ar (1<=aa s)&&ar (aa s<=40))
theorem PD{s:S}{i:Nat}(h:i<aa s):s.getD i 0=s[i]:=by simp[zqg,h]
def Y9(n:Int):Bool:=ar (n<=32)||ar (126<n)
theorem Za[MO](n:Int):Ev TE 234 [.int .i32 n] (.bool (Y9 n)):=by refine ai Tryz.func234 rfl (by simp[nts]) (vm ?_);simp only[wq.1,seval,Tryz.results234];exact aC.eq rfl rfl
theorem PE{s:S}{i:Nat}(h:i<aa s)(hb:s[i].toNat<128):EQ s i=(s[i].toNat,1):=by
 unfold EQ Utf8.decode;have:((ByteArray.mk s.toArray).get! (i+0)).toNat=s[i].toNat:=by
  simp[ByteArray.get!,h]
 simp only[this];rw[if_pos hb]
theorem Ui{s:S}{i:Nat}(h:i<aa s)(hb:¬s[i].toNat<128):128<=(EQ s i).1:=by
 unfold EQ Utf8.decode;have:((ByteArray.mk s.toArray).get! (i+0)).toNat=s[i].toNat:=by
  simp[ByteArray.get!,h]
 simp only[this];rw[if_neg hb]
 repeat' split
 all_goals first
  |(simp[Utf8.runeError];done)
  |(rename_i hc;simp only[zqf,zqb,ge_iff_le]at hc;dsimp only;omega)
  |(rename_i hc;simp only[ge_iff_le]at hc;dsimp only;omega)
theorem Uj{s:S}{i:Nat}(h:i<aa s):Y9 (EQ s i).1= !iP s[i]:=by
 by_cases hb:s[i].toNat<128
 ·rw[PE h hb];refine Bool.eq_iff_iff.2 ?_;simp only[Y9,iP,Bool.or_eq_true,zqb,Bool.not_eq_true',Bool.and_eq_false_iff,zqd];omega
 ·have:=Ui h hb;have h1:Y9 (EQ s i).1=ab:=by simp only[Y9,Bool.or_eq_true,zqb];omega
  have h2:iP s[i]=ac:=by simp only[iP,Bool.and_eq_false_iff,zqd];omega
  rw[h1,h2];rfl
def MX(s:S):Option Nat:=s.findIdx? λc=> !iP c
def VX(s:S):Int:=match MX s with|some i=>i|none=>-1
theorem PG{s:S}{i:Nat}(h:i<aa s)(hn:∀x∈s.take i,iP x=ab)(hb:iP s[i]=ac):VX s=i:=by
 have:MX s=al i:=by
  unfold MX;rw[List.findIdx?_eq_some_iff_getElem];refine⟨h,by simp[hb],λj hj=> ?_⟩;have:s[j]∈s.take i:=by
   rw[List.mem_take_iff_getElem];exact⟨j,by omega,rfl⟩
  simp[hn _ this]
 simp[VX,this]
theorem FC{s:S}(hn:∀x∈s,iP x=ab):VX s=-1:=by
 have:MX s=aq:=by unfold MX;rw[List.findIdx?_eq_none_iff];simpa using hn
 simp[VX,this]
theorem Zb[MO](s:S):Ev TE 270 [.str s,.fn (.func 234) [] [],.bool ab] (.int .i64 (VX s)):=by
 refine Ev.bnd λhb=> ?_;have hlen:aa s<=maxLen:=hb.1;refine ai Tryz.func270 rfl (by simp[nts]) (vm ?_);simp only[wq.1,seval,Tryz.results270];refine aF (λm f h=>∃i,m+i=aa s/\f.t 1= .fn (.func 234) [] []/\f.t 2= .bool ab/\f.t 10= .lp 0 0/\f.d=[]/\h=[.misc (.siter s i)]/\∀x∈s.take i,iP x=ab) (aa s) ⟨0,by simp,rfl,rfl,rfl,rfl,rfl,by simp⟩ ?_;rintro m f h ⟨i,hm,h1,h2,h10,hd,rfl,hall⟩;refine vm ?_;simp only[wq.1,seval,h10];refine ny.mk (λhc=> ?_) (λhc=> ?_)
 ·simp only[zqb]at hc;simp only[wq.1,seval,h1,ny];refine ag.ev (Za _) rfl ?_;rw[Uj hc];simp only[wq.1,seval,h2];refine vcB.mk (λhc'=> ?_) (λhc'=> ?_)
  ·have hb:iP s[i]=ac:=by simpa using hc'
   simp only[wq.1,seval,hd];rw[PG hc hall hb];exact aC.dat rfl
  ·have hb:iP s[i]=ab:=by simpa using hc'
   have h128:s[i].toNat<128:=by simp only[iP,zqf,zqb]at hb;omega
   simp only[wq.1,Int.reduceNeg];exact .inl ⟨m-1,by omega,i+1,by omega,h1,h2,h10,hd,by rw[PE hc h128],cu hc hall hb⟩
 ·simp only[zqd]at hc;simp only[wq.1,seval,hd,ny];rw[zqh (by omega)]at hall;rw[FC hall];exact aC.dat rfl
theorem Zc[MO](s:S):Ev TE 235 [.str s,.fn (.func 234) [] []] (.int .i64 (VX s)):=by refine ai Tryz.func235 rfl (by simp[nts]) (vm ?_);simp only[wq.1,seval,Tryz.results235];refine ag.ev (Zb s) rfl ?_;simp only[wq.1,seval];exact aC.dat rfl
theorem Uk(s:S):ar (VX s<0)=s.all iP:=by
 cases h:s.all iP with
 |true=>rw[FC (by simpa using h)];rfl
 |false =>
  have:∃x∈s,iP x=ac:=by simpa using h
  cases hb:MX s with
  |none=>obtain⟨x,hx,hx2⟩:=this;have:=(List.findIdx?_eq_none_iff.1 hb) x hx;simp[hx2]at this
  |some i=>simp[VX,hb]
theorem Ul[MO](s:S):Ev TE 168 [.str s] (.bool (aU s)):=by
 refine ai Tryz.func168 rfl (by simp[nts]) (vm ?_);simp only[wq.1,seval,Tryz.results168];refine ET.ev (q:=235) (vs:=[.str s,.fn (.func 234) [] []]) (by simp only[wq.1,seval]) (by simp only[wq.1,seval]) rfl (λ_=>Zc s) (λ_=>rfl) ?_;simp only[wq.1,seval];refine aC.eq rfl ?_;rw[Uk];unfold aU
 congr 1
 have h1:(!s==[])=ar (1<=aa s):=by cases s<;>simp
 have h2:ar ((aa s:Int)<=40)=ar (aa s<=40):=decide_eq_decide.2 (by omega);rw[h1,h2,Bool.and_comm]
theorem yf[MO](s:S):Ev TE 105 [.str s] (.bool (aU s)):=by refine ai Tryz.func105 rfl (by simp[nts]) (vm ?_);simp only[wq.1,seval,Tryz.results105];refine ag.ev (Ul s) rfl ?_;simp only[wq.1,seval];exact aC.dat rfl
theorem bC{dst:Option Tmp}{Kn:Fr->H->Prop}{Q:XE->Fr->H->Prop}{f:Fr}{v:V}{h:H}{p:Nat->Bool}:fO dst Kn Q f (.ret v) h p=((∀i∈f.d,p i=ac)/\Kn ((f.drop p).put dst v) h):=rfl
theorem kT:∀l:List Bool,aL (l.map V.bool)=ab
 |[]=>rfl
 |a::l=>by simp only[zrd,aL,aE,kT l,zre]
theorem Zd:∀l:List Bool,bV 1 (l.map V.bool)=ab
 |[]=>rfl
 |a::l=>by simp only[zrd,bV,Zd l,V.fit,V.vc,zrk];rfl
theorem VY:∀l:List Bool,(l.map V.bool).flatMap V.vc=l.map V.bool
 |[]=>rfl
 |a::l=>by simp only[zrd,List.flatMap_cons,V.vc,VY l];rfl
theorem vY{e:E}{h:H}{id len cap:Nat}{l:List Bool}(hc:h[id]? =al (am (l.map V.bool)))(hl:len=aa l):aC e h (.ls id 1 0 len cap) (dw l) :=
 aC.ls hc (au.dat (kT l)) (Zd l) (VY l) (by simpa using hl)
theorem MZ[MO](n:Nat)(hn:n<=1000000000)(h:H)(R:AEnd->H->(Nat->Bool)->Prop)(hr0:n=0->R (.ret .nils) h (λ_=>ac))
 (hr:0<n->R (.ret (.ls (aa h) 1 0 0 n)) (h++[am (ao n (.str []))]) (λ_=>ac)):ag TE 233 [.nils,vi n] h R:=by
 refine aj Tryz.func233 rfl (by simp[nts]) ?_;refine vn ?_;simp only[wq.1,Nat.reduceLT,Tryz.results233];refine ak ?_;refine vm ?_;simp only[wq.1,seval];refine vcB.mk (λhc=> ?_) (λhc=> ?_)
 ·simp only[zqb]at hc;omega
 simp only[wq.1];refine ak (ak (iE ?_));refine az rfl rfl ?_;simp only[wq.1,seval];refine az rfl rfl ?_;simp only[wq.1,seval];refine dM rfl rfl ?_;have hq:ti TE.P 23=al ⟨.slice 9,1,24,.nils⟩:=by simp only[wq.1]
 have hqe:ti TE.P 9=al ⟨.str,1,16,.str []⟩:=by simp only[wq.1]
 have hqi:ti TE.P 3=al ⟨.int .i64,1,8,.int .i64 0⟩:=by simp only[wq.1]
 refine jb (t:=23) rfl rfl hq rfl trivial rfl ?_;refine az rfl rfl ?_;simp only[wq.1,seval];refine az rfl rfl ?_;simp only[wq.1,↓reduceIte];refine az rfl rfl ?_;simp only[wq.1,seval];refine az rfl rfl ?_;simp only[wq.1,seval];refine az rfl rfl ?_;simp only[wq.1,↓reduceIte];have w0:aD .i64 0=0:=by decide
 have w1:aD .i64 ((n:Int)-0)=n:=by rw[Int.sub_zero];exact iW (by omega) (by omega)
 refine dL ?_;simp only[wq.1,w0,w1];refine ak ?_;refine vm ?_;simp only[wq.1,seval];refine bH (b:=ar ((0:Int)<n)) (by simp only[wq.1,↓reduceIte]) (by simp only[wq.1,↓reduceIte]) (λhb=> ?_) (λhb=> ?_)
 ·have hpos:0<n:=by simp only[zqb]at hb;omega
  refine iE ?_;refine az rfl rfl ?_;simp only[wq.1,seval];refine az rfl rfl ?_;simp only[wq.1,seval];refine dM rfl rfl ?_;refine jb (t:=23) rfl rfl hq rfl trivial rfl ?_;refine dM rfl rfl ?_;refine mO rfl hq rfl hqe (by simp only[wq.1,seval]) (by simp only[wq.1,seval]) (by simp only[wq.1,↓reduceIte]) (k:= .i64) (by simp only[wq.1,↓reduceIte]) ?_;refine az rfl rfl ?_;simp only[wq.1,seval];refine dM rfl rfl ?_;refine pO (x:= .tmp 20) (y:= .tmp 21) (t:=23) (xt:=3) (el:=9) ⟨⟨_,rfl,rfl,rfl⟩,hq,rfl,hqe,rfl,rfl,Nat.zero_lt_one⟩ (by simp only[wq.1,seval]) (by simp only[wq.1,↓reduceIte]) (by simp only[wq.1,seval]) (by simp only[wq.1,↓reduceIte]) hqi rfl hpos (by omega) ?_ rfl (zv:= .str []) rfl ?_
  ·show n*16<=_;omega
  refine az rfl rfl ?_;simp only[wq.1,seval];refine az rfl rfl ?_;simp only[wq.1,↓reduceIte];refine az rfl rfl ?_;simp only[wq.1,seval];refine⟨by omega,?_⟩;refine az rfl rfl ?_;simp only[wq.1,↓reduceIte];refine dL ?_;simp only[wq.1];refine vm ?_;simp only[wq.1,seval];exact hr hpos
 ·have:n=0:=by simp only[zqd]at hb;omega
  refine vm ?_;simp only[wq.1];refine vm ?_;simp only[wq.1,seval];exact hr0 this
theorem Na{α:Type}(ls:List (List α))(i:Nat):ls.flatten=(ls.take i).flatten++(ls.drop i).flatten:=by rw[<-List.flatten_append,List.take_append_drop]
theorem fD{α:Type}{ls:List (List α)}{i:Nat}(h:i<aa ls):(ls.take (i+1)).flatten=(ls.take i).flatten++ls[i]:=by rw[zrg,List.flatten_append];simp[h]
theorem uD{α:Type}{ls:List (List α)}{i:Nat}(h:i<aa ls):(ls.take i).flatten.length+ls[i].length<=aa ls.flatten:=by have h1:=congrArg List.length (Na ls (i+1));rw[fD h]at h1;simp only[zqa]at h1;omega
def zaJ(n:Nat)(c:List S)(v:V)(h:H):Prop :=
 (c=[]/\v= .nils/\h=[]/\n=0)\/(aa c<=n/\v= .ls 0 1 0 (aa c) n/\h=[am (c.map V.str++ao (n-aa c) (.str []))])
theorem Um[MO](n:Nat)(hn:n<=1000000000)(R:AEnd->H->(Nat->Bool)->Prop)(hr:∀v h,zaJ n [] v h->R (.ret v) h (λ_=>ac)):ag TE 233 [.nils,vi n] [] R :=
 MZ n hn [] R (λhz=>hr _ _ (.inl ⟨rfl,rfl,rfl,hz⟩)) (λhz=>hr _ _ (.inr ⟨Nat.zero_le _,rfl,rfl⟩))
theorem oq:∀l:List S,dB (l.map V.str)=ab
 |[]=>rfl
 |a::l=>by simp only[zrd,dB,oq l,V.one,V.vc,zrk];rfl
theorem IP(c l:List S)(n:Nat)(h:aa c+aa l<=n):di (c.map V.str++ao (n-aa c) (.str [])) (aa c) (l.map V.str)=(c++l).map V.str++ao (n-aa (c++l)) (.str []):=by
 unfold di;have e1:(c.map V.str++ao (n-aa c) (V.str [])).take (aa c)=c.map V.str:=by
  simp
 have e2:(c.map V.str++ao (n-aa c) (V.str [])).drop (aa c+aa (l.map V.str))=ao (n-aa (c++l)) (V.str []):=by
  rw[List.drop_append];have:(c.map V.str).drop (aa c+aa (l.map V.str))=[]:=List.drop_of_length_le (by simp);rw[this,List.nil_append,List.drop_replicate]
  congr 1
  simp only[zra,zqa];omega
 rw[e1,e2,zql]
theorem IQ[MO](ls:List (List S))(hn:aa ls.flatten<=1000000000)(hls:aa ls<=1000000000):EvF TE 167 [.is ab 1 (ls.map aJ)] 1 (aa ls.flatten) (ls.flatten.map V.str):=by
 have hM:=mLx;have hget:∀ {i:Nat} (h:i<aa ls) (d:V),(ls.map aJ).getD i d=aJ ls[i]:=λh d=>fG h d;unfold EvF;refine aj Tryz.func167 rfl (by simp[nts]) (vm ?_);simp only[wq.1,seval,Tryz.results167];refine aF (λm f h=>∃i,m+i=aa ls/\f.t 0= .is ab 1 (ls.map aJ)/\f.t 3=vi (ls.take i).flatten.length/\f.t 9= .is ab 1 (ls.map aJ)/\f.t 10=vi (aa ls)/\f.t 11=vi i/\f.d=[]/\h=[]) (aa ls) ⟨0,by simp,rfl,rfl,rfl,by simp only[wq.1,seval],rfl,rfl,rfl⟩ ?_;rintro m f h ⟨i,hm,h0,h3,h9,h10,h11,hd,rfl⟩;refine vm ?_;simp only[wq.1,seval,h10,h11];refine vcB.mk (λhc=> ?_) (λhc=> ?_)
 ·simp only[zqb,zqi]at hc;have hfl:=uD hc;have hw:aD .i64 (((ls.take i).flatten.length:Int)+(ls[i].length:Int))=((ls.take (i+1)).flatten.length:Int):=by
   rw[fD hc,zqa,yQ (by omega) (by omega)];omega
  simp only[wq.1,seval,h3,h9,h11,hget hc,hw];refine⟨⟨by omega,by omega⟩,vcB.mk (λhc'=> ?_) (λhc'=> ?_)⟩
  ·simp only[zqb]at hc';omega
  ·simp only[wq.1,seval,h11,aA (show i<maxLen by omega)];exact .inl ⟨m-1,by omega,i+1,by omega,h0,rfl,h9,h10,rfl,hd,rfl⟩
 ·simp only[zqd,zqi]at hc;have hi:ls.take i=ls:=zqh (by omega);rw[hi]at h3;simp only[wq.1,seval,h3];refine Um (aa ls.flatten) hn _ (λv0 h0' hcat=> ?_);simp only[wq.1,seval,h0];refine aF (λm f h=>∃i v,m+i=aa ls/\f.t 25= .is ab 1 (ls.map aJ)/\f.t 26=vi (aa ls)/\f.t 27=vi i/\f.t 6=v/\f.d=[]/\zaJ (aa ls.flatten) (ls.take i).flatten v h) (aa ls) ⟨0,v0,by simp,by simp only[wq.1,seval],by simp only[wq.1,seval],rfl,rfl,by simp only[wq.1,hd],by simpa using hcat⟩ ?_;rintro m f h ⟨i,v,hm,h25,h26,h27,h6,hd,hcat⟩;refine vm ?_;simp only[wq.1,seval,h26,h27];refine vcB.mk (λhc=> ?_) (λhc=> ?_)
  ·simp only[zqb,zqi]at hc;have hfl:=uD hc;have hnext:f.t 27=vi i->aD .i64 ((i:Int)+1)=((i+1:Nat):Int):=λ_=>aA (by omega);rcases hcat with⟨hc0,rfl,rfl,hn0⟩|⟨hcl,rfl,rfl⟩
   ·have hl0:ls[i]=[]:=List.eq_nil_of_length_eq_zero (by omega);simp only[wq.1,seval,h25,h27,h6,hget hc,hl0,aA (show i<maxLen by omega)];refine⟨⟨by omega,by omega⟩,by omega,.inl ⟨m-1,by omega,i+1,_,by omega,h25,h26,rfl,rfl,hd,?_⟩⟩;right;rw[fD hc,hl0,hc0,hn0];exact⟨zrb _,rfl,rfl⟩
   ·by_cases hlt:(ls.take i).flatten.length<aa ls.flatten
    ·have hdt:ar ((ls.take i).flatten.length<aa ls.flatten)=ab:=by simpa using hlt
     simp only[wq.1,seval,h25,h27,h6,hget hc,aA (show i<maxLen by omega),oq,hdt];refine⟨⟨by omega,by omega⟩,⟨by omega,by omega,by rw[zsc];omega⟩,.inl ⟨m-1,by omega,i+1,_,by omega,h25,h26,rfl,rfl,hd,?_⟩⟩;right;rw[fD hc];refine⟨by rw[zqa];omega,by simp only[wq.1,seval],?_⟩;have hsp:=IP (ls.take i).flatten ls[i] (aa ls.flatten) hfl;unfold di at hsp;rw[zra]at hsp;rw[Nat.mul_one,hsp]
    ·have hdt:ar ((ls.take i).flatten.length<aa ls.flatten)=ac:=by simpa using hlt
     have hl0:ls[i]=[]:=List.eq_nil_of_length_eq_zero (by omega);have hne:(ls.take i).flatten.length=aa ls.flatten:=by omega
     simp only[wq.1,seval,h25,h27,h6,hd,hget hc,aA (show i<maxLen by omega),hdt,hl0];refine⟨⟨by omega,by omega⟩,⟨by rw[zsc];omega,by omega,by omega⟩,.inl ⟨m-1,by omega,i+1,_,by omega,by simp only[wq.1,seval,h25],by simp only[wq.1,seval,h26],rfl,rfl,hd,?_⟩⟩;right;rw[fD hc,hl0,zqp,hne,Nat.sub_self];refine⟨zrb _,by simp only[wq.1,seval],?_⟩;simp only[List.replicate_zero,ap]
  ·simp only[zqd,zqi]at hc;have hi:ls.take i=ls:=zqh (by omega);rw[hi]at hcat;simp only[wq.1,seval,h6,hd];rcases hcat with⟨hc0,rfl,rfl,hn0⟩|⟨hcl,rfl,rfl⟩
   ·exact .inl ⟨rfl,hn0,by rw[hc0];rfl⟩
   ·rw[Nat.sub_self,List.replicate_zero,zqp];exact .inr ⟨0,_,rfl,zrb _,rfl⟩
theorem IR[MO](n:Nat)(hn:n<=1000000000)(h:H)(R:AEnd->H->(Nat->Bool)->Prop)(hr0:n=0->R (.ret .nils) h (λ_=>ac))
 (hr:0<n->R (.ret (.ls (aa h) 1 0 0 n)) (h++[am (ao n (.bool ac))]) (λ_=>ac)):ag TE 176 [.nils,vi n] h R:=by
 refine aj Tryz.func176 rfl (by simp[nts]) ?_;refine vn ?_;simp only[wq.1,Nat.reduceLT,Tryz.results176];refine ak ?_;refine vm ?_;simp only[wq.1,seval];refine vcB.mk (λhc=> ?_) (λhc=> ?_)
 ·simp only[zqb]at hc;omega
 simp only[wq.1];refine ak (ak (iE ?_));refine az rfl rfl ?_;simp only[wq.1,seval];refine az rfl rfl ?_;simp only[wq.1,seval];refine dM rfl rfl ?_;have hq:ti TE.P 40=al ⟨.slice 4,1,24,.nils⟩:=by simp only[wq.1]
 have hqe:ti TE.P 4=al ⟨.bool,1,1,.bool ac⟩:=by simp only[wq.1]
 have hqi:ti TE.P 3=al ⟨.int .i64,1,8,.int .i64 0⟩:=by simp only[wq.1]
 refine jb (t:=40) rfl rfl hq rfl trivial rfl ?_;refine az rfl rfl ?_;simp only[wq.1,seval];refine az rfl rfl ?_;simp only[wq.1,↓reduceIte];refine az rfl rfl ?_;simp only[wq.1,seval];refine az rfl rfl ?_;simp only[wq.1,seval];refine az rfl rfl ?_;simp only[wq.1,↓reduceIte];have w0:aD .i64 0=0:=by decide
 have w1:aD .i64 ((n:Int)-0)=n:=by rw[Int.sub_zero];exact iW (by omega) (by omega)
 refine dL ?_;simp only[wq.1,w0,w1];refine ak ?_;refine vm ?_;simp only[wq.1,seval];refine bH (b:=ar ((0:Int)<n)) (by simp only[wq.1,↓reduceIte]) (by simp only[wq.1,↓reduceIte]) (λhb=> ?_) (λhb=> ?_)
 ·have hpos:0<n:=by simp only[zqb]at hb;omega
  refine iE ?_;refine az rfl rfl ?_;simp only[wq.1,seval];refine az rfl rfl ?_;simp only[wq.1,seval];refine dM rfl rfl ?_;refine jb (t:=40) rfl rfl hq rfl trivial rfl ?_;refine dM rfl rfl ?_;refine mO rfl hq rfl hqe (by simp only[wq.1,seval]) (by simp only[wq.1,seval]) (by simp only[wq.1,↓reduceIte]) (k:= .i64) (by simp only[wq.1,↓reduceIte]) ?_;refine az rfl rfl ?_;simp only[wq.1,seval];refine dM rfl rfl ?_;refine pO (x:= .tmp 20) (y:= .tmp 21) (t:=40) (xt:=3) (el:=4) ⟨⟨_,rfl,rfl,rfl⟩,hq,rfl,hqe,rfl,rfl,Nat.zero_lt_one⟩ (by simp only[wq.1,seval]) (by simp only[wq.1,↓reduceIte]) (by simp only[wq.1,seval]) (by simp only[wq.1,↓reduceIte]) hqi rfl hpos (by omega) ?_ rfl (zv:= .bool ac) rfl ?_
  ·show n*1<=_;omega
  refine az rfl rfl ?_;simp only[wq.1,seval];refine az rfl rfl ?_;simp only[wq.1,↓reduceIte];refine az rfl rfl ?_;simp only[wq.1,seval];refine⟨by omega,?_⟩;refine az rfl rfl ?_;simp only[wq.1,↓reduceIte];refine dL ?_;simp only[wq.1];refine vm ?_;simp only[wq.1,seval];exact hr hpos
 ·have:n=0:=by simp only[zqd]at hb;omega
  refine vm ?_;simp only[wq.1];refine vm ?_;simp only[wq.1,seval];exact hr0 this
def Ze(n:Nat)(c:List Bool)(v:V)(h:H):Prop :=
 (c=[]/\v= .nils/\h=[]/\n=0)\/(aa c<=n/\v= .ls 0 1 0 (aa c) n/\h=[am (c.map V.bool++ao (n-aa c) (.bool ac))])
theorem PH[MO](n:Nat)(hn:n<=1000000000)(R:AEnd->H->(Nat->Bool)->Prop)(hr:∀v h,Ze n [] v h->R (.ret v) h (λ_=>ac)):ag TE 176 [.nils,vi n] [] R :=
 IR n hn [] R (λhz=>hr _ _ (.inl ⟨rfl,rfl,rfl,hz⟩)) (λhz=>hr _ _ (.inr ⟨Nat.zero_le _,rfl,rfl⟩))
theorem cO{p:Nat->Bool}:∀l:List Bool,ap p (l.map V.bool)=l.map V.bool
 |[]=>rfl
 |a::l=>by simp only[zrd,ap,V.drop,cO l]
theorem FD:∀l:List Bool,dB (l.map V.bool)=ab
 |[]=>rfl
 |a::l=>by simp only[zrd,dB,FD l,V.one,V.vc,zrk];rfl
theorem FH(c l:List Bool)(n:Nat)(h:aa c+aa l<=n):di (c.map V.bool++ao (n-aa c) (.bool ac)) (aa c) (l.map V.bool)=(c++l).map V.bool++ao (n-aa (c++l)) (.bool ac):=by
 unfold di;have e1:(c.map V.bool++ao (n-aa c) (V.bool ac)).take (aa c)=c.map V.bool:=by
  simp
 have e2:(c.map V.bool++ao (n-aa c) (V.bool ac)).drop (aa c+aa (l.map V.bool))=ao (n-aa (c++l)) (V.bool ac):=by
  rw[List.drop_append];have:(c.map V.bool).drop (aa c+aa (l.map V.bool))=[]:=List.drop_of_length_le (by simp);rw[this,List.nil_append,List.drop_replicate]
  congr 1
  simp only[zra,zqa];omega
 rw[e1,e2,zql]
theorem FI[MO](ls:List (List Bool))(hn:aa ls.flatten<=1000000000)(hls:aa ls<=1000000000):EvF TE 113 [.is ab 1 (ls.map dw)] 1 (aa ls.flatten) (ls.flatten.map V.bool):=by
 have hM:=mLx;have hget:∀ {i:Nat} (h:i<aa ls) (d:V),(ls.map dw).getD i d=dw ls[i]:=λh d=>fG h d;unfold EvF;refine aj Tryz.func113 rfl (by simp[nts]) (vm ?_);simp only[wq.1,seval,Tryz.results113];refine aF (λm f h=>∃i,m+i=aa ls/\f.t 0= .is ab 1 (ls.map dw)/\f.t 3=vi (ls.take i).flatten.length/\f.t 9= .is ab 1 (ls.map dw)/\f.t 10=vi (aa ls)/\f.t 11=vi i/\f.d=[]/\h=[]) (aa ls) ⟨0,by simp,rfl,rfl,rfl,by simp only[wq.1,seval],rfl,rfl,rfl⟩ ?_;rintro m f h ⟨i,hm,h0,h3,h9,h10,h11,hd,rfl⟩;refine vm ?_;simp only[wq.1,seval,h10,h11];refine vcB.mk (λhc=> ?_) (λhc=> ?_)
 ·simp only[zqb,zqi]at hc;have hfl:=uD hc;have hw:aD .i64 (((ls.take i).flatten.length:Int)+(ls[i].length:Int))=((ls.take (i+1)).flatten.length:Int):=by
   rw[fD hc,zqa,yQ (by omega) (by omega)];omega
  simp only[wq.1,seval,h3,h9,h11,hget hc,hw];refine⟨⟨by omega,by omega⟩,vcB.mk (λhc'=> ?_) (λhc'=> ?_)⟩
  ·simp only[zqb]at hc';omega
  ·simp only[wq.1,seval,h11,aA (show i<maxLen by omega)];exact .inl ⟨m-1,by omega,i+1,by omega,h0,rfl,h9,h10,rfl,hd,rfl⟩
 ·simp only[zqd,zqi]at hc;have hi:ls.take i=ls:=zqh (by omega);rw[hi]at h3;simp only[wq.1,seval,h3];refine PH (aa ls.flatten) hn _ (λv0 h0' hcat=> ?_);simp only[wq.1,seval,h0];refine aF (λm f h=>∃i v,m+i=aa ls/\f.t 25= .is ab 1 (ls.map dw)/\f.t 26=vi (aa ls)/\f.t 27=vi i/\f.t 6=v/\f.d=[]/\Ze (aa ls.flatten) (ls.take i).flatten v h) (aa ls) ⟨0,v0,by simp,by simp only[wq.1,seval],by simp only[wq.1,seval],rfl,rfl,by simp only[wq.1,hd],by simpa using hcat⟩ ?_;rintro m f h ⟨i,v,hm,h25,h26,h27,h6,hd,hcat⟩;refine vm ?_;simp only[wq.1,seval,h26,h27];refine vcB.mk (λhc=> ?_) (λhc=> ?_)
  ·simp only[zqb,zqi]at hc;have hfl:=uD hc;have hnext:f.t 27=vi i->aD .i64 ((i:Int)+1)=((i+1:Nat):Int):=λ_=>aA (by omega);rcases hcat with⟨hc0,rfl,rfl,hn0⟩|⟨hcl,rfl,rfl⟩
   ·have hl0:ls[i]=[]:=List.eq_nil_of_length_eq_zero (by omega);simp only[wq.1,seval,h25,h27,h6,hget hc,hl0,aA (show i<maxLen by omega)];refine⟨⟨by omega,by omega⟩,by omega,.inl ⟨m-1,by omega,i+1,_,by omega,h25,h26,rfl,rfl,hd,?_⟩⟩;right;rw[fD hc,hl0,hc0,hn0];exact⟨zrb _,rfl,rfl⟩
   ·by_cases hlt:(ls.take i).flatten.length<aa ls.flatten
    ·have hdt:ar ((ls.take i).flatten.length<aa ls.flatten)=ab:=by simpa using hlt
     simp only[wq.1,seval,h25,h27,h6,hget hc,aA (show i<maxLen by omega),FD,hdt];refine⟨⟨by omega,by omega⟩,⟨by omega,by omega,by rw[zsc];omega⟩,.inl ⟨m-1,by omega,i+1,_,by omega,h25,h26,rfl,rfl,hd,?_⟩⟩;right;rw[fD hc];refine⟨by rw[zqa];omega,by simp only[wq.1,seval],?_⟩;have hsp:=FH (ls.take i).flatten ls[i] (aa ls.flatten) hfl;unfold di at hsp;rw[zra]at hsp;rw[Nat.mul_one,hsp]
    ·have hdt:ar ((ls.take i).flatten.length<aa ls.flatten)=ac:=by simpa using hlt
     have hl0:ls[i]=[]:=List.eq_nil_of_length_eq_zero (by omega);have hne:(ls.take i).flatten.length=aa ls.flatten:=by omega
     simp only[wq.1,seval,h25,h27,h6,hd,hget hc,aA (show i<maxLen by omega),hdt,hl0,cO];refine⟨⟨by omega,by omega⟩,⟨by rw[zsc];omega,by omega,by omega⟩,.inl ⟨m-1,by omega,i+1,_,by omega,by simp only[wq.1,seval,h25],by simp only[wq.1,seval,h26],rfl,rfl,hd,?_⟩⟩;right;rw[fD hc,hl0,zqp,hne,Nat.sub_self];refine⟨zrb _,by simp only[wq.1,seval],?_⟩;simp only[List.replicate_zero,ap]
  ·simp only[zqd,zqi]at hc;have hi:ls.take i=ls:=zqh (by omega);rw[hi]at hcat;simp only[wq.1,seval,h6,hd];rcases hcat with⟨hc0,rfl,rfl,hn0⟩|⟨hcl,rfl,rfl⟩
   ·exact .inl ⟨rfl,hn0,by rw[hc0];rfl⟩
   ·rw[Nat.sub_self,List.replicate_zero,zqp];exact .inr ⟨0,_,rfl,zrb _,rfl⟩
theorem IU[MO](ls:List (List Bool))(hn:aa ls.flatten<=1000000000)(hls:aa ls<=1000000000):Ev TE 113 [.is ab 1 (ls.map dw)] (dw ls.flatten):=by
 refine(FI ls hn hls).ev (λ_ hc=> ?_) (λh' id cap _ hid=>vY hid (by simp)) (λ_ hc h'=> ?_)
 ·rw[List.map_eq_nil_iff.1 hc];exact dG
 ·rw[List.map_eq_nil_iff.1 hc];exact aC.nils
open Go.RowKit
theorem AP(b:Nat)(w:World)(h0:w.cell? ⟨b,0,aq⟩=al (.pointer (al ⟨b,0,aq⟩))) :
 Calls Tryz.prog 83 #[.pointer (al ⟨b,0,aq⟩)] w λe w'=>e= .returned (.tuple #[])/\w'=w:=by
 obtain⟨j,hj,_⟩:∃j,Tryz.prog.info? 81=al j/\True:=⟨_,rfl,trivial⟩
 go_enter Tryz.func83,Tryz.ntmps83
 go_wp2
 rw[Lib.run_neq_ptr_same w _ Tryz.underlying78 hj]
 go_wp2
 go_end0
 exact⟨rfl,rfl⟩
theorem y9(b:Nat)(w:World)(T cells:Nat)(h0:w.cell? ⟨b,0,aq⟩=al (.pointer aq))(hsh:w.shape? b=al (T,cells))(hc:0<cells)(hl:liesAt Tryz.prog Tryz.prog.depth T (cells/Tryz.prog.cellsOf T) 0 81 1=ab)(hfz:w.frozen? ⟨b,0,aq⟩=ac) :
 Calls Tryz.prog 83 #[.pointer (al ⟨b,0,aq⟩)] w λe w'=>e= .returned (.tuple #[])/\w'=w.setCell ⟨b,0,aq⟩ (.pointer (al ⟨b,0,aq⟩)):=by
 obtain⟨j,hj,hjs⟩:∃j,Tryz.prog.info? 81=al j/\j.size≠0:=⟨_,rfl,by decide⟩
 go_enter Tryz.func83,Tryz.ntmps83
 go_wp2
 rw[Lib.run_to_unsafe w ⟨b,0,aq⟩ Tryz.underlying78 Tryz.underlying215 hj hjs hsh hc];simp only[aM];rw[Oper.upon_value]
 go_wp2
 rw[run_callFunc_extern Tryz.func144 (by kernel_rfl) (by kernel_rfl) (by kernel_rfl) (e:=Extern.AbiNoEscape.same) (by kernel_rfl)];rw[Lib.run_noEscape];simp only[aM];rw[Oper.upon_value]
 go_wp2
 rw[Lib.run_from_unsafe w ⟨b,0,aq⟩ Tryz.underlying215 Tryz.underlying78 hj hsh hl];simp only[aM];rw[Oper.upon_value]
 go_wp2
 go_end0
 exact⟨rfl,rfl⟩
def BT(T:Nat):Prop:=Tryz.prog.cellsOf T=2/\∀k,liesAt Tryz.prog Tryz.prog.depth T (k+1) 0 81 1=ab
theorem BA:BT 81:=⟨by kernel_rfl,λk=>by kernel_rfl⟩
theorem Un{h:H}{i:Nat}{o:O}(hi:h[i]? =al o):h.set i o=h:=by obtain⟨h1,h2⟩:=zqe hi;rw[<-h2,List.set_getElem_self]
theorem pY[MO]{T:Nat}(hT:BT T){id:Nat}{a buf:V}{h:H}{R:AEnd->H->(Nat->Bool)->Prop}(ha:a= .nilp\/a= .lp id 0)(hh:h[id]? =al (.typed T [a,buf]))
 (hr:R (.ret (.tup [])) (h.set id (.typed T [.lp id 0,buf])) (λ_=>ac)):ag TE 83 [.lp id 0] h R:=by
 intro ok pl w vs hs hl;simp only[VList,VRel]at hl;obtain⟨y,ys,rfl,⟨b,hb,rfl⟩,rfl⟩:=hl;have hb:pl id=al b:=hb;obtain⟨o,ho,hat⟩:=hs.obj id b hb;rw[hh]at ho;cases ho;obtain⟨arr,fz,g1,g2,g3,g4⟩:=hat;have g1:w.heap[b]? =al (Obj.cells arr T fz):=g1;have hsz:2<=arr.size:=g3;have hx0:∃x0,arr[0]? =al x0/\VRel (cx ok pl w) a x0:=by
  obtain⟨x,h1,h2⟩:=VList.get 0 a g4 rfl;refine⟨x,?_,h2⟩;rw[List.getElem?_take_of_lt (by simp)]at h1;simpa using h1
 obtain⟨x0,h0,hr0⟩:=hx0;have hcell:w.cell? ⟨b,0,aq⟩=al x0:=by rw[Lib.cell_of_heap g1];exact h0
 rcases ha with rfl|rfl
 ·simp only[VRel]at hr0;subst hr0;have hsh:w.shape? b=al (T,arr.size):=by unfold World.shape?;rw[g1]
  obtain⟨k,hk⟩:∃k,arr.size/2=k+1:=⟨arr.size/2-1,by omega⟩;have hfz:w.frozen? ⟨b,0,aq⟩=ac:=by have:=g2 0 (by omega);unfold World.frozen?;rw[g1];simp;omega
  refine(y9 b w T arr.size hcell hsh (by omega) (by rw[hT.1,hk];exact hT.2 k) hfz).mono ?_;rintro e w' ⟨rfl,rfl⟩;obtain⟨w'',h1,h2,h3⟩:=wY hs hb (off:=0) (vs:=[.lp id 0]) (xs:=[.pointer (al ⟨b,0,aq⟩)]) (by simp only[VList,VRel];exact⟨_,_,rfl,⟨b,hb,rfl⟩,rfl⟩) rfl hh (by simp);have h4:=gW (P:=TE.P) (vs:=[.pointer (al ⟨b,0,aq⟩)]) (o:=0) g1 g2 (by simp;omega) (λv hv=>by simp at hv;subst hv;rfl);rw[h4]at h1;cases h1;exact⟨λ_=>ac,pl,_,.ret (.tup []),h2,h3,by show VRel _ _ _;simp only[VRel,VList];exact⟨#[],rfl,rfl⟩,hr⟩
 ·simp only[VRel]at hr0;obtain⟨b',hb',rfl⟩:=hr0;have hb':pl id=al b':=hb';rw[hb]at hb';cases hb';refine(AP b w hcell).mono ?_;rintro e w' ⟨rfl,rfl⟩;rw[Un hh]at hr;exact⟨λ_=>ac,pl,h,.ret (.tup []),hs,Keeps.refl pl _,by show VRel _ _ _;simp only[VRel,VList];exact⟨#[],rfl,rfl⟩,hr⟩
abbrev vb(c:UInt8):V:= .int .u8 c.toNat
theorem FK:∀l:S,dB (l.map vb)=ab
 |[]=>rfl
 |a::l=>by simp only[zrd,dB,FK l,V.one,V.vc,zrk];rfl
theorem uF{p:Nat->Bool}:∀c:S,ap p (c.map vb)=c.map vb
 |[]=>rfl
 |a::l=>by simp only[zrd,ap,V.drop,uF l]
theorem PI[MO]{T:Nat}(hT:BT T){id:Nat}{a:V}{h:H}{R:AEnd->H->(Nat->Bool)->Prop}(s:S)(ha:a= .nilp\/a= .lp id 0)(hh:h[id]? =al (.typed T [a,.nils]))(hs:s≠[])(hl:aa s<=20000000000000)
 (hr:R (.ret (.tup [vi (aa s),.nili])) ((h++[O.typed 5 (s.map vb)]).set id (.typed T [.lp id 0,.ls (aa h) 1 0 (aa s) (aa s)])) (λ_=>ac)):ag TE 39 [.lp id 0,.str s] h R:=by
 have hM:=mLx;have hlt:id<aa h:=(zqe hh).1;have hpos:0<aa s:=List.length_pos_iff.2 hs;refine aj Tryz.func39 rfl (by simp[nts]) ?_;refine vn ?_;simp only[wq.1,Nat.reduceLT,Tryz.results39];refine vn ?_;simp only[wq.1,seval];refine pY hT ha hh ?_;simp only[wq.1];have h1:(h.set id (.typed T [.lp id 0,.nils]))[id]? =al (.typed T [.lp id 0,.nils]):=by simp[hlt]
 refine ak (iE ?_);refine az rfl rfl ?_;simp only[wq.1,seval];refine az rfl rfl ?_;simp only[wq.1,seval];refine az rfl rfl ?_;simp only[wq.1,↓reduceIte];refine az rfl rfl ?_;simp only[wq.1,seval];refine az rfl rfl ?_;simp only[wq.1,seval,h1];refine az rfl rfl ?_;simp only[wq.1,seval];have hq:ti TE.P 79=al ⟨.slice 5,1,24,.nils⟩:=by simp only[wq.1]
 have hqe:ti TE.P 5=al ⟨.int .u8,1,1,.int .u8 0⟩:=by simp only[wq.1]
 refine dM rfl rfl ?_;refine vU (x:= .tmp 12) (y:= .tmp 13) (t:=79) (xt:=9) (el:=5) (m:=aa s) (cs:=s.map vb) ⟨⟨_,rfl,rfl,rfl⟩,hq,rfl,hqe,rfl,rfl,Nat.zero_lt_one⟩ (by simp only[wq.1,seval]) (by simp only[wq.1,↓reduceIte]) (by simp only[wq.1,seval]) (by simp only[wq.1,↓reduceIte]) (by simp only[wq.1,↓reduceIte]) (by simp only[wq.1,↓reduceIte]) hpos (by omega) (by show(0+aa s)*1<=_;omega) ?_;have h2:(h.set id (O.typed T [.lp id 0,.nils])++[O.typed 5 (s.map vb)])[id]? =al (.typed T [.lp id 0,.nils]):=by rw[zqj (by simpa using hlt)];exact h1
 simp only[wq.1,zrn];refine az rfl rfl ?_;simp only[wq.1,seval];refine az rfl rfl ?_;simp only[wq.1,seval];refine dM rfl rfl ?_;refine Bo (t:=79) (x:= .tmp 16) (y:= .tmp 14) rfl (id:=id) (off:=1) (by simp only[wq.1,↓reduceIte]) (by simp only[wq.1,↓reduceIte]) (by simp only[wq.1,seval]) hq (by simp only[wq.1,seval]) (by simp only[wq.1,seval]) (by simp only[wq.1,seval]) h2 (by simp only[wq.1,seval]) ?_;refine dL ?_;simp only[wq.1,seval];refine vm ?_;simp only[wq.1,seval];rw[List.set_append_left _ _ (by simpa using hlt),List.set_set,<-List.set_append_left _ _ hlt];exact hr
theorem FM(p:Nat->Bool)(h:H)(i:Nat)(o:O):(h.set i o).map (O.drop p)=(h.map (O.drop p)).set i (o.drop p):=by rw[List.map_set]
theorem Uo[MO]{T:Nat}(hT:BT T){id bid:Nat}{a:V}{h:H}{R:AEnd->H->(Nat->Bool)->Prop}(out s:S)(ha:a= .nilp\/a= .lp id 0)(hne:id≠bid)(hh:h[id]? =al (.typed T [a,.ls bid 1 0 (aa out) (aa out)]))(hb:h[bid]? =al (.typed 5 (out.map vb)))(hl:aa out+aa s<=20000000000000)
 (hr:R (.ret (.tup [vi (aa s),.nili])) (((h.map (O.drop (·==bid))).set bid (O.typed 5 ((out++s).map vb))).set id (.typed T [.lp id 0,.ls bid 1 0 (aa (out++s)) (aa (out++s))])) (·==bid)):ag TE 39 [.lp id 0,.str s] h R:=by
 have hM:=mLx;have hlt:id<aa h:=(zqe hh).1;have hltb:bid<aa h:=(zqe hb).1;have hidb:(id==bid)=ac:=by simpa using hne
 refine aj Tryz.func39 rfl (by simp[nts]) ?_;refine vn ?_;simp only[wq.1,Nat.reduceLT,Tryz.results39];refine vn ?_;simp only[wq.1,seval];refine pY hT ha hh ?_;simp only[wq.1];have h1:(h.set id (.typed T [.lp id 0,.ls bid 1 0 (aa out) (aa out)]))[id]? =al (.typed T [.lp id 0,.ls bid 1 0 (aa out) (aa out)]):=by simp[hlt]
 have h1b:(h.set id (.typed T [.lp id 0,.ls bid 1 0 (aa out) (aa out)]))[bid]? =al (.typed 5 (out.map vb)):=by rw[zqn hne];exact hb
 refine ak (iE ?_);refine az rfl rfl ?_;simp only[wq.1,seval];refine az rfl rfl ?_;simp only[wq.1,seval];refine az rfl rfl ?_;simp only[wq.1,↓reduceIte];refine az rfl rfl ?_;simp only[wq.1,seval];refine az rfl rfl ?_;simp only[wq.1,seval,h1];refine az rfl rfl ?_;simp only[wq.1,seval];have hq:ti TE.P 79=al ⟨.slice 5,1,24,.nils⟩:=by simp only[wq.1]
 have hqe:ti TE.P 5=al ⟨.int .u8,1,1,.int .u8 0⟩:=by simp only[wq.1]
 refine dM rfl rfl ?_;refine xH (x:= .tmp 12) (y:= .tmp 13) (t:=79) (xt:=9) (el:=5) (m:=aa s) (cs:=s.map vb) (len:=aa out) (cap:=aa out) ⟨⟨_,rfl,rfl,rfl⟩,hq,rfl,hqe,rfl,rfl,Nat.zero_lt_one⟩ (by simp only[wq.1,seval]) (by simp only[wq.1,↓reduceIte]) (id:=bid) (by simp only[wq.1,seval]) h1b (by rw[zra];show _=aa out*1;omega) (by simp only[wq.1,↓reduceIte]) (by simp only[wq.1,↓reduceIte]) (by simp only[wq.1,↓reduceIte]) (FK s) (by omega) (by show(aa out+aa s)*1<=_;omega) (by simp only[wq.1]) ?_;rw[gp,uF,uF,FM];have e1:(O.typed T [.lp id 0,.ls bid 1 0 (aa out) (aa out)]).drop (·==bid)= .typed T [.lp id 0,.any]:=by
  simp only[O.drop,ap,V.drop,hidb,beq_self_eq_true,zrm,if_false,if_true]
 rw[e1];generalize hG:h.map (O.drop (·==bid))=G at hr ⊢;have hGl:id<aa G:=by rw[<-hG,zra];exact hlt
 have h2:((G.set id (O.typed T [.lp id 0,.any])).set bid (O.typed 5 (out.map vb++s.map vb)))[id]? =al (.typed T [.lp id 0,.any]):=by rw[zqn (Ne.symm hne)];simp[hGl]
 simp only[wq.1];refine az rfl rfl ?_;simp only[wq.1,seval,hidb];refine az rfl rfl ?_;simp only[wq.1,seval];refine dM rfl rfl ?_;refine Bo (t:=79) (x:= .tmp 16) (y:= .tmp 14) rfl (id:=id) (off:=1) (by simp only[wq.1,↓reduceIte]) (by simp only[wq.1,↓reduceIte]) (by simp only[wq.1,seval]) hq (by simp only[wq.1,seval]) (by simp only[wq.1,seval]) (by simp only[wq.1,seval]) h2 (by simp only[wq.1,seval]) ?_;refine dL ?_;simp only[wq.1,seval];refine vm ?_;simp only[wq.1,seval];rw[zql,zqa]at hr;rw[List.set_comm _ _ hne,List.set_set];exact hr
theorem Nb(b g len cap cells:Nat)(l:List UInt8)(w:World)(c1:w.drew.cell? ⟨b,1,aq⟩=al (.slice (al ⟨g,0,aq⟩) (aa l) cap))(hcap:cap≠0)(hsh:w.drew.shape? g=al (5,cells))(hn:aa l<=cells)(h63:aa l<=9223372036854775807)(h0:l≠[])(hcell:∀j x,l[j]? =al x->w.drew.cell? ((⟨g,0,aq⟩:Addr).add j)=al (.int .u8 x.toNat)) :
 Calls Tryz.prog 42 #[.pointer (al ⟨b,0,aq⟩)] w λe w'=>e= .returned (.string ⟨l.toArray⟩)/\w'=w.drew.freeze ⟨g,0,aq⟩ (aa l):=by
 have hSD:(Builtin.unsafeSliceData_ #[79] 145 #[.slice (al ⟨g,0,aq⟩) (aa l) cap]).run Tryz.prog w.drew= .ok (.pointer (al ⟨g,0,aq⟩)) w.drew :=
  Lib.run_unsafeSliceData_row w.drew _ _ _ _ _ hcap
 have hUS:(Builtin.unsafeString_ #[145,3] 9 #[.pointer (al ⟨g,0,aq⟩),.int .i64 (aa l)]).run Tryz.prog w.drew= .ok (.string ⟨l.toArray⟩) (w.drew.freeze ⟨g,0,aq⟩ (aa l)) :=
  Lib.run_unsafeString_row w.drew 145 3 9 5 Tryz.underlying145 (by kernel_rfl) g cells hsh l h0 hn h63 hcell
 go_enter Tryz.func42,Tryz.ntmps42
 go_wp2
 go_region
 all_goals (go_wp2;go_ret;exact⟨rfl,rfl⟩)
theorem Xc[MO]{T id bid:Nat}{a:V}{h:H}{R:AEnd->H->(Nat->Bool)->Prop}(out:S)(hh:h[id]? =al (.typed T [a,.ls bid 1 0 (aa out) (aa out)]))(hb:h[bid]? =al (.typed 5 (out.map vb)))(h0:out≠[])(hl:aa out<=20000000000000)
 (hr:R (.ret (.str out)) ((h.map (O.drop (·==bid))).set bid .dead) (·==bid)):ag TE 42 [.lp id 0] h R:=by
 intro ok pl w vs hs hv;simp only[VList,VRel]at hv;obtain⟨y,ys,rfl,⟨b,hpb,rfl⟩,rfl⟩:=hv;have hpb:pl id=al b:=hpb;have hpos:0<aa out:=List.length_pos_iff.2 h0;obtain⟨o,ho,hat⟩:=hs.obj id b hpb;rw[hh]at ho;cases ho;obtain⟨arr,fz,g1,g2,g3,g4⟩:=hat;have g1:w.heap[b]? =al (Obj.cells arr T fz):=g1;obtain⟨x1,e1,r1⟩:=VList.get 1 (.ls bid 1 0 (aa out) (aa out)) g4 rfl;have e1:arr[1]? =al x1:=by
  rw[List.getElem?_take_of_lt (by simp)]at e1;simpa using e1
 simp only[VRel]at r1;obtain⟨ad,cp,rfl,q2,q3,q4,q5⟩:=r1;rcases q5 with q5|⟨g,arr2,el2,fz2,q6,rfl,q8,q9⟩
 ·omega
 have q6:pl bid=al g:=q6;obtain⟨o,ho,hat⟩:=hs.obj bid g q6;rw[hb]at ho;cases ho;obtain⟨arr3,fz3,k1,k2,k3,k4⟩:=hat;have k1:w.heap[g]? =al (Obj.cells arr3 5 fz3):=k1;have k3:aa out<=arr3.size:=by simpa using k3
 have hcell:w.drew.cell? ⟨b,1,aq⟩=al (.slice (al ⟨g,0,aq⟩) (aa out) cp):=by rw[Lib.cell_of_heap (w:=w.drew) g1];exact e1
 have hsh:w.drew.shape? g=al (5,arr3.size):=by unfold World.shape?;show(match w.heap[g]? with|some (Obj.cells c e _)=>al (e,c.size)|_=>aq)=_;rw[k1]
 refine(Nb b g (aa out) cp arr3.size out w hcell (by omega) hsh k3 (by omega) h0 λj x hx=> ?_).mono ?_
 ·have hj:j<aa out:=(zqe hx).1;obtain⟨x2,hx2,r2⟩:=VList.get j (vb x) k4 (by rw[zqo,hx];rfl);simp only[VRel]at r2;subst r2;rw[zra,List.getElem?_take_of_lt hj]at hx2;rw[dI,Lib.cell_of_heap (w:=w.drew) k1,Nat.zero_add];simpa using hx2
 ·rintro en w' ⟨rfl,rfl⟩;have hsz:(w.drew.freeze ⟨g,0,aq⟩ (aa out)).heap.size=w.heap.size:=by
   unfold World.freeze;rw[if_neg (by omega)];exact Array.size_modify
  have hsame:∀i,i≠g->(w.drew.freeze ⟨g,0,aq⟩ (aa out)).heap[i]? =w.heap[i]? :=λi hi=>by unfold World.freeze;rw[if_neg (by omega)];show(w.heap.modify g _)[i]? =_;rw[Array.getElem?_modify,if_neg (Ne.symm hi)]
  have hrow:∀arr el fz,w.heap[g]? =al (Obj.cells arr el fz)->∃arr' fz',(w.drew.freeze ⟨g,0,aq⟩ (aa out)).heap[g]? =al (Obj.cells arr' el fz')/\arr'.size=arr.size:=λa3 el fz4 ha=>by unfold World.freeze;rw[if_neg (by omega)];refine⟨a3,(if fz4.1==fz4.2 then(0,0+aa out)else(min fz4.1 0,max fz4.2 (0+aa out))),?_,rfl⟩;show(w.heap.modify g _)[g]? =_;rw[Array.getElem?_modify,if_pos rfl,ha];rfl
  have hos:(w.drew.freeze ⟨g,0,aq⟩ (aa out)).os=w.os/\(w.drew.freeze ⟨g,0,aq⟩ (aa out)).tape=w.tape/\(w.drew.freeze ⟨g,0,aq⟩ (aa out)).output=w.output:=by unfold World.freeze;rw[if_neg (by omega)];exact⟨rfl,rfl,rfl⟩
  obtain⟨s1,s2⟩:=hs.burn q6 hos.1 hos.2.1 hos.2.2 hsz hsame hrow;exact⟨_,_,_,.ret (.str out),s1,s2,by show VRel _ _ _;simp only[VRel];exact⟨_,rfl,by simp,by have:maxLen=9223372036854775807:=rfl;omega⟩,hr⟩
def Zf:S:=[48,49,50,51,52,53,54,55,56,57,97,98,99,100,101,102]
def Ur(n:Nat):UInt8:=Zf.getD n 0
def Au(c:UInt8):Int:=match Zf.findIdx? (·==c)with|some i=>i|none=>-1
def rC:S:=[120,95,95]
def Us(c:UInt8):S:=[Ur (c.toNat/16),Ur (c.toNat%16)]
def bu(s:S):S:=rC++s.flatMap Us
def kU:S->S
 |a::b::r=>UInt8.ofNat ((Au a*16+Au b)%256).toNat::kU r
 |_=>[]
def bQ(s:S):S:=kU (if rC.isPrefixOf s=ab then s.drop 3 else s)
theorem FN:∀n:Nat,n<16->Au (Ur n)=n:=by decide
theorem IV(s:S):kU (s.flatMap Us)=s:=by
 induction s with
 |nil=>rfl
 |cons c s ih =>
  show UInt8.ofNat ((Au (Ur (c.toNat/16))*16+Au (Ur (c.toNat%16)))%256).toNat::kU (s.flatMap Us)=c::s;have h1:=UInt8.toNat_lt c;rw[ih,FN _ (by omega),FN _ (by omega)]
  congr 1
  have:((((c.toNat/16:Nat):Int)*16+((c.toNat%16:Nat):Int))%256).toNat=c.toNat:=by omega
  rw[this];exact UInt8.ofNat_toNat
theorem xh(s:S):rC.isPrefixOf (bu s)=ab:=by simp[bu,rC,List.isPrefixOf]
theorem vZ(s:S):bQ (bu s)=s:=by unfold bQ;rw[if_pos (xh s)];exact IV s
structure Tk where
 k:Nat
 t:S
 at':Nat
def Tk.s(x:Tk):Nat×S:=(x.k,x.t)
theorem zag{p:UInt8->Bool}{w r:S}(hw:∀c∈w,p c=ab)(hr:∀c,r.head? =al c->p c=ac):(w++r).takeWhile p=w/\(w++r).dropWhile p=r:=by
 induction w with
 |nil =>
  cases r with
  |nil=>exact⟨rfl,rfl⟩
  |cons c r=>have:=hr c rfl;simp[List.takeWhile,List.dropWhile,this]
 |cons a w ih=>have ha:=hw a (by simp);obtain⟨h1,h2⟩:=ih λc hc=>hw c (by simp[hc]);simp[List.takeWhile,List.dropWhile,ha,h1,h2]
structure Ga where
 name:S
 op:Int
 ins:List S
 rows:List S
 off:Bool
structure La where
 name:S
 next:S
 init:Int
structure Ci where
 ins:List S
 outs:List S
 lat:List La
 gates:List Ga
def JV(op n:Nat):Bool:=match op with
 |0=>n==0
 |1=>n==0
 |2=>n==1
 |3=>n==1
 |10=>ar (n<=8)
 |k=>ar (k<10)&&(ar (2<=n)&&ar (n<=8))
def vJ(op:Int)(n:Nat):Bool:=ar (0<=op)&&(ar (op<=10)&&JV op.toNat n)
def AU:Nat->Nat
 |0=>0
 |k+1=>(k+1)%2+AU ((k+1)/2)
def Nc(n k:Nat):S:=(List.range n).map λi=>UInt8.ofNat (48+k/2^(n-1-i)%2)
def Z8(n:Nat)(odd:Bool):List S:=((List.range (2^n)).filter λk=>(AU k%2==1)==odd).map (Nc n)
def sS(op n:Nat):List S×Bool:=match op with
 |0=>([],ac)
 |1=>([ao n 49],ac)
 |2=>([ao n 49],ac)
 |3=>([ao n 48],ac)
 |4=>([ao n 49],ac)
 |5=>([ao n 49],ab)
 |6=>([ao n 48],ab)
 |7=>([ao n 48],ac)
 |8=>(Z8 n ab,ac)
 |_=>(Z8 n ac,ac)
def jI(n:Nat)(rows:List S)(off:Bool):Option Nat:=(List.range 10).find? λop=>JV op n&&(off==(sS op n).2&&(sS op n).1==rows)
def jJ(g:Ga):Ga :=
 if aa g.ins = 1 /\ g.rows = [] /\ g.off = ac then
  if g.op=4\/g.op=6\/g.op=8 then {g with op:=2} else if g.op=5\/g.op=7\/g.op=9 then {g with op:=3} else g
 else g
def aZ(g:Ga):Ga :=
 if(jJ g).op≠10 then jJ g else match jI (aa g.ins) g.rows g.off with
  |some op=>⟨g.name,op,g.ins,[],ac⟩
  |none=>jJ g
structure GOk(g:Ga):Prop where
 h:vJ g.op (aa g.ins)=ab
 r:g.op≠10->g.rows=[]/\g.off=ac
structure GCan(g:Ga):Prop where
 h:vJ g.op (aa g.ins)=ab
 r:g.op≠10->g.rows=[]/\g.off=ac
 c:g.op=10->jI (aa g.ins) g.rows g.off=aq
theorem Xd{op n:Nat}(h1:op<=10)(h:JV op n=ab):vJ (op:Int) n=ab:=by unfold vJ;rw[decide_eq_true (by omega),decide_eq_true (by omega),zsg,h];rfl
theorem PK{op n:Nat}(h:JV op n=ab):n<9:=by
 unfold JV at h;split at h
 ·have:n=0:=by simpa using h
  omega
 ·have:n=0:=by simpa using h
  omega
 ·have:n=1:=by simpa using h
  omega
 ·have:n=1:=by simpa using h
  omega
 ·have:n<=8:=by simpa using h
  omega
 ·simp only[zqf,zqb]at h;omega
theorem Nh{g:Ga}(h:g.op=10):jJ g=g:=by
 unfold jJ;split
 ·rw[if_neg (by omega),if_neg (by omega)]
 ·rfl
theorem Zg{g:Ga}(h:GOk g):GOk (jJ g)/\(jJ g).ins=g.ins/\(jJ g).name=g.name:=by
 unfold jJ;split
 ·rename_i h1;split
  ·exact⟨⟨by show vJ 2 (aa g.ins)=ab;rw[h1.1];rfl,λ_=>⟨h1.2.1,h1.2.2⟩⟩,rfl,rfl⟩
  ·split
   ·exact⟨⟨by show vJ 3 (aa g.ins)=ab;rw[h1.1];rfl,λ_=>⟨h1.2.1,h1.2.2⟩⟩,rfl,rfl⟩
   ·exact⟨h,rfl,rfl⟩
 ·exact⟨h,rfl,rfl⟩
theorem qc{n op:Nat}{rows:List S}{off:Bool}(h:jI n rows off=al op):op<10/\JV op n=ab/\sS op n=(rows,off):=by unfold jI at h;have h1:=List.mem_of_find?_eq_some h;have h2:=List.find?_some h;simp only[zqf,beq_iff_eq]at h2;exact⟨List.mem_range.1 h1,h2.1,by rw[h2.2.1,<-h2.2.2]⟩
theorem zf{g:Ga}(h:GOk g):GCan (aZ g)/\(aZ g).ins=g.ins/\(aZ g).name=g.name:=by
 obtain⟨o1,o2,o3⟩:=Zg h;unfold aZ;split
 ·rename_i h1;exact⟨⟨o1.h,o1.r,λe=>absurd e h1⟩,o2,o3⟩
 ·rename_i h1;have h1:(jJ g).op=10:=Decidable.not_not.1 h1;have hg:g.op=10:=by
   unfold jJ at h1;split at h1
   ·split at h1
    ·cases h1
    ·split at h1
     ·cases h1
     ·exact h1
   ·exact h1
  rw[Nh hg];cases hf:jI (aa g.ins) g.rows g.off with
  |none=>exact⟨⟨h.h,h.r,λ_=>hf⟩,rfl,rfl⟩
  |some op=>obtain⟨f1,f2,_⟩:=qc hf;refine⟨⟨Xd (by omega) f2,λ_=>⟨rfl,rfl⟩,λe=> ?_⟩,rfl,rfl⟩;have e:((op:Nat):Int)=10:=e;omega
def aT(c:Ci):List S:=c.ins++c.lat.map (·.name)++c.gates.map (·.name)
def fP(c:Ci):List S:=c.outs++c.lat.map (·.next)++c.gates.flatMap (·.ins)
def dW(c:Ci):List S:=c.ins++c.outs++c.lat.flatMap (λq=>[q.name,q.next])++c.gates.flatMap (λg=>g.name::g.ins)
def zah(c:UInt8):Bool:=c==48||c==49||c==45
def mQ(n:Nat)(s:S):Bool:=aa s==n&&s.all zah
def gQ(g:Ga):Bool:=(g.op==10||(g.rows.isEmpty&& !g.off))&&(vJ g.op (aa g.ins)&&(ar (aa g.rows<=128)&&g.rows.all (mQ (aa g.ins))))
def BB(g:Ga):Bool:=ar (8<aa g.ins)||ar (128<aa g.rows)
def PL(c:Ci):Bool:=ar (aa c.ins+aa c.lat+aa c.gates<=200)&&(ar (aa c.outs<=200)&& !c.gates.any BB)
def Aw:List S->List S->Option S
 |_,[]=>aq
 |seen,s::l=>if seen.contains s=ab then al s else Aw (seen++[s]) l
def qf(q:La):Bool:=ar (0<=q.init)&&ar (q.init<=2)
def ou(c:Ci):Int×S :=
 if PL c=ac then(8,[])else
 match (dW c).find? (λs=> !aU s)with
 |some s=>(4,s)
 |none=>match Aw [] (aT c)with
  |some s=>(5,s)
  |none=>match Aw [] c.outs with
   |some s=>(5,s)
   |none=>match c.lat.find? (λq=> !qf q)with
    |some q=>(1,q.name)
    |none=>match c.gates.find? (λg=> !gQ g)with
     |some g=>(1,g.name)
     |none=>match (fP c).find? (λs=> !(aT c).contains s)with
      |some s=>(6,s)
      |none=>(0,[])
structure NetOk(c:Ci):Prop where
 lim:PL c=ab
 told:∀s∈dW c,aU s=ab
 nets:Aw [] (aT c)=aq
 outs:Aw [] c.outs=aq
 lat:∀q∈c.lat,qf q=ab
 gates:∀g∈c.gates,gQ g=ab
 used:∀s∈fP c,(aT c).contains s=ab
theorem zg(c:Ci):(ou c).1=0↔NetOk c:=by
 unfold ou;constructor
 ·intro h;split at h
  ·cases h
  ·rename_i h1;split at h
   ·cases h
   ·rename_i h2;split at h
    ·cases h
    ·rename_i h3;split at h
     ·cases h
     ·rename_i h4;split at h
      ·cases h
      ·rename_i h5;split at h
       ·cases h
       ·rename_i h6;split at h
        ·cases h
        ·rename_i h7;rw[List.find?_eq_none]at h2 h5 h6 h7;exact⟨by simpa using h1,λs hs=>by simpa using h2 s hs,h3,h4,λq hq=>by simpa using h5 q hq,λg hg=>by simpa using h6 g hg,λs hs=>by simpa using h7 s hs⟩
 ·intro h;have e2:(dW c).find? (λs=> !aU s)=aq:=by rw[List.find?_eq_none];intro s hs;simp[h.told s hs]
  have e5:c.lat.find? (λq=> !qf q)=aq:=by rw[List.find?_eq_none];intro q hq;simp[h.lat q hq]
  have e6:c.gates.find? (λg=> !gQ g)=aq:=by rw[List.find?_eq_none];intro g hg;simp[h.gates g hg]
  have e7:(fP c).find? (λs=> !(aT c).contains s)=aq:=by rw[List.find?_eq_none];intro s hs;have h7:=h.used s hs;simp at h7;simp[h7]
  rw[if_neg (by rw[h.lim];decide),e2,h.nets,h.outs,e5,e6,e7]
theorem jC{g:Ga}(h:gQ g=ab):GOk g/\aa g.rows<=128/\∀r∈g.rows,mQ (aa g.ins) r=ab:=by unfold gQ at h;simp only[zqf,Bool.or_eq_true,beq_iff_eq,List.isEmpty_iff,Bool.not_eq_true',zqb,zrs]at h;obtain⟨h1,h2,h3,h4⟩:=h;exact⟨⟨h2,λhn=>h1.resolve_left hn⟩,h3,h4⟩
def rD(l:List Nat)(i j:Nat):List Nat:=(l.set i (l.getD j 0)).set j (l.getD i 0)
def upP:Nat->List Nat->Nat->List Nat
 |0,l,_=>l
 |f+1,l,j=>if j=0\/¬(l.getD j 0<l.getD ((j-1)/2) 0)then l else upP f (rD l ((j-1)/2) j) ((j-1)/2)
def JW(l:List Nat)(i n:Nat):Nat:=if 2*i+2<n/\l.getD (2*i+2) 0<l.getD (2*i+1) 0 then 2*i+2 else 2*i+1
def DC:Nat->List Nat->Nat->Nat->List Nat
 |0,l,_,_=>l
 |f+1,l,i,n=>if n<=2*i+1\/¬(l.getD (JW l i n) 0<l.getD i 0)then l else DC f (rD l i (JW l i n)) (JW l i n) n
def FO(l:List Nat)(x:Nat):List Nat:=upP (aa l+1) (l++[x]) (aa l)
def oz(l:List Nat):List Nat:=DC (aa l) (rD l 0 (aa l-1)) 0 (aa l-1)
theorem iG(l:List Nat)(i j:Nat):aa (rD l i j)=aa l:=by simp[rD]
theorem zh{l:List Nat}{i j:Nat}(hi:i<aa l)(hj:j<aa l):(rD l i j).Perm l:=by unfold rD;rw[zqg,zqg,zqk hi,zqk hj];exact List.set_set_perm hi hj
theorem PM:∀(f:Nat) {l:List Nat} {j:Nat},j<aa l->(upP f l j).Perm l
 |0,_,_,_=>List.Perm.refl _
 |f+1,l,j,h=>by
  unfold upP;split
  ·exact List.Perm.refl _
  ·exact(PM f (by rw[iG];omega)).trans (zh (by omega) h)
theorem Zh{l:List Nat}{i n:Nat}(h:2*i+1<n):JW l i n<n/\i<JW l i n/\2*i+1<=JW l i n/\JW l i n<=2*i+2:=by unfold JW;split<;>omega
theorem FP:∀(f:Nat) {l:List Nat} {i n:Nat},n<=aa l->(DC f l i n).Perm l
 |0,_,_,_,_=>List.Perm.refl _
 |f+1,l,i,n,h=>by
  unfold DC;split
  ·exact List.Perm.refl _
  ·rename_i hc;have:=Zh (l:=l) (i:=i) (n:=n) (by omega);exact(FP f (by rw[iG];exact h)).trans (zh (by omega) (by omega))
theorem qg(l:List Nat)(x:Nat):(FO l x).Perm (l++[x]):=PM _ (by simp)
theorem JX{l:List Nat}(h:l≠[]):(oz l).Perm l:=by have:0<aa l:=List.length_pos_iff.2 h;exact(FP _ (by rw[iG];omega)).trans (zh this (by omega))
theorem JY(l:List Nat)(x:Nat):aa (FO l x)=aa l+1:=by rw[(qg l x).length_eq];simp
theorem PN{l:List Nat}(h:l≠[]):aa (oz l)=aa l:=(JX h).length_eq
def iQ(names:List S)(s:S):Option Nat:=names.findIdx? (·==s)
def fZ(names:List S)(i:Nat):List S->List (List Nat)×List (List Nat)->List (List Nat)×List (List Nat)
 |[],x=>x
 |s::l,(N,B)=>match iQ names s with
  |some k=>if(N.getD i []).contains k=ab then fZ names i l (N,B)else fZ names i l (N.set i (N.getD i []++[k]),B.set k (B.getD k []++[i]))
  |none=>fZ names i l (N,B)
def jy(names:List S):Nat->List (List S)->List (List Nat)×List (List Nat)->List (List Nat)×List (List Nat)
 |_,[],x=>x
 |i,l::r,x=>jy names (i+1) r (fZ names i l x)
def oC(names:List S)(ins:List (List S)):List (List Nat)×List (List Nat):=jy names 0 ins (ao (aa ins) [],ao (aa ins) [])
def xN(N:List (List Nat)):List Nat->List Nat->List Nat
 |[],Q=>Q
 |i::r,Q=>xN N r (if(N.getD i []).isEmpty=ab then FO Q i else Q)
def o8(at':Nat):List Nat->List (List Nat)×List Nat->List (List Nat)×List Nat
 |[],x=>x
 |i::r,(N,Q)=>o8 at' r (N.set i ((N.getD i []).filter (· != at')),if((N.getD i []).filter (· != at')).isEmpty=ab then FO Q i else Q)
def lI(B:List (List Nat)):Nat->List (List Nat)->List Nat->List Nat
 |0,_,_=>[]
 | f + 1,N,Q => if Q.isEmpty = ab then [] else
  (oz Q).getLastD 0::lI B f (o8 ((oz Q).getLastD 0) (B.getD ((oz Q).getLastD 0) []) (N,(oz Q).dropLast)).1 (o8 ((oz Q).getLastD 0) (B.getD ((oz Q).getLastD 0) []) (N,(oz Q).dropLast)).2
def oD(names:List S)(ins:List (List S)):List Nat:=lI (oC names ins).2 (aa ins) (oC names ins).1 (xN (oC names ins).1 (List.range (aa ins)) [])
def kV(names:List S)(ins:List (List S)):List S:=((List.range (aa names)).filter λi=> !(oD names ins).contains i).map λi=>names.getD i []
def jA(c:Ci):List Nat×List S:=if(ou c).1=0 then(oD (c.gates.map (·.name)) (c.gates.map (·.ins)),kV (c.gates.map (·.name)) (c.gates.map (·.ins)))else([],[])
def kW(c:Ci):Int×S:=if(ou c).1≠0 then ou c else match (jA c).2 with
 |s::_=>(7,s)
 |[]=>(0,[])
theorem iJ{c:Ci}(h:(kW c).1=0):NetOk c:=by
 unfold kW at h;split at h
 ·rename_i h1;exact absurd h h1
 ·rename_i h1;exact(zg c).1 (Decidable.not_not.1 h1)
abbrev RB(α:Type):=Except (Nat×Int) α
structure Ps where
 c:Ci
 begun:Bool
 ended:Bool
 on:Bool
theorem BC{s:S}(h:aU s=ab):s≠[]/\∀c∈s,iP c=ab:=by
 unfold aU at h;simp only[zqf,zqb,zrs]at h;refine⟨λe=> ?_,?_⟩
 ·rw[e]at h;simp at h
 ·exact λc hc=>by first|exact h.1 c hc|exact h.2 c hc
def Wd(l:List S):List (Nat×S):=l.map λw=>(0,w)
abbrev LW:=List (S×List S)
abbrev Ls(ls:List (List Tk))(L:LW):Prop:=ls.map (·.map Tk.s)=L.map λx=>Wd (x.1::x.2)
theorem Ls.app{ls:List (List Tk)}{A B:LW}(h:Ls ls (A++B)):∃a b,ls=a++b/\Ls a A/\Ls b B:=by unfold Ls at h;rw[zql]at h;obtain⟨a,b,rfl,ha,hb⟩:=List.map_eq_append_iff.1 h;exact⟨a,b,rfl,ha,hb⟩
theorem Ls.nil{ls:List (List Tk)}(h:Ls ls []):ls=[]:=List.map_eq_nil_iff.1 h
structure NamesOk(c:Ci):Prop where
 ins:∀s∈c.ins,aU s=ab
 outs:∀s∈c.outs,aU s=ab
 lat:∀q∈c.lat,aU q.name=ab/\aU q.next=ab/\qf q=ab
 gates:∀g∈c.gates,gQ g=ab/\aU g.name=ab/\∀s∈g.ins,aU s=ab
end Go.Proofs.YthaijohbpdabfaaGreatDoor
