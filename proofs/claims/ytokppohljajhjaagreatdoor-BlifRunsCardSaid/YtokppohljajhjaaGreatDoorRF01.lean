/- Lemmas for this claim, part F01: each holds under what it names. -/
import Derived.Test.YtokppohljajhjaaGreatDoorRP0
import Derived.Test.YtokppohljajhjaaGreatDoorRA8
import Derived.Test.YtokppohljajhjaaGreatDoorRA7
import Derived.Lib.Builder
import Derived.Lib.UnsafeStr
import Derived.Laws.Externs
set_option linter.all false
set_option maxRecDepth 100000
set_option maxHeartbeats 1000000
namespace Go.Proofs.YtokppohljajhjaaGreatDoor
open Go Go.Proofs Go.Abs
abbrev vi(n:Int):V:= .int .i64 n
theorem iw{n:Int}(h1:-9223372036854775808<=n)(h2:n<=9223372036854775807):IntKind.i64.wrap n=n:=Bz h1 (by omega)
theorem dD{α:Type}{l:List α}{i:Nat}(h:i<l.length){P:α->Prop}(h1:∀s∈l.take i,P s)(h2:P l[i]):∀s∈l.take (i+1),P s:=by
 intro s hs;rw[zrg]at hs;simp only[h,zqk,Option.toList_some,zrf,zrc]at hs;rcases hs with hs|rfl
 ·exact h1 s hs
 ·exact h2
theorem Lm{α:Type}{a b:List α}{i:Nat}(h:a.take i=b.take i)(ha:i<a.length)(hb:i<b.length)(he:a[i]=b[i]):a.take (i+1)=b.take (i+1):=by rw[zrg,zrg,h];simp[ha,hb,he]
abbrev dh(l:List Bool):V:= .is false 1 (l.map V.bool)
theorem Lp{l:List Bool}{r:List V}(hb:V.bnds (dh l::r)):l.length<=maxLen:=by simp only[V.bnds,V.bnd,zra]at hb;exact hb.1.1
def hol(vs:List Bool)(a:Int):Bool:=if a<0 then !(vs.getD (-a-1).toNat false)else vs.getD (a-1).toNat false
def idx{α:Type}(l:List α)(p:α->Bool):Int:=match l.findIdx? p with|some i=>i|none=>-1
theorem zU{α:Type}{l:List α}{p:α->Bool}{i:Nat}(h:i<l.length)(hn:∀x∈l.take i,p x=false)(hb:p l[i]=true):idx l p=i:=by
 have:l.findIdx? p=some i:=by
  rw[List.findIdx?_eq_some_iff_getElem];refine⟨h,hb,fun j hj=> ?_⟩;have:l[j]∈l.take i:=by
   rw[List.mem_take_iff_getElem];exact⟨j,by omega,rfl⟩
  simp[hn _ this]
 simp[idx,this]
theorem uT{α:Type}{l:List α}{p:α->Bool}(hn:∀x∈l,p x=false):idx l p=-1:=by
 have:l.findIdx? p=none:=by rw[List.findIdx?_eq_none_iff];simpa using hn
 simp[idx,this]
theorem Lr{α:Type}(l:List α)(p:α->Bool):decide (0<=idx l p)=l.any p:=by
 cases h:l.any p with
 |false=>rw[uT (by simpa using h)];rfl
 |true =>
  have:∃x∈l,p x=true:=by simpa using h
  unfold idx;cases hb:l.findIdx? p with
  |none=>obtain⟨x,hx,hx2⟩:=this;have:=(List.findIdx?_eq_none_iff.1 hb) x hx;simp[hx2]at this
  |some i=>simp
abbrev S:=List UInt8
abbrev aV(l:List S):V:= .is false 1 (l.map V.str)
theorem Gp{l:List S}{r:List V}(hb:V.bnds (aV l::r)):l.length<=maxLen:=by simp only[V.bnds,V.bnd,zra]at hb;exact hb.1.1
theorem Jv{l:List S}{i:Nat}(h:i<l.length)(d:V):(List.map V.str l).getD i d= .str l[i]:=dL h _
def Lt(n:Nat)(l:List S):Bool:=decide (l.length<=n)&&l.all fun s=>decide (s.length<=60)
theorem qO[MO](l:List S)(n:Nat):Ev TE 40 [aV l,.int .i64 n] (.bool (Lt n l)):=by
 refine Ev.bnd fun hb=> ?_;have hlen:=Gp hb;refine ah Tryz.func40 rfl (by simp[nts]) (vm ?_);simp only[wq.1,Nat.reduceLT,Tryz.results40];refine aF (fun m f h=>∃i,m+i=l.length/\f.t 0=aV l/\f.t 1= .int .i64 n/\f.t 5= .int .i64 (i:Int)/\f.d=[]/\∀s∈l.take i,s.length<=60) l.length ⟨0,by simp,rfl,rfl,rfl,rfl,by simp⟩ ?_;rintro m f h ⟨i,hm,h0,h1,h5,hd,hall⟩;refine vm ?_;simp only[wq.1,seval,h0,h1,h5];refine vcB.mk (fun hc=> ?_) (fun hc=> ?_)
 ·simp only[zqf,zqb,zqi,Int.ofNat_le]at hc;obtain⟨hc1,hc2⟩:=hc;simp only[wq.1,seval,h0,h5,Jv hc1];refine⟨⟨by omega,by omega⟩,vcB.mk (fun hc=> ?_) (fun hc=> ?_)⟩
  ·simp only[wq.1,seval,hd];have:Lt n l=false:=by
    simp only[zqb]at hc;have hx:∃x∈l,¬x.length<=60:=⟨l[i],zqu _,by omega⟩;simpa [Lt]using fun _=>hx
   rw[this];exact aA.dat rfl
  ·simp only[wq.1,seval,h5,az (show i<maxLen by omega)];refine .inl ⟨m-1,by omega,i+1,by omega,h0,h1,rfl,hd,?_⟩;simp only[zqd]at hc;intro s hs;rw[zrg]at hs;simp only[hc1,zqk,Option.toList_some,zrf,zrc]at hs;rcases hs with hs|rfl
   ·exact hall s hs
   ·omega
 ·simp only[wq.1,seval,h0,h1,hd];have:(decide ((l.length:Int)<=n))=Lt n l:=by
   simp only[Bool.and_eq_false_iff,zqd,zqi,Int.ofNat_le]at hc;by_cases hi:i<l.length
   ·have h2:¬l.length<=n:=by omega
    simp[Lt,h2]
   ·rw[zqh (by omega)]at hall;have:(l.all fun s=>decide (s.length<=60))=true:=by simpa using hall
    simp[Lt,this]
  rw[this];exact aA.dat rfl
theorem BN[MO](a b:List S):Ev TE 17 [aV a,aV b] (.bool (a==b)):=by
 refine Ev.bnd fun hb=> ?_;have hlen:=Gp hb;refine ah Tryz.func17 rfl (by simp[nts]) (vm ?_);simp only[wq.1,seval,Tryz.results17];refine vcB.mk (fun hc=> ?_) (fun hc=> ?_)
 ·simp only[wq.1,seval];refine eQ rfl ?_;simp only[bne_iff_ne,ne_eq,Int.natCast_inj]at hc;have:¬a=b:=fun h=>hc (by rw[h]);simp[this]
 ·have hl:a.length=b.length:=by simpa [Int.natCast_inj]using hc
  simp only[wq.1,Nat.reduceLT];refine aF (fun m f h=>∃i,m+i=a.length/\f.t 0=aV a/\f.t 1=aV b/\f.t 5= .int .i64 (i:Int)/\f.d=[]/\a.take i=b.take i) a.length ⟨0,by simp,rfl,rfl,rfl,rfl,by simp⟩ ?_;rintro m f h ⟨i,hm,h0,h1,h5,hd,hall⟩;refine vm ?_;simp only[wq.1,seval,h0,h5];refine vcB.mk (fun hc=> ?_) (fun hc=> ?_)
  ·simp only[zqb,zqi]at hc;have hc2:i<b.length:=by omega
   simp only[wq.1,seval,h0,h1,h5,Jv hc,Jv hc2];refine⟨by decide +kernel,⟨by omega,by omega⟩,⟨by omega,by omega⟩,vcB.mk (fun hc=> ?_) (fun hc=> ?_)⟩
   ·simp only[wq.1,seval,hd];refine eQ rfl ?_;have:¬a=b:=fun h=>by subst h;simp at hc
    simp[this]
   ·simp only[wq.1,seval,h5,az (show i<maxLen by omega)];exact .inl ⟨m-1,by omega,i+1,by omega,h0,h1,rfl,hd,Lm hall (by omega) (by omega) (by simpa using hc)⟩
  ·simp only[zqd,zqi]at hc;simp only[wq.1,seval,hd];refine eQ rfl ?_;rw[zqh (by omega),zqh (by omega)]at hall;simp[hall]
def iF(c:UInt8):Bool:=decide (33<=c.toNat)&&decide (c.toNat<=126)
def aT(s:S):Bool:=s.all iF&&(decide (1<=s.length)&&decide (s.length<=40))
theorem OZ{s:S}{i:Nat}(h:i<s.length):s.getD i 0=s[i]:=by simp[zqg,h]
def UN(n:Int):Bool:=decide (n<=32)||decide (126<n)
theorem UO[MO](n:Int):Ev TE 126 [.int .i32 n] (.bool (UN n)):=by refine ah Tryz.func126 rfl (by simp[nts]) (vm ?_);simp only[wq.1,seval,Tryz.results126];exact eQ rfl rfl
theorem Lu{s:S}{i:Nat}(h:i<s.length)(hb:s[i].toNat<128):F6 s i=(s[i].toNat,1):=by
 unfold F6 Utf8.decode;have:((ByteArray.mk s.toArray).get! (i+0)).toNat=s[i].toNat:=by
  simp[ByteArray.get!,h]
 simp only[this];rw[if_pos hb]
theorem O0{s:S}{i:Nat}(h:i<s.length)(hb:¬s[i].toNat<128):128<=(F6 s i).1:=by
 unfold F6 Utf8.decode;have:((ByteArray.mk s.toArray).get! (i+0)).toNat=s[i].toNat:=by
  simp[ByteArray.get!,h]
 simp only[this];rw[if_neg hb]
 repeat' split
 all_goals first
  |(simp[Utf8.runeError];done)
  |(rename_i hc;simp only[zqf,zqb,ge_iff_le]at hc;dsimp only;omega)
  |(rename_i hc;simp only[ge_iff_le]at hc;dsimp only;omega)
theorem O5{s:S}{i:Nat}(h:i<s.length):UN (F6 s i).1= !iF s[i]:=by
 by_cases hb:s[i].toNat<128
 ·rw[Lu h hb];refine Bool.eq_iff_iff.2 ?_;simp only[UN,iF,Bool.or_eq_true,zqb,Bool.not_eq_true',Bool.and_eq_false_iff,zqd];omega
 ·have:=O0 h hb;have h1:UN (F6 s i).1=true:=by simp only[UN,Bool.or_eq_true,zqb];omega
  have h2:iF s[i]=false:=by simp only[iF,Bool.and_eq_false_iff,zqd];omega
  rw[h1,h2];rfl
def IK(s:S):Option Nat:=s.findIdx? fun c=> !iF c
def Q8(s:S):Int:=match IK s with|some i=>i|none=>-1
theorem LC{s:S}{i:Nat}(h:i<s.length)(hn:∀x∈s.take i,iF x=true)(hb:iF s[i]=false):Q8 s=i:=by
 have:IK s=some i:=by
  unfold IK;rw[List.findIdx?_eq_some_iff_getElem];refine⟨h,by simp[hb],fun j hj=> ?_⟩;have:s[j]∈s.take i:=by
   rw[List.mem_take_iff_getElem];exact⟨j,by omega,rfl⟩
  simp[hn _ this]
 simp[Q8,this]
theorem BO{s:S}(hn:∀x∈s,iF x=true):Q8 s=-1:=by
 have:IK s=none:=by unfold IK;rw[List.findIdx?_eq_none_iff];simpa using hn
 simp[Q8,this]
theorem UQ[MO](s:S):Ev TE 150 [.str s,.fn (.func 126) [] [],.bool true] (.int .i64 (Q8 s)):=by
 refine Ev.bnd fun hb=> ?_;have hlen:s.length<=maxLen:=hb.1;refine ah Tryz.func150 rfl (by simp[nts]) (vm ?_);simp only[wq.1,seval,Tryz.results150];refine aF (fun m f h=>∃i,m+i=s.length/\f.t 1= .fn (.func 126) [] []/\f.t 2= .bool true/\f.t 10= .lp 0 0/\f.d=[]/\h=[.misc (.siter s i)]/\∀x∈s.take i,iF x=true) s.length ⟨0,by simp,rfl,rfl,rfl,rfl,rfl,by simp⟩ ?_;rintro m f h ⟨i,hm,h1,h2,h10,hd,rfl,hall⟩;refine vm ?_;simp only[wq.1,seval,h10];refine nG.mk (fun hc=> ?_) (fun hc=> ?_)
 ·simp only[zqb]at hc;simp only[wq.1,seval,h1,nG];refine ag.ev (UO _) rfl ?_;rw[O5 hc];simp only[wq.1,seval,h2];refine vcB.mk (fun hc'=> ?_) (fun hc'=> ?_)
  ·have hb:iF s[i]=false:=by simpa using hc'
   simp only[wq.1,seval,hd];rw[LC hc hall hb];exact aA.dat rfl
  ·have hb:iF s[i]=true:=by simpa using hc'
   have h128:s[i].toNat<128:=by simp only[iF,zqf,zqb]at hb;omega
   simp only[wq.1,Int.reduceNeg];exact .inl ⟨m-1,by omega,i+1,by omega,h1,h2,h10,hd,by rw[Lu hc h128],dD hc hall hb⟩
 ·simp only[zqd]at hc;simp only[wq.1,seval,hd,nG];rw[zqh (by omega)]at hall;rw[BO hall];exact aA.dat rfl
theorem UR[MO](s:S):Ev TE 127 [.str s,.fn (.func 126) [] []] (.int .i64 (Q8 s)):=by refine ah Tryz.func127 rfl (by simp[nts]) (vm ?_);simp only[wq.1,seval,Tryz.results127];refine ag.ev (UQ s) rfl ?_;simp only[wq.1,seval];exact aA.dat rfl
theorem O6(s:S):decide (Q8 s<0)=s.all iF:=by
 cases h:s.all iF with
 |true=>rw[BO (by simpa using h)];rfl
 |false =>
  have:∃x∈s,iF x=false:=by simpa using h
  cases hb:IK s with
  |none=>obtain⟨x,hx,hx2⟩:=this;have:=(List.findIdx?_eq_none_iff.1 hb) x hx;simp[hx2]at this
  |some i=>simp[Q8,hb]
theorem O7[MO](s:S):Ev TE 98 [.str s] (.bool (aT s)):=by
 refine ah Tryz.func98 rfl (by simp[nts]) (vm ?_);simp only[wq.1,seval,Tryz.results98];refine Bg.ev (q:=127) (vs:=[.str s,.fn (.func 126) [] []]) (by simp only[wq.1,seval]) (by simp only[wq.1,seval]) rfl (fun _=>UR s) (fun _=>rfl) ?_;simp only[wq.1,seval];refine eQ rfl ?_;rw[O6];unfold aT
 congr 1
 have h1:(!s==[])=decide (1<=s.length):=by cases s<;>simp
 have h2:decide ((s.length:Int)<=40)=decide (s.length<=40):=decide_eq_decide.2 (by omega);rw[h1,h2,Bool.and_comm]
theorem uU[MO](s:S):Ev TE 58 [.str s] (.bool (aT s)):=by refine ah Tryz.func58 rfl (by simp[nts]) (vm ?_);simp only[wq.1,seval,Tryz.results58];refine ag.ev (O7 s) rfl ?_;simp only[wq.1,seval];exact aA.dat rfl
theorem bn{dst:Option Tmp}{Kn:Fr->H->Prop}{Q:XE->Fr->H->Prop}{f:Fr}{v:V}{h:H}{p:Nat->Bool}:dW dst Kn Q f (.ret v) h p=((∀i∈f.d,p i=false)/\Kn ((f.drop p).put dst v) h):=rfl
theorem jL:∀l:List Bool,V.dats (l.map V.bool)=true
 |[]=>rfl
 |a::l=>by simp only[zrd,V.dats,V.dat,jL l,zre]
theorem UT:∀l:List Bool,dH 1 (l.map V.bool)=true
 |[]=>rfl
 |a::l=>by simp only[zrd,dH,UT l,V.fit,V.vc,zrk];rfl
theorem Q9:∀l:List Bool,(l.map V.bool).flatMap V.vc=l.map V.bool
 |[]=>rfl
 |a::l=>by simp only[zrd,List.flatMap_cons,V.vc,Q9 l];rfl
theorem sJ{e:E}{h:H}{id len cap:Nat}{l:List Bool}(hc:h[id]? =some (.cells (l.map V.bool)))(hl:len=l.length):aA e h (.ls id 1 0 len cap) (dh l) :=
 aA.ls hc (au.dat (jL l)) (UT l) (Q9 l) (by simpa using hl)
theorem IL[MO](n:Nat)(hn:n<=1000000000)(h:H)(R:AEnd->H->(Nat->Bool)->Prop)(hr0:n=0->R (.ret .nils) h (fun _=>false))
 (hr:0<n->R (.ret (.ls h.length 1 0 0 n)) (h++[.cells (List.replicate n (.str []))]) (fun _=>false)):ag TE 125 [.nils,vi n] h R:=by
 refine ax Tryz.func125 rfl (by simp[nts]) ?_;refine vn ?_;simp only[wq.1,Nat.reduceLT,Tryz.results125];refine aj ?_;refine vm ?_;simp only[wq.1,seval];refine vcB.mk (fun hc=> ?_) (fun hc=> ?_)
 ·simp only[zqb]at hc;omega
 simp only[wq.1];refine aj (aj (iL ?_));refine ay rfl rfl ?_;simp only[wq.1,seval];refine ay rfl rfl ?_;simp only[wq.1,seval];refine eX rfl rfl ?_;have hq:ti TE.P 22=some ⟨.slice 9,1,24,.nils⟩:=by simp only[wq.1]
 have hqe:ti TE.P 9=some ⟨.str,1,16,.str []⟩:=by simp only[wq.1]
 have hqi:ti TE.P 3=some ⟨.int .i64,1,8,.int .i64 0⟩:=by simp only[wq.1]
 refine ku (t:=22) rfl rfl hq rfl trivial rfl ?_;refine ay rfl rfl ?_;simp only[wq.1,seval];refine ay rfl rfl ?_;simp only[wq.1,↓reduceIte];refine ay rfl rfl ?_;simp only[wq.1,seval];refine ay rfl rfl ?_;simp only[wq.1,seval];refine ay rfl rfl ?_;simp only[wq.1,↓reduceIte];have w0:IntKind.i64.wrap 0=0:=by decide
 have w1:IntKind.i64.wrap ((n:Int)-0)=n:=by rw[Int.sub_zero];exact iw (by omega) (by omega)
 refine eG ?_;simp only[wq.1,w0,w1];refine aj ?_;refine vm ?_;simp only[wq.1,seval];refine jY (b:=decide ((0:Int)<n)) (by simp only[wq.1,↓reduceIte]) (by simp only[wq.1,↓reduceIte]) (fun hb=> ?_) (fun hb=> ?_)
 ·have hpos:0<n:=by simp only[zqb]at hb;omega
  refine iL ?_;refine ay rfl rfl ?_;simp only[wq.1,seval];refine ay rfl rfl ?_;simp only[wq.1,seval];refine eX rfl rfl ?_;refine ku (t:=22) rfl rfl hq rfl trivial rfl ?_;refine eX rfl rfl ?_;refine pF rfl hq rfl hqe (by simp only[wq.1,seval]) (by simp only[wq.1,seval]) (by simp only[wq.1,↓reduceIte]) (k:= .i64) (by simp only[wq.1,↓reduceIte]) ?_;refine ay rfl rfl ?_;simp only[wq.1,seval];refine eX rfl rfl ?_;refine nJ (x:= .tmp 20) (y:= .tmp 21) (t:=22) (xt:=3) (el:=9) ⟨⟨_,rfl,rfl,rfl⟩,hq,rfl,hqe,rfl,rfl,Nat.zero_lt_one⟩ (by simp only[wq.1,seval]) (by simp only[wq.1,↓reduceIte]) (by simp only[wq.1,seval]) (by simp only[wq.1,↓reduceIte]) hqi rfl hpos (by omega) ?_ rfl (zv:= .str []) rfl ?_
  ·show n*16<=_;omega
  refine ay rfl rfl ?_;simp only[wq.1,seval];refine ay rfl rfl ?_;simp only[wq.1,↓reduceIte];refine ay rfl rfl ?_;simp only[wq.1,seval];refine⟨by omega,?_⟩;refine ay rfl rfl ?_;simp only[wq.1,↓reduceIte];refine eG ?_;simp only[wq.1];refine vm ?_;simp only[wq.1,seval];exact hr hpos
 ·have:n=0:=by simp only[zqd]at hb;omega
  refine vm ?_;simp only[wq.1];refine vm ?_;simp only[wq.1,seval];exact hr0 this
theorem IM{α:Type}(ls:List (List α))(i:Nat):ls.flatten=(ls.take i).flatten++(ls.drop i).flatten:=by rw[<-List.flatten_append,List.take_append_drop]
theorem iM{α:Type}{ls:List (List α)}{i:Nat}(h:i<ls.length):(ls.take (i+1)).flatten=(ls.take i).flatten++ls[i]:=by rw[zrg,List.flatten_append];simp[h]
theorem uV{α:Type}{ls:List (List α)}{i:Nat}(h:i<ls.length):(ls.take i).flatten.length+ls[i].length<=ls.flatten.length:=by have h1:=congrArg List.length (IM ls (i+1));rw[iM h]at h1;simp only[zqa]at h1;omega
def Wh(n:Nat)(c:List S)(v:V)(h:H):Prop :=
 (c=[]/\v= .nils/\h=[]/\n=0)\/(c.length<=n/\v= .ls 0 1 0 c.length n/\h=[.cells (c.map V.str++List.replicate (n-c.length) (.str []))])
theorem O8[MO](n:Nat)(hn:n<=1000000000)(R:AEnd->H->(Nat->Bool)->Prop)(hr:∀v h,Wh n [] v h->R (.ret v) h (fun _=>false)):ag TE 125 [.nils,vi n] [] R :=
 IL n hn [] R (fun hz=>hr _ _ (.inl ⟨rfl,rfl,rfl,hz⟩)) (fun hz=>hr _ _ (.inr ⟨Nat.zero_le _,rfl,rfl⟩))
theorem oH:∀l:List S,dm (l.map V.str)=true
 |[]=>rfl
 |a::l=>by simp only[zrd,dm,oH l,V.one,V.vc,zrk];rfl
theorem EN(c l:List S)(n:Nat)(h:c.length+l.length<=n):eP (c.map V.str++List.replicate (n-c.length) (.str [])) c.length (l.map V.str)=(c++l).map V.str++List.replicate (n-(c++l).length) (.str []):=by
 unfold eP;have e1:(c.map V.str++List.replicate (n-c.length) (V.str [])).take c.length=c.map V.str:=by
  simp
 have e2:(c.map V.str++List.replicate (n-c.length) (V.str [])).drop (c.length+(l.map V.str).length)=List.replicate (n-(c++l).length) (V.str []):=by
  rw[List.drop_append];have:(c.map V.str).drop (c.length+(l.map V.str).length)=[]:=List.drop_of_length_le (by simp);rw[this,List.nil_append,List.drop_replicate]
  congr 1
  simp only[zra,zqa];omega
 rw[e1,e2,zql]
theorem EO[MO](ls:List (List S))(hn:ls.flatten.length<=1000000000)(hls:ls.length<=1000000000):EvF TE 97 [.is true 1 (ls.map aV)] 1 ls.flatten.length (ls.flatten.map V.str):=by
 have hM:=mLx;have hget:∀ {i:Nat} (h:i<ls.length) (d:V),(ls.map aV).getD i d=aV ls[i]:=fun h d=>dL h d;unfold EvF;refine ax Tryz.func97 rfl (by simp[nts]) (vm ?_);simp only[wq.1,seval,Tryz.results97];refine aF (fun m f h=>∃i,m+i=ls.length/\f.t 0= .is true 1 (ls.map aV)/\f.t 3=vi (ls.take i).flatten.length/\f.t 9= .is true 1 (ls.map aV)/\f.t 10=vi ls.length/\f.t 11=vi i/\f.d=[]/\h=[]) ls.length ⟨0,by simp,rfl,rfl,rfl,by simp only[wq.1,seval],rfl,rfl,rfl⟩ ?_;rintro m f h ⟨i,hm,h0,h3,h9,h10,h11,hd,rfl⟩;refine vm ?_;simp only[wq.1,seval,h10,h11];refine vcB.mk (fun hc=> ?_) (fun hc=> ?_)
 ·simp only[zqb,zqi]at hc;have hfl:=uV hc;have hw:IntKind.i64.wrap (((ls.take i).flatten.length:Int)+(ls[i].length:Int))=((ls.take (i+1)).flatten.length:Int):=by
   rw[iM hc,zqa,Bz (by omega) (by omega)];omega
  simp only[wq.1,seval,h3,h9,h11,hget hc,hw];refine⟨⟨by omega,by omega⟩,vcB.mk (fun hc'=> ?_) (fun hc'=> ?_)⟩
  ·simp only[zqb]at hc';omega
  ·simp only[wq.1,seval,h11,az (show i<maxLen by omega)];exact .inl ⟨m-1,by omega,i+1,by omega,h0,rfl,h9,h10,rfl,hd,rfl⟩
 ·simp only[zqd,zqi]at hc;have hi:ls.take i=ls:=zqh (by omega);rw[hi]at h3;simp only[wq.1,seval,h3];refine O8 ls.flatten.length hn _ (fun v0 h0' hcat=> ?_);simp only[wq.1,seval,h0];refine aF (fun m f h=>∃i v,m+i=ls.length/\f.t 25= .is true 1 (ls.map aV)/\f.t 26=vi ls.length/\f.t 27=vi i/\f.t 6=v/\f.d=[]/\Wh ls.flatten.length (ls.take i).flatten v h) ls.length ⟨0,v0,by simp,by simp only[wq.1,seval],by simp only[wq.1,seval],rfl,rfl,by simp only[wq.1,hd],by simpa using hcat⟩ ?_;rintro m f h ⟨i,v,hm,h25,h26,h27,h6,hd,hcat⟩;refine vm ?_;simp only[wq.1,seval,h26,h27];refine vcB.mk (fun hc=> ?_) (fun hc=> ?_)
  ·simp only[zqb,zqi]at hc;have hfl:=uV hc;have hnext:f.t 27=vi i->IntKind.i64.wrap ((i:Int)+1)=((i+1:Nat):Int):=fun _=>az (by omega);rcases hcat with⟨hc0,rfl,rfl,hn0⟩|⟨hcl,rfl,rfl⟩
   ·have hl0:ls[i]=[]:=List.eq_nil_of_length_eq_zero (by omega);simp only[wq.1,seval,h25,h27,h6,hget hc,hl0,az (show i<maxLen by omega)];refine⟨⟨by omega,by omega⟩,by omega,.inl ⟨m-1,by omega,i+1,_,by omega,h25,h26,rfl,rfl,hd,?_⟩⟩;right;rw[iM hc,hl0,hc0,hn0];exact⟨zrb _,rfl,rfl⟩
   ·by_cases hlt:(ls.take i).flatten.length<ls.flatten.length
    ·have hdt:decide ((ls.take i).flatten.length<ls.flatten.length)=true:=by simpa using hlt
     simp only[wq.1,seval,h25,h27,h6,hget hc,az (show i<maxLen by omega),oH,hdt];refine⟨⟨by omega,by omega⟩,⟨by omega,by omega,by rw[zsc];omega⟩,.inl ⟨m-1,by omega,i+1,_,by omega,h25,h26,rfl,rfl,hd,?_⟩⟩;right;rw[iM hc];refine⟨by rw[zqa];omega,by simp only[wq.1,seval],?_⟩;have hsp:=EN (ls.take i).flatten ls[i] ls.flatten.length hfl;unfold eP at hsp;rw[zra]at hsp;rw[Nat.mul_one,hsp]
    ·have hdt:decide ((ls.take i).flatten.length<ls.flatten.length)=false:=by simpa using hlt
     have hl0:ls[i]=[]:=List.eq_nil_of_length_eq_zero (by omega);have hne:(ls.take i).flatten.length=ls.flatten.length:=by omega
     simp only[wq.1,seval,h25,h27,h6,hd,hget hc,az (show i<maxLen by omega),hdt,hl0];refine⟨⟨by omega,by omega⟩,⟨by rw[zsc];omega,by omega,by omega⟩,.inl ⟨m-1,by omega,i+1,_,by omega,by simp only[wq.1,seval,h25],by simp only[wq.1,seval,h26],rfl,rfl,hd,?_⟩⟩;right;rw[iM hc,hl0,zqp,hne,Nat.sub_self];refine⟨zrb _,by simp only[wq.1,seval],?_⟩;simp only[List.replicate_zero,V.drops]
  ·simp only[zqd,zqi]at hc;have hi:ls.take i=ls:=zqh (by omega);rw[hi]at hcat;simp only[wq.1,seval,h6,hd];rcases hcat with⟨hc0,rfl,rfl,hn0⟩|⟨hcl,rfl,rfl⟩
   ·exact .inl ⟨rfl,hn0,by rw[hc0];rfl⟩
   ·rw[Nat.sub_self,List.replicate_zero,zqp];exact .inr ⟨0,_,rfl,zrb _,rfl⟩
theorem EP[MO](n:Nat)(hn:n<=1000000000)(h:H)(R:AEnd->H->(Nat->Bool)->Prop)(hr0:n=0->R (.ret .nils) h (fun _=>false))
 (hr:0<n->R (.ret (.ls h.length 1 0 0 n)) (h++[.cells (List.replicate n (.bool false))]) (fun _=>false)):ag TE 142 [.nils,vi n] h R:=by
 refine ax Tryz.func142 rfl (by simp[nts]) ?_;refine vn ?_;simp only[wq.1,Nat.reduceLT,Tryz.results142];refine aj ?_;refine vm ?_;simp only[wq.1,seval];refine vcB.mk (fun hc=> ?_) (fun hc=> ?_)
 ·simp only[zqb]at hc;omega
 simp only[wq.1];refine aj (aj (iL ?_));refine ay rfl rfl ?_;simp only[wq.1,seval];refine ay rfl rfl ?_;simp only[wq.1,seval];refine eX rfl rfl ?_;have hq:ti TE.P 43=some ⟨.slice 4,1,24,.nils⟩:=by simp only[wq.1]
 have hqe:ti TE.P 4=some ⟨.bool,1,1,.bool false⟩:=by simp only[wq.1]
 have hqi:ti TE.P 3=some ⟨.int .i64,1,8,.int .i64 0⟩:=by simp only[wq.1]
 refine ku (t:=43) rfl rfl hq rfl trivial rfl ?_;refine ay rfl rfl ?_;simp only[wq.1,seval];refine ay rfl rfl ?_;simp only[wq.1,↓reduceIte];refine ay rfl rfl ?_;simp only[wq.1,seval];refine ay rfl rfl ?_;simp only[wq.1,seval];refine ay rfl rfl ?_;simp only[wq.1,↓reduceIte];have w0:IntKind.i64.wrap 0=0:=by decide
 have w1:IntKind.i64.wrap ((n:Int)-0)=n:=by rw[Int.sub_zero];exact iw (by omega) (by omega)
 refine eG ?_;simp only[wq.1,w0,w1];refine aj ?_;refine vm ?_;simp only[wq.1,seval];refine jY (b:=decide ((0:Int)<n)) (by simp only[wq.1,↓reduceIte]) (by simp only[wq.1,↓reduceIte]) (fun hb=> ?_) (fun hb=> ?_)
 ·have hpos:0<n:=by simp only[zqb]at hb;omega
  refine iL ?_;refine ay rfl rfl ?_;simp only[wq.1,seval];refine ay rfl rfl ?_;simp only[wq.1,seval];refine eX rfl rfl ?_;refine ku (t:=43) rfl rfl hq rfl trivial rfl ?_;refine eX rfl rfl ?_;refine pF rfl hq rfl hqe (by simp only[wq.1,seval]) (by simp only[wq.1,seval]) (by simp only[wq.1,↓reduceIte]) (k:= .i64) (by simp only[wq.1,↓reduceIte]) ?_;refine ay rfl rfl ?_;simp only[wq.1,seval];refine eX rfl rfl ?_;refine nJ (x:= .tmp 20) (y:= .tmp 21) (t:=43) (xt:=3) (el:=4) ⟨⟨_,rfl,rfl,rfl⟩,hq,rfl,hqe,rfl,rfl,Nat.zero_lt_one⟩ (by simp only[wq.1,seval]) (by simp only[wq.1,↓reduceIte]) (by simp only[wq.1,seval]) (by simp only[wq.1,↓reduceIte]) hqi rfl hpos (by omega) ?_ rfl (zv:= .bool false) rfl ?_
  ·show n*1<=_;omega
  refine ay rfl rfl ?_;simp only[wq.1,seval];refine ay rfl rfl ?_;simp only[wq.1,↓reduceIte];refine ay rfl rfl ?_;simp only[wq.1,seval];refine⟨by omega,?_⟩;refine ay rfl rfl ?_;simp only[wq.1,↓reduceIte];refine eG ?_;simp only[wq.1];refine vm ?_;simp only[wq.1,seval];exact hr hpos
 ·have:n=0:=by simp only[zqd]at hb;omega
  refine vm ?_;simp only[wq.1];refine vm ?_;simp only[wq.1,seval];exact hr0 this
def UU(n:Nat)(c:List Bool)(v:V)(h:H):Prop :=
 (c=[]/\v= .nils/\h=[]/\n=0)\/(c.length<=n/\v= .ls 0 1 0 c.length n/\h=[.cells (c.map V.bool++List.replicate (n-c.length) (.bool false))])
theorem LD[MO](n:Nat)(hn:n<=1000000000)(R:AEnd->H->(Nat->Bool)->Prop)(hr:∀v h,UU n [] v h->R (.ret v) h (fun _=>false)):ag TE 142 [.nils,vi n] [] R :=
 EP n hn [] R (fun hz=>hr _ _ (.inl ⟨rfl,rfl,rfl,hz⟩)) (fun hz=>hr _ _ (.inr ⟨Nat.zero_le _,rfl,rfl⟩))
theorem cu{p:Nat->Bool}:∀l:List Bool,V.drops p (l.map V.bool)=l.map V.bool
 |[]=>rfl
 |a::l=>by simp only[zrd,V.drops,V.drop,cu l]
theorem BP:∀l:List Bool,dm (l.map V.bool)=true
 |[]=>rfl
 |a::l=>by simp only[zrd,dm,BP l,V.one,V.vc,zrk];rfl
theorem BQ(c l:List Bool)(n:Nat)(h:c.length+l.length<=n):eP (c.map V.bool++List.replicate (n-c.length) (.bool false)) c.length (l.map V.bool)=(c++l).map V.bool++List.replicate (n-(c++l).length) (.bool false):=by
 unfold eP;have e1:(c.map V.bool++List.replicate (n-c.length) (V.bool false)).take c.length=c.map V.bool:=by
  simp
 have e2:(c.map V.bool++List.replicate (n-c.length) (V.bool false)).drop (c.length+(l.map V.bool).length)=List.replicate (n-(c++l).length) (V.bool false):=by
  rw[List.drop_append];have:(c.map V.bool).drop (c.length+(l.map V.bool).length)=[]:=List.drop_of_length_le (by simp);rw[this,List.nil_append,List.drop_replicate]
  congr 1
  simp only[zra,zqa];omega
 rw[e1,e2,zql]
theorem BR[MO](ls:List (List Bool))(hn:ls.flatten.length<=1000000000)(hls:ls.length<=1000000000):EvF TE 114 [.is true 1 (ls.map dh)] 1 ls.flatten.length (ls.flatten.map V.bool):=by
 have hM:=mLx;have hget:∀ {i:Nat} (h:i<ls.length) (d:V),(ls.map dh).getD i d=dh ls[i]:=fun h d=>dL h d;unfold EvF;refine ax Tryz.func114 rfl (by simp[nts]) (vm ?_);simp only[wq.1,seval,Tryz.results114];refine aF (fun m f h=>∃i,m+i=ls.length/\f.t 0= .is true 1 (ls.map dh)/\f.t 3=vi (ls.take i).flatten.length/\f.t 9= .is true 1 (ls.map dh)/\f.t 10=vi ls.length/\f.t 11=vi i/\f.d=[]/\h=[]) ls.length ⟨0,by simp,rfl,rfl,rfl,by simp only[wq.1,seval],rfl,rfl,rfl⟩ ?_;rintro m f h ⟨i,hm,h0,h3,h9,h10,h11,hd,rfl⟩;refine vm ?_;simp only[wq.1,seval,h10,h11];refine vcB.mk (fun hc=> ?_) (fun hc=> ?_)
 ·simp only[zqb,zqi]at hc;have hfl:=uV hc;have hw:IntKind.i64.wrap (((ls.take i).flatten.length:Int)+(ls[i].length:Int))=((ls.take (i+1)).flatten.length:Int):=by
   rw[iM hc,zqa,Bz (by omega) (by omega)];omega
  simp only[wq.1,seval,h3,h9,h11,hget hc,hw];refine⟨⟨by omega,by omega⟩,vcB.mk (fun hc'=> ?_) (fun hc'=> ?_)⟩
  ·simp only[zqb]at hc';omega
  ·simp only[wq.1,seval,h11,az (show i<maxLen by omega)];exact .inl ⟨m-1,by omega,i+1,by omega,h0,rfl,h9,h10,rfl,hd,rfl⟩
 ·simp only[zqd,zqi]at hc;have hi:ls.take i=ls:=zqh (by omega);rw[hi]at h3;simp only[wq.1,seval,h3];refine LD ls.flatten.length hn _ (fun v0 h0' hcat=> ?_);simp only[wq.1,seval,h0];refine aF (fun m f h=>∃i v,m+i=ls.length/\f.t 25= .is true 1 (ls.map dh)/\f.t 26=vi ls.length/\f.t 27=vi i/\f.t 6=v/\f.d=[]/\UU ls.flatten.length (ls.take i).flatten v h) ls.length ⟨0,v0,by simp,by simp only[wq.1,seval],by simp only[wq.1,seval],rfl,rfl,by simp only[wq.1,hd],by simpa using hcat⟩ ?_;rintro m f h ⟨i,v,hm,h25,h26,h27,h6,hd,hcat⟩;refine vm ?_;simp only[wq.1,seval,h26,h27];refine vcB.mk (fun hc=> ?_) (fun hc=> ?_)
  ·simp only[zqb,zqi]at hc;have hfl:=uV hc;have hnext:f.t 27=vi i->IntKind.i64.wrap ((i:Int)+1)=((i+1:Nat):Int):=fun _=>az (by omega);rcases hcat with⟨hc0,rfl,rfl,hn0⟩|⟨hcl,rfl,rfl⟩
   ·have hl0:ls[i]=[]:=List.eq_nil_of_length_eq_zero (by omega);simp only[wq.1,seval,h25,h27,h6,hget hc,hl0,az (show i<maxLen by omega)];refine⟨⟨by omega,by omega⟩,by omega,.inl ⟨m-1,by omega,i+1,_,by omega,h25,h26,rfl,rfl,hd,?_⟩⟩;right;rw[iM hc,hl0,hc0,hn0];exact⟨zrb _,rfl,rfl⟩
   ·by_cases hlt:(ls.take i).flatten.length<ls.flatten.length
    ·have hdt:decide ((ls.take i).flatten.length<ls.flatten.length)=true:=by simpa using hlt
     simp only[wq.1,seval,h25,h27,h6,hget hc,az (show i<maxLen by omega),BP,hdt];refine⟨⟨by omega,by omega⟩,⟨by omega,by omega,by rw[zsc];omega⟩,.inl ⟨m-1,by omega,i+1,_,by omega,h25,h26,rfl,rfl,hd,?_⟩⟩;right;rw[iM hc];refine⟨by rw[zqa];omega,by simp only[wq.1,seval],?_⟩;have hsp:=BQ (ls.take i).flatten ls[i] ls.flatten.length hfl;unfold eP at hsp;rw[zra]at hsp;rw[Nat.mul_one,hsp]
    ·have hdt:decide ((ls.take i).flatten.length<ls.flatten.length)=false:=by simpa using hlt
     have hl0:ls[i]=[]:=List.eq_nil_of_length_eq_zero (by omega);have hne:(ls.take i).flatten.length=ls.flatten.length:=by omega
     simp only[wq.1,seval,h25,h27,h6,hd,hget hc,az (show i<maxLen by omega),hdt,hl0,cu];refine⟨⟨by omega,by omega⟩,⟨by rw[zsc];omega,by omega,by omega⟩,.inl ⟨m-1,by omega,i+1,_,by omega,by simp only[wq.1,seval,h25],by simp only[wq.1,seval,h26],rfl,rfl,hd,?_⟩⟩;right;rw[iM hc,hl0,zqp,hne,Nat.sub_self];refine⟨zrb _,by simp only[wq.1,seval],?_⟩;simp only[List.replicate_zero,V.drops]
  ·simp only[zqd,zqi]at hc;have hi:ls.take i=ls:=zqh (by omega);rw[hi]at hcat;simp only[wq.1,seval,h6,hd];rcases hcat with⟨hc0,rfl,rfl,hn0⟩|⟨hcl,rfl,rfl⟩
   ·exact .inl ⟨rfl,hn0,by rw[hc0];rfl⟩
   ·rw[Nat.sub_self,List.replicate_zero,zqp];exact .inr ⟨0,_,rfl,zrb _,rfl⟩
theorem EQ[MO](ls:List (List Bool))(hn:ls.flatten.length<=1000000000)(hls:ls.length<=1000000000):Ev TE 114 [.is true 1 (ls.map dh)] (dh ls.flatten):=by
 refine(BR ls hn hls).ev (fun _ hc=> ?_) (fun h' id cap _ hid=>sJ hid (by simp)) (fun _ hc h'=> ?_)
 ·rw[List.map_eq_nil_iff.1 hc];exact EI
 ·rw[List.map_eq_nil_iff.1 hc];exact aA.nils
open Go.RowKit
theorem x8(b:Nat)(w:World)(h0:w.cell? ⟨b,0,none⟩=some (.pointer (some ⟨b,0,none⟩))) :
 Calls Tryz.prog 52 #[.pointer (some ⟨b,0,none⟩)] w fun e w'=>e= .returned (.tuple #[])/\w'=w:=by
 obtain⟨j,hj,_⟩:∃j,Tryz.prog.info? 60=some j/\True:=⟨_,rfl,trivial⟩
 go_enter Tryz.func52,Tryz.ntmps52
 go_wp2
 rw[Lib.run_neq_ptr_same w _ Tryz.underlying57 hj]
 go_wp2
 go_end0
 exact⟨rfl,rfl⟩
theorem wI(b:Nat)(w:World)(T cells:Nat)(h0:w.cell? ⟨b,0,none⟩=some (.pointer none))(hsh:w.shape? b=some (T,cells))(hc:0<cells)(hl:liesAt Tryz.prog Tryz.prog.depth T (cells/Tryz.prog.cellsOf T) 0 60 1=true)(hfz:w.frozen? ⟨b,0,none⟩=false) :
 Calls Tryz.prog 52 #[.pointer (some ⟨b,0,none⟩)] w fun e w'=>e= .returned (.tuple #[])/\w'=w.setCell ⟨b,0,none⟩ (.pointer (some ⟨b,0,none⟩)):=by
 obtain⟨j,hj,hjs⟩:∃j,Tryz.prog.info? 60=some j/\j.size≠0:=⟨_,rfl,by decide⟩
 go_enter Tryz.func52,Tryz.ntmps52
 go_wp2
 rw[Lib.run_to_unsafe w ⟨b,0,none⟩ Tryz.underlying57 Tryz.underlying158 hj hjs hsh hc];simp only[Result.andThen];rw[Oper.upon_value]
 go_wp2
 rw[run_callFunc_extern Tryz.func95 (by kernel_rfl) (by kernel_rfl) (by kernel_rfl) (e:=Extern.AbiNoEscape.same) (by kernel_rfl)];rw[Lib.run_noEscape];simp only[Result.andThen];rw[Oper.upon_value]
 go_wp2
 rw[Lib.run_from_unsafe w ⟨b,0,none⟩ Tryz.underlying158 Tryz.underlying57 hj hsh hl];simp only[Result.andThen];rw[Oper.upon_value]
 go_wp2
 go_end0
 exact⟨rfl,rfl⟩
def BT(T:Nat):Prop:=Tryz.prog.cellsOf T=2/\∀k,liesAt Tryz.prog Tryz.prog.depth T (k+1) 0 60 1=true
theorem O9{h:H}{i:Nat}{o:O}(hi:h[i]? =some o):h.set i o=h:=by obtain⟨h1,h2⟩:=zqe hi;rw[<-h2,List.set_getElem_self]
theorem nP[MO]{T:Nat}(hT:BT T){id:Nat}{a buf:V}{h:H}{R:AEnd->H->(Nat->Bool)->Prop}(ha:a= .nilp\/a= .lp id 0)(hh:h[id]? =some (.typed T [a,buf]))
 (hr:R (.ret (.tup [])) (h.set id (.typed T [.lp id 0,buf])) (fun _=>false)):ag TE 52 [.lp id 0] h R:=by
 intro ok pl w vs hs hl;simp only[VList,VRel]at hl;obtain⟨y,ys,rfl,⟨b,hb,rfl⟩,rfl⟩:=hl;have hb:pl id=some b:=hb;obtain⟨o,ho,hat⟩:=hs.obj id b hb;rw[hh]at ho;cases ho;obtain⟨arr,fz,g1,g2,g3,g4⟩:=hat;have g1:w.heap[b]? =some (.cells arr T fz):=g1;have hsz:2<=arr.size:=g3;have hx0:∃x0,arr[0]? =some x0/\VRel (cx ok pl w) a x0:=by
  obtain⟨x,h1,h2⟩:=VList.get 0 a g4 rfl;refine⟨x,?_,h2⟩;rw[List.getElem?_take_of_lt (by simp)]at h1;simpa using h1
 obtain⟨x0,h0,hr0⟩:=hx0;have hcell:w.cell? ⟨b,0,none⟩=some x0:=by rw[Lib.cell_of_heap g1];exact h0
 rcases ha with rfl|rfl
 ·simp only[VRel]at hr0;subst hr0;have hsh:w.shape? b=some (T,arr.size):=by unfold World.shape?;rw[g1]
  obtain⟨k,hk⟩:∃k,arr.size/2=k+1:=⟨arr.size/2-1,by omega⟩;have hfz:w.frozen? ⟨b,0,none⟩=false:=by have:=g2 0 (by omega);unfold World.frozen?;rw[g1];simp;omega
  refine(wI b w T arr.size hcell hsh (by omega) (by rw[hT.1,hk];exact hT.2 k) hfz).mono ?_;rintro e w' ⟨rfl,rfl⟩;obtain⟨w'',h1,h2,h3⟩:=tZ hs hb (off:=0) (vs:=[.lp id 0]) (xs:=[.pointer (some ⟨b,0,none⟩)]) (by simp only[VList,VRel];exact⟨_,_,rfl,⟨b,hb,rfl⟩,rfl⟩) rfl hh (by simp);have h4:=fV (P:=TE.P) (vs:=[.pointer (some ⟨b,0,none⟩)]) (o:=0) g1 g2 (by simp;omega) (fun v hv=>by simp at hv;subst hv;rfl);rw[h4]at h1;cases h1;exact⟨fun _=>false,pl,_,.ret (.tup []),h2,h3,by show VRel _ _ _;simp only[VRel,VList];exact⟨#[],rfl,rfl⟩,hr⟩
 ·simp only[VRel]at hr0;obtain⟨b',hb',rfl⟩:=hr0;have hb':pl id=some b':=hb';rw[hb]at hb';cases hb';refine(x8 b w hcell).mono ?_;rintro e w' ⟨rfl,rfl⟩;rw[O9 hh]at hr;exact⟨fun _=>false,pl,h,.ret (.tup []),hs,Keeps.refl pl _,by show VRel _ _ _;simp only[VRel,VList];exact⟨#[],rfl,rfl⟩,hr⟩
abbrev vb(c:UInt8):V:= .int .u8 c.toNat
theorem BU:∀l:S,dm (l.map vb)=true
 |[]=>rfl
 |a::l=>by simp only[zrd,dm,BU l,V.one,V.vc,zrk];rfl
theorem oI{p:Nat->Bool}:∀c:S,V.drops p (c.map vb)=c.map vb
 |[]=>rfl
 |a::l=>by simp only[zrd,V.drops,V.drop,oI l]
theorem LH[MO]{T:Nat}(hT:BT T){id:Nat}{a:V}{h:H}{R:AEnd->H->(Nat->Bool)->Prop}(s:S)(ha:a= .nilp\/a= .lp id 0)(hh:h[id]? =some (.typed T [a,.nils]))(hs:s≠[])(hl:s.length<=20000000000000)
 (hr:R (.ret (.tup [vi s.length,.nili])) ((h++[O.typed 5 (s.map vb)]).set id (.typed T [.lp id 0,.ls h.length 1 0 s.length s.length])) (fun _=>false)):ag TE 23 [.lp id 0,.str s] h R:=by
 have hM:=mLx;have hlt:id<h.length:=(zqe hh).1;have hpos:0<s.length:=List.length_pos_iff.2 hs;refine ax Tryz.func23 rfl (by simp[nts]) ?_;refine vn ?_;simp only[wq.1,Nat.reduceLT,Tryz.results23];refine vn ?_;simp only[wq.1,seval];refine nP hT ha hh ?_;simp only[wq.1];have h1:(h.set id (.typed T [.lp id 0,.nils]))[id]? =some (.typed T [.lp id 0,.nils]):=by simp[hlt]
 refine aj (iL ?_);refine ay rfl rfl ?_;simp only[wq.1,seval];refine ay rfl rfl ?_;simp only[wq.1,seval];refine ay rfl rfl ?_;simp only[wq.1,↓reduceIte];refine ay rfl rfl ?_;simp only[wq.1,seval];refine ay rfl rfl ?_;simp only[wq.1,seval,h1];refine ay rfl rfl ?_;simp only[wq.1,seval];have hq:ti TE.P 58=some ⟨.slice 5,1,24,.nils⟩:=by simp only[wq.1]
 have hqe:ti TE.P 5=some ⟨.int .u8,1,1,.int .u8 0⟩:=by simp only[wq.1]
 refine eX rfl rfl ?_;refine rX (x:= .tmp 12) (y:= .tmp 13) (t:=58) (xt:=9) (el:=5) (m:=s.length) (cs:=s.map vb) ⟨⟨_,rfl,rfl,rfl⟩,hq,rfl,hqe,rfl,rfl,Nat.zero_lt_one⟩ (by simp only[wq.1,seval]) (by simp only[wq.1,↓reduceIte]) (by simp only[wq.1,seval]) (by simp only[wq.1,↓reduceIte]) (by simp only[wq.1,↓reduceIte]) (by simp only[wq.1,↓reduceIte]) hpos (by omega) (by show(0+s.length)*1<=_;omega) ?_;have h2:(h.set id (O.typed T [.lp id 0,.nils])++[O.typed 5 (s.map vb)])[id]? =some (.typed T [.lp id 0,.nils]):=by rw[zqj (by simpa using hlt)];exact h1
 simp only[wq.1,zrn];refine ay rfl rfl ?_;simp only[wq.1,seval];refine ay rfl rfl ?_;simp only[wq.1,seval];refine eX rfl rfl ?_;refine yB (t:=58) (x:= .tmp 16) (y:= .tmp 14) rfl (id:=id) (off:=1) (by simp only[wq.1,↓reduceIte]) (by simp only[wq.1,↓reduceIte]) (by simp only[wq.1,seval]) hq (by simp only[wq.1,seval]) (by simp only[wq.1,seval]) (by simp only[wq.1,seval]) h2 (by simp only[wq.1,seval]) ?_;refine eG ?_;simp only[wq.1,seval];refine vm ?_;simp only[wq.1,seval];rw[List.set_append_left _ _ (by simpa using hlt),List.set_set,<-List.set_append_left _ _ hlt];exact hr
theorem BZ(p:Nat->Bool)(h:H)(i:Nat)(o:O):(h.set i o).map (O.drop p)=(h.map (O.drop p)).set i (o.drop p):=by rw[List.map_set]
theorem Pg[MO]{T:Nat}(hT:BT T){id bid:Nat}{a:V}{h:H}{R:AEnd->H->(Nat->Bool)->Prop}(out s:S)(ha:a= .nilp\/a= .lp id 0)(hne:id≠bid)(hh:h[id]? =some (.typed T [a,.ls bid 1 0 out.length out.length]))(hb:h[bid]? =some (.typed 5 (out.map vb)))(hl:out.length+s.length<=20000000000000)
 (hr:R (.ret (.tup [vi s.length,.nili])) (((h.map (O.drop (·==bid))).set bid (O.typed 5 ((out++s).map vb))).set id (.typed T [.lp id 0,.ls bid 1 0 (out++s).length (out++s).length])) (·==bid)):ag TE 23 [.lp id 0,.str s] h R:=by
 have hM:=mLx;have hlt:id<h.length:=(zqe hh).1;have hltb:bid<h.length:=(zqe hb).1;have hidb:(id==bid)=false:=by simpa using hne
 refine ax Tryz.func23 rfl (by simp[nts]) ?_;refine vn ?_;simp only[wq.1,Nat.reduceLT,Tryz.results23];refine vn ?_;simp only[wq.1,seval];refine nP hT ha hh ?_;simp only[wq.1];have h1:(h.set id (.typed T [.lp id 0,.ls bid 1 0 out.length out.length]))[id]? =some (.typed T [.lp id 0,.ls bid 1 0 out.length out.length]):=by simp[hlt]
 have h1b:(h.set id (.typed T [.lp id 0,.ls bid 1 0 out.length out.length]))[bid]? =some (.typed 5 (out.map vb)):=by rw[zqn hne];exact hb
 refine aj (iL ?_);refine ay rfl rfl ?_;simp only[wq.1,seval];refine ay rfl rfl ?_;simp only[wq.1,seval];refine ay rfl rfl ?_;simp only[wq.1,↓reduceIte];refine ay rfl rfl ?_;simp only[wq.1,seval];refine ay rfl rfl ?_;simp only[wq.1,seval,h1];refine ay rfl rfl ?_;simp only[wq.1,seval];have hq:ti TE.P 58=some ⟨.slice 5,1,24,.nils⟩:=by simp only[wq.1]
 have hqe:ti TE.P 5=some ⟨.int .u8,1,1,.int .u8 0⟩:=by simp only[wq.1]
 refine eX rfl rfl ?_;refine uz (x:= .tmp 12) (y:= .tmp 13) (t:=58) (xt:=9) (el:=5) (m:=s.length) (cs:=s.map vb) (len:=out.length) (cap:=out.length) ⟨⟨_,rfl,rfl,rfl⟩,hq,rfl,hqe,rfl,rfl,Nat.zero_lt_one⟩ (by simp only[wq.1,seval]) (by simp only[wq.1,↓reduceIte]) (id:=bid) (by simp only[wq.1,seval]) h1b (by rw[zra];show _=out.length*1;omega) (by simp only[wq.1,↓reduceIte]) (by simp only[wq.1,↓reduceIte]) (by simp only[wq.1,↓reduceIte]) (BU s) (by omega) (by show(out.length+s.length)*1<=_;omega) (by simp only[wq.1]) ?_;rw[fE,oI,oI,BZ];have e1:(O.typed T [.lp id 0,.ls bid 1 0 out.length out.length]).drop (·==bid)= .typed T [.lp id 0,.any]:=by
  simp only[O.drop,V.drops,V.drop,hidb,beq_self_eq_true,zrm,if_false,if_true]
 rw[e1];generalize hG:h.map (O.drop (·==bid))=G at hr ⊢;have hGl:id<G.length:=by rw[<-hG,zra];exact hlt
 have h2:((G.set id (O.typed T [.lp id 0,.any])).set bid (O.typed 5 (out.map vb++s.map vb)))[id]? =some (.typed T [.lp id 0,.any]):=by rw[zqn (Ne.symm hne)];simp[hGl]
 simp only[wq.1];refine ay rfl rfl ?_;simp only[wq.1,seval,hidb];refine ay rfl rfl ?_;simp only[wq.1,seval];refine eX rfl rfl ?_;refine yB (t:=58) (x:= .tmp 16) (y:= .tmp 14) rfl (id:=id) (off:=1) (by simp only[wq.1,↓reduceIte]) (by simp only[wq.1,↓reduceIte]) (by simp only[wq.1,seval]) hq (by simp only[wq.1,seval]) (by simp only[wq.1,seval]) (by simp only[wq.1,seval]) h2 (by simp only[wq.1,seval]) ?_;refine eG ?_;simp only[wq.1,seval];refine vm ?_;simp only[wq.1,seval];rw[zql,zqa]at hr;rw[List.set_comm _ _ hne,List.set_set];exact hr
theorem IP(b g len cap cells:Nat)(l:List UInt8)(w:World)(c1:w.drew.cell? ⟨b,1,none⟩=some (.slice (some ⟨g,0,none⟩) l.length cap))(hcap:cap≠0)(hsh:w.drew.shape? g=some (5,cells))(hn:l.length<=cells)(h63:l.length<=9223372036854775807)(h0:l≠[])(hcell:∀j x,l[j]? =some x->w.drew.cell? ((⟨g,0,none⟩:Addr).add j)=some (.int .u8 x.toNat)) :
 Calls Tryz.prog 24 #[.pointer (some ⟨b,0,none⟩)] w fun e w'=>e= .returned (.string ⟨l.toArray⟩)/\w'=w.drew.freeze ⟨g,0,none⟩ l.length:=by
 have hSD:(Builtin.unsafeSliceData_ #[58] 108 #[.slice (some ⟨g,0,none⟩) l.length cap]).run Tryz.prog w.drew= .ok (.pointer (some ⟨g,0,none⟩)) w.drew :=
  Lib.run_unsafeSliceData_row w.drew _ _ _ _ _ hcap
 have hUS:(Builtin.unsafeString_ #[108,3] 9 #[.pointer (some ⟨g,0,none⟩),.int .i64 l.length]).run Tryz.prog w.drew= .ok (.string ⟨l.toArray⟩) (w.drew.freeze ⟨g,0,none⟩ l.length) :=
  Lib.run_unsafeString_row w.drew 108 3 9 5 Tryz.underlying108 (by kernel_rfl) g cells hsh l h0 hn h63 hcell
 go_enter Tryz.func24,Tryz.ntmps24
 go_wp2
 go_region
 all_goals (go_wp2;go_ret;exact⟨rfl,rfl⟩)
theorem SC[MO]{T id bid:Nat}{a:V}{h:H}{R:AEnd->H->(Nat->Bool)->Prop}(out:S)(hh:h[id]? =some (.typed T [a,.ls bid 1 0 out.length out.length]))(hb:h[bid]? =some (.typed 5 (out.map vb)))(h0:out≠[])(hl:out.length<=20000000000000)
 (hr:R (.ret (.str out)) ((h.map (O.drop (·==bid))).set bid .dead) (·==bid)):ag TE 24 [.lp id 0] h R:=by
 intro ok pl w vs hs hv;simp only[VList,VRel]at hv;obtain⟨y,ys,rfl,⟨b,hpb,rfl⟩,rfl⟩:=hv;have hpb:pl id=some b:=hpb;have hpos:0<out.length:=List.length_pos_iff.2 h0;obtain⟨o,ho,hat⟩:=hs.obj id b hpb;rw[hh]at ho;cases ho;obtain⟨arr,fz,g1,g2,g3,g4⟩:=hat;have g1:w.heap[b]? =some (.cells arr T fz):=g1;obtain⟨x1,e1,r1⟩:=VList.get 1 (.ls bid 1 0 out.length out.length) g4 rfl;have e1:arr[1]? =some x1:=by
  rw[List.getElem?_take_of_lt (by simp)]at e1;simpa using e1
 simp only[VRel]at r1;obtain⟨ad,cp,rfl,q2,q3,q4,q5⟩:=r1;rcases q5 with q5|⟨g,arr2,el2,fz2,q6,rfl,q8,q9⟩
 ·omega
 have q6:pl bid=some g:=q6;obtain⟨o,ho,hat⟩:=hs.obj bid g q6;rw[hb]at ho;cases ho;obtain⟨arr3,fz3,k1,k2,k3,k4⟩:=hat;have k1:w.heap[g]? =some (.cells arr3 5 fz3):=k1;have k3:out.length<=arr3.size:=by simpa using k3
 have hcell:w.drew.cell? ⟨b,1,none⟩=some (.slice (some ⟨g,0,none⟩) out.length cp):=by rw[Lib.cell_of_heap (w:=w.drew) g1];exact e1
 have hsh:w.drew.shape? g=some (5,arr3.size):=by unfold World.shape?;show(match w.heap[g]? with|some (.cells c e _)=>some (e,c.size)|_=>none)=_;rw[k1]
 refine(IP b g out.length cp arr3.size out w hcell (by omega) hsh k3 (by omega) h0 fun j x hx=> ?_).mono ?_
 ·have hj:j<out.length:=(zqe hx).1;obtain⟨x2,hx2,r2⟩:=VList.get j (vb x) k4 (by rw[zqo,hx];rfl);simp only[VRel]at r2;subst r2;rw[zra,List.getElem?_take_of_lt hj]at hx2;rw[dC,Lib.cell_of_heap (w:=w.drew) k1,Nat.zero_add];simpa using hx2
 ·rintro en w' ⟨rfl,rfl⟩;have hsz:(w.drew.freeze ⟨g,0,none⟩ out.length).heap.size=w.heap.size:=by
   unfold World.freeze;rw[if_neg (by omega)];exact Array.size_modify
  have hsame:∀i,i≠g->(w.drew.freeze ⟨g,0,none⟩ out.length).heap[i]? =w.heap[i]? :=fun i hi=>by unfold World.freeze;rw[if_neg (by omega)];show(w.heap.modify g _)[i]? =_;rw[Array.getElem?_modify,if_neg (Ne.symm hi)]
  have hrow:∀arr el fz,w.heap[g]? =some (.cells arr el fz)->∃arr' fz',(w.drew.freeze ⟨g,0,none⟩ out.length).heap[g]? =some (.cells arr' el fz')/\arr'.size=arr.size:=fun a3 el fz4 ha=>by unfold World.freeze;rw[if_neg (by omega)];refine⟨a3,(if fz4.1==fz4.2 then(0,0+out.length)else(min fz4.1 0,max fz4.2 (0+out.length))),?_,rfl⟩;show(w.heap.modify g _)[g]? =_;rw[Array.getElem?_modify,if_pos rfl,ha];rfl
  have hos:(w.drew.freeze ⟨g,0,none⟩ out.length).os=w.os/\(w.drew.freeze ⟨g,0,none⟩ out.length).tape=w.tape/\(w.drew.freeze ⟨g,0,none⟩ out.length).output=w.output:=by unfold World.freeze;rw[if_neg (by omega)];exact⟨rfl,rfl,rfl⟩
  obtain⟨s1,s2⟩:=hs.burn q6 hos.1 hos.2.1 hos.2.2 hsz hsame hrow;exact⟨_,_,_,.ret (.str out),s1,s2,by show VRel _ _ _;simp only[VRel];exact⟨_,rfl,by simp,by have:maxLen=9223372036854775807:=rfl;omega⟩,hr⟩
def UV:S:=[48,49,50,51,52,53,54,55,56,57,97,98,99,100,101,102]
def Ph(n:Nat):UInt8:=UV.getD n 0
def xO(c:UInt8):Int:=match UV.findIdx? (·==c)with|some i=>i|none=>-1
def mX:S:=[120,95,95]
def LJ(c:UInt8):S:=[Ph (c.toNat/16),Ph (c.toNat%16)]
def aY(s:S):S:=mX++s.flatMap LJ
def jM:S->S
 |a::b::r=>UInt8.ofNat ((xO a*16+xO b)%256).toNat::jM r
 |_=>[]
def bK(s:S):S:=jM (if mX.isPrefixOf s=true then s.drop 3 else s)
theorem Cb:∀n:Nat,n<16->xO (Ph n)=n:=by decide
theorem ER(s:S):jM (s.flatMap LJ)=s:=by
 induction s with
 |nil=>rfl
 |cons c s ih =>
  show UInt8.ofNat ((xO (Ph (c.toNat/16))*16+xO (Ph (c.toNat%16)))%256).toNat::jM (s.flatMap LJ)=c::s;have h1:=UInt8.toNat_lt c;rw[ih,Cb _ (by omega),Cb _ (by omega)]
  congr 1
  have:((((c.toNat/16:Nat):Int)*16+((c.toNat%16:Nat):Int))%256).toNat=c.toNat:=by omega
  rw[this];exact UInt8.ofNat_toNat
theorem uj(s:S):mX.isPrefixOf (aY s)=true:=by simp[aY,mX,List.isPrefixOf]
theorem sK(s:S):bK (aY s)=s:=by unfold bK;rw[if_pos (uj s)];exact ER s
def jf(s:S):Bool:=s.headD 0 != 46&& !(s.contains 35||s.contains 92)
def bf(s:S):S:=if(mX.isPrefixOf s|| !jf s)=true then aY s else s
def x9(nm:S->Bool)(s:S):S×Int :=
 if bK s≠[]/\nm (bK s)=true/\bf (bK s)=s then(bK s,0)else if(nm s&&jf s)=true then(s,0)else([],4)
theorem IQ{nm:S->Bool}(h0:nm []=false){s:S}(h:nm s=true):x9 nm (bf s)=(s,0):=by
 have hne:s≠[]:=fun e=>by rw[e,h0]at h;cases h
 by_cases hm:(mX.isPrefixOf s|| !jf s)=true
 ·have e:bf s=aY s:=by unfold bf;rw[if_pos hm]
  unfold x9;rw[e,sK,if_pos ⟨hne,h,e⟩]
 ·have e:bf s=s:=by unfold bf;rw[if_neg hm]
  rw[e];unfold x9;split
  ·rename_i hc;obtain⟨_,_,h3⟩:=hc;by_cases hm2:(mX.isPrefixOf (bK s)|| !jf (bK s))=true
   ·exfalso;have e2:bf (bK s)=aY (bK s):=by unfold bf;rw[if_pos hm2]
    rw[e2]at h3;apply hm;rw[<-h3,uj];rfl
   ·have e2:bf (bK s)=bK s:=by unfold bf;rw[if_neg hm2]
    rw[e2]at h3;rw[h3]
  ·rw[if_pos ?_];have:jf s=true:=by
    cases hl:jf s with
    |true=>rfl
    |false=>rw[hl]at hm;simp at hm
   rw[h,this];rfl
structure Tk where
 k:Nat
 t:S
 at':Nat
def pG(c:UInt8):Bool:=c==32||c==9||c==13
def gU(c:UInt8):Bool:= !(pG c||c==10||c==35||c==92)
def tkB:Nat->Nat->S->List Tk
 |0,_,_=>[]
 |_,_,[]=>[]
 |n+1,p,c::r =>
  if c=35 then tkB n (p+((c::r).takeWhile (· != 10)).length) ((c::r).dropWhile (· != 10))
  else if c=92/\r.head? =some 10 then tkB n (p+2) (r.drop 1)
  else if pG c=true then tkB n (p+1) r
  else if c=10 then⟨3,[],p⟩::tkB n (p+1) r
  else if c=92 then⟨0,[92],p⟩::tkB n (p+1) r
  else⟨0,(c::r).takeWhile gU,p⟩::tkB n (p+((c::r).takeWhile gU).length) ((c::r).dropWhile gU)
def Tk.s(x:Tk):Nat×S:=(x.k,x.t)
theorem VJ{p:UInt8->Bool}{w r:S}(hw:∀c∈w,p c=true)(hr:∀c,r.head? =some c->p c=false):(w++r).takeWhile p=w/\(w++r).dropWhile p=r:=by
 induction w with
 |nil =>
  cases r with
  |nil=>exact⟨rfl,rfl⟩
  |cons c r=>have:=hr c rfl;simp[List.takeWhile,List.dropWhile,this]
 |cons a w ih=>have ha:=hw a (by simp);obtain⟨h1,h2⟩:=ih fun c hc=>hw c (by simp[hc]);simp[List.takeWhile,List.dropWhile,ha,h1,h2]
theorem IR{c:UInt8}(h:gU c=true):c≠35/\c≠92/\pG c=false/\c≠10:=by unfold gU at h;simp only[Bool.not_eq_true',zsf,beq_eq_false_iff_ne]at h;obtain⟨⟨⟨h1,h2⟩,h3⟩,h4⟩:=h;exact⟨h3,h4,h1,h2⟩
theorem LK{n p:Nat}{w r:S}(hne:w≠[])(hw:∀c∈w,gU c=true)(hr:∀c,r.head? =some c->gU c=false) :
 tkB (n+1) p (w++r)=⟨0,w,p⟩::tkB n (p+w.length) r:=by
 obtain⟨h1,h2⟩:=VJ hw hr;cases w with
 |nil=>exact absurd rfl hne
 |cons c w=>obtain⟨a1,a2,a3,a4⟩:=IR (hw c (by simp));have e:(c::w)++r=c::(w++r):=rfl;rw[e]at h1 h2 ⊢;rw[tkB,if_neg a1,if_neg (fun h=>a2 h.1),if_neg (by rw[a3];decide),if_neg a4,if_neg a2,h1,h2]
theorem Pi{n p:Nat}{r:S}:tkB (n+1) p (32::r)=tkB n (p+1) r:=by rw[tkB,if_neg (by decide),if_neg (fun h=>absurd h.1 (by decide)),if_pos (by decide)]
theorem UW{n p:Nat}{r:S}:tkB (n+1) p (10::r)=⟨3,[],p⟩::tkB n (p+1) r:=by rw[tkB,if_neg (by decide),if_neg (fun h=>absurd h.1 (by decide)),if_neg (by decide),if_pos rfl]
def oV(l:List S):S:=l.flatMap (fun w=>32::w)++[10]
def nR(w:S)(l:List S):S:=w++oV l
theorem Cc{l:List S}{r:S}:∀c,(oV l++r).head? =some c->gU c=false:=fun c hc=>by
 cases l with
 |nil=>have:some (10:UInt8)=some c:=hc;cases this;decide
 |cons w l=>have:some (32:UInt8)=some c:=hc;cases this;decide
theorem SE{l:List S}:(∀w∈l,w≠[]/\∀c∈w,gU c=true)->∀ {n p:Nat} {r:S},∃q,(tkB (n+(2*l.length+1)) p (oV l++r)).map Tk.s=l.map (fun w=>(0,w))++(3,[])::(tkB n q r).map Tk.s:=by
 induction l with
 |nil=>intro _ n p r;refine⟨p+1,?_⟩;show(tkB (n+1) p (10::r)).map Tk.s=_;rw[UW];rfl
 |cons w l ih =>
  intro hl n p r;obtain⟨h1,h2⟩:=hl w (by simp);obtain⟨q,hq⟩:=ih (fun x hx=>hl x (by simp[hx])) (n:=n) (p:=p+1+w.length) (r:=r);refine⟨q,?_⟩;have e:oV (w::l)++r=32::(w++(oV l++r)):=by simp[oV]
  rw[e,show n+(2*(w::l).length+1)=n+(2*l.length+1)+1+1 by simp;omega,Pi,LK h1 h2 Cc,zrd,hq];rfl
theorem SG{w:S}{l:List S}(hw:w≠[]/\∀c∈w,gU c=true)(hl:∀w∈l,w≠[]/\∀c∈w,gU c=true){n p:Nat}{r:S} :
 ∃q,(tkB (n+(2*l.length+2)) p (nR w l++r)).map Tk.s=(0,w)::(l.map (fun w=>(0,w))++(3,[])::(tkB n q r).map Tk.s):=by
 obtain⟨q,hq⟩:=SE hl (n:=n) (p:=p+w.length) (r:=r);refine⟨q,?_⟩;have e:nR w l++r=w++(oV l++r):=by simp[nR]
 rw[e,show n+(2*l.length+2)=n+(2*l.length+1)+1 by omega,LK hw.1 hw.2 Cc,zrd,hq];rfl
structure Ga where
 name:S
 op:Int
 ins:List S
 rows:List S
 off:Bool
structure La where
 name:S
 next:S
 init:Int
structure Ci where
 ins:List S
 outs:List S
 lat:List La
 gates:List Ga
def Ce(op n:Nat):Bool:=match op with
 |0=>n==0
 |1=>n==0
 |2=>n==1
 |3=>n==1
 |10=>decide (n<=8)
 |k=>decide (k<10)&&(decide (2<=n)&&decide (n<=8))
def uX(op:Int)(n:Nat):Bool:=decide (0<=op)&&(decide (op<=10)&&Ce op.toNat n)
def qc:Nat->Nat
 |0=>0
 |k+1=>(k+1)%2+qc ((k+1)/2)
def Cf(n k:Nat):S:=(List.range n).map fun i=>UInt8.ofNat (48+k/2^(n-1-i)%2)
def Jw(n:Nat)(odd:Bool):List S:=((List.range (2^n)).filter fun k=>(qc k%2==1)==odd).map (Cf n)
def jy(op n:Nat):List S×Bool:=match op with
 |0=>([],false)
 |1=>([List.replicate n 49],false)
 |2=>([List.replicate n 49],false)
 |3=>([List.replicate n 48],false)
 |4=>([List.replicate n 49],false)
 |5=>([List.replicate n 49],true)
 |6=>([List.replicate n 48],true)
 |7=>([List.replicate n 48],false)
 |8=>(Jw n true,false)
 |_=>(Jw n false,false)
def jg(n:Nat)(rows:List S)(off:Bool):Option Nat:=(List.range 10).find? fun op=>Ce op n&&(off==(jy op n).2&&(jy op n).1==rows)
theorem ES:∀n,n<9->∀op,op<10->Ce op n=true->jg n (jy op n).1 (jy op n).2=some op:=by decide +kernel
def gY(g:Ga):Ga :=
 if g.ins.length = 1 /\ g.rows = [] /\ g.off = false then
  if g.op=4\/g.op=6\/g.op=8 then {g with op:=2} else if g.op=5\/g.op=7\/g.op=9 then {g with op:=3} else g
 else g
def aU(g:Ga):Ga :=
 if(gY g).op≠10 then gY g else match jg g.ins.length g.rows g.off with
  |some op=>⟨g.name,op,g.ins,[],false⟩
  |none=>gY g
def aK(g:Ga):Ga :=
 aU (if(aU g).op=10/\(aU g).rows=[]/\(aU g).off=true then {aU g with rows:=[List.replicate (aU g).ins.length 45],off:=false} else aU g)
def aQ(g:Ga):List S×Bool:=if g.op=10 then(g.rows,g.off)else jy g.op.toNat g.ins.length
structure GOk(g:Ga):Prop where
 h:uX g.op g.ins.length=true
 r:g.op≠10->g.rows=[]/\g.off=false
structure GCan(g:Ga):Prop where
 h:uX g.op g.ins.length=true
 r:g.op≠10->g.rows=[]/\g.off=false
 c:g.op=10->jg g.ins.length g.rows g.off=none
theorem SH{op n:Nat}(h1:op<=10)(h:Ce op n=true):uX (op:Int) n=true:=by unfold uX;rw[decide_eq_true (by omega),decide_eq_true (by omega),zsg,h];rfl
theorem zV{op n:Nat}(h:Ce op n=true):n<9:=by
 unfold Ce at h;split at h
 ·have:n=0:=by simpa using h
  omega
 ·have:n=0:=by simpa using h
  omega
 ·have:n=1:=by simpa using h
  omega
 ·have:n=1:=by simpa using h
  omega
 ·have:n<=8:=by simpa using h
  omega
 ·simp only[zqf,zqb]at h;omega
theorem oJ{g:Ga}(h:g.op=10):gY g=g:=by
 unfold gY;split
 ·rw[if_neg (by omega),if_neg (by omega)]
 ·rfl
theorem UX{g:Ga}(h:GOk g):GOk (gY g)/\(gY g).ins=g.ins/\(gY g).name=g.name:=by
 unfold gY;split
 ·rename_i h1;split
  ·exact⟨⟨by show uX 2 g.ins.length=true;rw[h1.1];rfl,fun _=>⟨h1.2.1,h1.2.2⟩⟩,rfl,rfl⟩
  ·split
   ·exact⟨⟨by show uX 3 g.ins.length=true;rw[h1.1];rfl,fun _=>⟨h1.2.1,h1.2.2⟩⟩,rfl,rfl⟩
   ·exact⟨h,rfl,rfl⟩
 ·exact⟨h,rfl,rfl⟩
theorem wJ{n op:Nat}{rows:List S}{off:Bool}(h:jg n rows off=some op):op<10/\Ce op n=true/\jy op n=(rows,off):=by unfold jg at h;have h1:=List.mem_of_find?_eq_some h;have h2:=List.find?_some h;simp only[zqf,beq_iff_eq]at h2;exact⟨List.mem_range.1 h1,h2.1,by rw[h2.2.1,<-h2.2.2]⟩
theorem nS{g:Ga}(h:GOk g):GCan (aU g)/\(aU g).ins=g.ins/\(aU g).name=g.name:=by
 obtain⟨o1,o2,o3⟩:=UX h;unfold aU;split
 ·rename_i h1;exact⟨⟨o1.h,o1.r,fun e=>absurd e h1⟩,o2,o3⟩
 ·rename_i h1;have h1:(gY g).op=10:=Decidable.not_not.1 h1;have hg:g.op=10:=by
   unfold gY at h1;split at h1
   ·split at h1
    ·cases h1
    ·split at h1
     ·cases h1
     ·exact h1
   ·exact h1
  rw[oJ hg];cases hf:jg g.ins.length g.rows g.off with
  |none=>exact⟨⟨h.h,h.r,fun _=>hf⟩,rfl,rfl⟩
  |some op=>obtain⟨f1,f2,_⟩:=wJ hf;refine⟨⟨SH (by omega) f2,fun _=>⟨rfl,rfl⟩,fun e=> ?_⟩,rfl,rfl⟩;have e:((op:Nat):Int)=10:=e;omega
theorem Pj{g:Ga}(h:GCan g)(h1:g.op=10):aU g=g:=by unfold aU;rw[oJ h1,if_neg (by omega),h.c h1]
theorem LM{g:Ga}(h:(gY g).op=10):g.op=10:=by
 unfold gY at h;split at h
 ·split at h
  ·cases h
  ·split at h
   ·cases h
   ·exact h
 ·exact h
theorem wK{g:Ga}(h:(aU g).op=10):aU g=g:=by
 unfold aU at h ⊢;by_cases h1:(gY g).op=10
 ·have hg:=LM h1;rw[if_neg (fun e=>e h1)]at h ⊢;cases hf:jg g.ins.length g.rows g.off with
  |none=>exact oJ hg
  |some op=>rw[hf]at h;have h:((op:Nat):Int)=10:=h;have:=(wJ hf).1;omega
 ·rw[if_pos h1]at h;exact absurd h h1
theorem gy{g:Ga}(h:GOk g):GCan (aK g)/\(aK g).ins=g.ins/\(aK g).name=g.name/\((aK g).op=10->¬((aK g).rows=[]/\(aK g).off=true)):=by
 obtain⟨c1,c2,c3⟩:=nS h;unfold aK;obtain⟨k,hk⟩:∃k,k=aU g:=⟨_,rfl⟩;rw[<-hk]at c1 c2 c3 ⊢;split
 ·rename_i hc;obtain⟨m,hm⟩:∃m:Ga,m={k with rows:=[List.replicate k.ins.length 45],off:=false}:=⟨_,rfl⟩;have hm1:m.op=10:=by rw[hm];exact hc.1
  have hm2:m.rows≠[]:=by rw[hm];simp
  obtain⟨d1,d2,d3⟩:=nS (g:=m) ⟨by rw[hm];exact c1.h,fun e=>absurd hm1 e⟩;rw[<-hm];refine⟨d1,d2.trans (by rw[hm];exact c2),d3.trans (by rw[hm];exact c3),fun e hr=> ?_⟩;rw[wK e]at hr;exact hm2 hr.1
 ·rename_i hc;obtain⟨d1,d2,d3⟩:=nS (g:=k) ⟨c1.h,c1.r⟩;refine⟨d1,d2.trans c2,d3.trans c3,fun e hr=> ?_⟩;have e2:=wK e;rw[e2]at e hr;exact hc ⟨e,hr⟩
theorem IU{g:Ga}(h:GOk g):aU ⟨(aK g).name,10,(aK g).ins,(aQ (aK g)).1,(aQ (aK g)).2⟩=aK g:=by
 obtain⟨c,_,_,_⟩:=gy h;generalize aK g=p at c;obtain⟨name,op,ins,rows,off⟩:=p;by_cases h10:op=10
 ·subst h10;exact Pj c rfl
 ·obtain⟨r1,r2⟩:=c.r h10;have r1:rows=[]:=r1;have r2:off=false:=r2;subst r1 r2;have hh:=c.h;unfold uX at hh;simp only[zqf,zqb]at hh;obtain⟨h0,h1,h2⟩:=hh;have hk:op.toNat<10:=by omega
  have hf:=ES ins.length (zV h2) op.toNat hk h2;have ec:aQ ⟨name,op,ins,[],false⟩=jy op.toNat ins.length:=by unfold aQ;rw[if_neg h10]
  rw[ec];unfold aU;rw[oJ rfl,if_neg (fun h:(10:Int)≠10=>h rfl)];show(match jg ins.length (jy op.toNat ins.length).1 (jy op.toNat ins.length).2 with|some op=>(⟨name,op,ins,[],false⟩:Ga)|none=>_)=_;rw[hf];show(⟨name,((op.toNat:Nat):Int),ins,[],false⟩:Ga)=_;rw[Int.toNat_of_nonneg h0]
end Go.Proofs.YtokppohljajhjaaGreatDoor
