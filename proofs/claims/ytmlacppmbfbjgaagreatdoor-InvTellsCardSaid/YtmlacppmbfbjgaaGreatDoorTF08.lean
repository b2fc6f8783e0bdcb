/- Lemmas for this claim, part F08: each holds under what it names. -/
import Derived.Test.YtmlacppmbfbjgaaGreatDoorTF07
import Derived.Test.YtmlacppmbfbjgaaGreatDoorTA7
import Derived.Test.YtmlacppmbfbjgaaGreatDoorTA8
import Derived.Test.YtmlacppmbfbjgaaGreatDoorTA9
set_option linter.unusedVariables false
set_option linter.unusedSimpArgs false
set_option linter.unnecessarySimpa false
set_option maxRecDepth 20000
set_option maxHeartbeats 8000000
namespace Go.Proofs.YtmlacppmbfbjgaaGreatDoor
open Go Go.Proofs Go.Abs
abbrev S:=List UInt8
abbrev bF (l:List S):V:= .is false 1 (l.map V.str)
theorem jl {l:List S} {r:List V} (hb:V.bnds (bF l::r)):l.length≤maxLen:=by simp only[V.bnds,V.bnd,zra]at hb;exact hb.1.1
theorem xu {l:List S} {i:Nat} (h:i<l.length) (d:V):(List.map V.str l).getD i d= .str l[i]:=fK h _
def I4 (n:Nat) (l:List S):Bool:=decide (l.length≤n)&&l.all fun s=>decide (s.length≤60)
theorem wC (l:List S) (n:Nat):Ev TE 24 [bF l,.int .i64 n] (.bool (I4 n l)):=by
 refine Ev.bnd fun hb=> ?_;have hlen:=jl hb;refine ai Tryz.func24 rfl (by simp[nts]) (vm ?_);simp only[wq.1,Nat.reduceLT,Tryz.results24];refine aB (fun m f h=>∃i,m+i=l.length∧f.t 0=bF l∧f.t 1= .int .i64 n∧f.t 5= .int .i64 (i:Int)∧f.d=[]∧∀s∈l.take i,s.length≤60) l.length ⟨0,by simp,rfl,rfl,rfl,rfl,by simp⟩ ?_;rintro m f h ⟨i,hm,h0,h1,h5,hd,hall⟩;refine vm ?_;simp only[wq.1,seval,h0,h1,h5];refine vcB.mk (fun hc=> ?_) (fun hc=> ?_)
 ·simp only [zqf,zqb,zqi,Int.ofNat_le] at hc;obtain ⟨hc1,hc2⟩ := hc;simp only [wq.1,seval,h0,h5,xu hc1];refine ⟨⟨by omega,by omega⟩,vcB.mk (fun hc => ?_) (fun hc => ?_)⟩
  ·simp only[wq.1,seval,hd];have:I4 n l=false:=by
    simp only[zqb]at hc;have hx:∃x∈l,¬x.length≤60:=⟨l[i],zqu _,by omega⟩;simpa [I4]using fun _=>hx
   rw[this];exact az.dat rfl
  ·simp only [wq.1,seval,h5,aA (show i < maxLen by omega)];refine .inl ⟨m - 1,by omega,i + 1,by omega,h0,h1,rfl,hd,?_⟩;simp only [zqd] at hc;intro s hs;rw [zrg] at hs;simp only [hc1,zqk,Option.toList_some,zrf,zrc] at hs;rcases hs with hs | rfl
   ·exact hall s hs
   ·omega
 ·simp only[wq.1,seval,h0,h1,hd];have:(decide ((l.length:Int)≤n))=I4 n l:=by
   simp only[Bool.and_eq_false_iff,zqd,zqi,Int.ofNat_le]at hc;by_cases hi:i<l.length
   ·have h2 : ¬ l.length ≤ n := by omega
    simp[I4,h2]
   ·rw [zqh (by omega)] at hall;have : (l.all fun s => decide (s.length ≤ 60)) = true := by simpa using hall
    simp[I4,this]
  rw[this];exact az.dat rfl
theorem Vh (l:List S) (s:S):Ev TE 96 [bF l,.str s] (.bool (l.contains s)):=by
 refine Ev.bnd fun hb=> ?_;have hlen:=jl hb;refine ai Tryz.func96 rfl (by simp[nts]) (vm ?_);simp only[wq.1,Nat.reduceLT,Tryz.results96];refine aB (fun m f h=>∃i,m+i=l.length∧f.t 0=bF l∧f.t 1= .str s∧f.t 5= .int .i64 (i:Int)∧f.d=[]∧∀x∈l.take i,¬x=s) l.length ⟨0,by simp,rfl,rfl,rfl,rfl,by simp⟩ ?_;rintro m f h ⟨i,hm,h0,h1,h5,hd,hall⟩;refine vm ?_;simp only[wq.1,seval,h0,h5];refine vcB.mk (fun hc=> ?_) (fun hc=> ?_)
 ·simp only [zqb,zqi] at hc;simp only [wq.1,seval,h0,h1,h5,xu hc];refine ⟨⟨by omega,by omega⟩,vcB.mk (fun hc' => ?_) (fun hc' => ?_)⟩
  ·simp only [wq.1,seval,hd];refine aG rfl ?_;have he : l[i] = s := by simpa using hc'
   have:s∈l:=he▸zqu _;simp[this]
  ·simp only[wq.1,seval,h5,aA (show i<maxLen by omega)];exact .inl ⟨m-1,by omega,i+1,by omega,h0,h1,rfl,hd,aK hc hall (by simpa using hc')⟩
 ·simp only[zqd,zqi]at hc;simp only[wq.1,seval,hd];refine aG rfl ?_;rw[zqh (by omega)]at hall;have:¬s∈l:=fun h=>hall s h rfl;simp[this]
def gV (c:UInt8):Bool:=decide (33≤c.toNat)&&decide (c.toNat≤126)
def bf (s:S):Bool:=s.all gV&&(decide (1≤s.length)&&decide (s.length≤40))
theorem WB {s:S} {i:Nat} (h:i<s.length):s.getD i 0=s[i]:=by simp[zqg,h]
theorem Gw (s:S):Ev TE 95 [.str s] (.bool (bf s)):=by
 refine Ev.bnd fun hb=> ?_;have hlen:s.length≤maxLen:=hb.1;refine ai Tryz.func95 rfl (by simp[nts]) (vm ?_);simp only[wq.1,Nat.reduceLT,Tryz.results95];refine aB (fun m f h=>∃i,m+i=s.length∧f.t 0= .str s∧f.t 3= .int .i64 (i:Int)∧f.d=[]∧∀x∈s.take i,gV x=true) s.length ⟨0,by simp,rfl,rfl,rfl,by simp⟩ ?_;rintro m f h ⟨i,hm,h0,h5,hd,hall⟩;refine vm ?_;simp only[wq.1,seval,h0,h5];refine vcB.mk (fun hc=> ?_) (fun hc=> ?_)
 ·simp only [zqb,zqi] at hc;simp only [wq.1,seval,h0,h5,WB hc];refine ⟨⟨by omega,by omega⟩,fun h => ⟨h,by omega,by omega⟩,vcB.mk (fun hc' => ?_) (fun hc' => ?_)⟩
  ·simp only [wq.1,seval,hd];refine aG rfl ?_;have hx : ∃ x ∈ s,¬ gV x = true := ⟨s[i],zqu _,by simp [gV] at hc' ⊢;omega⟩;have : s.all gV = false := by simpa using hx
   simp[bf,this]
  ·simp only[wq.1,seval,h5,aA (show i<maxLen by omega)];exact .inl ⟨m-1,by omega,i+1,by omega,h0,rfl,hd,aK hc hall (by simp[gV]at hc' ⊢;omega)⟩
 ·simp only [zqd,zqi] at hc;simp only [wq.1,seval,h0,hd];refine aG rfl ?_;rw [zqh (by omega)] at hall;have : s.all gV = true := by simpa using hall
  simp only[bf,this,Bool.true_and,V.bool.injEq]
  congr 1<;>exact decide_eq_decide.2 (by omega)
theorem Gx (l:List S):Ev TE 58 [bF l] (.bool (l.all bf)):=by
 refine Ev.bnd fun hb=> ?_;have hlen:=jl hb;refine ai Tryz.func58 rfl (by simp[nts]) (vm ?_);simp only[wq.1,Nat.reduceLT,Tryz.results58];refine aB (fun m f h=>∃i,m+i=l.length∧f.t 0=bF l∧f.t 3= .int .i64 (i:Int)∧f.d=[]∧∀x∈l.take i,bf x=true) l.length ⟨0,by simp,rfl,rfl,rfl,by simp⟩ ?_;rintro m f h ⟨i,hm,h0,h5,hd,hall⟩;refine vm ?_;simp only[wq.1,seval,h0,h5];refine vcB.mk (fun hc=> ?_) (fun hc=> ?_)
 ·simp only [zqb,zqi] at hc;simp only [wq.1,seval,h0,h5,xu hc];refine ⟨⟨by omega,by omega⟩,ah.ev (Gw _) rfl ?_⟩;simp only [wq.1,seval];refine vcB.mk (fun hc' => ?_) (fun hc' => ?_)
  ·simp only [wq.1,seval,hd];refine aG rfl ?_;have hx : ∃ x ∈ l,¬ bf x = true := ⟨l[i],zqu _,by simpa using hc'⟩;have : l.all bf = false := by simpa using hx
   rw[this]
  ·simp only[wq.1,seval,h5,aA (show i<maxLen by omega)];exact .inl ⟨m-1,by omega,i+1,by omega,h0,rfl,hd,aK hc hall (by simpa using hc')⟩
 ·simp only [zqd,zqi] at hc;simp only [wq.1,seval,hd];refine aG rfl ?_;rw [zqh (by omega)] at hall;have : l.all bf = true := by simpa using hall
  rw[this]
def wE (l:List S):Bool:=decide l.Nodup
theorem yx {l:List S} {i:Nat} (h:i<l.length) (hn:(l.take i).Nodup) (hc:¬l[i]∈l.take i):(l.take (i+1)).Nodup:=by rw[zrg];simp only[h,zqk,Option.toList_some];rw[List.nodup_append];refine⟨hn,by simp,?_⟩;intro a ha b hb hab;simp only[zrc]at hb;subst hb;subst hab;exact hc ha
theorem MB {l:List S} {i:Nat} (h:i<l.length) (hc:l[i]∈l.take i):¬l.Nodup:=by intro hn;obtain⟨j,hj,he⟩:=List.mem_iff_getElem.1 hc;simp only[zrl]at hj;rw[List.getElem_take]at he;have:=(List.getElem_inj (h₀:=by omega) (h₁:=h) hn).1 he;omega
theorem Ac (l:List S):Ev TE 59 [bF l] (.bool (wE l)):=by
 refine Ev.bnd fun hb=> ?_;have hlen:=jl hb;refine ai Tryz.func59 rfl (by simp[nts]) (vm ?_);simp only[wq.1,Nat.reduceLT,Tryz.results59];refine aB (fun m f h=>∃i,m+i=l.length∧f.t 0=bF l∧f.t 3= .int .i64 (i:Int)∧f.d=[]∧(l.take i).Nodup) l.length ⟨0,by simp,rfl,rfl,rfl,by simp⟩ ?_;rintro m f h ⟨i,hm,h0,h5,hd,hall⟩;refine vm ?_;simp only[wq.1,seval,h0,h5];refine vcB.mk (fun hc=> ?_) (fun hc=> ?_)
 ·simp only [zqb,zqi] at hc;have hs : List.take i (List.map V.str l) = List.map V.str (l.take i) := (List.map_take ..).symm;simp only [wq.1,seval,h0,h5,xu hc,hs];refine ⟨by decide +kernel,⟨by omega,by omega⟩,⟨by omega,by omega⟩,ul.mk (Vh _ _) rfl rfl ?_⟩;simp only [wq.1,↓reduceIte];refine vcB.mk (fun hc' => ?_) (fun hc' => ?_)
  ·simp only[wq.1,seval,hd];refine aG rfl ?_;have:=MB hc (by simpa using hc');simp[wE,this]
  ·simp only[wq.1,seval,h5,aA (show i<maxLen by omega)];exact .inl ⟨m-1,by omega,i+1,by omega,h0,rfl,hd,yx hc hall (by simpa using hc')⟩
 ·simp only[zqd,zqi]at hc;simp only[wq.1,seval,hd];refine aG rfl ?_;rw[zqh (by omega)]at hall;simp[wE,hall]
def Vj (n:Int):Bool:=decide (n≤32)||decide (126<n)
theorem Vk (n:Int):Ev TE 103 [.int .i32 n] (.bool (Vj n)):=by refine ai Tryz.func103 rfl (by simp[nts]) (vm ?_);simp only[wq.1,seval,Tryz.results103];exact aG rfl rfl
theorem MC {s:S} {i:Nat} (h:i<s.length) (hb:s[i].toNat<128):FI s i=(s[i].toNat,1):=by
 unfold FI Utf8.decode;have:((ByteArray.mk s.toArray).get! (i+0)).toNat=s[i].toNat:=by
  simp[ByteArray.get!,h]
 simp only[this];rw[if_pos hb]
theorem PL {s:S} {i:Nat} (h:i<s.length) (hb:¬s[i].toNat<128):128≤(FI s i).1:=by
 unfold FI Utf8.decode;have:((ByteArray.mk s.toArray).get! (i+0)).toNat=s[i].toNat:=by
  simp[ByteArray.get!,h]
 simp only[this];rw[if_neg hb]
 repeat' split
 all_goals first
  | (simp[Utf8.runeError];done)
  | (rename_i hc;simp only[zqf,zqb,ge_iff_le]at hc;dsimp only;omega)
  | (rename_i hc;simp only[ge_iff_le]at hc;dsimp only;omega)
theorem PM {s:S} {i:Nat} (h:i<s.length):Vj (FI s i).1= !gV s[i]:=by
 by_cases hb:s[i].toNat<128
 ·rw[MC h hb];refine Bool.eq_iff_iff.2 ?_;simp only[Vj,gV,Bool.or_eq_true,zqb,Bool.not_eq_true',Bool.and_eq_false_iff,zqd];omega
 ·have := PL h hb;have h1 : Vj (FI s i).1 = true := by simp only [Vj,Bool.or_eq_true,zqb];omega
  have h2:gV s[i]=false:=by simp only[gV,Bool.and_eq_false_iff,zqd];omega
  rw[h1,h2];rfl
def I5 (s:S):Option Nat:=s.findIdx? fun c=> !gV c
def QV (s:S):Int:=match I5 s with | some i=>i | none=>-1
theorem MF {s:S} {i:Nat} (h:i<s.length) (hn:∀x∈s.take i,gV x=true) (hb:gV s[i]=false):QV s=i:=by
 have:I5 s=some i:=by
  unfold I5;rw[List.findIdx?_eq_some_iff_getElem];refine⟨h,by simp[hb],fun j hj=> ?_⟩;have:s[j]∈s.take i:=by
   rw[List.mem_take_iff_getElem];exact⟨j,by omega,rfl⟩
  simp[hn _ this]
 simp[QV,this]
theorem CW {s:S} (hn:∀x∈s,gV x=true):QV s=-1:=by
 have:I5 s=none:=by unfold I5;rw[List.findIdx?_eq_none_iff];simpa using hn
 simp[QV,this]
theorem Vl (s:S):Ev TE 133 [.str s,.fn (.func 103) [] [],.bool true] (.int .i64 (QV s)):=by
 refine Ev.bnd fun hb=> ?_;have hlen:s.length≤maxLen:=hb.1;refine ai Tryz.func133 rfl (by simp[nts]) (vm ?_);simp only[wq.1,seval,Tryz.results133];refine aB (fun m f h=>∃i,m+i=s.length∧f.t 1= .fn (.func 103) [] []∧f.t 2= .bool true∧f.t 10= .lp 0 0∧f.d=[]∧h=[.misc (.siter s i)]∧∀x∈s.take i,gV x=true) s.length ⟨0,by simp,rfl,rfl,rfl,rfl,rfl,by simp⟩ ?_;rintro m f h ⟨i,hm,h1,h2,h10,hd,rfl,hall⟩;refine vm ?_;simp only[wq.1,seval,h10];refine nR.mk (fun hc=> ?_) (fun hc=> ?_)
 ·simp only [zqb] at hc;simp only [wq.1,seval,h1,nR];refine ah.ev (Vk _) rfl ?_;rw [PM hc];simp only [wq.1,seval,h2];refine vcB.mk (fun hc' => ?_) (fun hc' => ?_)
  ·have hb : gV s[i] = false := by simpa using hc'
   simp only[wq.1,seval,hd];rw[MF hc hall hb];exact az.dat rfl
  ·have hb : gV s[i] = true := by simpa using hc'
   have h128:s[i].toNat<128:=by simp only[gV,zqf,zqb]at hb;omega
   simp only[wq.1,Int.reduceNeg];exact .inl ⟨m-1,by omega,i+1,by omega,h1,h2,h10,hd,by rw[MC hc h128],aK hc hall hb⟩
 ·simp only[zqd]at hc;simp only[wq.1,seval,hd,nR];rw[zqh (by omega)]at hall;rw[CW hall];exact az.dat rfl
theorem Vm (s:S):Ev TE 104 [.str s,.fn (.func 103) [] []] (.int .i64 (QV s)):=by refine ai Tryz.func104 rfl (by simp[nts]) (vm ?_);simp only[wq.1,seval,Tryz.results104];refine ah.ev (Vl s) rfl ?_;simp only[wq.1,seval];exact az.dat rfl
theorem PN (s:S):decide (QV s<0)=s.all gV:=by
 cases h:s.all gV with
 | true=>rw[CW (by simpa using h)];rfl
 | false =>
  have:∃x∈s,gV x=false:=by simpa using h
  cases hb:I5 s with
  | none=>obtain⟨x,hx,hx2⟩:=this;have:=(List.findIdx?_eq_none_iff.1 hb) x hx;simp[hx2]at this
  | some i=>simp[QV,hb]
theorem PO (s:S):Ev TE 69 [.str s] (.bool (bf s)):=by
 refine ai Tryz.func69 rfl (by simp[nts]) (vm ?_);simp only[wq.1,seval,Tryz.results69];refine AX.ev (q:=104) (vs:=[.str s,.fn (.func 103) [] []]) (by simp only[wq.1,seval]) (by simp only[wq.1,seval]) rfl (fun _=>Vm s) (fun _=>rfl) ?_;simp only[wq.1,seval];refine aG rfl ?_;rw[PN];unfold bf
 congr 1
 have h1:(!s==[])=decide (1≤s.length):=by cases s<;>simp
 have h2:decide ((s.length:Int)≤40)=decide (s.length≤40):=decide_eq_decide.2 (by omega);rw[h1,h2,Bool.and_comm]
theorem uy (s:S):Ev TE 37 [.str s] (.bool (bf s)):=by refine ai Tryz.func37 rfl (by simp[nts]) (vm ?_);simp only[wq.1,seval,Tryz.results37];refine ah.ev (PO s) rfl ?_;simp only[wq.1,seval];exact az.dat rfl
theorem SY (s:S):Ev TE 54 [.str s] (.bool (!bf s)):=by refine ai Tryz.func54 rfl (by simp[nts]) (vm ?_);simp only[wq.1,seval,Tryz.results54];refine ah.ev (uy s) rfl ?_;simp only[wq.1,seval];exact az.dat rfl
def ER (l:List S):Int:=match l.findIdx? fun s=> !bf s with | some i=>i | none=>-1
theorem I7 {l:List S} {i:Nat} (h:i<l.length) (hn:∀x∈l.take i,bf x=true) (hb:bf l[i]=false):ER l=i:=by
 have:l.findIdx? (fun s=> !bf s)=some i:=by
  rw[List.findIdx?_eq_some_iff_getElem];refine⟨h,by simp[hb],fun j hj=> ?_⟩;have:l[j]∈l.take i:=by
   rw[List.mem_take_iff_getElem];exact⟨j,by omega,rfl⟩
  simp[hn _ this]
 simp[ER,this]
theorem yz {l:List S} (hn:∀x∈l,bf x=true):ER l=-1:=by
 have:l.findIdx? (fun s=> !bf s)=none:=by rw[List.findIdx?_eq_none_iff];simpa using hn
 simp[ER,this]
theorem MG (l:List S):decide (0≤ER l)= !(l.all bf):=by
 cases h:l.all bf with
 | true=>rw[yz (by simpa using h)];rfl
 | false =>
  have:∃x∈l,bf x=false:=by simpa using h
  unfold ER;cases hb:l.findIdx? (fun s=> !bf s)with
  | none=>obtain⟨x,hx,hx2⟩:=this;have:=(List.findIdx?_eq_none_iff.1 hb) x hx;simp[hx2]at this
  | some i=>simp
theorem S9 (l:List S):Ev TE 91 [bF l,.fn (.func 54) [] []] (.int .i64 (ER l)):=by
 refine Ev.bnd fun hb=> ?_;have hlen:=jl hb;refine ai Tryz.func91 rfl (by simp[nts]) (vm ?_);simp only[wq.1,seval,Tryz.results91];refine aB (fun m f h=>∃i,m+i=l.length∧f.t 0=bF l∧f.t 1= .fn (.func 54) [] []∧f.t 7= .int .i64 (l.length:Int)∧f.t 8= .int .i64 (i:Int)∧f.d=[]∧∀x∈l.take i,bf x=true) l.length ⟨0,by simp,rfl,rfl,rfl,rfl,rfl,by simp⟩ ?_;rintro m f h ⟨i,hm,h0,h1,h7,h8,hd,hall⟩;refine vm ?_;simp only[wq.1,seval,h7,h8];refine vcB.mk (fun hc=> ?_) (fun hc=> ?_)
 ·simp only [zqb,zqi] at hc;simp only [wq.1,seval,h0,h1,h8,xu hc];refine ⟨⟨by omega,by omega⟩,ah.ev (SY _) rfl ?_⟩;simp only [wq.1,seval];refine vcB.mk (fun hc' => ?_) (fun hc' => ?_)
  ·have hb : bf l[i] = false := by simpa using hc'
   simp only[wq.1,seval,hd];rw[I7 hc hall hb];exact az.dat rfl
  ·have hb : bf l[i] = true := by simpa using hc'
   simp only[wq.1,seval,h8,aA (show i<maxLen by omega)];exact .inl ⟨m-1,by omega,i+1,by omega,h0,h1,h7,rfl,hd,aK hc hall hb⟩
 ·simp only[zqd,zqi]at hc;simp only[wq.1,seval,hd];rw[zqh (by omega)]at hall;rw[yz hall];exact az.dat rfl
theorem Gy (l:List S):Ev TE 55 [bF l,.fn (.func 54) [] []] (.bool (!(l.all bf))):=by refine ai Tryz.func55 rfl (by simp[nts]) (vm ?_);simp only[wq.1,seval,Tryz.results55];refine ah.ev (S9 l) rfl ?_;simp only[wq.1,seval];exact aG rfl (by rw[MG])
theorem I8 {e:E} {h:H} {id len cap:Nat} {l:List Bool} (hc:h[id]? =some (.cells (l.map V.bool))) (hl:len=l.length):az e h (.ls id 1 0 len cap) (eP l) :=
 az.ls hc (ak.dat (Lj l)) (Si l) (Ll l) (by simpa using hl)
theorem qR {e:E} {h:H} {id len cap:Nat} {l:Cl} (hc:h[id]? =some (.cells (l.map vi))) (hl:len=l.length):az e h (.ls id 1 0 len cap) (aH l) :=
 az.ls hc (ak.dat (vM l)) (Le l) (EE l) (by simpa using hl)
abbrev Pq:=Int×Int
abbrev prV (p:Pq):V:= .agg [vi p.1,vi p.2]
abbrev prs (l:List Pq):V:= .is false 2 (l.map prV)
structure Gr where
 ins:Int
 next:Cl
 init:Cl
 ands:List Pq
 outs:Cl
abbrev Gr.v (g:Gr):V:= .agg [vi g.ins,aH g.next,aH g.init,prs g.ands,aH g.outs]
def Gr.first (g:Gr):Int:=1+g.ins+g.next.length
theorem Vo (c:Cl) (q:FuncId) (caps:List V) (p:Int→Bool) (he:aj P q=true) (hd:V.dats caps=true) (hq:∀x∈c,Ev TE q (vi x::caps) (.bool (p x))):Ev TE 157 [aH c,.fn (.func q) [] caps] (vi (idx c p)):=by
 refine Ev.bnd fun hb=> ?_;have hlen:=FY hb;refine ai Tryz.func157 rfl (by simp[nts]) (vm ?_);simp only[wq.1,seval,Tryz.results157];refine aB (fun m f h=>∃i,m+i=c.length∧f.t 0=aH c∧f.t 1= .fn (.func q) [] caps∧f.t 7= .int .i64 (c.length:Int)∧f.t 8= .int .i64 (i:Int)∧f.d=[]∧∀x∈c.take i,p x=false) c.length ⟨0,by simp,rfl,rfl,rfl,rfl,rfl,by simp⟩ ?_;rintro m f h ⟨i,hm,h0,h1,h7,h8,hdd,hall⟩;refine vm ?_;simp only[wq.1,seval,h7,h8];refine vcB.mk (fun hc=> ?_) (fun hc=> ?_)
 ·simp only [zqb,zqi] at hc;simp only [wq.1,seval,h0,h1,h8,ED hc,he];refine ⟨⟨by omega,by omega⟩,ah.ev (hq _ (zqu _)) (by simp [V.dats,V.dat,hd]) ?_⟩;simp only [wq.1,seval];refine vcB.mk (fun hc' => ?_) (fun hc' => ?_)
  ·simp only[wq.1,seval,hdd];rw[jk hc hall hc'];exact az.dat rfl
  ·simp only[wq.1,seval,h8,aA (show i<maxLen by omega)];exact .inl ⟨m-1,by omega,i+1,by omega,h0,h1,h7,rfl,hdd,aK hc hall hc'⟩
 ·simp only[zqd,zqi]at hc;simp only[wq.1,seval,hdd];rw[zqh (by omega)]at hall;rw[iP hall];exact az.dat rfl
theorem Gz (g:Gr) (h0:-1000000000≤g.ins) (h1:g.ins≤1000000000) (h2:g.next.length≤1000000000):Ev TE 125 [g.v] (vi g.first):=by
 unfold Gr.v Gr.first
 refine ai Tryz.func125 rfl (by simp[nts]) (vm ?_);simp only[wq.1,seval,Tryz.results125];rw[dh (n:=1+g.ins) (by omega) (by omega),dh (by omega) (by omega)];exact az.dat rfl
theorem GG (c:Cl) (q:FuncId) (caps:List V) (p:Int→Bool) (he:aj P q=true) (hd:V.dats caps=true) (hq:∀x∈c,Ev TE q (vi x::caps) (.bool (p x))):Ev TE 128 [aH c,.fn (.func q) [] caps] (.bool (c.any p)):=by refine ai Tryz.func128 rfl (by simp[nts]) (vm ?_);simp only[wq.1,seval,Tryz.results128];refine ah.ev (Vo c q caps p he hd hq) (by simp[V.dats,V.dat,hd]) ?_;simp only[wq.1,seval];exact aG rfl (by rw[pK])
def xx (all a:Int):Bool:=decide (a<0)||decide (all≤a)
theorem MH (all a:Int):Ev TE 126 [vi a,.ip (vi all)] (.bool (xx all a)):=by refine ai Tryz.func126 rfl (by simp[nts]) (vm ?_);simp only[wq.1,seval,Tryz.results126];exact aG rfl rfl
def xN (a:Int):Bool:=decide (a<0)||decide (2<a)
theorem Tc (a:Int):Ev TE 127 [vi a] (.bool (xN a)):=by refine ai Tryz.func127 rfl (by simp[nts]) (vm ?_);simp only[wq.1,seval,Tryz.results127];exact aG rfl rfl
def Gr.all (g:Gr):Int:=2*(g.first+g.ands.length)
def Uu (own:Int) (p:Pq):Bool:=decide (p.1<0)||decide (p.2<0)||decide (own≤p.1)||decide (own≤p.2)
def Gr.lim (g:Gr):Bool:=decide (g.ins<0)||decide (4000<g.ins)||decide (4000<g.ins+g.next.length+g.ands.length)||decide (4000<(g.outs.length:Int))
def Gr.oddR (g:Gr):Bool:=(g.init.length != g.next.length)||g.init.any xN||g.next.any (xx g.all)||g.outs.any (xx g.all)
def Gr.oddAs (g:Gr) (n:Nat):Bool:=(List.range n).any fun i=>Uu (2*(g.first+i)) (g.ands.getD i (0,0))
def Gr.chk (g:Gr):Int:=if g.lim then 8 else if g.oddR then 1 else if g.oddAs g.ands.length then 1 else 0
structure Gr.Sm (g : Gr) : Prop where
 next:g.next.length≤200000000000000
 ands:g.ands.length≤200000000000000
def Vp:Plan:= .take 2<| .alt 0 (.alt 1 (.alt 3 (.alt 4 (.alt 5 (.alt 6 (.one 7<| .one 8<| .fin) (.one 7 (.one 6<| .one 8<| .fin))) (.one 7 (.one 5<| .one 6<| .one 8<| .fin))) (.one 7 (.one 4<| .one 5<| .one 6<| .one 8<| .fin))) (.one 7 (.one 3<| .one 4<| .one 5<| .one 6<| .one 8<| .fin))) (.alt 3 (.alt 1 (.alt 4 (.alt 5 (.alt 6 (.one 7<| .one 8<| .fin) (.one 7 (.one 6<| .one 8<| .fin))) (.one 7 (.one 5<| .one 6<| .one 8<| .fin))) (.one 7 (.one 4<| .one 5<| .one 6<| .one 8<| .fin))) (.alt 4 (.alt 1 (.alt 5 (.alt 6 (.one 7<| .one 8<| .fin) (.one 7 (.one 6<| .one 8<| .fin))) (.one 7 (.one 5<| .one 6<| .one 8<| .fin))) (.one 7 (.one 1<| .one 5<| .one 6<| .one 8<| .fin))) (.one 7 (.alt 1 (.one 4<| .one 5<| .one 6<| .one 8<| .fin) (.one 4 (.one 1<| .one 5<| .one 6<| .one 8<| .fin)))))) (.one 7 (.alt 1 (.one 3<| .one 4<| .one 5<| .one 6<| .one 8<| .fin) (.one 3 (.alt 1 (.one 4<| .one 5<| .one 6<| .one 8<| .fin) (.one 4 (.one 1<| .one 5<| .one 6<| .one 8<| .fin)))))))) (.alt 3 (.alt 0 (.alt 1 (.alt 4 (.alt 5 (.alt 6 (.one 7<| .one 8<| .fin) (.one 7 (.one 6<| .one 8<| .fin))) (.one 7 (.one 5<| .one 6<| .one 8<| .fin))) (.one 7 (.one 4<| .one 5<| .one 6<| .one 8<| .fin))) (.alt 4 (.alt 1 (.alt 5 (.alt 6 (.one 7<| .one 8<| .fin) (.one 7 (.one 6<| .one 8<| .fin))) (.one 7 (.one 5<| .one 6<| .one 8<| .fin))) (.one 7 (.one 1<| .one 5<| .one 6<| .one 8<| .fin))) (.one 7 (.alt 1 (.one 4<| .one 5<| .one 6<| .one 8<| .fin) (.one 4 (.one 1<| .one 5<| .one 6<| .one 8<| .fin)))))) (.alt 4 (.alt 0 (.alt 1 (.alt 5 (.alt 6 (.one 7<| .one 8<| .fin) (.one 7 (.one 6<| .one 8<| .fin))) (.one 7 (.one 5<| .one 6<| .one 8<| .fin))) (.one 7 (.one 1<| .one 5<| .one 6<| .one 8<| .fin))) (.one 7 (.one 0<| .one 1<| .one 5<| .one 6<| .one 8<| .fin))) (.one 7 (.alt 0 (.alt 1 (.one 4<| .one 5<| .one 6<| .one 8<| .fin) (.one 4 (.one 1<| .one 5<| .one 6<| .one 8<| .fin))) (.one 4 (.one 0<| .one 1<| .one 5<| .one 6<| .one 8<| .fin)))))) (.one 7 (.alt 0 (.alt 1 (.one 3<| .one 4<| .one 5<| .one 6<| .one 8<| .fin) (.one 3 (.alt 1 (.one 4<| .one 5<| .one 6<| .one 8<| .fin) (.one 4 (.one 1<| .one 5<| .one 6<| .one 8<| .fin))))) (.one 3 (.alt 0 (.alt 1 (.one 4<| .one 5<| .one 6<| .one 8<| .fin) (.one 4 (.one 1<| .one 5<| .one 6<| .one 8<| .fin))) (.one 4 (.one 0<| .one 1<| .one 5<| .one 6<| .one 8<| .fin)))))))
theorem yA (g:Gr) (hs:g.Sm):Ev TE 89 [g.v] (vi g.chk):=by
 obtain⟨hs1,hs2⟩:=hs;unfold Gr.v;refine ai Tryz.func89 rfl (by simp[nts]) (vm ?_);simp only[wq.1,seval,Tryz.results89];have hins:g.lim=false→0≤g.ins∧g.ins≤4000∧g.ins+g.next.length+g.ands.length≤4000∧(g.outs.length:Int)≤4000:=by intro h;simp only[Gr.lim,Bool.or_eq_false_iff,zqd]at h;omega
 have hl:(decide (g.ins<0)||decide (4000<g.ins)||decide (4000<IntKind.i64.wrap (IntKind.i64.wrap (g.ins+(g.next.length:Int))+(g.ands.length:Int)))||decide (4000<(g.outs.length:Int)))=g.lim:=by
  unfold Gr.lim;by_cases a1:g.ins<0
  ·simp[a1]
  by_cases a2:4000<g.ins
  ·simp[a2]
  rw[dh (n:=g.ins+(g.next.length:Int)) (by omega) (by omega),dh (by omega) (by omega)]
 rw[hl];refine vcB.mk (fun hc=> ?_) (fun hc=> ?_)
 ·simp only[wq.1,seval];exact aG rfl (by unfold Gr.chk;rw[if_pos hc])
 ·obtain ⟨i0,i1,i2,i3⟩ := hins hc;simp only [wq.1];refine cu mixed Vp (fun f' h' => f'.t 1 = .lp 0 0 ∧ f'.t 3 = .lp 1 0 ∧ f'.d = [] ∧ h' = [.cells [vi g.ins,aH g.next,aH g.init,prs g.ands,aH g.outs],.cells [vi g.all]]) (by decide +kernel) (by decide +kernel) ?_ ?_
  ·simp only [wq.1,seval,Vp];have wf : g.first = 1 + g.ins + g.next.length := rfl
   have w1:IntKind.i64.wrap (g.first+(g.ands.length:Int))=g.first+g.ands.length:=dh (by omega) (by omega)
   have w2:IntKind.i64.wrap (2*(g.first+(g.ands.length:Int)))=g.all:=dh (by omega) (by omega);have hfi:=Gz g (by omega) (by omega) (by omega);unfold Gr.v at hfi;have dg:V.dats [.agg [vi g.ins,aH g.next,aH g.init,prs g.ands,aH g.outs]]=true:=by simp only[V.dats,V.dat,zre]
   repeat' apply And.intro
   all_goals (refine ah.ev hfi dg ?_)
   all_goals (simp only[wq.1,seval,w1,w2])
   all_goals (first | exact⟨rfl,rfl,rfl,rfl⟩ | trace_state)
  ·rintro f h ⟨h1,h3,hd,rfl⟩;have hlim : g.lim = false := hc;have fin1 : g.oddR = true → az TE [.cells [vi g.ins,aH g.next,aH g.init,prs g.ands,aH g.outs],.cells [vi g.all]] (vi 1) (vi g.chk) := fun h => aG rfl (by unfold Gr.chk;rw [hlim,h];rfl);by_cases e : g.init.length = g.next.length
   ·have e1 : ((g.init.length : Int) != (g.next.length : Int)) = false := by simp [e]
    simp only[wq.1,seval,h1,h3,e1];refine ah.ev (GG g.init 127 [] xN rfl rfl fun x _=>Tc x) rfl ?_;cases hA:g.init.any xN with
    | true=>simp only[wq.1,seval,h1];refine⟨.bool true,?_⟩;simp only[wq.1,seval];refine⟨.bool true,?_⟩;simp only[wq.1,seval,hd];exact fin1 (by simp[Gr.oddR,hA])
    | false =>
     simp only[wq.1,seval,h1];have rf:ak TE [.cells [vi g.ins,aH g.next,aH g.init,prs g.ands,aH g.outs],.cells [vi g.all]] [.fn (.func 126) [] [.lp 1 0]] [.fn (.func 126) [] [.ip (vi g.all)]] :=
      ak.cons (az.fn ak.nil (ak.cons (az.lp rfl (ak.dat rfl) rfl rfl (by simp[V.vc]) rfl) ak.nil)) ak.nil
     refine ah.lend (GG g.next 126 [.ip (vi g.all)] (xx g.all) rfl rfl fun x _=>MH g.all x) (ak.cons (az.dat rfl) rf) rfl ?_;cases hB:g.next.any (xx g.all)with
     | true=>simp only[wq.1,seval,h1];refine⟨.bool true,?_⟩;simp only[wq.1,seval,hd];exact fin1 (by simp[Gr.oddR,hB])
     | false =>
      simp only[wq.1,seval,h1];refine ah.lend (GG g.outs 126 [.ip (vi g.all)] (xx g.all) rfl rfl fun x _=>MH g.all x) (ak.cons (az.dat rfl) rf) rfl ?_;cases hC:g.outs.any (xx g.all)with
      | true=>simp only[wq.1,seval,hd];exact fin1 (by simp[Gr.oddR,hC])
      | false =>
       simp only[wq.1,seval,h1];refine aB (fun m f h=>∃i G,m+i=g.ands.length∧f.t 1= .lp 0 0∧f.t 70=prs g.ands∧f.t 71=vi g.ands.length∧f.t 72=vi i∧f.d=[]∧h=[.cells [vi g.ins,aH g.next,aH g.init,prs g.ands,aH g.outs],.cells [vi g.all]]++G∧g.oddAs i=false) g.ands.length ⟨0,[],by simp,by simp only[wq.1,seval,h1],by simp only[wq.1,seval],by simp only[wq.1,seval],rfl,by simp only[wq.1,hd],by simp,rfl⟩ ?_;rintro m f h ⟨i,G,hm,h1,h70,h71,h72,hd,rfl,hno⟩;refine vm ?_;simp only[wq.1,seval,h71,h72];refine vcB.mk (fun hlt=> ?_) (fun hlt=> ?_)
       ·simp only [zqb,zqi] at hlt;have hg : (g.ands.map prV).getD i .any = prV g.ands[i] := fK hlt _;have hM : maxLen = 9223372036854775807 := rfl;have hgE : ∀ x : O,(G ++ [x])[G.length]? = some x := fun x => by simp
        have hgS:∀x y:O,(G++[x]).set G.length y=G++[y]:=fun x y=>by simp
        have dg:V.dats [.agg [vi g.ins,aH g.next,aH g.init,prs g.ands,aH g.outs]]=true:=by simp only[V.dats,V.dat,zre]
        have wf:g.first=1+g.ins+g.next.length:=rfl
        have w1:IntKind.i64.wrap (g.first+(i:Int))=g.first+i:=dh (by omega) (by omega)
        have w2:IntKind.i64.wrap (2*(g.first+(i:Int)))=2*(g.first+i):=dh (by omega) (by omega);have hfi:=Gz g (by omega) (by omega) (by omega);unfold Gr.v at hfi;simp only[wq.1,seval,-Int.reduceNatCast,-Int.reduceNatCast',ax,Tryz.results89,h1,h70,h71,h72,hd,hg,Int.toNat_natCast,hgE,hgS,List.drop_nil];refine⟨⟨by omega,by omega⟩,ah.ev hfi dg ?_⟩;simp only[wq.1,seval,-Int.reduceNatCast,-Int.reduceNatCast',ax,Tryz.results89,aX,h1,h70,h71,h72,hd,w1,w2,hgE,hgS,aA (show i<maxLen by omega)];refine⟨by decide,fun _=>by decide,fun _=>by decide,fun _=>by decide,vcB.mk (fun hb=> ?_) (fun hb=> ?_)⟩
        ·simp only[wq.1,↓reduceIte,Nat.reduceLT,hd];refine aG rfl ?_;unfold Gr.chk;rw[hlim,if_neg (by simp),if_neg (by simp[Gr.oddR,e,hA,hB,hC]),if_pos];simp only[Gr.oddAs,List.any_eq_true,List.mem_range];refine⟨i,hlt,?_⟩;rw[iD hlt];exact hb
        ·simp only[wq.1,seval,h72,aA (show i<maxLen by omega)];refine .inl ⟨m-1,by omega,i+1,G++[.cells [vi g.ands[i].1,vi g.ands[i].2]],by omega,h1,h70,h71,rfl,hd,rfl,?_⟩;simp only[Gr.oddAs,List.range_succ,List.any_append,List.any_cons,List.any_nil,Bool.or_false,Bool.or_eq_false_iff];refine⟨hno,?_⟩;rw[iD hlt];exact hb
       ·simp only [zqd,zqi] at hlt;simp only [wq.1,seval,hd];have hi : i = g.ands.length := by omega
        refine aG rfl ?_;unfold Gr.chk;rw[hlim,if_neg (by simp),if_neg (by simp[Gr.oddR,e,hA,hB,hC]),←hi,hno];rfl
   ·have e1 : ((g.init.length : Int) != (g.next.length : Int)) = true := by simpa [Int.natCast_inj] using e
    simp only[wq.1,seval,h1,h3,e1];refine⟨.bool true,?_⟩;simp only[wq.1,seval,h1];refine⟨.bool true,?_⟩;simp only[wq.1,seval];refine⟨.bool true,?_⟩;simp only[wq.1,seval,hd];exact fin1 (by simp[Gr.oddR,e])
theorem I9 (n : Nat) (hn : n ≤ 1000000000) (h : H) (R : AEnd → H → (Nat → Bool) → Prop) (hr0 : n = 0 → R (.ret .nils) h (fun _ => false))
 (hr:0<n→R (.ret (.ls h.length 1 0 0 n)) (h++[.cells (List.replicate n (.str []))]) (fun _=>false)):ah TE 131 [.nils,vi n] h R:=by
 refine au Tryz.func131 rfl (by simp[nts]) ?_;refine ag (vm ?_);simp only[wq.1,Nat.reduceLT,Tryz.results131];refine ag ?_;refine vm ?_;simp only[wq.1,seval];refine vcB.mk (fun hc=> ?_) (fun hc=> ?_)
 ·simp only[zqb]at hc;omega
 simp only[wq.1];refine ag (ag (gK ?_));refine aF rfl rfl ?_;simp only[wq.1,seval];refine aF rfl rfl ?_;simp only[wq.1,seval];refine eH rfl rfl ?_;have hq:ti TE.P 26=some ⟨.slice 9,1,24,.nils⟩:=by simp only[wq.1]
 have hqe:ti TE.P 9=some ⟨.str,1,16,.str []⟩:=by simp only[wq.1]
 have hqi:ti TE.P 3=some ⟨.int .i64,1,8,.int .i64 0⟩:=by simp only[wq.1]
 refine kM (t:=26) rfl rfl hq rfl trivial rfl ?_;refine aF rfl rfl ?_;simp only[wq.1,seval];refine aF rfl rfl ?_;simp only[wq.1,↓reduceIte];refine aF rfl rfl ?_;simp only[wq.1,seval];refine aF rfl rfl ?_;simp only[wq.1,seval];refine aF rfl rfl ?_;simp only[wq.1,↓reduceIte];have w0:IntKind.i64.wrap 0=0:=by decide
 have w1:IntKind.i64.wrap ((n:Int)-0)=n:=by rw[Int.sub_zero];exact dh (by omega) (by omega)
 refine gq ?_;simp only[wq.1,w0,w1];refine ag ?_;refine vm ?_;simp only[wq.1,seval];refine bG (b:=decide ((0:Int)<n)) (by simp only[wq.1,↓reduceIte]) (by simp only[wq.1,↓reduceIte]) (fun hb=> ?_) (fun hb=> ?_)
 ·have hpos : 0 < n := by simp only [zqb] at hb;omega
  refine gK ?_;refine aF rfl rfl ?_;simp only[wq.1,seval];refine aF rfl rfl ?_;simp only[wq.1,seval];refine eH rfl rfl ?_;refine kM (t:=26) rfl rfl hq rfl trivial rfl ?_;refine eH rfl rfl ?_;refine oV rfl hq rfl hqe (by simp only[wq.1,seval]) (by simp only[wq.1,seval]) (by simp only[wq.1,↓reduceIte]) (k:= .i64) (by simp only[wq.1,↓reduceIte]) ?_;refine aF rfl rfl ?_;simp only[wq.1,seval];refine eH rfl rfl ?_;refine nV (x:= .tmp 20) (y:= .tmp 21) (t:=26) (xt:=3) (el:=9) ⟨⟨_,rfl,rfl,rfl⟩,hq,rfl,hqe,rfl,rfl,Nat.zero_lt_one⟩ (by simp only[wq.1,seval]) (by simp only[wq.1,↓reduceIte]) (by simp only[wq.1,seval]) (by simp only[wq.1,↓reduceIte]) hqi rfl hpos (by omega) ?_ rfl (zv:= .str []) rfl ?_
  ·show n*16≤_;omega
  refine aF rfl rfl ?_;simp only[wq.1,seval];refine aF rfl rfl ?_;simp only[wq.1,↓reduceIte];refine aF rfl rfl ?_;simp only[wq.1,seval];refine⟨by omega,?_⟩;refine aF rfl rfl ?_;simp only[wq.1,↓reduceIte];refine gq ?_;simp only[wq.1];refine vm ?_;simp only[wq.1,seval];exact hr hpos
 ·have : n = 0 := by simp only [zqd] at hb;omega
  refine vm ?_;simp only[wq.1];refine vm ?_;simp only[wq.1,seval];exact hr0 this
theorem Ja {α:Type} (ls:List (List α)) (i:Nat):ls.flatten=(ls.take i).flatten++(ls.drop i).flatten:=by rw[←List.flatten_append,List.take_append_drop]
theorem iR {α:Type} {ls:List (List α)} {i:Nat} (h:i<ls.length):(ls.take (i+1)).flatten=(ls.take i).flatten++ls[i]:=by rw[zrg,List.flatten_append];simp[h]
theorem uz {α:Type} {ls:List (List α)} {i:Nat} (h:i<ls.length):(ls.take i).flatten.length+ls[i].length≤ls.flatten.length:=by have h1:=congrArg List.length (Ja ls (i+1));rw[iR h]at h1;simp only[zqa]at h1;omega
def WR (n:Nat) (c:List S) (v:V) (h:H):Prop :=
 (c=[]∧v= .nils∧h=[]∧n=0)∨(c.length≤n∧v= .ls 0 1 0 c.length n∧h=[.cells (c.map V.str++List.replicate (n-c.length) (.str []))])
theorem PP (n:Nat) (hn:n≤1000000000) (R:AEnd→H→(Nat→Bool)→Prop) (hr:∀v h,WR n [] v h→R (.ret v) h (fun _=>false)):ah TE 131 [.nils,vi n] [] R :=
 I9 n hn [] R (fun hz=>hr _ _ (.inl ⟨rfl,rfl,rfl,hz⟩)) (fun hz=>hr _ _ (.inr ⟨Nat.zero_le _,rfl,rfl⟩))
theorem Ad : ∀ l : List S,bM (l.map V.str) = true
 | []=>rfl
 | a::l=>by simp only[zrd,bM,Ad l,V.one,V.vc,zrk];rfl
theorem ES (c l:List S) (n:Nat) (h:c.length+l.length≤n):bY (c.map V.str++List.replicate (n-c.length) (.str [])) c.length (l.map V.str)=(c++l).map V.str++List.replicate (n-(c++l).length) (.str []):=by
 unfold bY;have e1:(c.map V.str++List.replicate (n-c.length) (V.str [])).take c.length=c.map V.str:=by
  simp
 have e2:(c.map V.str++List.replicate (n-c.length) (V.str [])).drop (c.length+(l.map V.str).length)=List.replicate (n-(c++l).length) (V.str []):=by
  rw[List.drop_append];have:(c.map V.str).drop (c.length+(l.map V.str).length)=[]:=List.drop_of_length_le (by simp);rw[this,List.nil_append,List.drop_replicate]
  congr 1
  simp only[zra,zqa];omega
 rw[e1,e2,zql]
theorem ET (ls:List (List S)) (hn:ls.flatten.length≤1000000000) (hls:ls.length≤1000000000):EvF TE 99 [.is true 1 (ls.map bF)] 1 ls.flatten.length (ls.flatten.map V.str):=by
 have hM:maxLen=9223372036854775807:=rfl;have hget:∀ {i:Nat} (h:i<ls.length) (d:V),(ls.map bF).getD i d=bF ls[i]:=fun h d=>fK h d;unfold EvF;refine au Tryz.func99 rfl (by simp[nts]) (vm ?_);simp only[wq.1,seval,Tryz.results99];refine aB (fun m f h=>∃i,m+i=ls.length∧f.t 0= .is true 1 (ls.map bF)∧f.t 3=vi (ls.take i).flatten.length∧f.t 9= .is true 1 (ls.map bF)∧f.t 10=vi ls.length∧f.t 11=vi i∧f.d=[]∧h=[]) ls.length ⟨0,by simp,rfl,rfl,rfl,by simp only[wq.1,seval],rfl,rfl,rfl⟩ ?_;rintro m f h ⟨i,hm,h0,h3,h9,h10,h11,hd,rfl⟩;refine vm ?_;simp only[wq.1,seval,h10,h11];refine vcB.mk (fun hc=> ?_) (fun hc=> ?_)
 ·simp only[zqb,zqi]at hc;have hfl:=uz hc;have hw:IntKind.i64.wrap (((ls.take i).flatten.length:Int)+(ls[i].length:Int))=((ls.take (i+1)).flatten.length:Int):=by
   rw[iR hc,zqa,aU (by omega) (by omega)];omega
  simp only[wq.1,seval,h3,h9,h11,hget hc,hw];refine⟨⟨by omega,by omega⟩,vcB.mk (fun hc'=> ?_) (fun hc'=> ?_)⟩
  ·simp only[zqb]at hc';omega
  ·simp only[wq.1,seval,h11,aA (show i<maxLen by omega)];exact .inl ⟨m-1,by omega,i+1,by omega,h0,rfl,h9,h10,rfl,hd,rfl⟩
 ·simp only [zqd,zqi] at hc;have hi : ls.take i = ls := zqh (by omega);rw [hi] at h3;simp only [wq.1,seval,h3];refine PP ls.flatten.length hn _ (fun v0 h0' hcat => ?_);simp only [wq.1,seval,h0];refine aB (fun m f h => ∃ i v,m + i = ls.length ∧ f.t 25 = .is true 1 (ls.map bF) ∧ f.t 26 = vi ls.length ∧ f.t 27 = vi i ∧ f.t 6 = v ∧ f.d = [] ∧ WR ls.flatten.length (ls.take i).flatten v h) ls.length ⟨0,v0,by simp,by simp only [wq.1,seval],by simp only [wq.1,seval],rfl,rfl,by simp only [wq.1,hd],by simpa using hcat⟩ ?_;rintro m f h ⟨i,v,hm,h25,h26,h27,h6,hd,hcat⟩;refine vm ?_;simp only [wq.1,seval,h26,h27];refine vcB.mk (fun hc => ?_) (fun hc => ?_)
  ·simp only [zqb,zqi] at hc;have hfl := uz hc;have hnext : f.t 27 = vi i → IntKind.i64.wrap ((i : Int) + 1) = ((i + 1 : Nat) : Int) := fun _ => aA (by omega);rcases hcat with ⟨hc0,rfl,rfl,hn0⟩ | ⟨hcl,rfl,rfl⟩
   ·have hl0:ls[i]=[]:=List.eq_nil_of_length_eq_zero (by omega);simp only[wq.1,seval,h25,h27,h6,hget hc,hl0,aA (show i<maxLen by omega)];refine⟨⟨by omega,by omega⟩,by omega,.inl ⟨m-1,by omega,i+1,_,by omega,h25,h26,rfl,rfl,hd,?_⟩⟩;right;rw[iR hc,hl0,hc0,hn0];exact⟨zrb _,rfl,rfl⟩
   ·by_cases hlt : (ls.take i).flatten.length < ls.flatten.length
    ·have hdt : decide ((ls.take i).flatten.length < ls.flatten.length) = true := by simpa using hlt
     simp only[wq.1,seval,h25,h27,h6,hget hc,aA (show i<maxLen by omega),Ad,hdt];refine⟨⟨by omega,by omega⟩,⟨by omega,by omega,by rw[List.length_replicate];omega⟩,.inl ⟨m-1,by omega,i+1,_,by omega,h25,h26,rfl,rfl,hd,?_⟩⟩;right;rw[iR hc];refine⟨by rw[zqa];omega,by simp only[wq.1,seval],?_⟩;have hsp:=ES (ls.take i).flatten ls[i] ls.flatten.length hfl;unfold bY at hsp;rw[zra]at hsp;rw[Nat.mul_one,hsp]
    ·have hdt : decide ((ls.take i).flatten.length < ls.flatten.length) = false := by simpa using hlt
     have hl0:ls[i]=[]:=List.eq_nil_of_length_eq_zero (by omega);have hne:(ls.take i).flatten.length=ls.flatten.length:=by omega
     simp only[wq.1,seval,h25,h27,h6,hd,hget hc,aA (show i<maxLen by omega),hdt,hl0];refine⟨⟨by omega,by omega⟩,⟨by rw[List.length_replicate];omega,by omega,by omega⟩,.inl ⟨m-1,by omega,i+1,_,by omega,by simp only[wq.1,seval,h25],by simp only[wq.1,seval,h26],rfl,rfl,hd,?_⟩⟩;right;rw[iR hc,hl0,zqp,hne,Nat.sub_self];refine⟨zrb _,by simp only[wq.1,seval],?_⟩;simp only[List.replicate_zero,V.drops]
  ·simp only [zqd,zqi] at hc;have hi : ls.take i = ls := zqh (by omega);rw [hi] at hcat;simp only [wq.1,seval,h6,hd];rcases hcat with ⟨hc0,rfl,rfl,hn0⟩ | ⟨hcl,rfl,rfl⟩
   ·exact .inl ⟨rfl,hn0,by rw[hc0];rfl⟩
   ·rw[Nat.sub_self,List.replicate_zero,zqp];exact .inr ⟨0,_,rfl,zrb _,rfl⟩
theorem yB (ls:List (List S)) (hn:ls.flatten.length≤1000000000) (hls:ls.length≤1000000000):Ev TE 99 [.is true 1 (ls.map bF)] (bF ls.flatten):=by
 refine(ET ls hn hls).ev (fun _ hc=> ?_) (fun h' id cap _ hid=>jy hid rfl) (fun _ hc h'=> ?_)
 ·rw[List.map_eq_nil_iff.1 hc];exact iZ
 ·rw[List.map_eq_nil_iff.1 hc];exact az.nils
theorem qU {p : Nat → Bool} : ∀ l : List Bool,V.drops p (l.map V.bool) = l.map V.bool
 | []=>rfl
 | a::l=>by simp only[zrd,V.drops,V.drop,qU l]
theorem Vq (c:List S) (q:FuncId) (caps:List V) (p:S→Bool) (he:aj P q=true) (hd:V.dats caps=true) (hq:∀x∈c,Ev TE q (.str x::caps) (.bool (p x))):Ev TE 91 [bF c,.fn (.func q) [] caps] (vi (idx c p)):=by
 refine Ev.bnd fun hb=> ?_;have hlen:=jl hb;refine ai Tryz.func91 rfl (by simp[nts]) (vm ?_);simp only[wq.1,seval,Tryz.results91];refine aB (fun m f h=>∃i,m+i=c.length∧f.t 0=bF c∧f.t 1= .fn (.func q) [] caps∧f.t 7= .int .i64 (c.length:Int)∧f.t 8= .int .i64 (i:Int)∧f.d=[]∧∀x∈c.take i,p x=false) c.length ⟨0,by simp,rfl,rfl,rfl,rfl,rfl,by simp⟩ ?_;rintro m f h ⟨i,hm,h0,h1,h7,h8,hdd,hall⟩;refine vm ?_;simp only[wq.1,seval,h7,h8];refine vcB.mk (fun hc=> ?_) (fun hc=> ?_)
 ·simp only [zqb,zqi] at hc;simp only [wq.1,seval,h0,h1,h8,xu hc,he];refine ⟨⟨by omega,by omega⟩,ah.ev (hq _ (zqu _)) (by simp [V.dats,V.dat,hd]) ?_⟩;simp only [wq.1,seval];refine vcB.mk (fun hc' => ?_) (fun hc' => ?_)
  ·simp only[wq.1,seval,hdd];rw[jk hc hall hc'];exact az.dat rfl
  ·simp only[wq.1,seval,h8,aA (show i<maxLen by omega)];exact .inl ⟨m-1,by omega,i+1,by omega,h0,h1,h7,rfl,hdd,aK hc hall hc'⟩
 ·simp only[zqd,zqi]at hc;simp only[wq.1,seval,hdd];rw[zqh (by omega)]at hall;rw[iP hall];exact az.dat rfl
theorem Vr (c:List S) (q:FuncId) (caps:List V) (p:S→Bool) (he:aj P q=true) (hd:V.dats caps=true) (hq:∀x∈c,Ev TE q (.str x::caps) (.bool (p x))):Ev TE 55 [bF c,.fn (.func q) [] caps] (.bool (c.any p)):=by refine ai Tryz.func55 rfl (by simp[nts]) (vm ?_);simp only[wq.1,seval,Tryz.results55];refine ah.ev (Vq c q caps p he hd hq) (by simp[V.dats,V.dat,hd]) ?_;simp only[wq.1,seval];exact aG rfl (by rw[pK])
def jA (s:S):Bool:= !bf s
theorem PQ (s:S):Ev TE 130 [.str s] (.bool (jA s)):=by refine ai Tryz.func130 rfl (by simp[nts]) (vm ?_);simp only[wq.1,seval,Tryz.results130];refine ah.ev (uy s) rfl ?_;simp only[wq.1,seval];exact az.dat rfl
theorem EU (l:List S):Ev TE 97 [bF l] (.bool (l.any jA)):=by refine ai Tryz.func97 rfl (by simp[nts]) (vm ?_);simp only[wq.1,seval,Tryz.results97];refine ah.ev (Vr l 130 [] jA rfl rfl fun x _=>PQ x) rfl ?_;simp only[wq.1,seval];exact az.dat rfl
def at? : List S → S → Option Nat
 | [],_=>none
 | x::l,s=>if x=s then some 0 else(at? l s).map (·+1)
theorem jd (s : S) : ∀ (ks : List S),jC .str (.str s) (ks.map V.str) = some (at? ks s)
 | []=>rfl
 | k::ks=>by
  simp only[zrd,jC,keq,at?];by_cases h:k=s
  ·subst h;simp
  ·have : (s == k) = false := by simpa using fun h' => h h'.symm
   rw[this,jd s ks,if_neg h];cases at? ks s<;>rfl
theorem og : ∀ {l : List S} {s : S} {n : Nat},at? l s = some n → ∃ h : n < l.length,l[n] = s
 | [],s,n,h=>by cases h
 | x::l,s,n,h=>by
  simp only[at?]at h;split at h
  ·rename_i he;cases h;exact⟨by simp,he⟩
  ·cases hl:at? l s with
   | none=>rw[hl]at h;cases h
   | some k=>rw[hl]at h;cases h;obtain⟨h1,h2⟩:=og hl;exact⟨by simpa using h1,by simpa using h2⟩
theorem Ae : ∀ {l : List S} {s : S},s ∈ l → ∃ n,at? l s = some n
 | x::l,s,h=>by
  by_cases hx:x=s
  ·exact⟨0,by simp[at?,hx]⟩
  ·have:s∈l:=by
    rcases zrj.1 h with h | h
    ·exact absurd h.symm hx
    ·exact h
   obtain⟨n,hn⟩:=Ae this;exact⟨n+1,by simp[at?,hx,hn]⟩
theorem PR {l:List S} {s:S} (h:s∉l):at? l s=none:=by
 cases hh:at? l s with
 | none=>rfl
 | some n=>obtain⟨h1,h2⟩:=og hh;exact absurd (h2▸zqu h1) h
def qV (l:List S):Bool:= !decide l.Nodup
theorem CX (l:List S):Ev TE 98 [bF l] (.bool (qV l)):=by
 refine Ev.bnd fun hb=> ?_;have hlen:=jl hb;refine ai Tryz.func98 rfl (by simp[nts]) (vm ?_);simp only[wq.1,seval,Tryz.results98];refine aB (fun m f h=>∃i,m+i=l.length∧f.t 3= .lm 0∧f.t 7=bF l∧f.t 8= .int .i64 (l.length:Int)∧f.t 9= .int .i64 (i:Int)∧f.d=[]∧h=[.map ((l.take i).map V.str) (List.replicate i (.bool true))]∧(l.take i).Nodup) l.length ⟨0,by simp,rfl,rfl,rfl,rfl,rfl,rfl,by simp⟩ ?_;rintro m f h ⟨i,hm,h3,h7,h8,h9,hd,rfl,hnd⟩;refine vm ?_;simp only[wq.1,seval,h8,h9];refine vcB.mk (fun hc=> ?_) (fun hc=> ?_)
 ·simp only [zqb,zqi] at hc;have hsucc : l.take (i + 1) = l.take i ++ [l[i]] := by rw [zrg];simp [hc]
  cases hat:at? (l.take i) l[i]with
  | some n =>
   obtain⟨g1,g2⟩:=og hat;have hn:n<i:=by simpa using(Nat.lt_of_lt_of_le g1 (by simp;omega))
   have hg:(List.replicate i (V.bool true)).getD n .any= .bool true:=by simp[zqg,hn]
   simp only[wq.1,seval,h3,h7,h9,hd,xu hc,ui,jd,K.keyOk,hat,hg];refine⟨⟨by omega,by omega⟩,?_⟩;have:¬l.Nodup:=by
    intro h;rw[←List.take_append_drop (i+1) l,hsucc]at h;have h2:=(List.nodup_append.1 (List.nodup_append.1 h).1).2.2;exact h2 l[i] (g2▸zqu g1) l[i] (by simp) rfl
   exact aG rfl (by simp[qV,this])
  | none =>
   have hnm:l[i]∉l.take i:=fun h=>by obtain⟨n,hn⟩:=Ae h;rw[hn]at hat;cases hat
   simp only[wq.1,seval,h3,h7,h9,xu hc,ui,Jw,jd,K.keyOk,hat];refine⟨⟨by omega,by omega⟩,.inl ⟨m-1,by omega,i+1,by omega,h3,h7,h8,by rw[aA (by omega)];rfl,hd,?_,?_⟩⟩
   ·rw[hsucc,zql,List.replicate_succ'];rfl
   ·rw[hsucc];refine List.nodup_append.2 ⟨hnd,by simp,fun a ha b hb h=> ?_⟩;simp only[zrc]at hb;exact hnm (by rw[←hb,←h];exact ha)
 ·simp only[zqd,zqi]at hc;simp only[wq.1,seval,hd];rw[zqh (by omega)]at hnd;exact aG rfl (by simp[qV,hnd])
theorem MI (c:List S) (s:S):Ev TE 132 [bF c,.str s] (vi (idx c (·==s))):=by
 refine Ev.bnd fun hb=> ?_;have hlen:=jl hb;refine ai Tryz.func132 rfl (by simp[nts]) (vm ?_);simp only[wq.1,seval,Tryz.results132];refine aB (fun m f h=>∃i,m+i=c.length∧f.t 0=bF c∧f.t 1= .str s∧f.t 7= .int .i64 (c.length:Int)∧f.t 8= .int .i64 (i:Int)∧f.d=[]∧∀x∈c.take i,(x==s)=false) c.length ⟨0,by simp,rfl,rfl,rfl,rfl,rfl,by simp⟩ ?_;rintro m f h ⟨i,hm,h0,h1,h7,h8,hdd,hall⟩;refine vm ?_;simp only[wq.1,seval,h7,h8];refine vcB.mk (fun hc=> ?_) (fun hc=> ?_)
 ·simp only [zqb,zqi] at hc;simp only [wq.1,seval,h0,h1,h8,xu hc];refine ⟨⟨by omega,by omega⟩,vcB.mk (fun hc' => ?_) (fun hc' => ?_)⟩
  ·simp only[wq.1,seval,hdd];rw[jk hc hall (by rw[beq_iff_eq]at hc' ⊢;exact hc'.symm)];exact az.dat rfl
  ·simp only[wq.1,seval,h8,aA (show i<maxLen by omega)];exact .inl ⟨m-1,by omega,i+1,by omega,h0,h1,h7,rfl,hdd,aK hc hall (by rw[beq_eq_false_iff_ne]at hc' ⊢;exact hc'.symm)⟩
 ·simp only[zqd,zqi]at hc;simp only[wq.1,↓reduceIte,Nat.reduceLT,Int.reduceNeg,hdd];rw[zqh (by omega)]at hall;rw[iP hall];exact az.dat rfl
structure Mo where
 g:Gr
 ins:List S
 lat:List S
 out:List S
abbrev Mo.v (m:Mo):V:= .agg [vi m.g.ins,aH m.g.next,aH m.g.init,prs m.g.ands,aH m.g.outs,bF m.ins,bF m.lat,bF m.out]
def Mo.place (m:Mo) (s:S):Int:=if idx (m.ins++m.lat) (·==s)<0 then -1 else idx (m.ins++m.lat) (·==s)+1
theorem GH {α:Type} (l:List α) (p:α→Bool):-1≤idx l p∧idx l p<l.length:=by
 unfold idx;cases h:l.findIdx? p with
 | none=>exact⟨Int.le_refl _,by show(-1:Int)<_;omega⟩
 | some i=>have:=(List.findIdx?_eq_some_iff_getElem.1 h).1;exact⟨by show(-1:Int)≤(i:Int);omega,by show(i:Int)<_;omega⟩
theorem MJ (m:Mo) (s:S) (h1:m.ins.length+m.lat.length≤1000000):Ev TE 100 [m.v,.str s] (vi (m.place s)):=by
 have hcat:=yB [m.ins,m.lat] (by simp;omega) (by simp);have hfl:[m.ins,m.lat].flatten=m.ins++m.lat:=by simp
 rw[hfl]at hcat;have hi:=GH (m.ins++m.lat) (·==s);rw[zqa]at hi;unfold Mo.v;refine ai Tryz.func100 rfl (by simp[nts]) (vm ?_);simp only[wq.1,↓reduceIte,Nat.reduceEqDiff,Nat.reduceLT,Nat.reduceLeDiff,Nat.reduceAdd,Int.reduceNeg,reduceCtorEq,Nat.reduceMul,Tryz.results100];refine⟨⟨rfl,by decide⟩,ah.ev hcat rfl ?_⟩;simp only[wq.1,seval];refine ah.ev (MI _ _) rfl ?_;unfold Mo.place;simp only[wq.1,seval];refine vcB.mk (fun hc=> ?_) (fun hc=> ?_)
 ·simp only[wq.1,seval];simp only[zqb]at hc;exact aG rfl (by rw[if_pos hc])
 ·simp only[wq.1,seval];simp only[zqd]at hc;rw[dh (n:=idx (m.ins++m.lat) (fun x=>x==s)+1) (by omega) (by omega)];exact aG rfl (by rw[if_neg hc])
def Mo.lens (m:Mo):Bool:=((m.ins.length:Int) != m.g.ins)||((m.lat.length:Int) != (m.g.next.length:Int))||((m.out.length:Int) != (m.g.outs.length:Int))
def Mo.names (m:Mo):Bool:=m.ins.any jA||m.lat.any jA||m.out.any jA
def Mo.twos (m:Mo):Bool:=qV (m.ins++m.lat)||qV m.out
def Mo.other (m:Mo) (n:Nat):Bool:=(List.range n).any fun i=>decide (0≤m.place (m.out.getD i []))&&m.g.outs.getD i 0 != 2*m.place (m.out.getD i [])
def Mo.chk (m:Mo):Int:=if m.g.chk≠0 then m.g.chk else if m.lens then 1 else if m.names then 4 else if m.twos then 5 else if m.other m.out.length then 5 else 0
structure Gr.Ok (g : Gr) : Prop where
 lim:g.lim=false
 i0:0≤g.ins
 i1:g.ins≤4000
 i2:g.ins+g.next.length+g.ands.length≤4000
 i3:(g.outs.length:Int)≤4000
 row:g.oddR=false
 ands:g.oddAs g.ands.length=false
theorem jL {g:Gr} (h:g.chk=0):g.Ok:=by
 unfold Gr.chk at h;split at h
 ·cases h
 ·rename_i h1;split at h
  ·cases h
  ·rename_i h2;split at h
   ·cases h
   ·rename_i h3;have h1 : g.lim = false := by simpa using h1
    have h2':=h1;simp only[Gr.lim,Bool.or_eq_false_iff,zqd]at h2';exact⟨h1,by omega,by omega,by omega,by omega,by simpa using h2,by simpa using h3⟩
theorem yC {m:Mo} {i n:Nat} (h:i≤n) (ho:m.other i=true):m.other n=true:=by unfold Mo.other at ho ⊢;rw[List.any_eq_true]at ho ⊢;obtain⟨x,hx,h2⟩:=ho;exact⟨x,List.mem_range.2 (by have:=List.mem_range.1 hx;omega),h2⟩
theorem MK (m:Mo) (hs:m.g.Sm):Ev TE 60 [m.v] (vi m.chk):=by
 have hgc:=yA m.g hs;unfold Gr.v at hgc;unfold Mo.v;have dg:V.dats [.agg [vi m.g.ins,aH m.g.next,aH m.g.init,prs m.g.ands,aH m.g.outs]]=true:=by simp only[V.dats,V.dat,zre]
 refine ai Tryz.func60 rfl (by simp[nts]) (vm ?_);simp only[wq.1,seval,Tryz.results60];refine ah.ev hgc dg ?_;simp only[wq.1,seval];refine vcB.mk (fun hc=> ?_) (fun hc=> ?_)
 ·simp only[wq.1,seval];exact aG rfl (by unfold Mo.chk;rw[if_pos (by simpa using hc)])
 ·have hg : m.g.chk = 0 := by simpa using hc
  have go:=jL hg;obtain⟨_,i0,i1,i2,i3,_,_⟩:=go;have fin1:m.lens=true→vi 1=vi m.chk:=fun h=>by unfold Mo.chk;rw[if_neg (by simp[hg]),if_pos h]
  cases hl1:(m.ins.length:Int) != m.g.ins with
  | true=>simp only[wq.1,seval,hl1];exact aG rfl (fin1 (by simp[Mo.lens,hl1]))
  | false =>
   cases hl2:(m.lat.length:Int) != (m.g.next.length:Int)with
   | true=>simp only[wq.1,seval,hl1,hl2];exact aG rfl (fin1 (by simp[Mo.lens,hl2]))
   | false =>
    cases hl3:(m.out.length:Int) != (m.g.outs.length:Int)with
    | true=>simp only[wq.1,seval,hl1,hl2,hl3];exact aG rfl (fin1 (by simp[Mo.lens,hl3]))
    | false =>
     have hlens:m.lens=false:=by simp only[Mo.lens,hl1,hl2,hl3,Bool.or_false]
     have fin4:m.names=true→vi 4=vi m.chk:=fun h=>by unfold Mo.chk;rw[if_neg (by simp[hg]),if_neg (by simp[hlens]),if_pos h]
     simp only[bne_eq_false_iff_eq]at hl1 hl2 hl3;simp only[wq.1,seval,hl1,hl2,hl3,bne_self_eq_false];refine ah.ev (EU m.ins) rfl ?_;cases hn1:m.ins.any jA with
     | true=>simp only[wq.1,seval];exact aG rfl (fin4 (by simp[Mo.names,hn1]))
     | false =>
      simp only[wq.1,seval];refine ah.ev (EU m.lat) rfl ?_;cases hn2:m.lat.any jA with
      | true=>simp only[wq.1,seval];exact aG rfl (fin4 (by simp[Mo.names,hn2]))
      | false =>
       simp only[wq.1,seval];refine ah.ev (EU m.out) rfl ?_;cases hn3:m.out.any jA with
       | true=>simp only[wq.1,↓reduceIte,Nat.reduceLT];exact aG rfl (fin4 (by simp[Mo.names,hn3]))
       | false =>
        have hnames:m.names=false:=by simp only[Mo.names,hn1,hn2,hn3,Bool.or_false]
        have fin5:m.twos=true→vi 5=vi m.chk:=fun h=>by unfold Mo.chk;rw[if_neg (by simp[hg]),if_neg (by simp[hlens]),if_neg (by simp[hnames]),if_pos h]
        have hcat:=yB [m.ins,m.lat] (by simp;omega) (by simp);rw[show [m.ins,m.lat].flatten=m.ins++m.lat by simp]at hcat;simp only[wq.1,↓reduceIte,Nat.reduceEqDiff,Nat.reduceLT,Nat.reduceLeDiff,Nat.reduceAdd,reduceCtorEq,Nat.reduceMul];refine⟨⟨rfl,by decide⟩,ah.ev hcat rfl ?_⟩;simp only[wq.1,seval];refine ah.ev (CX _) rfl ?_;cases ht1:qV (m.ins++m.lat)with
        | true=>simp only[wq.1,seval];exact aG rfl (fin5 (by simp[Mo.twos,ht1]))
        | false =>
         simp only[wq.1,seval];refine ah.ev (CX _) rfl ?_;cases ht2:qV m.out with
         | true=>simp only[wq.1,seval];exact aG rfl (fin5 (by simp[Mo.twos,ht2]))
         | false =>
          have htwos:m.twos=false:=by simp only[Mo.twos,ht1,ht2,Bool.or_false]
          simp only[wq.1,seval];refine aB (fun k f h=>∃i,k+i=m.out.length∧f.t 1= .lp 0 0∧f.t 60=bF m.out∧f.t 61=vi m.out.length∧f.t 62=vi i∧f.d=[]∧h= .cells [vi m.g.ins,aH m.g.next,aH m.g.init,prs m.g.ands,aH m.g.outs,bF m.ins,bF m.lat,bF m.out]::[]∧m.other i=false) m.out.length ⟨0,by simp,rfl,rfl,rfl,rfl,rfl,rfl,rfl⟩ ?_;rintro k f h ⟨i,hk,h1,h60,h61,h62,hd,rfl,hno⟩;refine vm ?_;simp only[wq.1,seval,h61,h62];have hM:maxLen=9223372036854775807:=rfl;refine vcB.mk (fun hc=> ?_) (fun hc=> ?_)
          ·simp only [zqb,zqi] at hc;have hc3 : i < m.g.outs.length := by omega
           have hpl:=GH (m.ins++m.lat) (·==m.out[i]);rw[zqa]at hpl;have hpr:-1≤m.place m.out[i]∧m.place m.out[i]≤4000:=by unfold Mo.place;split<;>omega
           have hgo:m.out.getD i []=m.out[i]:=iD hc;have hgg:m.g.outs.getD i 0=m.g.outs[i]:=iD hc3;have hplace:=MJ m m.out[i] (by omega);have dm:V.dats [m.v,.str m.out[i]]=true:=by simp only[V.dats,V.dat,zre]
           unfold Mo.v at hplace dm;have w2:IntKind.i64.wrap (2*m.place m.out[i])=2*m.place m.out[i]:=dh (by omega) (by omega);simp only[wq.1,seval,h1,h60,h62,xu hc];refine⟨⟨by omega,by omega⟩,ah.ev hplace dm ?_⟩;have hother:m.other (i+1)=(m.other i||(decide (0≤m.place m.out[i])&&m.g.outs[i] != 2*m.place m.out[i])):=by
            unfold Mo.other;rw[List.range_succ,List.any_append,List.any_cons,List.any_nil,Bool.or_false,hgo,hgg]
           cases hp:decide (0≤m.place m.out[i])with
           | false=>rw[hp,hno]at hother;simp only[wq.1,seval,h1,h62,hp,ED hc3,aA (show i<maxLen by omega)];exact .inl ⟨k-1,by omega,i+1,by omega,h1,h60,h61,rfl,hd,rfl,hother⟩
           | true =>
            rw[hp,hno]at hother;cases hq:m.g.outs[i] != 2*m.place m.out[i]with
            | true=>simp only[wq.1,seval,h1,hd,hp,ED hc3,w2,hq];refine⟨⟨by omega,by omega⟩,aG rfl ?_⟩;rw[hq]at hother;unfold Mo.chk;rw[if_neg (by simp[hg]),if_neg (by simp[hlens]),if_neg (by simp[hnames]),if_neg (by simp[htwos]),if_pos];refine yC (by omega) (hother.trans rfl)
            | false=>rw[hq]at hother;simp only[wq.1,seval,h1,h62,hp,ED hc3,w2,hq,aA (show i<maxLen by omega)];refine⟨⟨by omega,by omega⟩,.inl ⟨k-1,by omega,i+1,by omega,h1,h60,h61,rfl,hd,rfl,hother⟩⟩
          ·simp only [zqd,zqi] at hc;have hi : i = m.out.length := by omega
           simp only[wq.1,seval,hd];refine aG rfl ?_;unfold Mo.chk;rw[if_neg (by simp[hg]),if_neg (by simp[hlens]),if_neg (by simp[hnames]),if_neg (by simp[htwos]),←hi,if_neg (by simp[hno])]
structure Wi where
 bad:Int
 st:Cl
 steps:List Cl
abbrev Wi.v (w:Wi):V:= .agg [vi w.bad,aH w.st,cls w.steps]
theorem kT {g:Gr} (h:g.oddR=false):g.init.length=g.next.length∧(∀a∈g.init,0≤a∧a≤2)∧(∀a∈g.next,0≤a∧a<g.all)∧(∀a∈g.outs,0≤a∧a<g.all):=by simp only[Gr.oddR,Bool.or_eq_false_iff,bne_eq_false_iff_eq,List.any_eq_false,xN,xx,Bool.not_eq_true,zqd]at h;obtain⟨⟨⟨h1,h2⟩,h3⟩,h4⟩:=h;exact⟨h1,fun a ha=>by have:=h2 a ha;omega,fun a ha=>by have:=h3 a ha;omega,fun a ha=>by have:=h4 a ha;omega⟩
def lv (v:List Bool) (a:Int):Bool:=v.getD (a/2).toNat false != (a%2==1)
theorem WS {a:Int} (h0:0≤a) (h1:a≤1000000000):IntKind.i64.wrap ((BitVec.ofInt IntKind.i64.bits a &&& BitVec.ofInt IntKind.i64.bits 1).toNat:Int)=a%2:=by
 obtain⟨n,rfl⟩:∃n:Nat,a=n:=⟨a.toNat,by omega⟩;have e1:(BitVec.ofInt IntKind.i64.bits (n:Int) &&& BitVec.ofInt IntKind.i64.bits 1).toNat=n%2:=by
  show(BitVec.ofInt 64 (n:Int) &&& BitVec.ofInt 64 1).toNat=n%2;rw[BitVec.toNat_and];have:(BitVec.ofInt 64 (n:Int)).toNat=n:=by simp;omega
  rw[this];show n &&& 1=n%2;exact Nat.and_one_is_mod n
 rw[e1,dh (by omega) (by omega)];omega
theorem WC (a:Int):a.fdiv (2^(min 1 IntKind.i64.bits))=a/2:=by show a.fdiv 2=a/2;rw[Int.fdiv_eq_ediv_of_nonneg _ (by decide)]
def WE (g:Gr) (st ins:List Bool) (n:Nat):List Bool:=(g.ands.take n).foldl (fun v p=>v++[lv v p.1&&lv v p.2]) ([false]++ins++st)
def Gr.vals (g:Gr) (st ins:List Bool):List Bool:=WE g st ins g.ands.length
def Gr.valE (g:Gr) (st ins:List Bool):Int:=if g.chk≠0 then g.chk else if((st.length:Int) != (g.next.length:Int))||((ins.length:Int) != g.ins)then 11 else 0
theorem GK {g:Gr} (h:g.oddAs g.ands.length=false) {i:Nat} (hi:i<g.ands.length):0≤g.ands[i].1∧0≤g.ands[i].2∧g.ands[i].1<2*(g.first+i)∧g.ands[i].2<2*(g.first+i):=by unfold Gr.oddAs at h;rw[List.any_eq_false]at h;have:=h i (List.mem_range.2 hi);rw[iD hi]at this;simp only[Uu,Bool.or_eq_true,zqb,not_or]at this;omega
def Gr.out (g:Gr) (st ins:List Bool):List Bool:=if g.valE st ins=0 then g.outs.map (lv (g.vals st ins))else []
def xO (row:Cl) (a:Int):Int:=if a%2=1 then -(row.getD (a/2).toNat 0)else row.getD (a/2).toNat 0
structure UA where
 n:Nat
 cl:List Cl
 row:Cl
def We (s:UA) (p:Pq):UA :=
 ⟨s.n+1,s.cl++[[-((s.n:Int)+1),xO s.row p.1],[-((s.n:Int)+1),xO s.row p.2],[(s.n:Int)+1,-xO s.row p.1,-xO s.row p.2]],s.row++[(s.n:Int)+1]⟩
def JB (n k:Nat):Cl:=(List.range k).map fun i:Nat=>(n:Int)+(i:Int)+1
def Wh (g:Gr) (n:Nat) (lat:Cl):Cl:=-1::(JB n g.ins.toNat++lat)
structure US where
 n:Nat
 cl:List Cl
 rows:List Cl
 lat:Cl
def US.ands (g:Gr) (u:US) (i:Nat):UA:=(g.ands.take i).foldl We ⟨u.n+g.ins.toNat,u.cl,Wh g u.n u.lat⟩
def US.step (g:Gr) (u:US):US:=⟨(u.ands g g.ands.length).n,(u.ands g g.ands.length).cl,u.rows++[(u.ands g g.ands.length).row],g.next.map (xO (u.ands g g.ands.length).row)⟩
def wF (s:Nat×Cl) (b:Int):Nat×Cl:=if b=2 then(s.1+1,s.2++[(s.1:Int)+1])else(s.1,s.2++[2*b-1])
def EW (l:Cl):Nat×Cl:=l.foldl wF (1,[])
def gz (g : Gr) (b : Cl) : Nat → US
 | 0=>⟨(EW b).1,[[1]],[],(EW b).2⟩
 | k+1=>(gz g b k).step g
theorem gI {g:Gr} {u:US} {i:Nat} (h:i<g.ands.length):u.ands g (i+1)=We (u.ands g i) g.ands[i]:=by unfold US.ands;rw[zrg,zqk h,List.foldl_append];rfl
theorem oh {g : Gr} {u : US} : ∀ {i : Nat},i ≤ g.ands.length → (u.ands g i).n = u.n + g.ins.toNat + i
 | 0,_=>rfl
 | i+1,h=>by rw[gI (by omega)];show(u.ands g i).n+1=_;rw[oh (by omega)];omega
theorem iF {g : Gr} {u : US} : ∀ {i : Nat},i ≤ g.ands.length → (u.ands g i).row.length = 1 + g.ins.toNat + u.lat.length + i
 | 0,_=>by simp[US.ands,Wh,JB];omega
 | i+1,h=>by rw[gI (by omega)];show((u.ands g i).row++[_]).length=_;rw[zqa,iF (by omega),zrk];omega
def inU (n:Nat) (a:Int):Prop:=a≠0∧-(n:Int)≤a∧a≤n
theorem inU.mono {n k:Nat} {a:Int} (h:inU n a) (hk:n≤k):inU k a:=⟨h.1,by have:=h.2;omega,by have:=h.2;omega⟩
theorem inU.neg {n:Nat} {a:Int} (h:inU n a):inU n (-a):=⟨by have:=h.1;omega,by have:=h.2;omega,by have:=h.2;omega⟩
def Jb (n:Nat) (row:Cl):Prop:=∀a∈row,inU n a
def Vs (n:Nat) (l:List Cl):Prop:=∀c∈l,∀a∈c,inU n a
theorem Af {row:Cl} {k:Nat} (h:k<row.length):row.getD k 0∈row:=by rw[iD h];exact zqu h
theorem wG {n:Nat} {row:Cl} (h:Jb n row) {a:Int} (h0:0≤a) (ha:a/2<row.length):inU n (xO row a):=by
 have:=h _ (Af (k:=(a/2).toNat) (by omega));unfold xO;split
 ·exact this.neg
 ·exact this
structure UAok (s : UA) : Prop where
 r:Jb s.n s.row
 c:Vs s.n s.cl
theorem Td {s:UA} (h:UAok s) {p:Pq} (h1:0≤p.1) (h2:0≤p.2) (h3:p.1/2<s.row.length) (h4:p.2/2<s.row.length):UAok (We s p):=by
 have hv:inU (s.n+1) ((s.n:Int)+1):=⟨by omega,by omega,by omega⟩;have a1:=(wG h.r h1 h3).mono (Nat.le_succ s.n);have a2:=(wG h.r h2 h4).mono (Nat.le_succ s.n);refine⟨fun a ha=> ?_,fun c hc a ha=> ?_⟩
 ·rcases zrf.1 ha with ha | ha
  ·exact(h.r a ha).mono (Nat.le_succ _)
  ·rw[zrc.1 ha];exact hv
 ·rcases zrf.1 hc with hc | hc
  ·exact(h.c c hc a ha).mono (Nat.le_succ _)
  ·simp only [zrj,zrp,or_false] at hc;rcases hc with rfl | rfl | rfl
   ·simp only [zrj,zrp,or_false] at ha;rcases ha with rfl | rfl
    ·exact hv.neg
    ·exact a1
   ·simp only [zrj,zrp,or_false] at ha;rcases ha with rfl | rfl
    ·exact hv.neg
    ·exact a2
   ·simp only [zrj,zrp,or_false] at ha;rcases ha with rfl | rfl | rfl
    ·exact hv
    ·exact a1.neg
    ·exact a2.neg
theorem yD : ∀ (l : Cl) (s : Nat × Cl),(∀ b ∈ l,0 ≤ b ∧ b ≤ 2) → 1 ≤ s.1 → Jb s.1 s.2 → s.1 ≤ (l.foldl wF s).1 ∧ (l.foldl wF s).1 ≤ s.1 + l.length ∧ Jb (l.foldl wF s).1 (l.foldl wF s).2 ∧ (l.foldl wF s).2.length = s.2.length + l.length
 | [],s,_,_,hr=>⟨zrb _,zrb _,hr,rfl⟩
 | b::l,s,hl,hp,hr=>by
  have hb:=hl b (by simp);have hl':∀b∈l,0≤b∧b≤2:=fun b h=>hl b (by simp[h]);rw[List.foldl_cons];by_cases h:b=2
  ·have e : wF s b = (s.1 + 1,s.2 ++ [(s.1 : Int) + 1]) := by unfold wF;rw [if_pos h]
   rw[e];obtain⟨a1,a2,a3,a4⟩:=yD l (s.1+1,s.2++[(s.1:Int)+1]) hl' (by simp) (fun a ha=>by
    rcases zrf.1 ha with ha | ha
    ·exact(hr a ha).mono (Nat.le_succ _)
    ·rw[zrc.1 ha];exact⟨by omega,by omega,by simp⟩)
   simp only[zqa,zrk]at a1 a2 a4;exact⟨by omega,by rw[zrt];omega,a3,by rw[zrt];omega⟩
  ·have e : wF s b = (s.1,s.2 ++ [2 * b - 1]) := by unfold wF;rw [if_neg h]
   rw[e];obtain⟨a1,a2,a3,a4⟩:=yD l (s.1,s.2++[2*b-1]) hl' hp (fun a ha=>by
    rcases zrf.1 ha with ha | ha
    ·exact hr a ha
    ·rw[zrc.1 ha];exact⟨by omega,by omega,by omega⟩)
   simp only[zqa,zrk]at a1 a2 a4;exact⟨a1,by rw[zrt];omega,a3,by rw[zrt];omega⟩
def nx (g:Gr) (st x:List Bool):List Bool:=g.next.map (lv (g.vals st x))
def Vt (g:Gr):Nat:=1+g.ins.toNat+g.next.length+g.ands.length
structure USok (g : Gr) (u : US) : Prop where
 l:u.lat.length=g.next.length
 lo:Jb u.n u.lat
 c:Vs u.n u.cl
 r:∀r∈u.rows,Jb u.n r∧r.length=Vt g
 one:1≤u.n
theorem oK {g : Gr} (hg : g.chk = 0) {u : US} (h : USok g u) : ∀ {i : Nat},i ≤ g.ands.length → UAok (u.ands g i)
 | 0,_=>by
  refine⟨fun a ha=> ?_,fun c hc a ha=>(h.c c hc a ha).mono (Nat.le_add_right _ _)⟩;have ha:a∈-1::(JB u.n g.ins.toNat++u.lat):=ha;show inU (u.n+g.ins.toNat) a;have h1:=h.one;rcases zrj.1 ha with rfl | ha
  ·exact⟨by omega,by omega,by omega⟩
  ·rcases zrf.1 ha with ha | ha
   ·obtain⟨i,hi,rfl⟩:=zrh.1 ha;have:=List.mem_range.1 hi;exact⟨by omega,by omega,by omega⟩
   ·exact(h.lo a ha).mono (Nat.le_add_right _ _)
 | i+1,hi=>by
  obtain⟨_,i0,i1,i2,i3,i4,i5⟩:=jL hg;have hl:=iF (u:=u) (g:=g) (i:=i) (by omega);obtain⟨o1,o2,o3,o4⟩:=GK i5 (show i<g.ands.length by omega);have wf:g.first=1+g.ins+g.next.length:=rfl
  have hll:=h.l;rw[gI (by omega)];exact Td (oK hg h (by omega)) o1 o2 (by omega) (by omega)
theorem Jc {g:Gr} (hg:g.chk=0) {u:US} (h:USok g u):USok g (u.step g):=by
 obtain⟨_,i0,i1,i2,i3,i4,i5⟩:=jL hg;obtain⟨r1,r2,r3,r4⟩:=kT i4;have ok:=oK hg h (zrb g.ands.length);have hl:=iF (u:=u) (g:=g) (zrb g.ands.length);have hn:=oh (u:=u) (g:=g) (zrb g.ands.length);have wf:g.first=1+g.ins+g.next.length:=rfl
 have wa:g.all=2*(g.first+g.ands.length):=rfl;have wv:Vt g=1+g.ins.toNat+g.next.length+g.ands.length:=rfl
 have hll:=h.l;have h1:=h.one;refine⟨by simp[US.step],fun a ha=> ?_,ok.c,fun r hr=> ?_,?_⟩
 ·obtain⟨b,hb,rfl⟩:=zrh.1 ha;have:=r3 b hb;exact wG ok.r this.1 (by omega)
 ·rcases zrf.1 hr with hr | hr
  ·obtain⟨a1,a2⟩:=h.r r hr;exact⟨fun a ha=>(a1 a ha).mono (by show u.n≤(u.ands g g.ands.length).n;omega),a2⟩
  ·rw[zrc.1 hr];exact⟨ok.r,by omega⟩
 ·show 1≤(u.ands g g.ands.length).n;omega
theorem CY {g : Gr} (hg : g.chk = 0) {b : Cl} (hb : b.length = g.next.length) (hb2 : ∀ x ∈ b,0 ≤ x ∧ x ≤ 2) : ∀ k,USok g (gz g b k)
 | 0=>by obtain⟨a1,a2,a3,a4⟩:=yD b (1,[]) hb2 (zrb _) (fun a ha=>by cases ha);refine⟨by show(EW b).2.length=_;unfold EW;rw[a4];simpa using hb,a3,fun c hc a ha=> ?_,fun r hr=>(by cases hr),a1⟩;have hc:c=[1]:=zrc.1 hc;subst hc;rw[zrc.1 ha];have:1≤(gz g b 0).n:=a1;exact⟨by decide,by omega,by omega⟩
 | k+1=>Jc hg (CY hg hb hb2 k)
end Go.Proofs.YtmlacppmbfbjgaaGreatDoor
