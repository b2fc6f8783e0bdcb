/- Lemmas for this claim, part F14: each holds under what it names. -/
import Derived.Test.YtmlacppmbfbjgaaGreatDoorTF13
import Derived.Shelf.Sort.Plain
import Derived.Shelf.Strings.Count
import Derived.Shelf.Strings.LastIndex
import Derived.Shelf.Small.Strs
import Derived.Shelf.Strings.OnBuilder
import Derived.Shelf.Strings.Search1
import Derived.Lib.Builder
import Derived.Lib.UnsafeStr
import Derived.Test.YtmlacppmbfbjgaaGreatDoorTA8
import Derived.Test.YtmlacppmbfbjgaaGreatDoorTA7
import Derived.Laws.Externs
set_option linter.unusedVariables false
set_option linter.unusedSimpArgs false
set_option linter.unnecessarySimpa false
set_option maxRecDepth 100000
set_option maxHeartbeats 8000000
namespace Go.Proofs.YtmlacppmbfbjgaaGreatDoor
open Go Go.Proofs Go.Abs Go.RowKit Go.Shelf Go.Lib Go.Sort
def TV:Go.Shelf.Ren:=⟨fun | 217=>161 | 266=>177 | n=>n,fun | 9=>9 | 5=>5 | 3=>3 | n=>n,fun | n=>n⟩
theorem WL : Go.Proofs.Lays.n217 Tryz.prog TV where
 mixed:=by kernel_rfl
 f217:=Tryz.func161.trans (congrArg some (by kernel_rfl))
 f266:=Tryz.func177.trans (congrArg some (by kernel_rfl))
 t3:=Tryz.underlying3
 a3:=Tryz.isAgg3
 z3:=Tryz.sizeOf3
 v3:=Tryz.zeroValue3
 t5:=Tryz.underlying5
 a5:=Tryz.isAgg5
 z5:=Tryz.sizeOf5
 v5:=Tryz.zeroValue5
 t9:=Tryz.underlying9
 a9:=Tryz.isAgg9
 z9:=Tryz.sizeOf9
 v9:=Tryz.zeroValue9
def Qg:Go.Shelf.Ren:=⟨fun | 138=>109 | 195=>136 | 218=>138 | 143=>110 | 219=>139 | 217=>161 | 225=>162 | 224=>163 | 267=>164 | 266=>177 | 314=>178 | n=>n,fun | 9=>9 | 3=>3 | 4=>4 | 5=>5 | 0=>0 | 46=>161 | 146=>219 | 51=>218 | n=>n,fun | 1=>1 | n=>n⟩
theorem VV : Go.Proofs.Lays.n138 Tryz.prog Qg where
 mixed:=by kernel_rfl
 f138:=Tryz.func109.trans (congrArg some (by kernel_rfl))
 f143:=Tryz.func110.trans (congrArg some (by kernel_rfl))
 f195:=Tryz.func136.trans (congrArg some (by kernel_rfl))
 f217:=Tryz.func161.trans (congrArg some (by kernel_rfl))
 f218:=Tryz.func138.trans (congrArg some (by kernel_rfl))
 f219:=Tryz.func139.trans (congrArg some (by kernel_rfl))
 f224:=Tryz.func163.trans (congrArg some (by kernel_rfl))
 f225:=Tryz.func162.trans (congrArg some (by kernel_rfl))
 f266:=Tryz.func177.trans (congrArg some (by kernel_rfl))
 f267:=Tryz.func164.trans (congrArg some (by kernel_rfl))
 f314:=Tryz.func178.trans (congrArg some (by kernel_rfl))
 t0:=Tryz.underlying0
 a0:=Tryz.isAgg0
 z0:=Tryz.sizeOf0
 v0:=Tryz.zeroValue0
 t3:=Tryz.underlying3
 a3:=Tryz.isAgg3
 z3:=Tryz.sizeOf3
 v3:=Tryz.zeroValue3
 t4:=Tryz.underlying4
 a4:=Tryz.isAgg4
 z4:=Tryz.sizeOf4
 v4:=Tryz.zeroValue4
 t5:=Tryz.underlying5
 a5:=Tryz.isAgg5
 z5:=Tryz.sizeOf5
 v5:=Tryz.zeroValue5
 t9:=Tryz.underlying9
 a9:=Tryz.isAgg9
 z9:=Tryz.sizeOf9
 v9:=Tryz.zeroValue9
 t46:=Tryz.underlying161
 a46:=Tryz.isAgg161
 z46:=Tryz.sizeOf161
 v46:=Tryz.zeroValue161
 t51:=Tryz.underlying218
 a51:=Tryz.isAgg218
 z51:=Tryz.sizeOf218
 v51:=Tryz.zeroValue218
 t146:=Tryz.underlying219
 a146:=Tryz.isAgg219
 z146:=Tryz.sizeOf219
 v146:=Tryz.zeroValue219
 g1:=by kernel_rfl
def DD:Go.Shelf.Ren:=⟨fun | 148=>135 | 222=>158 | 223=>159 | 269=>176 | n=>n,fun | 9=>9 | 3=>3 | 4=>4 | 5=>5 | 146=>219 | 51=>218 | 46=>161 | n=>n,fun | n=>n⟩
theorem Jo : Go.Proofs.Lays.n148 Tryz.prog DD where
 mixed:=by kernel_rfl
 f148:=Tryz.func135.trans (congrArg some (by kernel_rfl))
 f222:=Tryz.func158.trans (congrArg some (by kernel_rfl))
 f223:=Tryz.func159.trans (congrArg some (by kernel_rfl))
 f269:=Tryz.func176.trans (congrArg some (by kernel_rfl))
 t3:=Tryz.underlying3
 a3:=Tryz.isAgg3
 z3:=Tryz.sizeOf3
 v3:=Tryz.zeroValue3
 t4:=Tryz.underlying4
 a4:=Tryz.isAgg4
 z4:=Tryz.sizeOf4
 v4:=Tryz.zeroValue4
 t5:=Tryz.underlying5
 a5:=Tryz.isAgg5
 z5:=Tryz.sizeOf5
 v5:=Tryz.zeroValue5
 t9:=Tryz.underlying9
 a9:=Tryz.isAgg9
 z9:=Tryz.sizeOf9
 v9:=Tryz.zeroValue9
 t46:=Tryz.underlying161
 a46:=Tryz.isAgg161
 z46:=Tryz.sizeOf161
 v46:=Tryz.zeroValue161
 t51:=Tryz.underlying218
 a51:=Tryz.isAgg218
 z51:=Tryz.sizeOf218
 v51:=Tryz.zeroValue218
 t146:=Tryz.underlying219
 a146:=Tryz.isAgg219
 z146:=Tryz.sizeOf219
 v146:=Tryz.zeroValue219
def NQ:Go.Shelf.Ren:=⟨fun | 156=>40 | 165=>71 | 166=>39 | 169=>41 | 240=>70 | 241=>106 | 276=>105 | 277=>134 | n=>n,fun | 31=>26 | 9=>9 | 3=>3 | 4=>4 | 0=>0 | 20=>20 | 72=>94 | 76=>99 | 70=>91 | 37=>92 | 75=>98 | 127=>138 | 164=>170 | 5=>5 | 80=>96 | n=>n,fun | n=>n⟩
theorem VW : Go.Proofs.Lays.n156 Tryz.prog NQ where
 mixed:=by kernel_rfl
 f156:=Tryz.func40.trans (congrArg some (by kernel_rfl))
 f165:=Tryz.func71.trans (congrArg some (by kernel_rfl))
 f166:=Tryz.func39.trans (congrArg some (by kernel_rfl))
 f169:=Tryz.func41.trans (congrArg some (by kernel_rfl))
 f240:=Tryz.func70.trans (congrArg some (by kernel_rfl))
 f241:=Tryz.func106.trans (congrArg some (by kernel_rfl))
 f276:=Tryz.func105.trans (congrArg some (by kernel_rfl))
 f277:=Tryz.func134.trans (congrArg some (by kernel_rfl))
 t0:=Tryz.underlying0
 a0:=Tryz.isAgg0
 z0:=Tryz.sizeOf0
 v0:=Tryz.zeroValue0
 t3:=Tryz.underlying3
 a3:=Tryz.isAgg3
 z3:=Tryz.sizeOf3
 v3:=Tryz.zeroValue3
 t4:=Tryz.underlying4
 a4:=Tryz.isAgg4
 z4:=Tryz.sizeOf4
 v4:=Tryz.zeroValue4
 t9:=Tryz.underlying9
 a9:=Tryz.isAgg9
 z9:=Tryz.sizeOf9
 v9:=Tryz.zeroValue9
 t20:=Tryz.underlying20
 a20:=Tryz.isAgg20
 z20:=Tryz.sizeOf20
 v20:=Tryz.zeroValue20
 t31:=Tryz.underlying26
 a31:=Tryz.isAgg26
 z31:=Tryz.sizeOf26
 v31:=Tryz.zeroValue26
 t37:=Tryz.underlying92
 a37:=Tryz.isAgg92
 z37:=Tryz.sizeOf92
 v37:=Tryz.zeroValue92
 t70:=Tryz.underlying91
 a70:=Tryz.isAgg91
 z70:=Tryz.sizeOf91
 v70:=Tryz.zeroValue91
 t72:=Tryz.underlying94
 a72:=Tryz.isAgg94
 z72:=Tryz.sizeOf94
 v72:=Tryz.zeroValue94
 t75:=Tryz.underlying98
 a75:=Tryz.isAgg98
 z75:=Tryz.sizeOf98
 v75:=Tryz.zeroValue98
 t76:=Tryz.underlying99
 a76:=Tryz.isAgg99
 z76:=Tryz.sizeOf99
 v76:=Tryz.zeroValue99
 t127:=Tryz.underlying138
 a127:=Tryz.isAgg138
 z127:=Tryz.sizeOf138
 v127:=Tryz.zeroValue138
 t164:=Tryz.underlying170
 a164:=Tryz.isAgg170
 z164:=Tryz.sizeOf170
 v164:=Tryz.zeroValue170
theorem yM {c:C} {l:S} {x:Value} (h:VRel c (.str l) x):x= .string ⟨l.toArray⟩:=by
 simp only[VRel]at h;obtain⟨s,rfl,h,_⟩:=h
 congr 1
 rw[←h]
theorem DF (s:S) (c:UInt8):Ev TE 109 [.str s,.str [c]] (vi (s.count c:Nat)):=by intro ok w vs hs hl;simp only[VList]at hl;obtain⟨y,ys,rfl,h1,y2,ys2,rfl,h2,rfl⟩:=hl;have:=yM h1;subst this;have:=yM h2;subst this;refine Calls.mono (Any.strings_Count_one VV ⟨s.toArray⟩ c w) ?_;rintro en w' ⟨rfl,rfl⟩;exact⟨_,rfl,WExt.refl _,by simp only[VRel];rfl⟩
theorem Qh (s:S) (c:UInt8) (hs0:s.length≤1000000000):Ev TE 135 [.str s,.str [c]] (vi (Lib.lastIndexByte ⟨s.toArray⟩ c.toNat)):=by intro ok w vs hs hl;simp only[VList]at hl;obtain⟨y,ys,rfl,h1,y2,ys2,rfl,h2,rfl⟩:=hl;have:=yM h1;subst this;have:=yM h2;subst this;refine Calls.mono (Any.strings_LastIndex_one Jo ⟨s.toArray⟩ ⟨#[c]⟩ rfl (by show s.toArray.size<_;simp;omega) w) ?_;rintro en w' ⟨rfl,rfl⟩;exact⟨_,rfl,WExt.refl _,by simp only[VRel];rfl⟩
theorem Hr {c : C} : ∀ {l : List S} {xs : List Value},VList c (l.map V.str) xs → xs = l.map encStr
 | [],xs,h=>by simpa only[List.map_nil,VList]using h
 | a::l,xs,h=>by simp only[zrd,VList]at h;obtain⟨y,ys,rfl,h1,h2⟩:=h;rw[Hr h2,yM h1];rfl
abbrev vbI (c:UInt8):V:= .int .u8 c.toNat
theorem Qi (s:S) (c:UInt8):Ev TE 161 [.str s,vbI c] (vi (Lib.indexByte s c)):=by intro ok w vs hs hl;simp only[VList,VRel]at hl;obtain⟨y,ys,rfl,⟨b,rfl,hb,_⟩,y2,ys2,rfl,rfl,rfl⟩:=hl;refine Calls.mono (Any.stringslite_IndexByte WL b c.toNat w) ?_;rintro en w' ⟨rfl,rfl⟩;refine⟨_,rfl,WExt.refl _,?_⟩;simp only[VRel];rw[hb];simp
theorem Ff (s:S) (c:UInt8):Ev TE 139 [.str s,.str [c]] (vi (Lib.indexByte s c)):=by
 have hb:=Qi s c;refine ai Tryz.func139 rfl (by simp[nts]) (vm ?_);by_cases he:([c]==s)=true
 ·have : s = [c] := (eq_of_beq he).symm;subst this;have e0 : Lib.indexByte [c] c = 0 := by simp [Lib.indexByte]
  simp only[wq.1,seval,-Int.reduceNatCast,-Int.reduceNatCast',Tryz.results139,e0];exact az.dat rfl
 ·have he : ([c] == s) = false := by simpa using he
  have e1:(((1:Nat):Int)==0)=false:=by decide
  have e2:(((1:Nat):Int)==1)=true:=by decide
  simp only[wq.1,seval,-Int.reduceNatCast,-Int.reduceNatCast',ax,Tryz.results139,he,e1,e2];refine⟨by decide,ah.ev hb rfl ?_⟩;simp only[wq.1,↓reduceIte,Nat.reduceLT,Int.reduceNeg];exact az.dat rfl
theorem Jp (s:S) (c:UInt8):Ev TE 110 [.str s,.str [c]] (vi (Lib.indexByte s c)):=by refine ai Tryz.func110 rfl (by simp[nts]) (vm ?_);simp only[wq.1,seval,Tryz.results110];refine ah.ev (Ff s c) rfl ?_;simp only[wq.1,seval];exact az.dat rfl
theorem NR {c : UInt8} {r : S} : ∀ {w : S},c ∉ w → Lib.indexByte (w ++ c :: r) c = w.length
 | [],_=>by simp[Lib.indexByte]
 | x::w,h=>by
  simp only[zrj,not_or]at h;have h1:(x==c)=false:=by simpa using fun e:x=c=>h.1 e.symm
  rw[List.cons_append];unfold Lib.indexByte;rw[h1,NR h.2];simp
def AO (k:Nat) (c:UInt8) (s:S):List S:=if k=0 then AZ c s else D6 c s
theorem ou {k:Nat} {c:UInt8} {s:S} (h:c∉s):AO k c s=[s]:=by
 unfold AO;split
 ·exact Dy h
 ·exact Dz h
theorem AP {k:Nat} (hk:k≤1) {c:UInt8} {w r:S} (h:c∉w):AO k c (w++c::r)=(w++c::r).take (w.length+k)::AO k c r:=by
 unfold AO;by_cases e:k=0
 ·subst e;rw[if_pos rfl,if_pos rfl,G9 h];simp
 ·have : k = 1 := by omega
  subst this;rw[if_neg e,if_neg e,Ha h]
  congr 1
  rw[List.take_append,zqh (by omega)];simp
theorem qZ {k : Nat} (hk : k ≤ 1) {c : UInt8} : ∀ (n : Nat) (s : S),s.length ≤ n → (AO k c s).length = s.count c + 1
 | 0,s,h=>by have:s=[]:=List.eq_nil_of_length_eq_zero (by omega);subst this;rw[ou (by simp)];rfl
 | n+1,s,h=>by
  by_cases hc:c∈s
  ·obtain ⟨w,r,rfl,hw⟩ := He hc;have hl : r.length ≤ n := by simp at h;omega
   rw[AP hk hw,zrt,qZ hk n r hl,List.count_append,List.count_cons_self,List.count_eq_zero.2 hw];omega
  ·rw[ou hc,List.count_eq_zero.2 hc];rfl
theorem TW (n:Nat):(List.range n).flatMap (fun _=>[V.str []])=List.replicate n (V.str []):=by
 induction n with
 | zero=>rfl
 | succ n ih=>rw[List.range_succ,List.flatMap_append,ih,List.replicate_succ'];rfl
theorem DI {done:List S} {n:Nat} {x:S} (h:done.length<n):(done.map V.str++List.replicate (n-done.length) (V.str [])).take (done.length*1)++[V.str x]++(done.map V.str++List.replicate (n-done.length) (V.str [])).drop (done.length*1+1)=(done++[x]).map V.str++List.replicate (n-(done++[x]).length) (V.str []):=by
 obtain⟨d,hd⟩:∃d,n-done.length=d+1:=⟨n-done.length-1,by omega⟩;have e2:n-(done++[x]).length=d:=by simp;omega
 rw[hd,e2,Nat.mul_one,List.take_append_of_le_length (by simp),zqh (by simp),List.replicate_succ];simp[List.drop_append]
theorem DJ (s:S) (c:UInt8) (k:Nat) (hk:k≤1) (hs:s.length≤900000):Ev TE 74 [.str s,.str [c],vi k,vi (-1)] (bF (AO k c s)):=by
 have hM:maxLen=9223372036854775807:=rfl;have hcnt:s.count c≤s.length:=List.count_le_length;have hpl:=qZ hk s.length s (zrb _) (c:=c);obtain⟨n,hn⟩:∃n,n=s.count c:=⟨_,rfl⟩;rw[←hn]at hcnt hpl;have w1:IntKind.i64.wrap ((n:Int)+1)=((n+1:Nat):Int):=by rw[dh (by omega) (by omega)];omega
 have w2:IntKind.i64.wrap ((s.length:Int)+1)=((s.length+1:Nat):Int):=by rw[dh (by omega) (by omega)];omega
 have w3:IntKind.i64.wrap (((n+1:Nat):Int)-1)=(n:Int):=by rw[dh (by omega) (by omega)];omega
 have e1:(([c]:S)==[])=false:=rfl;have hmn:D8 [vi ((n+1:Nat):Int),vi ((s.length+1:Nat):Int)]=(True,vi ((n+1:Nat):Int)):=by
  simp only[D8];split
  ·rw[show((s.length+1:Nat):Int)=((n+1:Nat):Int) by omega]
  ·rfl
 have hsc := DF s c;rw [← hn] at hsc;refine ai Tryz.func74 rfl (by simp [nts]) ?_;refine ag (vm ?_);simp only [wq.1,seval,Tryz.results74];refine ag (vm ?_);simp only [wq.1,seval];refine ag (vm ?_);simp only [wq.1,seval,e1];refine ag ?_;refine vm ?_;simp only [wq.1,seval];refine ah.ev hsc rfl ?_;simp only [wq.1,seval,w1];refine ag (vm ?_);simp only [wq.1,seval,w2,hmn];refine ag ?_;refine gK ?_;refine aF rfl rfl ?_;simp only [wq.1,seval];refine eH rfl rfl ?_;refine lh (t := 26) rfl (q := { kind := .slice 9,size := 1,bytes := 24,zero := .nils }) (by simp only [wq.1]) (el := 9) rfl (re := { kind := .str,size := 1,bytes := 16,zero := .str [] }) (by simp only [wq.1]) rfl rfl (by decide) (by simp only [wq.1,seval]) (by simp only [wq.1,seval]) (k := .i64) (k' := .i64) (m := ((n + 1 : Nat) : Int)) (by simp only [wq.1,seval]) (by simp only [wq.1,seval]) (by omega) (by omega) (by decide) (by rw [Int.toNat_natCast];show (n + 1) * 1 ≤ _;omega) ?_;rw [Int.toNat_natCast];simp only [wq.1,Int.reduceNeg];refine aF rfl rfl ?_;simp only [wq.1,seval];refine gq ?_;rw [TW (n + 1)];simp only [wq.1,Int.reduceNeg];refine ag (vm ?_);simp only [wq.1,seval,w3];refine ag (vm ?_);simp only [wq.1,seval];refine ag ?_;refine aC ?_;refine aB (fun q f h => ∃ (done : List S) (rest : S),q + done.length = n ∧ AO k c s = done ++ AO k c rest ∧ rest.count c + done.length = n ∧ rest.length ≤ s.length ∧ f.t 0 = .str rest ∧ f.t 1 = .str [c] ∧ f.t 2 = vi k ∧ f.t 3 = vi n ∧ f.t 9 = .ls 0 1 0 (n + 1) (n + 1) ∧ f.t 10 = vi done.length ∧ f.d = [] ∧ h = [.cells (done.map V.str ++ List.replicate (n + 1 - done.length) (V.str []))]) n
  ⟨[],s,by simp,rfl,by simp[hn],zrb _,by simp only[wq.1,seval],by simp only[wq.1,seval],by simp only[wq.1,seval],by simp only[wq.1,seval],by simp only[wq.1,seval],by simp only[wq.1,↓reduceIte,Int.reduceNeg];rfl,by simp only[wq.1,Int.reduceNeg],rfl⟩ ?_
 rintro q f h ⟨done,rest,hq,hp,hrc,hrl,t0,t1,t2,t3,t9,t10,hd,rfl⟩;have hlen:(done.map V.str++List.replicate (n+1-done.length) (V.str [])).length=n+1:=by simp;omega
 refine ag (vm ?_);simp only[wq.1,seval,t3,t10];refine vcB.mk (fun hlt=> ?_) (fun hlt=> ?_)
 ·simp only [zqb,zqi] at hlt;have hc : c ∈ rest := List.count_pos_iff.1 (by omega);obtain ⟨w,r,rfl,hw⟩ := He hc;have hix := Jp (w ++ c :: r) c;rw [NR hw] at hix;have hll : (w ++ c :: r).length = w.length + (r.length + 1) := by simp
  have hpc:=AP hk hw (r:=r);have hrc2:(w++c::r).count c=r.count c+1:=by rw[List.count_append,List.count_cons_self,List.count_eq_zero.2 hw];omega
  have hneg:decide ((w.length:Int)<0)=false:=by rw[zqd];omega
  have v1:IntKind.i64.wrap ((w.length:Int)+(k:Int))=((w.length+k:Nat):Int):=by rw[dh (by omega) (by omega)];omega
  have v2:IntKind.i64.wrap ((w.length:Int)+((1:Nat):Int))=((w.length+1:Nat):Int):=by rw[dh (by omega) (by omega)];omega
  have v3:=aA (show done.length<maxLen by omega);have hdr:(w++c::r).drop (w.length+1)=r:=by simp[List.drop_append]
  obtain⟨u,hu⟩:∃u,u=w++c::r:=⟨_,rfl⟩;rw[←hu]at t0 hix hll hpc hrc2 hdr hrc hrl hp;simp only[wq.1];refine aC ?_;refine ag (vm ?_);simp only[wq.1,seval,t0,t1];refine ah.ev hix rfl ?_;simp only[wq.1,seval];refine ag ?_;refine vm ?_;simp only[wq.1,seval,hneg];refine ag (vm ?_);simp only[wq.1,seval,-Int.reduceNatCast,-Int.reduceNatCast',ax,Tryz.results74,t0,t1,t2,t3,t9,t10,hd,v1];have hdn:done.length<n+1:=by omega
  refine⟨⟨by omega,by omega⟩,⟨by omega,by omega⟩,by simp;omega,?_⟩;rw[DI hdn];refine ag (vm ?_);simp only[wq.1,seval,-Int.reduceNatCast,-Int.reduceNatCast',ax,Tryz.results74,t0,t1,t2,t3,t9,t10,hd,v2];refine⟨⟨by omega,by omega⟩,?_⟩;rw[hdr];refine vm ?_;simp only[wq.1,seval,t10,v3];refine .inl ⟨q-1,by omega,done++[u.take (w.length+k)],r,by simp;omega,by rw[hp,hpc];simp,by simp;omega,by omega,by simp only[wq.1,seval],by simp only[wq.1,seval,t1],by simp only[wq.1,seval,t2],by simp only[wq.1,seval,t3],by simp only[wq.1,seval,t9],by simp only[wq.1,↓reduceIte],by simp only[wq.1,hd],by simp⟩
 ·simp only [zqd,zqi] at hlt;simp only [wq.1];have hie : done.length = n := by omega
  have hnr:c∉rest:=fun h=>by have:=List.count_pos_iff.2 h;omega
  rw[ou hnr]at hp;have v3:=aA (show done.length<maxLen by omega);show awp _ _ _ _ _ _ _;refine ag (vm ?_);simp only[wq.1,seval,t0,t9,t10];refine⟨⟨by omega,by omega⟩,by simp;omega,?_⟩;rw[DI (by omega)];have e3:n+1-(done++[rest]).length=0:=by simp;omega
  rw[e3,List.replicate_zero,zqp,←hp];have e4:(AO k c s).length=n+1:=by rw[hp];simp;omega
  obtain⟨ps,hps⟩:∃ps,ps=AO k c s:=⟨_,rfl⟩;rw[←hps]at e4 ⊢;refine ag (vm ?_);simp only[wq.1,seval,t9,t10,v3];refine⟨⟨by omega,by omega⟩,?_⟩;refine vm ?_;simp only[wq.1,↓reduceIte,hd];exact jy rfl (by omega)
theorem NS (s:S) (c:UInt8) (hs:s.length≤900000):Ev TE 75 [.str s,.str [c]] (bF (AZ c s)):=by have h:=DJ s c 0 (by decide) hs;rw[show AO 0 c s=AZ c s from if_pos rfl]at h;refine ai Tryz.func75 rfl (by simp[nts]) (vm ?_);simp only[wq.1,seval,Tryz.results75];refine ah.ev h rfl ?_;simp only[wq.1,seval];exact az.dat (by simp only[V.dat,bV])
theorem Jq (s:S) (c:UInt8) (hs:s.length≤900000):Ev TE 44 [.str s,.str [c]] (bF (D6 c s)):=by have h:=DJ s c 1 (by decide) hs;rw[show AO 1 c s=D6 c s from if_neg (by decide)]at h;refine ai Tryz.func44 rfl (by simp[nts]) (vm ?_);simp only[wq.1,seval,Tryz.results44];refine ah.ev h rfl ?_;simp only[wq.1,seval];exact az.dat (by simp only[V.dat,bV])
theorem rq {k : Nat} (hk : k ≤ 1) {c : UInt8} : ∀ (n : Nat) (s : S),s.length ≤ n → ∀ w ∈ AO k c s,w.length ≤ s.length
 | 0,s,h,w,hw=>by have:s=[]:=List.eq_nil_of_length_eq_zero (by omega);subst this;rw[ou (by simp)]at hw;rw[zrc.1 hw];exact zrb _
 | n+1,s,h,w,hw=>by
  by_cases hc:c∈s
  ·obtain ⟨u,r,rfl,hu⟩ := He hc;have hl : r.length ≤ n := by simp at h;omega
   rw[AP hk hu]at hw;rcases zrj.1 hw with rfl | hw
   ·rw[zrl];omega
   ·have:=rq hk n r hl w hw;simp;omega
  ·rw[ou hc]at hw;rw[zrc.1 hw];exact zrb _
theorem NT {w:S} {b:UInt8} (hb:b≠0):Uw w [b]=(w.headD 0==b):=by
 cases w with
 | nil=>simp[Uw,Ne.symm hb]
 | cons x w=>simp[Uw]
theorem Qj (s:S) (hs:s.length≤20000):Ev TE 45 [.str s] (.tup [fH (sN s).1,vi (sN s).2.1,vi (sN s).2.2]):=by
 have hM:maxLen=9223372036854775807:=rfl;refine ai Tryz.func45 rfl (by simp[nts]) ?_;refine ag (vm ?_);simp only[wq.1,Nat.reduceLT,Tryz.results45];refine ag ?_;refine ag (vm ?_);simp only[wq.1,seval];by_cases he:s=[]
 ·subst he;refine vm ?_;simp only[wq.1,seval];exact az.tup (ak.cons az.nils (ak.cons (az.dat rfl) (ak.cons (az.dat rfl) ak.nil)))
 have e0:(s==[])=false:=by simpa using he
 have hlv:sN s=o5 (AZ 32 s) 0 []:=by unfold sN;rw[if_neg he]
 have hsp:=NS s 32 (by omega);have hwl:∀w∈AZ 32 s,w.length≤s.length:=fun w hw=>rq (k:=0) (by decide) s.length s (zrb _) w hw;have hpl:(AZ 32 s).length≤s.length+1:=by have:=qZ (k:=0) (by decide) (c:=32) s.length s (zrb _);have h2:s.count 32≤s.length:=List.count_le_length;have h3:AO 0 32 s=AZ 32 s:=if_pos rfl;rw[h3]at this;omega
 rw[hlv];obtain⟨ws,hws⟩:∃ws,ws=AZ 32 s:=⟨_,rfl⟩;rw[←hws]at hsp hwl hpl ⊢;refine vm ?_;simp only[wq.1,↓reduceIte,e0];show awp _ _ _ _ _ _ _;refine ag (vm ?_);simp only[wq.1,Nat.reduceLT];refine dC 5 2 (by simp only[wq.1,↓reduceIte]) ?_;refine ag (vm ?_);simp only[wq.1,Nat.reduceLT];refine ag ?_;refine ag (vm ?_);simp only[wq.1,seval];refine ah.ev hsp rfl ?_;simp only[wq.1,seval];refine aC ?_;refine aB (fun q f h=>∃(i:Nat) (a:Int) (c:List Lt),q+i=ws.length∧c.length≤i∧0≤a∧a≤i*20001∧o5 ws 0 []=o5 (ws.drop i) a c∧f.t 5= .ls 0 2 0 c.length c.length∧f.t 6=vi a∧f.t 12=bF ws∧f.t 13=vi ws.length∧f.t 14=vi i∧f.d=[]∧h=[.cells (lfl c)]) ws.length ⟨0,0,[],by omega,zrb _,Int.le_refl _,by omega,rfl,by simp only[wq.1,seval],by simp only[wq.1,seval],by simp only[wq.1,seval],by simp only[wq.1,seval],by simp only[wq.1,↓reduceIte];rfl,by simp only[wq.1],rfl⟩ ?_;rintro q f h ⟨i,a,c,hq,hci,ha0,ha1,hgo,t5,t6,t12,t13,t14,hd,rfl⟩;refine ag (vm ?_);simp only[wq.1,Nat.reduceLT,t13,t14];refine ag (bG (b:=decide ((i:Int)<ws.length)) (by simp only[wq.1,↓reduceIte]) (by simp only[wq.1,↓reduceIte]) (fun hlt=> ?_) (fun hlt=> ?_))
 ·simp only [zqb,zqi] at hlt;have hw := aA (show i < maxLen by omega);have hgs : (ws.map V.str).getD i .any = .str ws[i] := xu hlt _;have hwm := hwl _ (zqu hlt);have hdr : ws.drop i = ws[i] :: ws.drop (i + 1) := List.drop_eq_getElem_cons hlt;obtain ⟨w,hwe⟩ : ∃ w,w = ws[i] := ⟨_,rfl⟩;rw [← hwe] at hgs hwm hdr;rw [hdr] at hgo;have hp1 := G8 w [43];have hp2 := G8 w [45];rw [NT (by decide)] at hp1 hp2;refine vm ?_;simp only [wq.1];refine ag (aC ?_);refine ag (vm ?_);simp only [wq.1,seval,t12,t14,hgs];refine ⟨⟨by omega,by omega⟩,?_⟩;by_cases hA : w.headD 0 ≠ 43 ∧ w.headD 0 ≠ 45
  ·have q1 : (w.headD 0 == 43) = false := by simpa using hA.1
   have q2:(w.headD 0==45)=false:=by simpa using hA.2
   rw[o5,if_pos hA]at hgo;rw[q1]at hp1;rw[q2]at hp2;refine ag ?_;refine ag (vm ?_);simp only[wq.1,seval];refine ah.ev hp1 rfl ?_;simp only[wq.1,seval];refine ah.ev hp2 rfl ?_;simp only[wq.1,seval];refine vm ?_;simp only[wq.1,seval,t6,hd];rw[hgo];exact az.tup (ak.cons az.nils (ak.cons (az.dat rfl) (ak.cons (az.dat rfl) ak.nil)))
  obtain⟨b,t,hbt⟩:∃b t,w=b::t:=by
   cases w with
   | nil=>exact absurd ⟨by decide,by decide⟩ hA
   | cons b t=>exact⟨b,t,rfl⟩
  have hwl1:1≤w.length:=by rw[hbt];simp
  have hdrop:w.drop 1=w.tail:=by rw[hbt];rfl
  have hin:=uy w.tail;rw[o5,if_neg hA]at hgo;have hgo2:∃q1 q2,(w.headD 0==43)=q1∧(w.headD 0==45)=q2∧(q1||q2)=true:=by
   refine⟨_,_,rfl,rfl,?_⟩;rw[Bool.or_eq_true,beq_iff_eq,beq_iff_eq];by_cases h:w.headD 0=43
   ·exact .inl h
   ·exact .inr (Decidable.byContradiction fun h2=>hA ⟨h,h2⟩)
  obtain⟨q1,q2,e1,e2,e12⟩:=hgo2;have e3:(!q1&& !q2)=false:=by cases q1<;>cases q2<;>first | rfl | cases e12
  rw[e1]at hp1;rw[e2]at hp2;refine ag ?_;refine ag (vm ?_);simp only[wq.1,seval];refine ah.ev hp1 rfl ?_;simp only[wq.1,seval];refine AX.ev (q:=76) (vs:=[.str w,.str [45]]) (by simp only[wq.1,seval]) (by simp only[wq.1,seval]) rfl (fun _=>hp2) (fun _=>rfl) ?_;simp only[wq.1,seval,e3];refine vm ?_;simp only[wq.1,↓reduceIte];show awp _ _ _ _ _ _ _;refine ag ?_;refine ag (vm ?_);simp only[wq.1,seval,hdrop];refine⟨by omega,ah.ev hin rfl ?_⟩;simp only[wq.1,seval];have v1:IntKind.i64.wrap (a+1)=a+1:=dh (by omega) (by omega);cases hok:bf w.tail with
  | false=>rw[if_pos hok]at hgo;refine vm ?_;simp only[wq.1,seval,t6,hd,v1];rw[hgo];exact az.tup (ak.cons az.nils (ak.cons (az.dat rfl) (ak.cons (az.dat rfl) ak.nil)))
  | true =>
   rw[if_neg (by rw[hok];decide)]at hgo;have e45:(((w.getD 0 0).toNat:Int)==45)=(w.headD 0==45):=by
    rw[hbt,Bool.eq_iff_iff,beq_iff_eq,beq_iff_eq];show((b.toNat:Int)=45)↔b=45;constructor
    ·intro h;exact UInt8.toNat_inj.1 (by show b.toNat=45;omega)
    ·rintro rfl;rfl
   have hel:(lfl c).length=c.length*2:=wK c;have dcs:∀p,V.drops p (lfl c)=lfl c:=fun p=>fU _;refine vm ?_;simp only[wq.1,↓reduceIte];show awp _ _ _ _ _ _ _;refine ag ?_;refine vK mixed 8 (.one 8<| .take 9<| .fin) (fun f' h'=>f'.t 5= .ls 0 2 0 (c.length+1) (c.length+1)∧f'.t 6=vi a∧f'.t 8= .str w∧f'.t 12=bF ws∧f'.t 13=vi ws.length∧f'.t 14=vi i∧f'.d=[]∧h'=[.cells (lfl (c++[(w.tail,w.headD 0==45)]))]) (by decide +kernel) ?_ ?_
   ·intro K hK;simp only[List.take_succ_cons,List.take_zero];simp only[wq.1,↓reduceIte,Nat.reduceEqDiff,Nat.reduceLT,Nat.reduceLeDiff,Nat.reduceAdd,Int.reduceToNat,Int.reduceLE,reduceCtorEq,Nat.reduceMul,t5,hdrop,e45];refine⟨by omega,by omega,⟨rfl,by decide⟩,hK _ ?_⟩;simp only[wq.1,seval,t6,t12,t13,t14,hd,hel,dcs];rw[Aq];exact⟨rfl,⟨rfl,by omega,by omega⟩,rfl⟩
   ·rintro f h ⟨t5,t6,t8,t12,t13,t14,hd,rfl⟩;have v2:IntKind.i64.wrap ((w.length:Int)+1)=(w.length:Int)+1:=dh (by omega) (by omega);have v3:IntKind.i64.wrap (a+((w.length:Int)+1))=a+((w.length:Int)+1):=dh (by omega) (by omega);show awp _ _ _ _ _ _ _;refine vm ?_;simp only[wq.1,seval,t6,t8,v2,v3];refine vm ?_;simp only[wq.1,seval,t14,hw];refine .inl ⟨q-1,by omega,i+1,a+((w.length:Int)+1),c++[(w.tail,w.headD 0==45)],by omega,by simp;omega,by omega,by omega,by rw[hgo];congr 1;omega,by simp only[wq.1,seval,t5],by simp only[wq.1,seval],by simp only[wq.1,seval,t12],by simp only[wq.1,seval,t13],by simp only[wq.1,↓reduceIte],by simp only[wq.1,hd],rfl⟩
 ·simp only[zqd,zqi]at hlt;rw[List.drop_of_length_le (by omega)]at hgo;refine vm ?_;simp only[wq.1];refine vm ?_;simp only[wq.1,seval,t5,hd];rw[hgo];exact az.tup (ak.cons (qW rfl rfl) (ak.cons (az.dat rfl) (ak.cons (az.dat rfl) ak.nil)))
theorem wY (s : ByteArray) (c : Int) : ∀ k : Nat,-1 ≤ Lib.lastIdx s c k ∧ Lib.lastIdx s c k < k
 | 0=>by simp[Lib.lastIdx]
 | k+1=>by have:=wY s c k;unfold Lib.lastIdx;split<;>omega
def DK (a b:Int) (s:S):Int×Int:=if s.count 10=0 then(a,b+s.length)else(a+(s.count 10:Nat),s.length-Lib.lastIndexByte ⟨s.toArray⟩ 10)
def Q4:Plan:= .take 0<| .take 2<| .take 4<| .take 6<| .alt 1 (.alt 3 (.alt 5 (.one 7<| .one 8<| .one 9<| .one 10<| .fin) (.one 7 (.one 5<| .one 8<| .one 9<| .one 10<| .fin))) (.alt 5 (.alt 3 (.one 7<| .one 8<| .one 9<| .one 10<| .fin) (.one 7 (.alt 3 (.one 8<| .one 9<| .one 10<| .fin) (.one 8 (.one 3<| .one 9<| .one 10<| .fin))))) (.one 7 (.alt 3 (.one 5<| .one 8<| .one 9<| .one 10<| .fin) (.one 5 (.alt 3 (.one 8<| .one 9<| .one 10<| .fin) (.one 8 (.one 3<| .one 9<| .one 10<| .fin)))))))) (.alt 5 (.alt 1 (.alt 3 (.one 7<| .one 8<| .one 9<| .one 10<| .fin) (.one 7 (.alt 3 (.one 8<| .one 9<| .one 10<| .fin) (.one 8 (.one 3<| .one 9<| .one 10<| .fin))))) (.one 7 (.alt 1 (.alt 3 (.one 8<| .one 9<| .one 10<| .fin) (.one 8 (.one 3<| .one 9<| .one 10<| .fin))) (.one 8 (.one 1<| .one 3<| .one 9<| .one 10<| .fin))))) (.one 7 (.alt 1 (.alt 3 (.one 5<| .one 8<| .one 9<| .one 10<| .fin) (.one 5 (.alt 3 (.one 8<| .one 9<| .one 10<| .fin) (.one 8 (.one 3<| .one 9<| .one 10<| .fin))))) (.one 5 (.alt 1 (.alt 3 (.one 8<| .one 9<| .one 10<| .fin) (.one 8 (.one 3<| .one 9<| .one 10<| .fin))) (.one 8 (.one 1<| .one 3<| .one 9<| .one 10<| .fin)))))))
theorem Qk (a b:Int) (s:S) (ha:0≤a∧a≤1000000000) (hb:0≤b∧b≤1000000000) (hs:s.length≤1000000000):Ev TE 107 [.agg [vi a,vi b],.str s] (.agg [vi (DK a b s).1,vi (DK a b s).2]):=by
 have hc:s.count 10≤s.length:=List.count_le_length;have hl:=wY ⟨s.toArray⟩ 10 s.length;have hl':Lib.lastIndexByte ⟨s.toArray⟩ 10=Lib.lastIdx ⟨s.toArray⟩ 10 s.length:=rfl;refine ai Tryz.func107 rfl (by simp[nts]) ?_;refine ag (vm ?_);simp only[wq.1,Nat.reduceLT,Tryz.results107];refine ag (vm ?_);simp only[wq.1,seval];refine ah.ev (DF s 10) rfl ?_;simp only[wq.1,seval];refine ag (vm ?_);simp only[wq.1,↓reduceIte,Nat.reduceLT];refine vcB.mk (fun h0=> ?_) (fun h0=> ?_)
 ·have h0 : s.count 10 = 0 := by simpa using h0
  have w1:IntKind.i64.wrap (b+(s.length:Int))=b+s.length:=dh (by omega) (by omega);simp only[wq.1,seval,-Int.reduceNatCast,-Int.reduceNatCast',w1];unfold DK;rw[if_pos h0];exact⟨by decide,by decide,az.dat rfl⟩
 ·have h0 : s.count 10 ≠ 0 := by simpa using h0
  have w1:IntKind.i64.wrap (a+((s.count 10:Nat):Int))=a+(s.count 10:Nat):=dh (by omega) (by omega);have w2:IntKind.i64.wrap ((s.length:Int)-Lib.lastIndexByte ⟨s.toArray⟩ 10)=s.length-Lib.lastIndexByte ⟨s.toArray⟩ 10:=dh (by omega) (by omega);simp only[wq.1];refine ag ?_;refine cu mixed Q4 (fun f' h'=>f'.t 4= .lp 1 0∧f'.d=[]∧h'=[.cells [vi a,vi b],.cells [vi (a+(s.count 10:Nat)),vi (s.length-Lib.lastIndexByte ⟨s.toArray⟩ 10)]]) (by decide +kernel) (by decide +kernel) ?_ ?_
  ·have hten : ((10 : UInt8).toNat : Int) = 10 := rfl;simp only [wq.1,seval,Q4]
   repeat' apply And.intro
   all_goals try(first | decide | rfl)
   all_goals (refine ah.ev (Qh s 10 hs) rfl ?_)
   all_goals (simp only[wq.1,seval,w1,w2,hten])
   all_goals trace_state
  ·rintro f h ⟨h4,hd,rfl⟩;simp only[wq.1];refine vm ?_;simp only[wq.1,seval,h4,hd];unfold DK;rw[if_neg h0];exact az.dat rfl
theorem mx (a b:Int):uI [vi a,vi b]=(True,vi (max a b)):=by simp only[uI,Int.max_def];split<;>split<;>first | rfl | (congr 2;omega)
theorem mn (a b:Int):D8 [vi a,vi b]=(True,vi (min a b)):=by simp only[D8,Int.min_def];split<;>split<;>first | rfl | (congr 2;omega)
def jg (s:S) (a:Int):Int×Int:=DK 1 1 (s.take (min (max a 0) (s.length:Int)).toNat)
def NU:Plan:= .take 0<| .take 2<| .alt 1 (.take 4<| .one 3<| .take 5<| .fin) (.one 3 (.one 1<| .take 4<| .take 5<| .fin))
def Q5:Plan:= .take 1<| .take 2<| .take 4<| .alt 0 (.alt 3 (.alt 5 (.alt 6 (.take 7<| .alt 8 (.one 9<| .one 10<| .fin) (.one 9 (.one 8<| .one 10<| .fin))) (.one 9 (.one 6<| .take 7<| .one 8<| .one 10<| .fin))) (.one 9 (.one 5<| .one 6<| .take 7<| .one 8<| .one 10<| .fin))) (.alt 5 (.alt 3 (.alt 6 (.take 7<| .alt 8 (.one 9<| .one 10<| .fin) (.one 9 (.one 8<| .one 10<| .fin))) (.one 9 (.one 6<| .take 7<| .one 8<| .one 10<| .fin))) (.one 9 (.one 3<| .one 6<| .take 7<| .one 8<| .one 10<| .fin))) (.one 9 (.alt 3 (.one 5<| .one 6<| .take 7<| .one 8<| .one 10<| .fin) (.one 5 (.one 3<| .one 6<| .take 7<| .one 8<| .one 10<| .fin)))))) (.alt 3 (.alt 0 (.alt 5 (.alt 6 (.take 7<| .alt 8 (.one 9<| .one 10<| .fin) (.one 9 (.one 8<| .one 10<| .fin))) (.one 9 (.one 6<| .take 7<| .one 8<| .one 10<| .fin))) (.one 9 (.one 5<| .one 6<| .take 7<| .one 8<| .one 10<| .fin))) (.alt 5 (.alt 0 (.alt 6 (.take 7<| .alt 8 (.one 9<| .one 10<| .fin) (.one 9 (.one 8<| .one 10<| .fin))) (.one 9 (.one 6<| .take 7<| .one 8<| .one 10<| .fin))) (.alt 6 (.take 7<| .alt 0 (.alt 8 (.one 9<| .one 10<| .fin) (.one 9 (.one 8<| .one 10<| .fin))) (.one 9 (.one 0<| .one 8<| .one 10<| .fin))) (.one 9 (.alt 0 (.one 6<| .take 7<| .one 8<| .one 10<| .fin) (.one 6 (.take 7<| .one 0<| .one 8<| .one 10<| .fin)))))) (.one 9 (.alt 0 (.one 5<| .one 6<| .take 7<| .one 8<| .one 10<| .fin) (.one 5 (.alt 0 (.one 6<| .take 7<| .one 8<| .one 10<| .fin) (.one 6 (.take 7<| .one 0<| .one 8<| .one 10<| .fin)))))))) (.alt 5 (.alt 0 (.alt 3 (.alt 6 (.take 7<| .alt 8 (.one 9<| .one 10<| .fin) (.one 9 (.one 8<| .one 10<| .fin))) (.one 9 (.one 6<| .take 7<| .one 8<| .one 10<| .fin))) (.one 9 (.one 3<| .one 6<| .take 7<| .one 8<| .one 10<| .fin))) (.alt 3 (.alt 0 (.alt 6 (.take 7<| .alt 8 (.one 9<| .one 10<| .fin) (.one 9 (.one 8<| .one 10<| .fin))) (.one 9 (.one 6<| .take 7<| .one 8<| .one 10<| .fin))) (.alt 6 (.take 7<| .alt 0 (.alt 8 (.one 9<| .one 10<| .fin) (.one 9 (.one 8<| .one 10<| .fin))) (.one 9 (.one 0<| .one 8<| .one 10<| .fin))) (.one 9 (.alt 0 (.one 6<| .take 7<| .one 8<| .one 10<| .fin) (.one 6 (.take 7<| .one 0<| .one 8<| .one 10<| .fin)))))) (.one 9 (.alt 0 (.one 3<| .one 6<| .take 7<| .one 8<| .one 10<| .fin) (.one 3 (.alt 0 (.one 6<| .take 7<| .one 8<| .one 10<| .fin) (.one 6 (.take 7<| .one 0<| .one 8<| .one 10<| .fin)))))))) (.one 9 (.alt 0 (.alt 3 (.one 5<| .one 6<| .take 7<| .one 8<| .one 10<| .fin) (.one 5 (.one 3<| .one 6<| .take 7<| .one 8<| .one 10<| .fin))) (.alt 3 (.alt 0 (.one 5<| .one 6<| .take 7<| .one 8<| .one 10<| .fin) (.one 5 (.alt 0 (.one 6<| .take 7<| .one 8<| .one 10<| .fin) (.one 6 (.take 7<| .one 0<| .one 8<| .one 10<| .fin))))) (.one 5 (.alt 0 (.one 3<| .one 6<| .take 7<| .one 8<| .one 10<| .fin) (.one 3 (.alt 0 (.one 6<| .take 7<| .one 8<| .one 10<| .fin) (.one 6 (.take 7<| .one 0<| .one 8<| .one 10<| .fin)))))))))))
theorem NV (s:S) (a:Int) (hs:s.length≤1000000000):Ev TE 73 [.str s,vi a] (.tup [vi (jg s a).1,vi (jg s a).2]):=by
 refine ai Tryz.func73 rfl (by simp[nts]) ?_;refine ag (vm ?_);simp only[wq.1,Nat.reduceLT,Tryz.results73];refine ag (vm ?_);refine cu mixed Q5 (fun f' h'=>f'.t 6= .lp 0 0∧f'.d=[]∧h'=[.cells [vi (jg s a).1,vi (jg s a).2]]) (by decide +kernel) (by decide +kernel) ?_ ?_
 ·have hm : 0 ≤ min (max a 0) (s.length : Int) ∧ min (max a 0) (s.length : Int) ≤ s.length := by omega
  have hov:=Qk 1 1 (s.take (min (max a 0) (s.length:Int)).toNat) (by decide) (by decide) (by rw[zrl];omega);simp only[wq.1,seval,Q5,gl0,KG,mx,mn]
  repeat' apply And.intro
  all_goals try omega
  all_goals (refine ah.ev hov rfl ?_)
  all_goals (simp only[wq.1,↓reduceIte,Nat.reduceEqDiff,Nat.reduceLT,Nat.reduceAdd])
  all_goals rfl
 ·rintro f h ⟨h6,hd,rfl⟩;refine ag ?_;refine cu mixed NU (fun f' h' => f'.t 4 = vi (jg s a).1 ∧ f'.t 5 = vi (jg s a).2 ∧ f'.d = []) (by decide +kernel) (by decide +kernel) ?_ ?_
  ·simp only[wq.1,seval,-Int.reduceNatCast,-Int.reduceNatCast',NU,h6,hd];exact⟨by decide,by decide⟩
  ·rintro f h ⟨h4,h5,hd⟩;simp only[wq.1];refine vm ?_;simp only[wq.1,h4,h5,hd];exact az.dat rfl
def o6 (s:S) (a e:Int):V:=if e=0 then .agg [vi 0,vi 0,vi 0]else .agg [vi e,vi (jg s a).1,vi (jg s a).2]
theorem Ql (s:S) (a e:Int) (hs:s.length≤1000000000):Ev TE 43 [.str s,vi a,vi e] (o6 s a e):=by
 unfold o6;refine ai Tryz.func43 rfl (by simp[nts]) (vm ?_);simp only[wq.1,seval,Tryz.results43];refine vcB.mk (fun hc=> ?_) (fun hc=> ?_)
 ·have hc : e = 0 := by simpa using hc
  simp only[wq.1,seval];rw[if_pos hc];exact az.dat rfl
 ·have hc : e ≠ 0 := by simpa using hc
  simp only[wq.1,seval];refine ah.ev (NV s a hs) rfl ?_;simp only[wq.1,seval];rw[if_neg hc];exact az.dat rfl
theorem TY:JM P 52 [.i64,.i64,.i64]:=by
 refine⟨by kernel_rfl,fun w xs ys hx hy=> ?_⟩
 match xs,hx with
 | [a,b,c],_ =>
 match ys,hy with
 | [a',b',c'],_ =>
 have p0:∀(x y z:Value),(part 36 #[x,y,z] 0).run P w= .ok x w:=fun x y z=>jG Tryz.underlying36 (by simp);have p1:∀(x y z:Value),(part 3 #[x,y,z] 1).run P w= .ok y w:=fun x y z=>jG Tryz.underlying3 (by simp);have p2:∀(x y z:Value),(part 3 #[x,y,z] 2).run P w= .ok z w:=fun x y z=>jG Tryz.underlying3 (by simp);have hso:P.stoodInHeld 52=false:=by kernel_rfl
 show(Op.equalIn 10000 52 (.agg #[.int .i64 a,.int .i64 b,.int .i64 c]) (.agg #[.int .i64 a',.int .i64 b',.int .i64 c'])).run P w= .ok ([a,b,c]==[a',b',c']) w;rw[Op.equalIn];have e31:=nI (P:=P) (w:=w) Tryz.underlying36 9998;have e3:=nI (P:=P) (w:=w) Tryz.underlying3 9998;simp only[Sem.run_bind,run_underlying Tryz.underlying52,Result.andThen];by_cases ha:a=a'
 ·subst ha;by_cases hb : b = b'
  ·subst hb;by_cases hc : c = c'
   ·subst hc;simp[hso,p0,p1,p2,e31,e3,Sem.run_bind,Result.andThen]
   ·have hc' : (c == c') = false := by simpa using hc
    simp[hso,p0,p1,p2,e31,e3,Sem.run_bind,Result.andThen,hc',hc]
  ·have hb' : (b == b') = false := by simpa using hb
   simp[hso,p0,p1,p2,e31,e3,Sem.run_bind,Result.andThen,hb',hb]
 ·have ha' : (a == a') = false := by simpa using ha
  simp[hso,p0,p1,p2,e31,e3,Sem.run_bind,Result.andThen,ha',ha]
theorem yO : ∀ (ws : List S) (a : Int) (c : List Lt),(∀ w ∈ ws,w.length ≤ 20000) → 0 ≤ a → 0 ≤ (o5 ws a c).2.1 ∧ (o5 ws a c).2.1 ≤ a + ws.length * 20001 + 1
 | [],a,c,_,h=>by show 0≤(0:Int)∧(0:Int)≤_;simp;omega
 | w::ws,a,c,hw,h=>by
  have h1:=hw w (by simp);rw[o5];split
  ·show 0≤a∧a≤_;rw[zrt];omega
  ·split
   ·show 0≤a+1∧a+1≤_;rw[zrt];omega
   ·have:=yO ws (a+w.length+1) (c++[(w.tail,w.headD 0==45)]) (fun x hx=>hw x (by simp[hx])) (by omega);rw[zrt];omega
theorem NW {s:S} (h:s.length≤20000):0≤(sN s).2.1∧(sN s).2.1≤500000000:=by
 unfold sN;split
 ·exact⟨Int.le_refl _,by decide⟩
 ·have h1:=yO (AZ 32 s) 0 [] (fun w hw=>by have:=rq (k:=0) (by decide) s.length s (zrb _) w (by rw[AO,if_pos rfl];exact hw);omega) (Int.le_refl _);have h2:=qZ (k:=0) (by decide) (c:=32) s.length s (zrb _);have h3:s.count 32≤s.length:=List.count_le_length;rw[AO,if_pos rfl]at h2;omega
def sO (s:S):V:= .tup [lss (qY s).1,o6 s (qY s).2.1 (qY s).2.2]
theorem DL (s:S) (hs:s.length≤20000):Ev TE 16 [.str s] (sO s):=by
 have hM:maxLen=9223372036854775807:=rfl;unfold sO;have hsf:=fun a e=>Ql s a e (by omega);have hsu:=TD s [10];refine ai Tryz.func16 rfl (by simp[nts]) ?_;refine ag (vm ?_);simp only[wq.1,Nat.reduceLT,Tryz.results16];refine ag ?_;refine ag (vm ?_);simp only[wq.1,seval];by_cases hA:s≠[]∧TC s [10]=false
 ·have e0 : (s == []) = false := by simpa using hA.1
  have hp:qY s=([],(s.length:Int),2):=by unfold qY;rw[if_pos hA]
  rw[hA.2]at hsu;have h2:=hsf s.length 2;have hv:o6 s s.length 2= .agg [vi 2,vi (jg s s.length).1,vi (jg s s.length).2]:=by unfold o6;rw[if_neg (by decide)]
  rw[hp];dsimp only;rw[hv]at h2 ⊢;refine AX.ev (q:=42) (vs:=[.str s,.str [10]]) (by simp only[wq.1,seval,e0]) (by simp only[wq.1,seval,e0]) rfl (fun _=>hsu) (fun _=>rfl) ?_;simp only[wq.1,seval,e0];refine vm ?_;simp only[wq.1,seval];refine ah.ev h2 rfl ?_;simp only[wq.1,seval];exact az.tup (ak.cons az.nils (ak.cons (az.dat rfl) ak.nil))
 obtain⟨q1,q2,e1,e2,e12⟩:∃q1 q2,(s==[])=q1∧TC s [10]=q2∧(q1||q2)=true:=by
  refine⟨_,_,rfl,rfl,?_⟩;rw[Bool.or_eq_true,beq_iff_eq];by_cases h:s=[]
  ·exact .inl h
  ·refine .inr ?_;cases h2:TC s [10]with
   | true=>rfl
   | false=>exact absurd ⟨h,h2⟩ hA
 have e3:(!q1&& !q2)=false:=by cases q1<;>cases q2<;>first | rfl | cases e12
 have hp:qY s=lw (D6 10 s) 0 []:=by unfold qY;rw[if_neg hA]
 rw[hp];rw[e2]at hsu;refine AX.ev (q:=42) (vs:=[.str s,.str [10]]) (by simp only[wq.1,seval,e1]) (by simp only[wq.1,seval,e1]) rfl (fun _=>hsu) (fun _=>rfl) ?_;simp only[wq.1,seval,e1,e3];refine vm ?_;simp only[wq.1,↓reduceIte];have hsa:=Jq s 10 (by omega);have htl:∀t∈D6 10 s,t.length≤s.length:=fun t ht=>rq (k:=1) (by decide) s.length s (zrb _) t (by rw[AO,if_neg (by decide)];exact ht);have htn:(D6 10 s).length≤s.length+1:=by
  have h2:=qZ (k:=1) (by decide) (c:=10) s.length s (zrb _);have h3:s.count 10≤s.length:=List.count_le_length;rw[AO,if_neg (by decide)]at h2;omega
 obtain⟨ts,hts⟩:∃ts,ts=D6 10 s:=⟨_,rfl⟩;rw[←hts]at hsa htl htn ⊢;show awp _ _ _ _ _ _ _;refine ag (vm ?_);simp only[wq.1,Nat.reduceLT];refine dC 4 1 (by simp only[wq.1,↓reduceIte]) ?_;refine ag (vm ?_);simp only[wq.1,Nat.reduceLT];refine ag ?_;refine ag (vm ?_);simp only[wq.1,seval];refine ah.ev hsa rfl ?_;simp only[wq.1,seval];refine aC ?_;refine aB (fun q f h=>∃(i:Nat) (a:Int) (l:List (List Lt)),q+i=ts.length∧l.length≤i∧0≤a∧a≤i*20001∧lw ts 0 []=lw (ts.drop i) a l∧f.t 0= .str s∧f.t 3= .lp 0 0∧f.t 4= .ls 1 1 0 l.length l.length∧f.t 5=vi a∧f.t 23=bF ts∧f.t 24=vi ts.length∧f.t 25=vi i∧f.d=[]∧h=[.cells [vi 0,vi 0,vi 0],.cells (l.map fun c=>fH c)]) ts.length ⟨0,0,[],by omega,zrb _,Int.le_refl _,by omega,rfl,by simp only[wq.1,seval],by simp only[wq.1,seval],by simp only[wq.1,seval],by simp only[wq.1,seval],by simp only[wq.1,seval],by simp only[wq.1,seval],by simp only[wq.1,↓reduceIte];rfl,by simp only[wq.1],rfl⟩ ?_;rintro q f h ⟨i,a,l,hq,hli,ha0,ha1,hgo,t0,t3,t4,t5,t23,t24,t25,hd,rfl⟩;refine ag (vm ?_);simp only[wq.1,Nat.reduceLT,t24,t25];have fin:lw ts 0 []=(l,0,0)→az TE [O.cells [vi 0,vi 0,vi 0],O.cells (l.map fun c=>fH c)] (.tup [.ls 1 1 0 l.length l.length,.agg [vi 0,vi 0,vi 0]]) (.tup [lss (lw ts 0 []).1,o6 s (lw ts 0 []).2.1 (lw ts 0 []).2.2]):=fun h=>by rw[h];exact az.tup (ak.cons (uB rfl rfl) (ak.cons (az.dat rfl) ak.nil))
 refine ag (bG (b:=decide ((i:Int)<ts.length)) (by simp only[wq.1,↓reduceIte]) (by simp only[wq.1,↓reduceIte]) (fun hlt=> ?_) (fun hlt=> ?_))
 ·simp only [zqb,zqi] at hlt;have hw := aA (show i < maxLen by omega);have hgs : (ts.map V.str).getD i .any = .str ts[i] := xu hlt _;have htm := htl _ (zqu hlt);have hdr : ts.drop i = ts[i] :: ts.drop (i + 1) := List.drop_eq_getElem_cons hlt;obtain ⟨t,hte⟩ : ∃ t,t = ts[i] := ⟨_,rfl⟩;rw [← hte] at hgs htm hdr;rw [hdr,lw] at hgo;refine vm ?_;simp only [wq.1];refine ag (aC ?_);refine ag (vm ?_);simp only [wq.1,seval,t23,t25,hgs];refine ⟨⟨by omega,by omega⟩,?_⟩;refine ag ?_;by_cases hte0 : t = []
  ·have ez : (t == []) = true := by simpa using hte0
   rw[if_pos hte0]at hgo;refine vm ?_;simp only[wq.1,seval,ez];show awp _ _ _ _ _ _ _;refine vm ?_;simp only[wq.1,seval,t3,t4,hd];exact fin hgo
  ·have ez : (t == []) = false := by simpa using hte0
   rw[if_neg hte0]at hgo;refine vm ?_;simp only[wq.1,seval,ez];have htl1:1≤t.length:=by cases t with
    | nil=>exact absurd rfl hte0
    | cons x t=>simp
   have w1:IntKind.i64.wrap ((t.length:Int)-1)=((t.length-1:Nat):Int):=by rw[dh (by omega) (by omega)];omega
   have hln:=Qj (t.take (t.length-1)) (by rw[zrl];omega);have hrg:=NW (s:=t.take (t.length-1)) (by rw[zrl];omega);obtain⟨lv,hlv⟩:∃lv,lv=sN (t.take (t.length-1)):=⟨_,rfl⟩;rw[←hlv]at hln hgo hrg;obtain⟨c,pl,er⟩:=lv;dsimp only at hln hgo hrg;refine ag (vm ?_);simp only[wq.1,seval,w1];refine⟨⟨by omega,by omega⟩,ah.ev hln rfl ?_⟩;simp only[wq.1,seval];refine ag ?_;by_cases her:er=0
   ·subst her;rw [if_neg (by decide)] at hgo;refine vm ?_;simp only [wq.1,↓reduceIte,Nat.reduceLT,Int.reduceBNe];have hel : (l.map fun c => fH c).length = l.length * 1 := by rw [zra];omega
    have dcs:∀p,V.drops p (l.map fun c=>fH c)=l.map fun c=>fH c:=fun p=>eG _;have v3:IntKind.i64.wrap (a+(t.length:Int))=a+(t.length:Int):=dh (by omega) (by omega);show awp _ _ _ _ _ _ _;refine vm ?_;simp only[wq.1,↓reduceIte,Nat.reduceEqDiff,Nat.reduceLT,reduceCtorEq,Nat.reduceMul,t4,t5,hd,dcs,v3];refine⟨⟨rfl,by decide⟩,⟨by omega,by omega,by omega⟩,?_⟩;refine vm ?_;simp only[wq.1,seval,t25,hw];refine .inl ⟨q-1,by omega,i+1,a+(t.length:Int),l++[c],by omega,by simp;omega,by omega,by omega,hgo,by simp only[wq.1,seval,t0],by simp only[wq.1,seval,t3],by simp only[wq.1,seval],by simp only[wq.1,seval],by simp only[wq.1,seval,t23],by simp only[wq.1,seval,t24],by simp only[wq.1,↓reduceIte],by simp only[wq.1,hd],by simp⟩
   ·have ee : (er != 0) = true := by simpa using her
    rw[if_pos her]at hgo;have v2:IntKind.i64.wrap (a+pl)=a+pl:=dh (by omega) (by omega);have hsv:=hsf (a+pl) er;have hv:o6 s (a+pl) er= .agg [vi er,vi (jg s (a+pl)).1,vi (jg s (a+pl)).2]:=by unfold o6;rw[if_neg her]
    rw[hgo];dsimp only;rw[hv]at hsv ⊢;refine vm ?_;simp only[wq.1,seval,t0,t5,ee,v2];refine ah.ev hsv rfl ?_;simp only[wq.1,seval,t3,hd];exact az.tup (ak.cons az.nils (ak.cons (az.dat rfl) ak.nil))
 ·simp only[zqd,zqi]at hlt;rw[List.drop_of_length_le (by omega)]at hgo;refine vm ?_;simp only[wq.1];refine vm ?_;simp only[wq.1,seval,t3,t4,hd];exact fin hgo
theorem xQ (b:Nat) (w:World) (h0:w.cell? ⟨b,0,none⟩=some (.pointer (some ⟨b,0,none⟩))) :
 Calls Tryz.prog 70 #[.pointer (some ⟨b,0,none⟩)] w fun e w'=>e= .returned (.tuple #[])∧w'=w:=by
 obtain⟨j,hj,_⟩:∃j,Tryz.prog.info? 94=some j∧True:=⟨_,rfl,trivial⟩
 go_enter Tryz.func70,Tryz.ntmps70
 go_wp2
 rw[Lib.run_neq_ptr_same w _ Tryz.underlying91 hj]
 go_wp2
 go_end0
 exact⟨rfl,rfl⟩
theorem wZ (b:Nat) (w:World) (T cells:Nat) (h0:w.cell? ⟨b,0,none⟩=some (.pointer none)) (hsh:w.shape? b=some (T,cells)) (hc:0<cells) (hl:liesAt Tryz.prog Tryz.prog.depth T (cells/Tryz.prog.cellsOf T) 0 94 1=true) (hfz:w.frozen? ⟨b,0,none⟩=false) :
 Calls Tryz.prog 70 #[.pointer (some ⟨b,0,none⟩)] w fun e w'=>e= .returned (.tuple #[])∧w'=w.setCell ⟨b,0,none⟩ (.pointer (some ⟨b,0,none⟩)):=by
 obtain⟨j,hj,hjs⟩:∃j,Tryz.prog.info? 94=some j∧j.size≠0:=⟨_,rfl,by decide⟩
 go_enter Tryz.func70,Tryz.ntmps70
 go_wp2
 rw[Lib.run_to_unsafe w ⟨b,0,none⟩ Tryz.underlying91 Tryz.underlying170 hj hjs hsh hc];simp only[Result.andThen];rw[Oper.upon_value]
 go_wp2
 rw[run_callFunc_extern Tryz.func105 (by kernel_rfl) (by kernel_rfl) (by kernel_rfl) (e:=Extern.AbiNoEscape.same) (by kernel_rfl)];rw[Lib.run_noEscape];simp only[Result.andThen];rw[Oper.upon_value]
 go_wp2
 rw[Lib.run_from_unsafe w ⟨b,0,none⟩ Tryz.underlying170 Tryz.underlying91 hj hsh hl];simp only[Result.andThen];rw[Oper.upon_value]
 go_wp2
 go_end0
 exact⟨rfl,rfl⟩
def BT (T:Nat):Prop:=Tryz.prog.cellsOf T=2∧∀k,liesAt Tryz.prog Tryz.prog.depth T (k+1) 0 94 1=true
theorem yP:BT 94:=⟨by kernel_rfl,fun k=>by kernel_rfl⟩
theorem Qm {h:H} {i:Nat} {o:O} (hi:h[i]? =some o):h.set i o=h:=by obtain⟨h1,h2⟩:=zqe hi;rw[←h2,List.set_getElem_self]
theorem oz {T : Nat} (hT : BT T) {id : Nat} {a buf : V} {h : H} {R : AEnd → H → (Nat → Bool) → Prop} (ha : a = .nilp ∨ a = .lp id 0) (hh : h[id]? = some (.typed T [a,buf]))
 (hr:R (.ret (.tup [])) (h.set id (.typed T [.lp id 0,buf])) (fun _=>false)):ah TE 70 [.lp id 0] h R:=by
 intro ok pl w vs hs hl;simp only[VList,VRel]at hl;obtain⟨y,ys,rfl,⟨b,hb,rfl⟩,rfl⟩:=hl;have hb:pl id=some b:=hb;obtain⟨o,ho,hat⟩:=hs.obj id b hb;rw[hh]at ho;cases ho;obtain⟨arr,fz,g1,g2,g3,g4⟩:=hat;have g1:w.heap[b]? =some (.cells arr T fz):=g1;have hsz:2≤arr.size:=g3;have hx0:∃x0,arr[0]? =some x0∧VRel (cx ok pl w) a x0:=by
  obtain⟨x,h1,h2⟩:=VList.get 0 a g4 rfl;refine⟨x,?_,h2⟩;rw[List.getElem?_take_of_lt (by simp)]at h1;simpa using h1
 obtain⟨x0,h0,hr0⟩:=hx0;have hcell:w.cell? ⟨b,0,none⟩=some x0:=by rw[Lib.cell_of_heap g1];exact h0
 rcases ha with rfl | rfl
 ·simp only [VRel] at hr0;subst hr0;have hsh : w.shape? b = some (T,arr.size) := by unfold World.shape?;rw [g1]
  obtain⟨k,hk⟩:∃k,arr.size/2=k+1:=⟨arr.size/2-1,by omega⟩;have hfz:w.frozen? ⟨b,0,none⟩=false:=by have:=g2 0 (by omega);unfold World.frozen?;rw[g1];simp;omega
  refine(wZ b w T arr.size hcell hsh (by omega) (by rw[hT.1,hk];exact hT.2 k) hfz).mono ?_;rintro e w' ⟨rfl,rfl⟩;obtain⟨w'',h1,h2,h3⟩:=sW hs hb (off:=0) (vs:=[.lp id 0]) (xs:=[.pointer (some ⟨b,0,none⟩)]) (by simp only[VList,VRel];exact⟨_,_,rfl,⟨b,hb,rfl⟩,rfl⟩) rfl hh (by simp);have h4:=fF (P:=TE.P) (vs:=[.pointer (some ⟨b,0,none⟩)]) (o:=0) g1 g2 (by simp;omega) (fun v hv=>by simp at hv;subst hv;rfl);rw[h4]at h1;cases h1;exact⟨fun _=>false,pl,_,.ret (.tup []),h2,h3,by show VRel _ _ _;simp only[VRel,VList];exact⟨#[],rfl,rfl⟩,hr⟩
 ·simp only[VRel]at hr0;obtain⟨b',hb',rfl⟩:=hr0;have hb':pl id=some b':=hb';rw[hb]at hb';cases hb';refine(xQ b w hcell).mono ?_;rintro e w' ⟨rfl,rfl⟩;rw[Qm hh]at hr;exact⟨fun _=>false,pl,h,.ret (.tup []),hs,Keeps.refl pl _,by show VRel _ _ _;simp only[VRel,VList];exact⟨#[],rfl,rfl⟩,hr⟩
abbrev vb (c:UInt8):V:= .int .u8 c.toNat
theorem DN : ∀ l : S,bM (l.map vb) = true
 | []=>rfl
 | a::l=>by simp only[zrd,bM,DN l,V.one,V.vc,zrk];rfl
theorem uC {p : Nat → Bool} : ∀ c : S,V.drops p (c.map vb) = c.map vb
 | []=>rfl
 | a::l=>by simp only[zrd,V.drops,V.drop,uC l]
theorem NY {T : Nat} (hT : BT T) {id : Nat} {a : V} {h : H} {R : AEnd → H → (Nat → Bool) → Prop} (s : S) (ha : a = .nilp ∨ a = .lp id 0) (hh : h[id]? = some (.typed T [a,.nils])) (hs : s ≠ []) (hl : s.length ≤ 20000000000000)
 (hr:R (.ret (.tup [vi s.length,.nili])) ((h++[O.typed 5 (s.map vb)]).set id (.typed T [.lp id 0,.ls h.length 1 0 s.length s.length])) (fun _=>false)):ah TE 39 [.lp id 0,.str s] h R:=by
 have hM:maxLen=9223372036854775807:=rfl;have hlt:id<h.length:=(zqe hh).1;have hpos:0<s.length:=List.length_pos_iff.2 hs;refine au Tryz.func39 rfl (by simp[nts]) ?_;refine ag (vm ?_);simp only[wq.1,Nat.reduceLT,Tryz.results39];refine ag (vm ?_);simp only[wq.1,seval];refine oz hT ha hh ?_;simp only[wq.1];have h1:(h.set id (.typed T [.lp id 0,.nils]))[id]? =some (.typed T [.lp id 0,.nils]):=by simp[hlt]
 refine ag (gK ?_);refine aF rfl rfl ?_;simp only[wq.1,seval];refine aF rfl rfl ?_;simp only[wq.1,seval];refine aF rfl rfl ?_;simp only[wq.1,↓reduceIte];refine aF rfl rfl ?_;simp only[wq.1,seval];refine aF rfl rfl ?_;simp only[wq.1,seval,h1];refine aF rfl rfl ?_;simp only[wq.1,seval];have hq:ti TE.P 92=some ⟨.slice 5,1,24,.nils⟩:=by simp only[wq.1]
 have hqe:ti TE.P 5=some ⟨.int .u8,1,1,.int .u8 0⟩:=by simp only[wq.1]
 refine eH rfl rfl ?_;refine rP (x:= .tmp 12) (y:= .tmp 13) (t:=92) (xt:=9) (el:=5) (m:=s.length) (cs:=s.map vb) ⟨⟨_,rfl,rfl,rfl⟩,hq,rfl,hqe,rfl,rfl,Nat.zero_lt_one⟩ (by simp only[wq.1,seval]) (by simp only[wq.1,↓reduceIte]) (by simp only[wq.1,seval]) (by simp only[wq.1,↓reduceIte]) (by simp only[wq.1,↓reduceIte]) (by simp only[wq.1,↓reduceIte]) hpos (by omega) (by show(0+s.length)*1≤_;omega) ?_;have h2:(h.set id (O.typed T [.lp id 0,.nils])++[O.typed 5 (s.map vb)])[id]? =some (.typed T [.lp id 0,.nils]):=by rw[zqj (by simpa using hlt)];exact h1
 simp only[wq.1,zrn];refine aF rfl rfl ?_;simp only[wq.1,seval];refine aF rfl rfl ?_;simp only[wq.1,seval];refine eH rfl rfl ?_;refine yj (t:=92) (x:= .tmp 16) (y:= .tmp 14) rfl (id:=id) (off:=1) (by simp only[wq.1,↓reduceIte]) (by simp only[wq.1,↓reduceIte]) (by simp only[wq.1,seval]) hq (by simp only[wq.1,seval]) (by simp only[wq.1,seval]) (by simp only[wq.1,seval]) h2 (by simp only[wq.1,seval]) ?_;refine gq ?_;simp only[wq.1,seval];refine vm ?_;simp only[wq.1,seval];rw[List.set_append_left _ _ (by simpa using hlt),List.set_set,←List.set_append_left _ _ hlt];exact hr
theorem DR (p:Nat→Bool) (h:H) (i:Nat) (o:O):(h.set i o).map (O.drop p)=(h.map (O.drop p)).set i (o.drop p):=by rw[List.map_set]
theorem Qo {T : Nat} (hT : BT T) {id bid : Nat} {a : V} {h : H} {R : AEnd → H → (Nat → Bool) → Prop} (out s : S) (ha : a = .nilp ∨ a = .lp id 0) (hne : id ≠ bid) (hh : h[id]? = some (.typed T [a,.ls bid 1 0 out.length out.length])) (hb : h[bid]? = some (.typed 5 (out.map vb))) (hl : out.length + s.length ≤ 20000000000000)
 (hr:R (.ret (.tup [vi s.length,.nili])) (((h.map (O.drop (·==bid))).set bid (O.typed 5 ((out++s).map vb))).set id (.typed T [.lp id 0,.ls bid 1 0 (out++s).length (out++s).length])) (·==bid)):ah TE 39 [.lp id 0,.str s] h R:=by
 have hM:maxLen=9223372036854775807:=rfl;have hlt:id<h.length:=(zqe hh).1;have hltb:bid<h.length:=(zqe hb).1;have hidb:(id==bid)=false:=by simpa using hne
 refine au Tryz.func39 rfl (by simp[nts]) ?_;refine ag (vm ?_);simp only[wq.1,Nat.reduceLT,Tryz.results39];refine ag (vm ?_);simp only[wq.1,seval];refine oz hT ha hh ?_;simp only[wq.1];have h1:(h.set id (.typed T [.lp id 0,.ls bid 1 0 out.length out.length]))[id]? =some (.typed T [.lp id 0,.ls bid 1 0 out.length out.length]):=by simp[hlt]
 have h1b:(h.set id (.typed T [.lp id 0,.ls bid 1 0 out.length out.length]))[bid]? =some (.typed 5 (out.map vb)):=by rw[zqn hne];exact hb
 refine ag (gK ?_);refine aF rfl rfl ?_;simp only[wq.1,seval];refine aF rfl rfl ?_;simp only[wq.1,seval];refine aF rfl rfl ?_;simp only[wq.1,↓reduceIte];refine aF rfl rfl ?_;simp only[wq.1,seval];refine aF rfl rfl ?_;simp only[wq.1,seval,h1];refine aF rfl rfl ?_;simp only[wq.1,seval];have hq:ti TE.P 92=some ⟨.slice 5,1,24,.nils⟩:=by simp only[wq.1]
 have hqe:ti TE.P 5=some ⟨.int .u8,1,1,.int .u8 0⟩:=by simp only[wq.1]
 refine eH rfl rfl ?_;refine tY (x:= .tmp 12) (y:= .tmp 13) (t:=92) (xt:=9) (el:=5) (m:=s.length) (cs:=s.map vb) (len:=out.length) (cap:=out.length) ⟨⟨_,rfl,rfl,rfl⟩,hq,rfl,hqe,rfl,rfl,Nat.zero_lt_one⟩ (by simp only[wq.1,seval]) (by simp only[wq.1,↓reduceIte]) (id:=bid) (by simp only[wq.1,seval]) h1b (by rw[zra];show _=out.length*1;omega) (by simp only[wq.1,↓reduceIte]) (by simp only[wq.1,↓reduceIte]) (by simp only[wq.1,↓reduceIte]) (DN s) (by omega) (by show(out.length+s.length)*1≤_;omega) (by simp only[wq.1]) ?_;rw[kY,uC,uC,DR];have e1:(O.typed T [.lp id 0,.ls bid 1 0 out.length out.length]).drop (·==bid)= .typed T [.lp id 0,.any]:=by
  simp only[O.drop,V.drops,V.drop,hidb,beq_self_eq_true,zrm,if_false,if_true]
 rw[e1];generalize hG:h.map (O.drop (·==bid))=G at hr ⊢;have hGl:id<G.length:=by rw[←hG,zra];exact hlt
 have h2:((G.set id (O.typed T [.lp id 0,.any])).set bid (O.typed 5 (out.map vb++s.map vb)))[id]? =some (.typed T [.lp id 0,.any]):=by rw[zqn (Ne.symm hne)];simp[hGl]
 simp only[wq.1];refine aF rfl rfl ?_;simp only[wq.1,seval,hidb];refine aF rfl rfl ?_;simp only[wq.1,seval];refine eH rfl rfl ?_;refine yj (t:=92) (x:= .tmp 16) (y:= .tmp 14) rfl (id:=id) (off:=1) (by simp only[wq.1,↓reduceIte]) (by simp only[wq.1,↓reduceIte]) (by simp only[wq.1,seval]) hq (by simp only[wq.1,seval]) (by simp only[wq.1,seval]) (by simp only[wq.1,seval]) h2 (by simp only[wq.1,seval]) ?_;refine gq ?_;simp only[wq.1,seval];refine vm ?_;simp only[wq.1,seval];rw[zql,zqa]at hr;rw[List.set_comm _ _ hne,List.set_set];exact hr
theorem Jr (b g len cap cells:Nat) (l:List UInt8) (w:World) (c1:w.drew.cell? ⟨b,1,none⟩=some (.slice (some ⟨g,0,none⟩) l.length cap)) (hcap:cap≠0) (hsh:w.drew.shape? g=some (5,cells)) (hn:l.length≤cells) (h63:l.length≤9223372036854775807) (h0:l≠[]) (hcell:∀j x,l[j]? =some x→w.drew.cell? ((⟨g,0,none⟩:Addr).add j)=some (.int .u8 x.toNat)) :
 Calls Tryz.prog 41 #[.pointer (some ⟨b,0,none⟩)] w fun e w'=>e= .returned (.string ⟨l.toArray⟩)∧w'=w.drew.freeze ⟨g,0,none⟩ l.length:=by
 have hSD:(Builtin.unsafeSliceData_ #[92] 138 #[.slice (some ⟨g,0,none⟩) l.length cap]).run Tryz.prog w.drew= .ok (.pointer (some ⟨g,0,none⟩)) w.drew :=
  Lib.run_unsafeSliceData_row w.drew _ _ _ _ _ hcap
 have hUS:(Builtin.unsafeString_ #[138,3] 9 #[.pointer (some ⟨g,0,none⟩),.int .i64 l.length]).run Tryz.prog w.drew= .ok (.string ⟨l.toArray⟩) (w.drew.freeze ⟨g,0,none⟩ l.length) :=
  Lib.run_unsafeString_row w.drew 138 3 9 5 Tryz.underlying138 (by kernel_rfl) g cells hsh l h0 hn h63 hcell
 go_enter Tryz.func41,Tryz.ntmps41
 go_wp2
 go_region
 all_goals (go_wp2;go_ret;exact⟨rfl,rfl⟩)
theorem TZ {T id bid : Nat} {a : V} {h : H} {R : AEnd → H → (Nat → Bool) → Prop} (out : S) (hh : h[id]? = some (.typed T [a,.ls bid 1 0 out.length out.length])) (hb : h[bid]? = some (.typed 5 (out.map vb))) (h0 : out ≠ []) (hl : out.length ≤ 20000000000000)
 (hr:R (.ret (.str out)) ((h.map (O.drop (·==bid))).set bid .dead) (·==bid)):ah TE 41 [.lp id 0] h R:=by
 intro ok pl w vs hs hv;simp only[VList,VRel]at hv;obtain⟨y,ys,rfl,⟨b,hpb,rfl⟩,rfl⟩:=hv;have hpb:pl id=some b:=hpb;have hpos:0<out.length:=List.length_pos_iff.2 h0;obtain⟨o,ho,hat⟩:=hs.obj id b hpb;rw[hh]at ho;cases ho;obtain⟨arr,fz,g1,g2,g3,g4⟩:=hat;have g1:w.heap[b]? =some (.cells arr T fz):=g1;obtain⟨x1,e1,r1⟩:=VList.get 1 (.ls bid 1 0 out.length out.length) g4 rfl;have e1:arr[1]? =some x1:=by
  rw[List.getElem?_take_of_lt (by simp)]at e1;simpa using e1
 simp only[VRel]at r1;obtain⟨ad,cp,rfl,q2,q3,q4,q5⟩:=r1;rcases q5 with q5 | ⟨g,arr2,el2,fz2,q6,rfl,q8,q9⟩
 ·omega
 have q6:pl bid=some g:=q6;obtain⟨o,ho,hat⟩:=hs.obj bid g q6;rw[hb]at ho;cases ho;obtain⟨arr3,fz3,k1,k2,k3,k4⟩:=hat;have k1:w.heap[g]? =some (.cells arr3 5 fz3):=k1;have k3:out.length≤arr3.size:=by simpa using k3
 have hcell:w.drew.cell? ⟨b,1,none⟩=some (.slice (some ⟨g,0,none⟩) out.length cp):=by rw[Lib.cell_of_heap (w:=w.drew) g1];exact e1
 have hsh:w.drew.shape? g=some (5,arr3.size):=by unfold World.shape?;show(match w.heap[g]? with | some (.cells c e _)=>some (e,c.size) | _=>none)=_;rw[k1]
 refine(Jr b g out.length cp arr3.size out w hcell (by omega) hsh k3 (by omega) h0 fun j x hx=> ?_).mono ?_
 ·have hj:j<out.length:=(zqe hx).1;obtain⟨x2,hx2,r2⟩:=VList.get j (vb x) k4 (by rw[zqo,hx];rfl);simp only[VRel]at r2;subst r2;rw[zra,List.getElem?_take_of_lt hj]at hx2;rw[dJ,Lib.cell_of_heap (w:=w.drew) k1,Nat.zero_add];simpa using hx2
 ·rintro en w' ⟨rfl,rfl⟩;have hsz:(w.drew.freeze ⟨g,0,none⟩ out.length).heap.size=w.heap.size:=by
   unfold World.freeze;rw[if_neg (by omega)];exact Array.size_modify
  have hsame:∀i,i≠g→(w.drew.freeze ⟨g,0,none⟩ out.length).heap[i]? =w.heap[i]? :=fun i hi=>by unfold World.freeze;rw[if_neg (by omega)];show(w.heap.modify g _)[i]? =_;rw[Array.getElem?_modify,if_neg (Ne.symm hi)]
  have hrow:∀arr el fz,w.heap[g]? =some (.cells arr el fz)→∃arr' fz',(w.drew.freeze ⟨g,0,none⟩ out.length).heap[g]? =some (.cells arr' el fz')∧arr'.size=arr.size:=fun a3 el fz4 ha=>by unfold World.freeze;rw[if_neg (by omega)];refine⟨a3,(if fz4.1==fz4.2 then(0,0+out.length)else(min fz4.1 0,max fz4.2 (0+out.length))),?_,rfl⟩;show(w.heap.modify g _)[g]? =_;rw[Array.getElem?_modify,if_pos rfl,ha];rfl
  have hos:(w.drew.freeze ⟨g,0,none⟩ out.length).os=w.os∧(w.drew.freeze ⟨g,0,none⟩ out.length).tape=w.tape∧(w.drew.freeze ⟨g,0,none⟩ out.length).output=w.output:=by unfold World.freeze;rw[if_neg (by omega)];exact⟨rfl,rfl,rfl⟩
  obtain⟨s1,s2⟩:=hs.burn q6 hos.1 hos.2.1 hos.2.2 hsz hsame hrow;exact⟨_,_,_,.ret (.str out),s1,s2,by show VRel _ _ _;simp only[VRel];exact⟨_,rfl,by simp,by have:maxLen=9223372036854775807:=rfl;omega⟩,hr⟩
end Go.Proofs.YtmlacppmbfbjgaaGreatDoor
