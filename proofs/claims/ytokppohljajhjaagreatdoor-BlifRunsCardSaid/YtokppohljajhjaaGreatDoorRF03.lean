/- Lemmas for this claim, part F03: each holds under what it names. -/
import Derived.Test.YtokppohljajhjaaGreatDoorRF02
import Derived.Test.YtokppohljajhjaaGreatDoorRA9
import Derived.Test.YtokppohljajhjaaGreatDoorRA8
import Derived.Test.YtokppohljajhjaaGreatDoorRA10
set_option linter.all false
set_option maxRecDepth 20000
set_option maxHeartbeats 4000000
namespace Go.Proofs.YtokppohljajhjaaGreatDoor
open Go Go.Proofs Go.Abs
theorem EX(p s:S):p.isPrefixOf s=(decide (p.length<=s.length)&&(s.take p.length==p)):=by
 rw[Bool.eq_iff_iff,List.isPrefixOf_iff_prefix,List.prefix_iff_eq_take,zqf,zqb,beq_iff_eq];constructor
 ·intro h;have:=congrArg List.length h;rw[zrl]at this;exact⟨by omega,h.symm⟩
 ·exact fun h=>h.2.symm
theorem CZ[MO](s p:S):Ev TE 108 [.str s,.str p] (.bool (p.isPrefixOf s)):=by
 rw[EX];refine ah Tryz.func108 rfl (by simp[nts]) (vm ?_);by_cases hle:p.length<=s.length
 ·have e1:decide ((p.length:Int)<=(s.length:Int))=true:=by simpa using hle
  have e2:decide (p.length<=s.length)=true:=by simpa using hle
  simp only[wq.1,seval,Tryz.results108,e1,e2];exact⟨⟨by omega,by omega⟩,aA.dat rfl⟩
 ·have e1:decide ((p.length:Int)<=(s.length:Int))=false:=by simpa using hle
  have e2:decide (p.length<=s.length)=false:=by simpa using hle
  simp only[wq.1,seval,Tryz.results108,e1,e2];exact aA.dat rfl
theorem L6[MO](s p:S):Ev TE 68 [.str s,.str p] (.bool (p.isPrefixOf s)):=by refine ah Tryz.func68 rfl (by simp[nts]) (vm ?_);simp only[wq.1,seval,Tryz.results68];refine ag.ev (CZ s p) rfl ?_;simp only[wq.1,seval];exact aA.dat rfl
theorem SN(c d:UInt8):((c.toNat:Int) != (d.toNat:Int))=(c != d):=by
 rw[bne,bne]
 congr 1
 rw[Bool.eq_iff_iff,beq_iff_eq,beq_iff_eq,Int.ofNat_inj];exact⟨fun h=>UInt8.toNat_inj.1 h,fun h=>by rw[h]⟩
theorem PM(c d:UInt8):((c.toNat:Int)==(d.toNat:Int))=(c==d):=by rw[Bool.eq_iff_iff,beq_iff_eq,beq_iff_eq,Int.ofNat_inj];exact⟨fun h=>UInt8.toNat_inj.1 h,fun h=>by rw[h]⟩
theorem zZ:∀(l:S)(c:UInt8),decide (Lib.indexByte l c<0)= !l.contains c
 |[],c=>rfl
 |x::l,c=>by
  have ih:=zZ l c;rw[List.contains_cons];by_cases h:x=c
  ·subst h;simp[Lib.indexByte]
  ·have h1:(x==c)=false:=by simpa using h
   have h2:(c==x)=false:=by simpa using fun e:c=x=>h e.symm
   rw[h2,Bool.false_or,<-ih,Lib.indexByte,h1];have h3:=Lib.indexByte_ge l c;generalize Lib.indexByte l c=z at *;by_cases hm:z=-1
   ·subst hm;rfl
   ·have:(z==-1)=false:=by simpa using hm
    rw[this];simp;omega
theorem PN(l:S)(c:UInt8):decide (0<=Lib.indexByte l c)=l.contains c:=by have:=zZ l c;rw[<-Bool.not_not (b:=l.contains c),<-this,<-decide_not];exact decide_eq_decide.2 (by omega)
theorem PO[MO](c:UInt8):Ev TE 203 [vb c] (.bool (c != 10)):=by refine ah Tryz.func203 rfl (by simp[nts]) (vm ?_);simp only[wq.1,seval,Tryz.results203];refine eQ rfl ?_;rw[<-SN c 10];rfl
def EY:S:=[32,9,13]
def PQ:S:=[32,9,13,10,35,92]
theorem PR[MO](c:UInt8):Ev TE 202 [vb c] (.bool (!PQ.contains c)):=by have h:=Gx PQ c.toNat (by have:=c.toNat_lt;omega);rw[UInt8.ofNat_toNat]at h;refine ah Tryz.func202 rfl (by simp[nts]) (vm ?_);simp only[wq.1,seval,Tryz.results202];refine ag.ev h rfl ?_;simp only[wq.1,seval];refine eQ rfl ?_;rw[<-zZ]
def C9(p:UInt8->Bool)(s:S):Nat:=(s.takeWhile p).length
theorem Dc{p:UInt8->Bool}{s:S}{n:Nat}(h:n<=s.length)(ha:∀x∈s.take n,p x=true)(hs:∀hn:n<s.length,p s[n]=false):C9 p s=n:=by
 have e:s=s.take n++s.drop n:=(List.take_append_drop n s).symm;have h1:(s.drop n).takeWhile p=[]:=by
  by_cases hn:n<s.length
  ·rw[List.drop_eq_getElem_cons hn,List.takeWhile_cons,hs hn];rfl
  ·rw[List.drop_eq_nil_of_le (by omega)];rfl
 unfold C9;rw[e,List.takeWhile_append_of_pos ha,h1,zqp,zrl];omega
theorem Rf[MO](s:S)(a:Nat)(q:FuncId)(p:UInt8->Bool)(ha:a<=s.length)(hs:s.length<=1000000000)(he:ai P q=true)(hq:∀c:UInt8,Ev TE q [vb c] (.bool (p c))) :
 Ev TE 201 [.str s,vi a,.fn (.func q) [] []] (vi (C9 p (s.drop a))):=by
 have hM:=mLx;refine ah Tryz.func201 rfl (by simp[nts]) (vm ?_);simp only[wq.1,Nat.reduceLT,Tryz.results201];refine aF (fun m f h=>∃i,m+i=s.length-a/\f.t 0= .str s/\f.t 1=vi a/\f.t 2= .fn (.func q) [] []/\f.t 7=vi i/\f.d=[]/\∀x∈(s.drop a).take i,p x=true) (s.length-a) ⟨0,by simp,rfl,rfl,rfl,rfl,rfl,by simp⟩ ?_;rintro m f h ⟨i,hm,h0,h1,h2,h7,hd,hall⟩;have hl:(s.drop a).length=s.length-a:=List.length_drop ..;have w1:IntKind.i64.wrap ((a:Int)+i)=((a+i:Nat):Int):=by rw[iw (by omega) (by omega)];omega
 refine vm ?_;by_cases hc:a+i<s.length
 ·have hc':decide (((a+i:Nat):Int)<s.length)=true:=by simp;omega
  have hg:(s.drop a)[i]'(by omega)=s[a+i]:=List.getElem_drop ..;simp only[wq.1,seval,h0,h1,h2,h7,w1,hc',OZ hc,he];refine⟨⟨by omega,by omega⟩,ag.ev (hq _) rfl ?_⟩;simp only[wq.1,seval];cases hp:p s[a+i]with
  |true=>simp only[wq.1,seval,h7,az (show i<maxLen by omega)];exact .inl ⟨m-1,by omega,i+1,by omega,h0,h1,h2,rfl,hd,dD (by omega) hall (by rw[hg];exact hp)⟩
  |false=>simp only[wq.1,seval,h7,hd];rw[Dc (n:=i) (by omega) hall (fun _=>by rw[hg];exact hp)];exact aA.dat rfl
 ·have hc':decide (((a+i:Nat):Int)<s.length)=false:=by simp;omega
  simp only[wq.1,seval,h0,h1,h2,h7,w1,hc'];refine⟨.any,?_⟩;simp only[wq.1,seval,h7,hd];rw[Dc (n:=i) (by omega) hall (fun h=>absurd h (by omega))];exact aA.dat rfl
theorem SQ[MO](s:S)(a:Nat)(ha:a<=s.length)(hs:s.length<=1000000000):Ev TE 199 [.str s,vi a] (vi (C9 (· != 10) (s.drop a))):=by refine ah Tryz.func199 rfl (by simp[nts]) (vm ?_);simp only[wq.1,seval,Tryz.results199];refine ag.ev (Rf s a 203 _ ha hs (by simp[ens]) PO) rfl ?_;simp only[wq.1,seval];exact aA.dat rfl
abbrev Tk.v(t:Tk):V:= .agg [vi t.k,.str t.t,vi t.at']
abbrev iO(l:List Tk):V:= .is false 3 (l.map Tk.v)
theorem EZ[MO](n:Int):Ev TE 198 [vi n] (.tup [.agg [vi (-1),.str [],vi 0],vi n]):=by refine ah Tryz.func198 rfl (by simp[nts]) (vm ?_);simp only[wq.1,seval,Tryz.results198];exact aA.dat rfl
theorem Rh[MO](k:Int)(s:S)(a n:Nat)(hn:n≠0)(ha:a+n<=s.length)(hs:s.length<=1000000000):Ev TE 200 [vi k,.str s,vi a,vi n] (.tup [.agg [vi k,.str ((s.drop a).take n),vi a],vi n]):=by
 have e0:((n:Int)==0)=false:=by simpa using hn
 have w1:IntKind.i64.wrap ((a:Int)+n)=((a+n:Nat):Int):=by rw[iw (by omega) (by omega)];omega
 refine ah Tryz.func200 rfl (by simp[nts]) (vm ?_);simp only[wq.1,seval,Tryz.results200,e0,w1];rw[Nat.add_sub_cancel_left];exact⟨by omega,aA.dat rfl⟩
def oZ(p:Nat):S->Option Tk×Nat
 |[]=>(none,0)
 |c::r =>
  if c=35 then(none,C9 (· != 10) (c::r))
  else if c=92/\r.head? =some 10 then(none,2)
  else if pG c=true then(none,1)
  else if c=10 then(some ⟨3,[],p⟩,1)
  else if c=92 then(some ⟨0,[92],p⟩,1)
  else(some ⟨0,(c::r).takeWhile gU,p⟩,C9 gU (c::r))
theorem Gz(p:UInt8->Bool):∀l:S,l.dropWhile p=l.drop (C9 p l)
 |[]=>rfl
 |x::l=>by
  unfold C9;cases h:p x with
  |true=>rw[List.dropWhile_cons,if_pos h,List.takeWhile_cons,if_pos h,zrt,List.drop_succ_cons,Gz p l];rfl
  |false=>rw[List.dropWhile_cons,if_neg (by rw[h];decide),List.takeWhile_cons,if_neg (by rw[h];decide)];rfl
theorem GG{n p:Nat}{c:UInt8}{r:S}:tkB (n+1) p (c::r)=(oZ p (c::r)).1.toList++tkB n (p+(oZ p (c::r)).2) ((c::r).drop (oZ p (c::r)).2):=by
 rw[tkB,oZ]
 repeat' split
 all_goals first|rfl|(rw[Gz];rfl)
abbrev tkO:Option Tk->V
 |some t=>t.v
 |none=> .agg [vi (-1),.str [],vi 0]
theorem L8(c:UInt8):(!PQ.contains c)=gU c:=by unfold PQ gU pG;simp only[List.contains_cons,List.contains_nil,Bool.or_false,Bool.or_assoc,beq_iff_eq]
theorem SS[MO](s:S)(a:Nat)(c:UInt8)(r:S)(hr:s.drop a=c::r)(hs:s.length<=1000000000):Ev TE 197 [.agg [],.str s,vi a] (.tup [tkO (oZ a (c::r)).1,vi (oZ a (c::r)).2]):=by
 have hM:=mLx;have ha:a<s.length:=by have:=congrArg List.length hr;rw[List.length_drop,zrt]at this;omega
 have hc:s[a]=c:=by have:=List.drop_eq_getElem_cons ha;rw[hr]at this;injection this with h1 _;exact h1.symm
 have hln:=SQ s a (by omega) hs;have hpf:=L6 (s.drop a) [92,10];have hib:=Gx EY c.toNat (by have:=c.toNat_lt;omega);rw[UInt8.ofNat_toNat]at hib;have hrn:=Rf s a 202 gU (by omega) hs (by simp[ens]) (fun x=>by rw[<-L8];exact PR x);rw[hr]at hln hpf hrn;have hib2:decide (0<=Lib.indexByte EY c)=pG c:=by rw[PN];unfold EY pG;simp only[List.contains_cons,List.contains_nil,Bool.or_false,Bool.or_assoc]
 have e35:((c.toNat:Int)==35)=(c==35):=PM c 35;have e10:((c.toNat:Int)==10)=(c==10):=PM c 10;have e92:((c.toNat:Int)==92)=(c==92):=PM c 92;have hpf2:([92,10]:S).isPrefixOf (c::r)=decide (c=92/\r.head? =some 10):=by
  cases r with
  |nil=>simp[List.isPrefixOf]
  |cons d r=>simp only[List.isPrefixOf,Bool.and_true,List.head?_cons,Option.some.injEq];rw[Bool.eq_iff_iff,zqf,beq_iff_eq,beq_iff_eq,zqb];exact⟨fun h=>⟨h.1.symm,h.2.symm⟩,fun h=>⟨h.1.symm,h.2.symm⟩⟩
 rw[hpf2]at hpf;have hlen:(c::r).length=s.length-a:=by rw[<-hr,List.length_drop]
 have hpos:C9 gU (c::r)<=(c::r).length:=(List.takeWhile_sublist _).length_le;obtain⟨R,hR⟩:∃R,R=oZ a (c::r):=⟨_,rfl⟩;rw[<-hR];refine ah Tryz.func197 rfl (by simp[nts]) (vm ?_);simp only[wq.1,seval,Tryz.results197,OZ ha,hc,e35];refine⟨⟨by omega,by omega⟩,vcB.mk (fun h1=> ?_) (fun h1=> ?_)⟩
 ·have h1':c=35:=by simpa using h1
  have:R=(none,C9 (· != 10) (c::r)):=by rw[hR,oZ,if_pos h1']
  subst this;simp only[wq.1,seval];refine ag.ev hln rfl ?_;simp only[wq.1,seval];refine ag.ev (EZ _) rfl ?_;simp only[wq.1,seval];exact aA.dat rfl
 have h1':c≠35:=by simpa using h1
 rw[oZ,if_neg h1']at hR;simp only[wq.1,seval,hr];refine⟨by omega,ag.ev hpf rfl ?_⟩;simp only[wq.1,seval];refine vcB.mk (fun h2=> ?_) (fun h2=> ?_)
 ·have h2':=zqs h2;rw[if_pos h2']at hR;subst hR;simp only[wq.1,Nat.reduceLT];refine ag.ev (EZ _) rfl ?_;simp only[wq.1,seval];exact aA.dat rfl
 have h2':=of_decide_eq_false h2;rw[if_neg h2']at hR;simp only[wq.1,seval];refine ag.ev hib rfl ?_;simp only[wq.1,seval,hib2];refine vcB.mk (fun h3=> ?_) (fun h3=> ?_)
 ·rw[if_pos h3]at hR;subst hR;simp only[wq.1,Nat.reduceLT];refine ag.ev (EZ _) rfl ?_;simp only[wq.1,seval];exact aA.dat rfl
 rw[if_neg (by rw[h3];decide)]at hR;simp only[wq.1,seval,e10];refine vcB.mk (fun h4=> ?_) (fun h4=> ?_)
 ·rw[if_pos (by simpa using h4)]at hR;subst hR;simp only[wq.1,seval];exact aA.dat rfl
 have h4':c≠10:=by simpa using h4
 rw[if_neg h4']at hR;simp only[wq.1,seval,e92];refine vcB.mk (fun h5=> ?_) (fun h5=> ?_)
 ·have h5':c=92:=by simpa using h5
  rw[if_pos h5']at hR;subst hR;have h:=Rh 0 s a 1 (by decide) (by omega) hs;rw[hr,h5']at h;simp only[wq.1,seval];refine ag.ev h rfl ?_;simp only[wq.1,seval];exact aA.dat rfl
 have h5':c≠92:=by simpa using h5
 rw[if_neg h5']at hR;subst hR;have hw:gU c=true:=by
  unfold gU;rw[h3];simp[h1',h4',h5']
 have h:=Rh 0 s a (C9 gU (c::r)) (by unfold C9;rw[List.takeWhile_cons,if_pos hw];simp) (by omega) hs;rw[hr]at h;have ht:(c::r).take (C9 gU (c::r))=(c::r).takeWhile gU:=by
  unfold C9
  conv=>lhs;rw[<-List.takeWhile_append_dropWhile (p:=gU) (l:=c::r)]
  rw[List.take_append_of_le_length (by simp)];simp
 rw[ht]at h;simp only[wq.1,seval];refine ag.ev hrn rfl ?_;simp only[wq.1,seval];refine ag.ev h rfl ?_;simp only[wq.1,seval];exact aA.dat rfl
abbrev tkF(t:Tk):List V:=[vi t.k,.str t.t,vi t.at']
def tkC(l:List Tk):List V:=l.flatMap tkF
theorem Aa(l:List Tk)(t:Tk):tkC (l++[t])=tkC l++tkF t:=by simp[tkC]
theorem E5(l:List Tk):(tkC l).length=l.length*3:=by
 induction l with
 |nil=>rfl
 |cons t l ih=>show(_::_::_::tkC l).length=_;simp only[zrt,ih];omega
theorem lD{p:Nat->Bool}:∀l:List Tk,V.drops p (tkC l)=tkC l
 |[]=>rfl
 |t::l=>by show V.drop p (vi t.k)::V.drop p (.str t.t)::V.drop p (vi t.at')::V.drops p (tkC l)=_;rw[lD l];rfl
theorem GH:∀l:List Tk,V.dats (tkC l)=true
 |[]=>rfl
 |t::l=>by show(V.dat (vi t.k)&&(V.dat (.str t.t)&&(V.dat (vi t.at')&&V.dats (tkC l))))=true;rw[GH l];rfl
theorem Ri:∀l:List Tk,dH 3 (l.map Tk.v)=true
 |[]=>rfl
 |t::l=>by show(_&&dH 3 (l.map Tk.v))=true;rw[Ri l];rfl
theorem U1:∀l:List Tk,(l.map Tk.v).flatMap V.vc=tkC l
 |[]=>rfl
 |t::l=>by show V.vc (Tk.v t)++(l.map Tk.v).flatMap V.vc=_;rw[U1 l];rfl
theorem Df[MO]{h:H}{id len cap:Nat}{l:List Tk}(hc:h[id]? =some (.cells (tkC l)))(hl:len=l.length):aA TE h (.ls id 3 0 len cap) (iO l) :=
 aA.ls hc (au.dat (GH l)) (Ri l) (U1 l) (by rw[zra];exact hl)
theorem PS [MO] {h : H} {d : List Deferred} : UD { TE with tl := d } h 135 (.agg []) "patchbay/token.read" 197 (.agg []) := by
 intro ok pl w x hs hx;have hx':=hx;simp only[VRel,VList]at hx;obtain⟨cs,rfl,hcs⟩:=hx;have:cs=#[]:=by cases cs;simp at hcs;rw[hcs]
 subst this;exact⟨_,by kernel_rfl,hx'⟩
theorem L9[MO]{h:H}{K:H->(Nat->Bool)->Prop}(hK:∀X,K (h++[X]) (fun _=>false)):iV TE 111 [.lp 0 0,.lp 1 0,.lp 2 0] h K:=by
 have hgE:∀x:O,(h++[x])[h.length]? =some x:=fun x=>by simp
 have hgS:∀x y:O,(h++[x]).set h.length y=h++[y]:=fun x y=>by simp
 refine kM rfl Tryz.func111 rfl rfl (by simp[nts]) rfl (fun ev w=>rfl) rfl (by decide) ?_;simp only[nts];refine eX rfl rfl ?_;refine jK (x:= .tmp 6) (t:=191) (q:=⟨.struct [(0,3)],1,8,.agg [vi 0]⟩) rfl (by simp only[wq.1]) (by simp only[wq.1,↓reduceIte]) (by simp only[wq.1,↓reduceIte]) ?_;refine ay rfl rfl ?_;simp only[wq.1,↓reduceIte];refine ay rfl rfl ?_;simp only[wq.1,seval];refine ay rfl rfl ?_;simp only[wq.1,seval];refine ay rfl rfl ?_;simp only[wq.1];refine ay rfl rfl ?_;simp only[wq.1,seval,hgE,hgS];refine ay rfl rfl ?_;simp only[wq.1,seval];refine eG ?_;show awp _ _ _ _ _ _ _;refine vm ?_;simp only[wq.1,seval];exact hK _
theorem PT{p:Nat}{c:UInt8}{r:S}:1<=(oZ p (c::r)).2/\(oZ p (c::r)).2<=(c::r).length:=by
 have hw:∀q:UInt8->Bool,q c=true->1<=C9 q (c::r)/\C9 q (c::r)<=(c::r).length:=fun q hq=>by unfold C9;refine⟨by rw[List.takeWhile_cons,if_pos hq];simp,(List.takeWhile_sublist _).length_le⟩
 rw[oZ];by_cases h1:c=35
 ·rw[if_pos h1];exact hw _ (by rw[h1];decide)
 rw[if_neg h1];by_cases h2:c=92/\r.head? =some 10
 ·rw[if_pos h2];refine⟨by show 1<=2;omega,?_⟩;cases r with
  |nil=>exact absurd h2.2 (by simp)
  |cons d r=>show 2<=_;simp only[zrt];omega
 rw[if_neg h2];by_cases h3:pG c=true
 ·rw[if_pos h3];exact⟨zrb 1,by show 1<=_;simp only[zrt];omega⟩
 rw[if_neg h3];by_cases h4:c=10
 ·rw[if_pos h4];exact⟨zrb 1,by show 1<=_;simp only[zrt];omega⟩
 rw[if_neg h4];by_cases h5:c=92
 ·rw[if_pos h5];exact⟨zrb 1,by show 1<=_;simp only[zrt];omega⟩
 rw[if_neg h5];refine hw _ ?_;unfold gU;simp at h3;simp[h1,h3,h4,h5]
theorem I4[MO](s:S)(hs:s.length<=1000000):ag TE 72 [.iface 135 (.agg []),.str s] [] (fun ae h' _=>ae= .ret (.tup [.ls 3 3 0 (tkB s.length 0 s).length (tkB s.length 0 s).length,vi 0,vi 0])/\∃x0 X,h'=[x0,.cells [vi 0],.cells [vi 0],.cells (tkC (tkB s.length 0 s))]++X):=by
 have hM:=mLx;refine kK rfl Tryz.func72 rfl (by simp[nts]) fun ok pl0 w0=> ?_;simp only[nts];refine zN (Q:=fun _ _ _=>False) ?_ (fun _ _ _ h=>by obtain⟨_,_,_,_,_,_,h⟩:=h;exact h.elim);refine vm ?_;simp only[wq.1,seval];refine wF rfl (fn:=Tryz.f72) (q:=111) (caps:=[.lp 0 0,.lp 1 0,.lp 2 0]) (fx:= .tmp 10) rfl rfl (by simp only[wq.1,seval]) rfl rfl rfl rfl (by simp only[wq.1,seval]) (by simp only[wq.1,seval]) (by simp only[wq.1]) rfl fun dd=> ?_;simp only[nts];obtain⟨ee,hee⟩:∃ee:E,ee={TE with tl:=[dd]}:=⟨_,rfl⟩;have hP:ee.P=P:=by rw[hee];rfl
 have hmix:ee.P.follows .mixedOrders=true:=by rw[hP];exact mixed
 have hT:∀ {g:FuncId} {args:List V} {h:H} {R:AEnd->H->(Nat->Bool)->Prop},ag TE g args h R->ag ee g args h R:=fun hc=>by rw[hee];exact hc.tl _
 rw[<-hee];obtain⟨QP,eQP⟩:∃QP:XE->Fr->H->Prop,QP=fun xe f' h'=>f'.d=[]/\V.drops f'.k [V.lp 0 0,V.lp 1 0,V.lp 2 0]=[V.lp 0 0,V.lp 1 0,V.lp 2 0]/\(match xe with
  | .pan v=>jI TE 111 [V.lp 0 0,V.lp 1 0,V.lp 2 0] v h' fun h'' p=>lZ TE.P Tryz.f72.results.toList (fun v h k=>AEnd.ret v= .ret (.tup [.ls 3 3 0 (tkB s.length 0 s).length (tkB s.length 0 s).length,vi 0,vi 0])/\∃x0 X,h=[x0,.cells [vi 0],.cells [vi 0],.cells (tkC (tkB s.length 0 s))]++X) (f'.drop p) h''
  | .ret=>iV TE 111 [V.lp 0 0,V.lp 1 0,V.lp 2 0] h' fun h'' p=>lZ TE.P Tryz.f72.results.toList (fun v h k=>AEnd.ret v= .ret (.tup [.ls 3 3 0 (tkB s.length 0 s).length (tkB s.length 0 s).length,vi 0,vi 0])/\∃x0 X,h=[x0,.cells [vi 0],.cells [vi 0],.cells (tkC (tkB s.length 0 s))]++X) (f'.drop p) h''
  |_=>False):=⟨_,rfl⟩
 refine bi (Q:=QP) (fun xe f' h' hq=>by rw[eQP]at hq;exact hq) ?_;have hkd:∀ {k:Nat->Bool},(∀j,j<3->k j=false)->V.drops k [V.lp 0 0,V.lp 1 0,V.lp 2 0]=[V.lp 0 0,V.lp 1 0,V.lp 2 0]:=fun {k} h=>by
  have z0:=h 0 (by decide);have z1:=h 1 (by decide);have z2:=h 2 (by decide);simp only[V.drops,V.drop,z0,z1,z2,if_false,zrm]
 obtain⟨hA,ehA⟩:∃hA:List Tk->H,hA=fun L=>[.cells [.ls 3 3 0 L.length L.length],.cells [vi 0],.cells [vi 0],.cells (tkC L)]:=⟨_,rfl⟩;have hret:∀ {f':Fr} {L:List Tk} {X:H},tkB s.length 0 s=L->f'.d=[]->(∀j,j<3->f'.k j=false)->f'.t 4= .lp 0 0->f'.t 5= .lp 1 0->f'.t 6= .lp 2 0->QP .ret f' (hA L++X):=by intro f' L X hp hd hk t4 t5 t6;rw[eQP,ehA];refine⟨hd,hkd hk,?_⟩;refine L9 fun Y=> ?_;rw[hp];simp only[Tryz.results72,nts];simp only[wq.1,↓reduceIte,hd,t4,t5,t6];exact⟨_,_,rfl⟩
 refine aj (bT hmix _ _ _ _ ?_);simp only[wq.1,seval,hP];refine iC ?_;refine jG (h':=hA []) (by rw[ehA];exact HLe.set (i:=0) (o':= .cells [.ls 3 3 0 0 0]) rfl (OLe.cells (by simp) (gX.cons eU gX.nil))) ?_;refine aF (fun mm f h'=>∃(a n:Nat)(L:List Tk)(X:H),mm+a=s.length/\a<=s.length/\s.length-a<=n/\L.length<=a/\tkB s.length 0 s=L++tkB n a (s.drop a)/\f.t 0= .iface 135 (.agg [])/\f.t 1= .str s/\f.t 4= .lp 0 0/\f.t 5= .lp 1 0/\f.t 6= .lp 2 0/\f.t 7=vi a/\f.d=[]/\(∀j,j<3->f.k j=false)/\h'=hA L++X) s.length ⟨0,s.length,[],[],rfl,by omega,by omega,by simp,rfl,by simp only[wq.1,seval],by simp only[wq.1,seval],by simp only[wq.1,seval],by simp only[wq.1,seval],by simp only[wq.1,seval],by simp only[wq.1,↓reduceIte];rfl,rfl,fun j hj=>rfl,by rw[zqp]⟩ ?_;rintro mm f h' ⟨a,n,L,X,hmm,hal,hn,hLa,htk,t0,t1,t4,t5,t6,t7,hd,hk,rfl⟩;have hAl:(hA L).length=4:=by rw[ehA];rfl
 refine dK (by rw[hd];simp) ?_;rw[show(hA L).map (O.drop (Abs.eF (hA L).length))=hA L by
  rw[hAl,ehA];simp only[zrd,List.map_nil,O.drop,lD];rfl]
 rw[hAl];have hdk:∀v:V,v.drop (Abs.eF 4)=v->v.drop (Abs.eF 4)=v:=fun _ h=>h;obtain⟨f',hf'⟩:∃f',f'=f.drop (Abs.eF 4):=⟨_,rfl⟩;have u0:f'.t 0= .iface 135 (.agg []):=by rw[hf'];show(f.t 0).drop _=_;rw[t0];rfl
 have u1:f'.t 1= .str s:=by rw[hf'];show(f.t 1).drop _=_;rw[t1];rfl
 have u4:f'.t 4= .lp 0 0:=by rw[hf'];show(f.t 4).drop _=_;rw[t4];rfl
 have u5:f'.t 5= .lp 1 0:=by rw[hf'];show(f.t 5).drop _=_;rw[t5];rfl
 have u6:f'.t 6= .lp 2 0:=by rw[hf'];show(f.t 6).drop _=_;rw[t6];rfl
 have u7:f'.t 7=vi a:=by rw[hf'];show(f.t 7).drop _=_;rw[t7];rfl
 have ud:f'.d=[]:=by rw[hf'];exact hd
 have uk:∀j,j<3->f'.k j=false:=fun j hj=>by rw[hf'];show(f.k j||Abs.eF 4 j)=false;rw[hk j hj];simp[Abs.eF];omega
 rw[<-hf'];clear hf' hd hk t0 t1 t4 t5 t6 t7 X;refine aj (bT hmix _ _ _ _ ?_);simp only[wq.1,seval,hP,u1,u7];refine vcB.mk (fun hlt=> ?_) (fun hlt=> ?_)
 ·have hlt:a<s.length:=by have:=zqs hlt;omega
  obtain⟨c,r,hcr⟩:∃c r,s.drop a=c::r:=by
   cases hd:s.drop a with
   |nil=>have:=congrArg List.length hd;simp at this;omega
   |cons c r=>exact⟨c,r,rfl⟩
  have hrd:=SS s a c r hcr (by omega);obtain⟨n,rfl⟩:∃m,n=m+1:=⟨n-1,by omega⟩;rw[hcr,GG]at htk;obtain⟨l1,l2⟩:=PT (p:=a) (c:=c) (r:=r);have hcl:(c::r).length=s.length-a:=by rw[<-hcr,List.length_drop]
  obtain⟨o,m,hom⟩:∃o m,oZ a (c::r)=(o,m):=⟨_,_,rfl⟩;rw[hom]at hrd htk l1 l2;dsimp only at hrd htk l1 l2;have hdd:(c::r).drop m=s.drop (a+m):=by rw[<-hcr,List.drop_drop]
  rw[hdd]at htk;have w1:IntKind.i64.wrap ((a:Int)+m)=((a+m:Nat):Int):=by rw[iw (by omega) (by omega)];omega
  have dF:∀q,V.drops q (tkC L)=tkC L:=fun q=>lD L;have hfl:=E5 L;rw[ehA];refine aB ?_;refine aj (bT hmix _ _ _ _ ?_);simp only[wq.1,seval,hP,u0,u1,u7];refine bV rfl (t:=135) (v:= .agg []) (v':= .agg []) (g:=197) (by simp only[wq.1,seval]) (by simp only[wq.1,seval,dE,iU]) (by rw[hee];exact PS) (by simp only[wq.1,hP]) ?_;simp only[wq.1,seval];refine hT (ag.ev hrd rfl ?_);cases o with
  |none=>simp only[wq.1,seval,hP];refine bT hmix _ _ _ _ ?_;simp only[wq.1,seval,hP,u7,w1];exact .inl ⟨mm-m,by omega,a+m,n,L,[O.cells [vi (-1),.str [],vi 0]],by omega,by omega,by omega,by omega,htk,by simp only[wq.1,seval,u0],by simp only[wq.1,seval,u1],by simp only[wq.1,seval,u4],by simp only[wq.1,seval,u5],by simp only[wq.1,seval,u6],by simp only[wq.1,seval],by simp only[wq.1,Int.reduceNeg,ud],fun j hj=>by simp only[wq.1,Int.reduceNeg,uk j hj],rfl⟩
  |some t =>
   simp only[wq.1,seval,hP];have hk0:decide ((0:Int)<=(t.k:Int))=true:=by simp
   refine bT hmix _ _ _ _ ?_;simp only[wq.1,↓reduceIte,Nat.reduceEqDiff,Nat.reduceLT,Nat.reduceLeDiff,Nat.reduceAdd,Nat.reduceBEq,reduceCtorEq,Nat.reduceMul,hP,u4,u7,ud,w1,hk0,dF,hfl];refine⟨⟨rfl,by decide⟩,rfl,⟨rfl,by omega,by omega⟩,.inl ⟨mm-m,by omega,a+m,n,L++[t],[O.cells (tkF t)],by omega,by omega,by omega,by simp;omega,by rw[htk];simp,by simp only[wq.1,↓reduceIte,Nat.reduceEqDiff,Nat.reduceLT,Nat.reduceLeDiff,Nat.reduceAdd,Nat.reduceSub,Int.reduceToNat,Nat.reduceDiv,Int.reduceLT,Int.reduceLE,Int.reduceNeg,Int.reduceBEq,Int.reduceBNe,Int.reduceAdd,Int.reduceSub,Nat.reduceBEq,reduceCtorEq,Nat.reduceMul,ak,Tryz.results72,u0],by simp only[wq.1,↓reduceIte,Nat.reduceEqDiff,Nat.reduceLT,Nat.reduceLeDiff,Nat.reduceAdd,Nat.reduceSub,Int.reduceToNat,Nat.reduceDiv,Int.reduceLT,Int.reduceLE,Int.reduceNeg,Int.reduceBEq,Int.reduceBNe,Int.reduceAdd,Int.reduceSub,Nat.reduceBEq,reduceCtorEq,Nat.reduceMul,ak,Tryz.results72,u1],by simp only[wq.1,↓reduceIte,Nat.reduceEqDiff,Nat.reduceLT,Nat.reduceLeDiff,Nat.reduceAdd,Nat.reduceSub,Int.reduceToNat,Nat.reduceDiv,Int.reduceLT,Int.reduceLE,Int.reduceNeg,Int.reduceBEq,Int.reduceBNe,Int.reduceAdd,Int.reduceSub,Nat.reduceBEq,reduceCtorEq,Nat.reduceMul,ak,Tryz.results72,u4],by simp only[wq.1,↓reduceIte,Nat.reduceEqDiff,Nat.reduceLT,Nat.reduceLeDiff,Nat.reduceAdd,Nat.reduceSub,Int.reduceToNat,Nat.reduceDiv,Int.reduceLT,Int.reduceLE,Int.reduceNeg,Int.reduceBEq,Int.reduceBNe,Int.reduceAdd,Int.reduceSub,Nat.reduceBEq,reduceCtorEq,Nat.reduceMul,ak,Tryz.results72,u5],by simp only[wq.1,↓reduceIte,Nat.reduceEqDiff,Nat.reduceLT,Nat.reduceLeDiff,Nat.reduceAdd,Nat.reduceSub,Int.reduceToNat,Nat.reduceDiv,Int.reduceLT,Int.reduceLE,Int.reduceNeg,Int.reduceBEq,Int.reduceBNe,Int.reduceAdd,Int.reduceSub,Nat.reduceBEq,reduceCtorEq,Nat.reduceMul,ak,Tryz.results72,u6],by simp only[wq.1,↓reduceIte,Nat.reduceEqDiff,Nat.reduceLT,Nat.reduceLeDiff,Nat.reduceAdd,Nat.reduceSub,Int.reduceToNat,Nat.reduceDiv,Int.reduceLT,Int.reduceLE,Int.reduceNeg,Int.reduceBEq,Int.reduceBNe,Int.reduceAdd,Int.reduceSub,Nat.reduceBEq,reduceCtorEq,Nat.reduceMul,ak,Tryz.results72],by simp only[wq.1,↓reduceIte,Nat.reduceEqDiff,Nat.reduceLT,Nat.reduceLeDiff,Nat.reduceAdd,Nat.reduceSub,Int.reduceToNat,Nat.reduceDiv,Int.reduceLT,Int.reduceLE,Int.reduceNeg,Int.reduceBEq,Int.reduceBNe,Int.reduceAdd,Int.reduceSub,Nat.reduceBEq,reduceCtorEq,Nat.reduceMul,ak,Tryz.results72,ud],fun j hj=> ?_,?_⟩⟩
   ·simp only[wq.1,uk j hj];simp;omega
   ·rw[Aa,zqa,zrk];rfl
 ·have hea:a=s.length:=by have:=of_decide_eq_false hlt;omega
  subst hea;rw[List.drop_length]at htk;have he:tkB s.length 0 s=L:=by
   rw[htk];cases n<;>simp[tkB]
  subst ehA;refine bT hmix _ _ _ _ ?_;simp only[wq.1,seval,hP,u4,u5,u6];exact hret (X:=[]) he (by simp only[wq.1,ud]) (fun j hj=>by simp only[wq.1,uk j hj]) (by simp only[wq.1,seval,u4]) (by simp only[wq.1,seval,u5]) (by simp only[wq.1,seval,u6])
theorem E8:∀(l:List Tk)(b:Bool),(mP b l).length<=l.length
 |[],b=>by rw[mP];exact zrb _
 |t::r,b=>by
  have h1:=E8 r true;have h2:=E8 r false;rw[mP];split
  ·split
   ·simp only[zrt];omega
   ·simp only[zrt];omega
  ·simp only[zrt];omega
theorem E9:∀(n p:Nat)(s:S),(tkB n p s).length<=n
 |0,_,_=>by simp[tkB]
 |n+1,p,[]=>by simp[tkB]
 |n+1,p,c::r=>by rw[GG,zqa];have:=E9 n (p+(oZ p (c::r)).2) ((c::r).drop (oZ p (c::r)).2);cases(oZ p (c::r)).1<;>simp only[Option.toList,List.length_nil,zrk]<;>omega
theorem SV[MO](s:S)(hs:s.length<=1000000):Ev TE 31 [.str s] (iO (iQ s)):=by
 have hM:=mLx;have hl1:=E9 s.length 0 s;refine ah Tryz.func31 rfl (by simp[nts]) ?_;have hall:=I4 s hs;obtain⟨L0,hL0⟩:∃L0,L0=tkB s.length 0 s:=⟨_,rfl⟩;obtain⟨L,hL⟩:∃L,L=L0++[⟨3,[],s.length⟩]:=⟨_,rfl⟩;have hbl:iQ s=mP true L:=by rw[hL,hL0];rfl
 rw[<-hL0]at hall hl1;rw[hbl];have hLl:L.length<=1000001:=by rw[hL];simp;omega
 have hL0l:L0.length+1=L.length:=by rw[hL];simp
 have dF:∀q,V.drops q (tkC L0)=tkC L0:=fun q=>lD L0;have hfl:=E5 L0;refine vn ?_;simp only[wq.1,Nat.reduceLT,Tryz.results31];refine vn ?_;simp only[wq.1,seval];refine⟨by simp,hall.mono ?_⟩;rintro ae h' p ⟨rfl,x0,X,rfl⟩;simp only[wq.1,↓reduceIte,Nat.reduceEqDiff,Nat.reduceLT,Nat.reduceAdd,bn];refine vn ?_;simp only[wq.1,↓reduceIte,Nat.reduceEqDiff,Nat.reduceLT,Nat.reduceLeDiff,Nat.reduceAdd,reduceCtorEq,Nat.reduceMul,dF,hfl];refine⟨⟨rfl,by decide⟩,rfl,⟨rfl,by omega,by omega⟩,?_⟩;refine Iz 3 (iO L) (by simp only[wq.1]) (by
  simp only[wq.1,↓reduceIte];refine Df (l:=L) ?_ (by rw[hL0l]);rw[hL,Aa];rfl) ?_
 refine KT (fun f'=>f'.t 3=iO L/\f'.d=[]) [] (fun hk=>hk _ ⟨by simp only[wq.1,↓reduceIte],rfl⟩) ?_;rintro f ⟨t3,hd⟩;refine vn ?_;simp only[wq.1,Nat.reduceLT];refine kZ 6 3 (by simp only[wq.1,↓reduceIte]) ?_;refine vn ?_;simp only[wq.1,seval,t3,hd];refine aF (fun mm f h=>∃(i:Nat)(U:List Tk)(X:H),mm+i=L.length/\U.length<=i/\i<=L.length/\mP true L=U++mP (decide (i=0)||decide ((L.getD (i-1) ⟨3,[],0⟩).k=3)) (L.drop i)/\f.t 3=iO L/\f.t 6= .ls 0 3 0 U.length U.length/\f.t 23=iO L/\f.t 24=vi L.length/\f.t 25=vi i/\f.d=[]/\h=[.cells (tkC U)]++X) L.length ⟨0,[],[],by omega,zrb _,by omega,rfl,by simp only[wq.1,seval,t3],by simp only[wq.1,seval],by simp only[wq.1,seval],by simp only[wq.1,seval],by simp only[wq.1,↓reduceIte];rfl,by simp only[wq.1],rfl⟩ ?_;clear t3 hd;rintro mm f h ⟨i,U,X,hmm,hOi,hiL,hfl2,t3,t6,t23,t24,t25,hd,rfl⟩;refine dK (h0:=[.cells (tkC U)]) (by rw[hd];simp) ?_;rw[show([.cells (tkC U)]:H).map (O.drop (Abs.eF ([.cells (tkC U)]:H).length))=[.cells (tkC U)] by
  simp only[zrd,List.map_nil,O.drop,lD]]
 obtain⟨f',hf'⟩:∃f',f'=f.drop (Abs.eF ([.cells (tkC U)]:H).length):=⟨_,rfl⟩;have u3:f'.t 3=iO L:=by rw[hf'];show(f.t 3).drop _=_;rw[t3];rfl
 have u6:f'.t 6= .ls 0 3 0 U.length U.length:=by rw[hf'];show(f.t 6).drop _=_;rw[t6];rfl
 have u23:f'.t 23=iO L:=by rw[hf'];show(f.t 23).drop _=_;rw[t23];rfl
 have u24:f'.t 24=vi L.length:=by rw[hf'];show(f.t 24).drop _=_;rw[t24];rfl
 have u25:f'.t 25=vi i:=by rw[hf'];show(f.t 25).drop _=_;rw[t25];rfl
 have ud:f'.d=[]:=by rw[hf'];exact hd
 rw[<-hf'];clear hf' hd t3 t6 t23 t24 t25 X;have dU:∀q,V.drops q (tkC U)=tkC U:=fun q=>lD U;have hul:=E5 U;have hw:=az (show i<maxLen by omega);refine vn ?_;simp only[wq.1,Nat.reduceLT,u24,u25];refine vn ?_;simp only[wq.1,↓reduceIte];refine vcB.mk (fun hlt=> ?_) (fun hlt=> ?_)
 ·have hlt:i<L.length:=by have:=zqs hlt;omega
  obtain⟨t,ht⟩:∃t,t=L[i]:=⟨_,rfl⟩;have hgt:(L.map Tk.v).getD i .any=Tk.v t:=by rw[ht];exact dL hlt _
  have hgd:L.getD i ⟨3,[],0⟩=t:=by rw[ht,zqg,zqk hlt];rfl
  rw[List.drop_eq_getElem_cons hlt,<-ht]at hfl2;have hnx:(decide (i+1=0)||decide ((L.getD (i+1-1) ⟨3,[],0⟩).k=3))=decide (t.k=3):=by
   rw[Nat.add_sub_cancel,hgd];simp
  have hL':L.length<=1000001:=hLl;have step:∀ {V1:List Tk},mP true L=V1++mP (decide (t.k=3)) (L.drop (i+1))->V1.length<=i+1->∃i' U',mm-1+i'=L.length/\U'.length<=i'/\i'<=L.length/\mP true L=U'++mP (decide (i'=0)||decide ((L.getD (i'-1) ⟨3,[],0⟩).k=3)) (L.drop i')/\U'=V1/\i'=i+1:=fun {V1} h1 h2=>⟨i+1,V1,by omega,h2,by omega,by rw[hnx];exact h1,rfl,rfl⟩;have hgz:∃z:Tk,(L.map Tk.v).getD (IntKind.i64.wrap ((i:Int)-1)).toNat .any=Tk.v z:=by
   by_cases hi0:i=0
   ·subst hi0;exact⟨_,dL (by show 0<_;omega) _⟩
   ·have hwi:IntKind.i64.wrap ((i:Int)-1)=((i-1:Nat):Int):=by rw[iw (by omega) (by omega)];omega
    rw[hwi,zsg];exact⟨_,dL (by omega) _⟩
  obtain⟨z,hgz⟩:=hgz;by_cases hk3:t.k=3
  ·have e3:((t.k:Int) != 3)=false:=by rw[hk3];rfl
   by_cases hi0:i=0
   ·have h0i:decide ((0:Int)<(i:Int))=false:=by simp;omega
    rw[decide_eq_true hi0,Bool.true_or,mP,if_pos hk3,if_pos rfl]at hfl2;have hfl3:mP true L=U++mP (decide (t.k=3)) (L.drop (i+1)):=by rw[decide_eq_true hk3];exact hfl2
    obtain⟨i',U',q1,q2,q3,q4,rfl,rfl⟩:=step hfl3 (by omega);refine vn ?_;simp only[wq.1,seval,u3,u23,u25,hgt,hgz,e3,h0i];refine⟨⟨by omega,by omega⟩,?_⟩;refine vm ?_;simp only[wq.1,seval,u25,hw];exact .inl ⟨mm-1,by omega,i+1,U',_,q1,q2,q3,q4,by simp only[wq.1,seval,u3],by simp only[wq.1,seval,u6],by simp only[wq.1,seval,u23],by simp only[wq.1,seval,u24],by simp only[wq.1,↓reduceIte],by simp only[wq.1,ud],rfl⟩
   ·have h0i:decide ((0:Int)<(i:Int))=true:=by simp;omega
    have hwi:IntKind.i64.wrap ((i:Int)-1)=((i-1:Nat):Int):=by rw[iw (by omega) (by omega)];omega
    have hj:i-1<L.length:=by omega
    obtain⟨v,hv⟩:∃v,v=L[i-1]:=⟨_,rfl⟩;have hgj:(L.map Tk.v).getD (i-1) .any=Tk.v v:=by rw[hv];exact dL hj _
    have hgk:L.getD (i-1) ⟨3,[],0⟩=v:=by rw[hv,zqg,zqk hj];rfl
    rw[decide_eq_false hi0,Bool.false_or,hgk,mP,if_pos hk3]at hfl2;by_cases hv3:v.k=3
    ·have v3:((v.k:Int) != 3)=false:=by rw[hv3];rfl
     rw[if_pos (decide_eq_true hv3)]at hfl2;have hfl3:mP true L=U++mP (decide (t.k=3)) (L.drop (i+1)):=by rw[decide_eq_true hk3];exact hfl2
     obtain⟨i',U',q1,q2,q3,q4,rfl,rfl⟩:=step hfl3 (by omega);refine vn ?_;simp only[wq.1,seval,u3,u23,u25,hgt,e3,h0i,hwi,hgj,v3];refine⟨⟨by omega,by omega⟩,⟨by omega,by omega⟩,?_⟩;refine vm ?_;simp only[wq.1,seval,u25,hw];exact .inl ⟨mm-1,by omega,i+1,U',_,q1,q2,q3,q4,by simp only[wq.1,seval,u3],by simp only[wq.1,seval,u6],by simp only[wq.1,seval,u23],by simp only[wq.1,seval,u24],by simp only[wq.1,↓reduceIte],by simp only[wq.1,ud],rfl⟩
    ·have v3:((v.k:Int) != 3)=true:=by simp;omega
     rw[if_neg (by simp[hv3])]at hfl2;have hfl3:mP true L=(U++[t])++mP (decide (t.k=3)) (L.drop (i+1)):=by rw[decide_eq_true hk3,hfl2];simp
     obtain⟨i',U',q1,q2,q3,q4,hU',rfl⟩:=step hfl3 (by simp;omega);refine vn ?_;simp only[wq.1,↓reduceIte,Nat.reduceEqDiff,Nat.reduceLT,Nat.reduceLeDiff,Nat.reduceAdd,reduceCtorEq,Nat.reduceMul,u3,u6,u23,u25,ud,hgt,e3,h0i,hwi,hgj,v3,dU];refine⟨⟨by omega,by omega⟩,⟨by omega,by omega⟩,⟨rfl,by decide⟩,rfl,⟨hul,rfl,by omega,by omega⟩,?_⟩;refine vm ?_;simp only[wq.1,seval,u25,hw];refine .inl ⟨mm-1,by omega,i+1,U',[O.cells (tkF t)],q1,q2,q3,q4,by simp only[wq.1,seval,u3],by simp only[wq.1,seval,hU'],by simp only[wq.1,seval,u23],by simp only[wq.1,seval,u24],by simp only[wq.1,↓reduceIte],by simp only[wq.1,ud],?_⟩;rw[hU',Aa];rfl
  ·have e3:((t.k:Int) != 3)=true:=by simp;omega
   rw[mP,if_neg hk3]at hfl2;have hfl3:mP true L=(U++[t])++mP (decide (t.k=3)) (L.drop (i+1)):=by rw[decide_eq_false hk3,hfl2];simp
   obtain⟨i',U',q1,q2,q3,q4,hU',rfl⟩:=step hfl3 (by simp;omega);refine vn ?_;simp only[wq.1,↓reduceIte,Nat.reduceEqDiff,Nat.reduceLT,Nat.reduceLeDiff,Nat.reduceAdd,reduceCtorEq,Nat.reduceMul,u3,u6,u23,u25,ud,hgt,hgz,e3,dU];refine⟨⟨by omega,by omega⟩,⟨rfl,by decide⟩,rfl,⟨hul,rfl,by omega,by omega⟩,?_⟩;refine vm ?_;simp only[wq.1,seval,u25,hw];refine .inl ⟨mm-1,by omega,i+1,U',[O.cells (tkF t)],q1,q2,q3,q4,by simp only[wq.1,seval,u3],by simp only[wq.1,seval,hU'],by simp only[wq.1,seval,u23],by simp only[wq.1,seval,u24],by simp only[wq.1,↓reduceIte],by simp only[wq.1,ud],?_⟩;rw[hU',Aa];rfl
 ·have hea:i=L.length:=by have:=of_decide_eq_false hlt;omega
  subst hea;rw[List.drop_length,mP,zqp]at hfl2;rw[hfl2];refine vm ?_;simp only[wq.1,seval,u6,ud];exact Df rfl rfl
abbrev Ga.v(g:Ga):V:= .agg [.str g.name,vi g.op,aV g.ins,aV g.rows,.bool g.off]
abbrev La.v(q:La):V:= .agg [.str q.name,.str q.next,vi q.init]
abbrev iZ(l:List Ga):V:= .is false 5 (l.map Ga.v)
abbrev oK(l:List La):V:= .is false 3 (l.map La.v)
abbrev Ci.v(c:Ci):V:= .agg [aV c.ins,aV c.outs,oK c.lat,iZ c.gates]
def gaC(l:List Ga):List V:=l.flatMap fun g=>[.str g.name,vi g.op,aV g.ins,aV g.rows,.bool g.off]
def laC(l:List La):List V:=l.flatMap fun q=>[.str q.name,.str q.next,vi q.init]
theorem GK:∀l:List La,V.dats (laC l)=true
 |[]=>rfl
 |t::l=>by show(V.dat (.str t.name)&&(V.dat (.str t.next)&&(V.dat (vi t.init)&&V.dats (laC l))))=true;rw[GK l];rfl
theorem Rj:∀l:List La,dH 3 (l.map La.v)=true
 |[]=>rfl
 |t::l=>by show(_&&dH 3 (l.map La.v))=true;rw[Rj l];rfl
theorem U2:∀l:List La,(l.map La.v).flatMap V.vc=laC l
 |[]=>rfl
 |t::l=>by show V.vc (La.v t)++(l.map La.v).flatMap V.vc=_;rw[U2 l];rfl
theorem Dh[MO]{h:H}{id len cap:Nat}{l:List La}(hc:h[id]? =some (.cells (laC l)))(hl:len=l.length):aA TE h (.ls id 3 0 len cap) (oK l) :=
 aA.ls hc (au.dat (GK l)) (Rj l) (U2 l) (by rw[zra];exact hl)
theorem GL:∀l:List Ga,V.dats (gaC l)=true
 |[]=>rfl
 |t::l=>by show(V.dat (.str t.name)&&(V.dat (vi t.op)&&(V.dat (aV t.ins)&&(V.dat (aV t.rows)&&(V.dat (.bool t.off)&&V.dats (gaC l))))))=true;rw[GL l];simp only[V.dat,aG,zre]
theorem mr:∀l:List Ga,V.dats (l.map Ga.v)=true
 |[]=>rfl
 |t::l=>by show(V.dat (Ga.v t)&&V.dats (l.map Ga.v))=true;rw[mr l];simp only[V.dat,V.dats,aG,zre]
theorem qh:∀l:List La,V.dats (l.map La.v)=true
 |[]=>rfl
 |t::l=>by show(V.dat (La.v t)&&V.dats (l.map La.v))=true;rw[qh l];rfl
theorem Ac:∀l:List Tk,V.dats (l.map Tk.v)=true
 |[]=>rfl
 |t::l=>by show(V.dat (Tk.v t)&&V.dats (l.map Tk.v))=true;rw[Ac l];rfl
theorem pJ(c:Ci):V.dat c.v=true:=by simp only[Ci.v,V.dat,V.dats,aG,qh,mr,zre]
theorem Rk:∀l:List Ga,dH 5 (l.map Ga.v)=true
 |[]=>rfl
 |t::l=>by show(_&&dH 5 (l.map Ga.v))=true;rw[Rk l];rfl
theorem U3:∀l:List Ga,(l.map Ga.v).flatMap V.vc=gaC l
 |[]=>rfl
 |t::l=>by show V.vc (Ga.v t)++(l.map Ga.v).flatMap V.vc=_;rw[U3 l];rfl
theorem Di[MO]{h:H}{id len cap:Nat}{l:List Ga}(hc:h[id]? =some (.cells (gaC l)))(hl:len=l.length):aA TE h (.ls id 5 0 len cap) (iZ l) :=
 aA.ls hc (au.dat (GL l)) (Rk l) (U3 l) (by rw[zra];exact hl)
theorem PU{c:List Ga}{r:List V}(hb:V.bnds (iZ c::r)):c.length<=maxLen:=by simp only[V.bnds,V.bnd,zra]at hb;exact hb.1.1
theorem PX{c:List Tk}{r:List V}(hb:V.bnds (iO c::r)):c.length<=maxLen:=by simp only[V.bnds,V.bnd,zra]at hb;exact hb.1.1
theorem Mc{c:List S}{r:List V}(hb:V.bnds (aV c::r)):c.length<=maxLen:=by simp only[V.bnds,V.bnd,zra]at hb;exact hb.1.1
theorem uM{c:List Ga}{i:Nat}(h:i<c.length)(d:V):(c.map Ga.v).getD i d=Ga.v c[i]:=dL h _
theorem PY{c:List Tk}{i:Nat}(h:i<c.length)(d:V):(c.map Tk.v).getD i d=Tk.v c[i]:=dL h _
theorem Fa{c:List La}{i:Nat}(h:i<c.length)(d:V):(c.map La.v).getD i d=La.v c[i]:=dL h _
theorem wW:∀l:S,fA (l.map vb)=some l
 |[]=>rfl
 |a::l=>by
  simp only[zrd,fA,wW l,zrw]
  congr 2
  exact UInt8.ofNat_toNat
theorem sS{h:H}{l:S}{k cap:Nat}(hc:h[k]? =some (.cells (l.map vb))):(fQ P h 58 9 (.ls k 1 0 l.length cap)).1=True/\(fQ P h 58 9 (.ls k 1 0 l.length cap)).2= .str l:=by
 have h1:dN h k=l.map vb:=by simp only[dN,hc]
 have h2:fA (((dN h k).drop 0).take l.length)=some l:=by rw[h1,List.drop_zero,zqh (by simp),wW]
 have h3:0+l.length<=(dN h k).length:=by rw[h1];simp
 unfold fQ;simp only[tis,h2];exact⟨eq_true ⟨trivial,trivial,h3⟩,trivial⟩
theorem SX[MO](c:List S)(q:FuncId)(caps:List V)(p:S->Bool)(he:ai P q=true)(hd:V.dats caps=true)(hq:∀x∈c,Ev TE q (.str x::caps) (.bool (p x))):Ev TE 85 [aV c,.fn (.func q) [] caps] (vi (idx c p)):=by
 refine Ev.bnd fun hb=> ?_;have hlen:=Mc hb;refine ah Tryz.func85 rfl (by simp[nts]) (vm ?_);simp only[wq.1,seval,Tryz.results85];refine aF (fun m f h=>∃i,m+i=c.length/\f.t 0=aV c/\f.t 1= .fn (.func q) [] caps/\f.t 7= .int .i64 (c.length:Int)/\f.t 8= .int .i64 (i:Int)/\f.d=[]/\∀x∈c.take i,p x=false) c.length ⟨0,by simp,rfl,rfl,by simp only[wq.1,seval],rfl,rfl,by simp⟩ ?_;rintro m f h ⟨i,hm,h0,h1,h7,h8,hdd,hall⟩;refine vm ?_;simp only[wq.1,seval,h7,h8];refine vcB.mk (fun hc=> ?_) (fun hc=> ?_)
 ·simp only[zqb,zqi]at hc;simp only[wq.1,seval,h0,h1,h8,Jv hc,he];refine⟨⟨by omega,by omega⟩,ag.ev (hq _ (zqu _)) (by simp[V.dats,V.dat,hd,aG]) ?_⟩;simp only[wq.1,seval];refine vcB.mk (fun hc'=> ?_) (fun hc'=> ?_)
  ·simp only[wq.1,seval,hdd];rw[zU hc hall hc'];exact aA.dat rfl
  ·simp only[wq.1,seval,h8,az (show i<maxLen by omega)];exact .inl ⟨m-1,by omega,i+1,by omega,h0,h1,h7,rfl,hdd,dD hc hall hc'⟩
 ·simp only[zqd,zqi]at hc;simp only[wq.1,seval,hdd];rw[zqh (by omega)]at hall;rw[uT hall];exact aA.dat rfl
theorem Md[MO](c:List S)(q:FuncId)(caps:List V)(p:S->Bool)(he:ai P q=true)(hd:V.dats caps=true)(hq:∀x∈c,Ev TE q (.str x::caps) (.bool (p x))):Ev TE 44 [aV c,.fn (.func q) [] caps] (.bool (c.any p)):=by refine ah Tryz.func44 rfl (by simp[nts]) (vm ?_);simp only[wq.1,seval,Tryz.results44];refine ag.ev (SX c q caps p he hd hq) (by simp[V.dats,V.dat,hd,aG]) ?_;simp only[wq.1,seval];exact eQ rfl (by rw[Lr])
theorem SY[MO](c:List Ga)(q:FuncId)(caps:List V)(p:Ga->Bool)(he:ai P q=true)(hd:V.dats caps=true)(hq:∀x∈c,Ev TE q (Ga.v x::caps) (.bool (p x))):Ev TE 96 [iZ c,.fn (.func q) [] caps] (vi (idx c p)):=by
 refine Ev.bnd fun hb=> ?_;have hlen:=PU hb;refine ah Tryz.func96 rfl (by simp[nts]) (vm ?_);simp only[wq.1,seval,Tryz.results96];refine aF (fun m f h=>∃i,m+i=c.length/\f.t 0=iZ c/\f.t 1= .fn (.func q) [] caps/\f.t 7= .int .i64 (c.length:Int)/\f.t 8= .int .i64 (i:Int)/\f.d=[]/\∀x∈c.take i,p x=false) c.length ⟨0,by simp,rfl,rfl,by simp only[wq.1,seval],rfl,rfl,by simp⟩ ?_;rintro m f h ⟨i,hm,h0,h1,h7,h8,hdd,hall⟩;refine vm ?_;simp only[wq.1,seval,h7,h8];refine vcB.mk (fun hc=> ?_) (fun hc=> ?_)
 ·simp only[zqb,zqi]at hc;simp only[wq.1,seval,h0,h1,h8,uM hc,he];refine⟨⟨by omega,by omega⟩,ag.ev (hq _ (zqu _)) (by simp[V.dats,V.dat,hd,aG]) ?_⟩;simp only[wq.1,seval];refine vcB.mk (fun hc'=> ?_) (fun hc'=> ?_)
  ·simp only[wq.1,seval,hdd];rw[zU hc hall hc'];exact aA.dat rfl
  ·simp only[wq.1,seval,h8,az (show i<maxLen by omega)];exact .inl ⟨m-1,by omega,i+1,by omega,h0,h1,h7,rfl,hdd,dD hc hall hc'⟩
 ·simp only[zqd,zqi]at hc;simp only[wq.1,seval,hdd];rw[zqh (by omega)]at hall;rw[uT hall];exact aA.dat rfl
theorem S9[MO](c:List Ga)(q:FuncId)(caps:List V)(p:Ga->Bool)(he:ai P q=true)(hd:V.dats caps=true)(hq:∀x∈c,Ev TE q (Ga.v x::caps) (.bool (p x))):Ev TE 56 [iZ c,.fn (.func q) [] caps] (.bool (c.any p)):=by refine ah Tryz.func56 rfl (by simp[nts]) (vm ?_);simp only[wq.1,seval,Tryz.results56];refine ag.ev (SY c q caps p he hd hq) (by simp[V.dats,V.dat,hd,mr]) ?_;simp only[wq.1,seval];exact eQ rfl (by rw[Lr])
theorem Tc[MO](c:List Tk)(q:FuncId)(caps:List V)(p:Tk->Bool)(he:ai P q=true)(hd:V.dats caps=true)(hq:∀x∈c,Ev TE q (Tk.v x::caps) (.bool (p x))):Ev TE 75 [iO c,.fn (.func q) [] caps] (vi (idx c p)):=by
 refine Ev.bnd fun hb=> ?_;have hlen:=PX hb;refine ah Tryz.func75 rfl (by simp[nts]) (vm ?_);simp only[wq.1,seval,Tryz.results75];refine aF (fun m f h=>∃i,m+i=c.length/\f.t 0=iO c/\f.t 1= .fn (.func q) [] caps/\f.t 7= .int .i64 (c.length:Int)/\f.t 8= .int .i64 (i:Int)/\f.d=[]/\∀x∈c.take i,p x=false) c.length ⟨0,by simp,rfl,rfl,by simp only[wq.1,seval],rfl,rfl,by simp⟩ ?_;rintro m f h ⟨i,hm,h0,h1,h7,h8,hdd,hall⟩;refine vm ?_;simp only[wq.1,seval,h7,h8];refine vcB.mk (fun hc=> ?_) (fun hc=> ?_)
 ·simp only[zqb,zqi]at hc;simp only[wq.1,seval,h0,h1,h8,PY hc,he];refine⟨⟨by omega,by omega⟩,ag.ev (hq _ (zqu _)) (by simp[V.dats,V.dat,hd,aG]) ?_⟩;simp only[wq.1,seval];refine vcB.mk (fun hc'=> ?_) (fun hc'=> ?_)
  ·simp only[wq.1,seval,hdd];rw[zU hc hall hc'];exact aA.dat rfl
  ·simp only[wq.1,seval,h8,az (show i<maxLen by omega)];exact .inl ⟨m-1,by omega,i+1,by omega,h0,h1,h7,rfl,hdd,dD hc hall hc'⟩
 ·simp only[zqd,zqi]at hc;simp only[wq.1,seval,hdd];rw[zqh (by omega)]at hall;rw[uT hall];exact aA.dat rfl
theorem wX[MO]:Ev TE 89 [vi 2] (.bool true):=by refine ah Tryz.func89 rfl (by simp[nts]) (vm ?_);simp only[wq.1,seval,Tryz.results89];exact aA.dat rfl
theorem yJ(cs:S):∀s:S,Lib.containsAny s cs=s.any (cs.contains ·)
 |[]=>rfl
 |c::s=>by
  have ih:=yJ cs s;have hg:=Lib.indexAny_ge cs s;unfold Lib.containsAny at ih ⊢;rw[List.any_cons,<-ih];show decide (0<=if cs.contains c then 0 else if Lib.indexAny s cs==-1 then -1 else Lib.indexAny s cs+1)=_;cases cs.contains c with
  |true=>rfl
  |false =>
   rw[if_neg (by decide),Bool.false_or];by_cases h:Lib.indexAny s cs=-1
   ·rw[h];rfl
   ·rw[if_neg (by simpa using h)];exact decide_eq_decide.2 (by omega)
theorem Me(s:S):(!(s.any (([35,92]:S).contains ·)))= !(s.contains 35||s.contains 92):=by
 congr 1
 rw[Bool.eq_iff_iff];simp only[List.any_eq_true,Bool.or_eq_true,List.contains_iff_mem,zrj,zrp,or_false];constructor
 ·rintro⟨x,hx,rfl|rfl⟩
  ·exact .inl hx
  ·exact .inr hx
 ·rintro(h|h)
  ·exact⟨_,h,.inl rfl⟩
  ·exact⟨_,h,.inr rfl⟩
theorem Ad{s:S}(h:aT s=true):s.length<=40:=by unfold aT at h;simp only[zqf,zqb]at h;exact h.2.2
theorem PZ[MO](s:S)(h:aT s=true):Ev TE 115 [.str s] (.bool (jf s)):=by
 obtain⟨h1,h2⟩:=yH h;have hl:=Ad h;have hlen:0<s.length:=List.length_pos_iff.2 h1;have ha:=PL s [35,92] (by omega) (by decide) (fun b hb=>by
  have:=h2 b hb;unfold iF at this;simp only[zqf,zqb]at this;omega) (by decide)
 rw[yJ]at ha;have e46:((((s.getD 0 0).toNat:Nat):Int) != 46)=(s.getD 0 0 != 46):=SN _ 46;refine ah Tryz.func115 rfl (by simp[nts]) (vm ?_);simp only[wq.1,seval,Tryz.results115,e46];refine⟨by omega,Bg.ev (q:=143) (vs:=[.str s,.str [35,92]]) (by simp only[wq.1,seval]) (by simp only[wq.1,seval]) rfl (fun _=>ha) (fun _=>rfl) ?_⟩;simp only[wq.1,seval];refine eQ rfl ?_;rw[Me];unfold jf
 congr 1
 cases s<;>rfl
theorem GM[MO](s:S):Ev TE 90 [vi 2,.str s] (.bool (aT s&&jf s)):=by
 have hn:=uU s;refine ah Tryz.func90 rfl (by simp[nts]) (vm ?_);simp only[wq.1,seval,Tryz.results90];refine ag.ev wX rfl ?_;simp only[wq.1,seval];refine ag.ev hn rfl ?_;cases hok:aT s with
 |false=>simp only[wq.1,↓reduceIte,Nat.reduceEqDiff,Nat.reduceLT];exact aA.dat rfl
 |true=>simp only[wq.1,↓reduceIte,Nat.reduceEqDiff,Nat.reduceLT,Nat.reduceLeDiff,Nat.reduceAdd,Nat.reduceSub,Int.reduceToNat,Nat.reduceDiv,Int.reduceLT,Int.reduceLE,Int.reduceNeg,Int.reduceBEq,Int.reduceBNe,Int.reduceAdd,Int.reduceSub,Nat.reduceBEq,reduceCtorEq,Nat.reduceMul,ak,Tryz.results90,bn];refine⟨by decide,ag.ev (PZ s hok) rfl ?_⟩;simp only[wq.1,↓reduceIte,Nat.reduceLT];exact eQ rfl (by simp)
theorem U4:∀n:Nat,((n:Nat):Int).fdiv (2^(min 4 IntKind.u8.bits))=((n/16:Nat):Int):=fun n=>by show((n:Nat):Int).fdiv 16=_;rw[Int.fdiv_eq_ediv_of_nonneg _ (by decide)];omega
theorem U5:∀n:Nat,n<256->IntKind.u8.wrap ((BitVec.ofInt IntKind.u8.bits (n:Int) &&& BitVec.ofInt IntKind.u8.bits 15).toNat:Int)=((n%16:Nat):Int):=by decide +kernel
theorem Dj{s:S}{i:Nat}(h:i<s.length):aY (s.take (i+1))=aY (s.take i)++LJ s[i]:=by unfold aY;rw[List.take_succ_eq_append_getElem h,List.flatMap_append,zqc];simp
theorem wY:∀s:S,(aY s).length=3+2*s.length:=fun s=>by
 unfold aY;have:∀s:S,(s.flatMap LJ).length=2*s.length:=fun s=>by
  induction s with
  |nil=>rfl
  |cons c s ih=>rw[List.flatMap_cons,zqa,ih];simp[LJ];omega
 rw[zqa,this];rfl
theorem I5[MO](s:S)(hs:s.length<=1000000):Ev TE 91 [.str s] (.str (aY s)):=by
 have hM:=mLx;refine ah Tryz.func91 rfl (by simp[nts]) ?_;refine vn ?_;simp only[wq.1,seval,Tryz.results91];refine aj (iL ?_);refine EJ rfl rfl rfl rfl rfl rfl (by decide) (by decide) (q:=⟨.slice 5,1,24,.nils⟩) (by simp only[wq.1]) rfl (re:=⟨.int .u8,1,1,.int .u8 0⟩) (by simp only[wq.1]) rfl rfl ?_;refine ay rfl rfl ?_;simp only[wq.1,↓reduceIte];refine eG ?_;show awp _ _ _ _ _ _ _;refine vn ?_;simp only[wq.1,seval];refine aF (fun m f h=>∃i,m+i=s.length/\i<=s.length/\f.t 0= .str s/\f.t 3= .ls 0 1 0 (aY (s.take i)).length (aY (s.take i)).length/\f.t 8=vi s.length/\f.t 9=vi i/\f.d=[]/\h=[.cells ((aY (s.take i)).map vb)]) s.length ⟨0,rfl,by omega,by simp only[wq.1,seval],by simp only[wq.1,seval];rfl,by simp only[wq.1,seval],by simp only[wq.1,↓reduceIte];rfl,rfl,rfl⟩ ?_;rintro m f h ⟨i,hm,hil,h0,h3,h8,h9,hd,rfl⟩;have hw:=az (show i<maxLen by omega);refine vn ?_;simp only[wq.1,Nat.reduceLT,h8,h9];refine vn ?_;simp only[wq.1,↓reduceIte];refine vcB.mk (fun hlt=> ?_) (fun hlt=> ?_)
 ·have hlt:i<s.length:=by have:=zqs hlt;omega
  obtain⟨c,hc⟩:∃c,c=s[i]:=⟨_,rfl⟩;have hgc:s.getD i 0=c:=by rw[hc];exact OZ hlt
  have hcl:=c.toNat_lt;have e1:=U4 c.toNat;have e2:=U5 c.toNat hcl;have hst:=Dj hlt;rw[<-hc]at hst;have hsl:=wY (s.take i);have htl:(s.take i).length=i:=by rw[zrl];omega
  obtain⟨T,hT⟩:∃T,T=aY (s.take i):=⟨_,rfl⟩;rw[<-hT]at hst hsl h3 ⊢;have dv:∀p,V.drops p (T.map vb)=T.map vb:=fun p=>oI T;refine aj ?_;refine aB ?_;refine vn ?_;simp only[wq.1,↓reduceIte,Nat.reduceEqDiff,Nat.reduceLT,h9];refine KZ mixed 12 (.one 12<| .take 13<| .fin) (fun f' h'=>f'.t 0= .str s/\f'.t 3= .ls 0 1 0 (aY (s.take (i+1))).length (aY (s.take (i+1))).length/\f'.t 8=vi s.length/\f'.t 9=vi i/\f'.d=[]/\h'=[.cells ((aY (s.take (i+1))).map vb)]) (by rw[show TE.P=P from rfl];decide +kernel) ?_ ?_
  ·intro K hK;simp only[List.take_succ_cons,List.take_zero];have hx:∀k,([48,49,50,51,52,53,54,55,56,57,97,98,99,100,101,102]:S).getD k 0=Ph k:=fun k=>rfl;simp only[wq.1,↓reduceIte,Nat.reduceEqDiff,Nat.reduceLT,Nat.reduceLeDiff,Nat.reduceAdd,Int.reduceToNat,Int.reduceLE,reduceCtorEq,Nat.reduceMul,h0,h3,hgc,e1,e2,hx];refine⟨⟨by omega,by omega⟩,⟨by omega,by omega⟩,⟨by omega,by omega⟩,⟨by omega,by omega⟩,⟨rfl,by decide⟩,hK _ ?_⟩;simp only[wq.1,seval,h0,h8,h9,hd,dv];have hmap:T.map vb++[vb (Ph (c.toNat/16)),vb (Ph (c.toNat%16))]=(aY (s.take (i+1))).map vb:=by rw[hst,zql];rfl
   have hlen:T.length+2=(aY (s.take (i+1))).length:=by rw[hst,zqa];rfl
   refine⟨⟨by omega,by omega,by omega⟩,by rw[hlen],?_⟩;rw[<-hmap]
  ·rintro f h ⟨h0,h3,h8,h9,hd,rfl⟩;show awp _ _ _ _ _ _ _;refine vm ?_;simp only[wq.1,seval,h9,hw];exact .inl ⟨m-1,by omega,i+1,by omega,by omega,by simp only[wq.1,seval,h0],by simp only[wq.1,seval,h3],by simp only[wq.1,seval,h8],by simp only[wq.1,↓reduceIte],by simp only[wq.1,hd],rfl⟩
 ·have hi:i=s.length:=by have:=of_decide_eq_false hlt;omega
  rw[hi,zrx]at h3 ⊢;obtain⟨e1,e2⟩:=sS (h:=[.cells ((aY s).map vb)]) (l:=aY s) (k:=0) (cap:=(aY s).length) rfl;have hsl:=wY s;refine vm ?_;simp only[wq.1,seval,h3,hd,e1,e2];exact aA.dat rfl
theorem Ae[MO](s:S):Ev TE 49 [vi 2,.str s] (.tup [.str (spV s),vi (if aT s then 0 else 4)]):=by
 have hn:=uU s;have hL:=GM s;have hm:=L6 s mX;refine ah Tryz.func49 rfl (by simp[nts]) (vm ?_);simp only[wq.1,seval,Tryz.results49];refine ag.ev hn rfl ?_;unfold spV;cases hok:aT s with
 |false=>simp only[wq.1,seval];exact aA.dat rfl
 |true =>
  have hl:=Ad hok;have hsp:=I5 s (by omega);rw[hok]at hL;simp only[wq.1,seval];refine ag.ev wX rfl ?_;simp only[wq.1,seval];refine⟨.bool true,?_⟩;simp only[wq.1,seval];refine ag.ev hm rfl ?_;have e:bf s=if(mX.isPrefixOf s|| !jf s)=true then aY s else s:=rfl
  cases hmm:mX.isPrefixOf s with
  |true=>rw[hmm,Bool.true_or,if_pos rfl]at e;simp only[wq.1,seval];refine⟨.bool true,?_⟩;simp only[wq.1,seval];refine ag.ev hsp rfl ?_;simp only[wq.1,seval];rw[e];exact aA.dat rfl
  |false =>
   simp only[wq.1,seval];refine ag.ev hL rfl ?_;cases hll:jf s with
   |true=>rw[hmm,hll]at e;simp only[wq.1,seval];have e:bf s=s:=e;rw[e];exact aA.dat rfl
   |false=>rw[hmm,hll]at e;have e:bf s=aY s:=e;simp only[wq.1,seval];refine ag.ev hsp rfl ?_;simp only[wq.1,seval];rw[e];exact aA.dat rfl
theorem Td[MO](s p:S)(hs:s.length<=1000000):Ev TE 159 [.str s,.str p] (.tup [.str (if p.isPrefixOf s=true then s.drop p.length else s),.bool (p.isPrefixOf s)]):=by
 have h:=CZ s p;have h2:Ev TE 172 [.str s,.str p] (.tup [.str (if p.isPrefixOf s=true then s.drop p.length else s),.bool (p.isPrefixOf s)]):=by
  have hpl:p.isPrefixOf s=true->p.length<=s.length:=fun h=>(List.isPrefixOf_iff_prefix.1 h).length_le;refine ah Tryz.func172 rfl (by simp[nts]) (vm ?_);simp only[wq.1,seval,Tryz.results172];refine ag.ev h rfl ?_;cases hp:p.isPrefixOf s with
  |true=>have:=hpl hp;simp only[wq.1,seval];exact⟨by omega,aA.dat rfl⟩
  |false=>simp only[wq.1,seval];exact aA.dat rfl
 refine ah Tryz.func159 rfl (by simp[nts]) (vm ?_);simp only[wq.1,seval,Tryz.results159];refine ag.ev h2 rfl ?_;simp only[wq.1,seval];exact aA.dat rfl
theorem MB:∀n:Nat,n<256->Lib.indexByte UV (UInt8.ofNat n)=xO (UInt8.ofNat n)/\-1<=xO (UInt8.ofNat n)/\xO (UInt8.ofNat n)<=15:=by decide +kernel
theorem Tf(n:Int)(h0:-17<=n)(h1:n<=255):V.int .u8 (IntKind.u8.wrap n)=vb (UInt8.ofNat (n%256).toNat):=by
 have:∀k:Nat,k<273->IntKind.u8.wrap ((k:Int)-17)=((UInt8.ofNat (((k:Int)-17)%256).toNat).toNat:Int):=by decide +kernel
 have h:=this (n+17).toNat (by omega);have e:(((n+17).toNat:Nat):Int)-17=n:=by omega
 rw[e]at h;rw[h]
theorem Dk[MO](s:S)(hs:s.length<=1000000):Ev TE 141 [.str s] (.str (bK s)):=by
 have hM:=mLx;have hcp:=Td s mX hs;obtain⟨u,hu⟩:∃u,u=if mX.isPrefixOf s=true then s.drop 3 else s:=⟨_,rfl⟩
 have hul:u.length<=1000000:=by
  rw[hu];split
  ·rw[List.length_drop];omega
  ·exact hs
 have hV:bK s=jM u:=by unfold bK;rw[hu]
 rw[show mX.length=3 from rfl,<-hu]at hcp;rw[hV];refine ah Tryz.func141 rfl (by simp[nts]) ?_;refine vn ?_;simp only[wq.1,seval,Tryz.results141];refine vn ?_;simp only[wq.1,Nat.reduceLT];refine kZ 3 1 (by simp only[wq.1,↓reduceIte]) ?_;refine vn ?_;simp only[wq.1,seval];refine ag.ev hcp rfl ?_;simp only[wq.1,seval];refine vn ?_;simp only[wq.1];refine aF (fun m f h=>∃(r b:S),m=r.length/\r.length<=u.length/\jM u=b++jM r/\b.length<=u.length-r.length/\f.t 4= .str r/\f.t 3= .ls 0 1 0 b.length b.length/\f.d=[]/\h=[.cells (b.map vb)]) u.length ⟨u,[],rfl,zrb _,rfl,by simp,by simp only[wq.1,seval],by simp only[wq.1,seval],rfl,rfl⟩ ?_;rintro m f h ⟨r,b,rfl,hru,hub,hbl,h4,h3,hd,rfl⟩;refine vn ?_;simp only[wq.1,seval,h4];refine vcB.mk (fun hlt=> ?_) (fun hlt=> ?_)
 ·obtain⟨x,y,r,rfl⟩:∃x y r',r=x::y::r':=by
   have:=zqs hlt
   match r,this with
   |x::y::r',_=>exact⟨x,y,r',rfl⟩
   |[x],h=>simp at h
   |[],h=>simp at h
  have i1:=Gx UV x.toNat x.toNat_lt;have i2:=Gx UV y.toNat y.toNat_lt;obtain⟨p1,p2,p3⟩:=MB x.toNat x.toNat_lt;obtain⟨q1,q2,q3⟩:=MB y.toNat y.toNat_lt;rw[UInt8.ofNat_toNat]at i1 p1 p2 p3;rw[UInt8.ofNat_toNat]at i2 q1 q2 q3;rw[p1]at i1;rw[q1]at i2;have w1:IntKind.i64.wrap (xO x*16)=xO x*16:=iw (by omega) (by omega);have w2:IntKind.i64.wrap (xO x*16+xO y)=xO x*16+xO y:=iw (by omega) (by omega);have w3:=Tf (xO x*16+xO y) (by omega) (by omega);have hun:jM u=(b++[UInt8.ofNat ((xO x*16+xO y)%256).toNat])++jM r:=by rw[hub];simp[jM]
  have dv:∀p,V.drops p (b.map vb)=b.map vb:=fun p=>oI b;simp only[zrt]at hru hbl;refine aj ?_;refine aB ?_;refine vn ?_;simp only[wq.1,seval,h4];refine⟨by decide +kernel,by omega,F8.mk i1 rfl rfl ?_⟩;simp only[wq.1,seval,h4];refine⟨by omega,F8.mk i2 rfl rfl ?_⟩;simp only[wq.1,↓reduceIte,Nat.reduceEqDiff,Nat.reduceLT,w1,w2];obtain⟨B,hB⟩:∃B,B=UInt8.ofNat ((xO x*16+xO y)%256).toNat:=⟨_,rfl⟩;rw[<-hB]at hun w3;have hcv:fQ P [.cells (b.map vb)] 3 5 (vi (xO x*16+xO y))=(True,vb B):=by rw[<-w3];unfold fQ;simp only[tis]
  have hdr:(x::y::r).drop 2=r:=rfl;refine vm ?_;simp only[wq.1,↓reduceIte,Nat.reduceEqDiff,Nat.reduceLT,reduceCtorEq,Nat.reduceMul,h3,hd,hcv,dv];refine⟨⟨rfl,by decide⟩,⟨by omega,by omega,by omega⟩,?_⟩;refine vm ?_;simp only[wq.1,seval,h4];refine⟨by omega,.inl ⟨r.length,by omega,r,b++[B],rfl,by omega,hun,by simp;omega,by simp only[wq.1,↓reduceIte],by simp only[wq.1,seval],by simp only[wq.1,hd],by simp⟩⟩
 ·have hlt2:r.length<2:=by have:=of_decide_eq_false hlt;omega
  have hur:jM r=[]:=by
   match r,hlt2 with
   |[],_=>rfl
   |[_],_=>rfl
   |_::_::_,h=>simp only[zrt]at h;omega
  rw[hur,zqp]at hub;obtain⟨e1,e2⟩:=sS (h:=[.cells (b.map vb)]) (l:=b) (k:=0) (cap:=b.length) rfl;rw[hub];refine vm ?_;simp only[wq.1,seval,h3,hd,e1,e2];exact aA.dat rfl
theorem Ti[MO](s:S)(hs:s.length<=1000000):Ev TE 113 [vi 2,.str s] (.tup [.str (x9 aT s).1,vi (x9 aT s).2]):=by
 have hu:=Dk s hs;have hn:=uU s;have hL:=GM s;obtain⟨u,eu⟩:∃u,u=bK s:=⟨_,rfl⟩;have hsp:=Ae u;unfold x9;rw[<-eu]at hu ⊢;have tail:∀(R:S×Int),R=(if(aT s&&jf s)=true then(s,0)else([],4))->R=R:=fun _ _=>rfl;obtain⟨T,hT⟩:∃T:S×Int,T=(if(aT s&&jf s)=true then(s,0)else([],4)):=⟨_,rfl⟩;rw[<-hT];refine ah Tryz.func113 rfl (by simp[nts]) (vm ?_);simp only[wq.1,seval,Tryz.results113];refine ag.ev wX rfl ?_;simp only[wq.1,seval];refine ag.ev hu rfl ?_;simp only[wq.1,seval];by_cases h0:u=[]
 ·have e0:(u==[])=true:=by rw[h0];rfl
  rw[if_neg (fun h=>h.1 h0)];simp only[wq.1,seval,e0];refine ag.ev hL rfl ?_;cases hok:aT s with
  |false=>rw[hok]at hT hL;have hT:T=([],4):=hT;rw[hT];simp only[wq.1,seval];exact aA.dat rfl
  |true =>
   rw[hok]at hT hn;cases hll:jf s with
   |false=>rw[hll]at hT;have hT:T=([],4):=hT;rw[hT];simp only[wq.1,seval];exact aA.dat rfl
   |true=>rw[hll]at hT;have hT:T=(s,0):=hT;rw[hT];simp only[wq.1,seval];refine ag.ev hn rfl ?_;simp only[wq.1,seval];exact aA.dat rfl
 ·have e0:(u==[])=false:=by simpa using h0
  unfold spV at hsp;simp only[wq.1,seval,e0];refine ag.ev hsp rfl ?_;cases hku:aT u with
  |false =>
   rw[if_neg (fun h=>absurd h.2.1 (by decide))];simp only[wq.1,seval];refine ag.ev hL rfl ?_;cases hok:aT s with
   |false=>rw[hok]at hT hL;have hT:T=([],4):=hT;rw[hT];simp only[wq.1,seval];exact aA.dat rfl
   |true =>
    rw[hok]at hT hn;cases hll:jf s with
    |false=>rw[hll]at hT;have hT:T=([],4):=hT;rw[hT];simp only[wq.1,seval];exact aA.dat rfl
    |true=>rw[hll]at hT;have hT:T=(s,0):=hT;rw[hT];simp only[wq.1,seval];refine ag.ev hn rfl ?_;simp only[wq.1,seval];exact aA.dat rfl
  |true =>
   by_cases hsu:bf u=s
   ·rw[if_pos ⟨h0,rfl,hsu⟩];have e1:(bf u==s)=true:=by simpa using hsu
    simp only[wq.1,seval,e1];exact aA.dat rfl
   ·rw[if_neg (fun h=>hsu h.2.2)];have e1:(bf u==s)=false:=by simpa using hsu
    simp only[wq.1,seval,e1];refine ag.ev hL rfl ?_;cases hok:aT s with
    |false=>rw[hok]at hT hL;have hT:T=([],4):=hT;rw[hT];simp only[wq.1,seval];exact aA.dat rfl
    |true =>
     rw[hok]at hT hn;cases hll:jf s with
     |false=>rw[hll]at hT;have hT:T=([],4):=hT;rw[hT];simp only[wq.1,seval];exact aA.dat rfl
     |true=>rw[hll]at hT;have hT:T=(s,0):=hT;rw[hT];simp only[wq.1,seval];refine ag.ev hn rfl ?_;simp only[wq.1,seval];exact aA.dat rfl
theorem MC[MO](t:Tk)(hs:t.t.length<=1000000):Ev TE 77 [vi 2,t.v] (.tup [.str (yf t).1,vi (yf t).2]):=by
 have hr:=Ti t.t hs;unfold yf;refine ah Tryz.func77 rfl (by simp[nts]) (vm ?_);simp only[wq.1,seval,Tryz.results77];by_cases hk:t.k=0
 ·have e0:((t.k:Int) != 0)=false:=by rw[hk];rfl
  have e2:((t.k:Int)==2)=false:=by rw[hk];rfl
  rw[if_pos hk];simp only[wq.1,seval,e0,e2];refine⟨.bool true,?_⟩;simp only[wq.1,seval];refine ag.ev hr rfl ?_;simp only[wq.1,seval];exact aA.dat rfl
 ·have e0:((t.k:Int) != 0)=true:=by simp;omega
  rw[if_neg hk];cases e2:((t.k:Int)==2)with
  |true=>simp only[wq.1,seval,e0];exact aA.dat rfl
  |false=>simp only[wq.1,seval,e0];exact aA.dat rfl
theorem P5(t:Tk):iG t=if(yf t).2=0 then .ok (yf t).1 else .error (t.at',(yf t).2):=by
 unfold iG yf;split
 ·rfl
 ·rfl
theorem P6[MO](t:Tk)(s:S)(hs:t.t.length<=1000000):Ev TE 76 [t.v,.ip (vi 2),.ip (.str s)] (.bool (isT s t)):=by have hw:=MC t hs;unfold isT;refine ah Tryz.func76 rfl (by simp[nts]) (vm ?_);simp only[wq.1,seval,Tryz.results76];refine ag.ev hw rfl ?_;simp only[wq.1,seval];exact eQ rfl rfl
theorem Tj[MO](l:List Tk)(s:S)(hl:∀t∈l,t.t.length<=1000000):Ev TE 35 [vi 2,iO l,.str s] (vi (LV l s)):=by
 have hix:=Tc l 76 [.ip (vi 2),.ip (.str s)] (isT s) rfl rfl fun t ht=>P6 t s (hl t ht);have hidx:idx l (isT s)=match l.findIdx? (isT s)with|some i=>(i:Int)|none=>-1:=rfl
 have hlen:l.length<=l.length:=zrb _;unfold LV;refine ah Tryz.func35 rfl (by simp[nts]) (vm ?_);simp only[wq.1,seval,Tryz.results35];refine ag.lend hix (au.cons (aA.dat (by simp only[V.dat,Ac])) (au.cons (aA.fn au.nil (au.cons (aA.lp rfl (au.dat rfl) rfl rfl (by simp[V.vc]) rfl) (au.cons (aA.lp rfl (au.dat rfl) rfl rfl (by simp[V.vc]) rfl) au.nil))) au.nil)) rfl ?_;rw[hidx];cases hfi:l.findIdx? (isT s)with
 |none=>simp only[wq.1,seval];exact aA.dat rfl
 |some i =>
  have hi:i<l.length:=(List.findIdx?_eq_some_iff_getElem.1 hfi).1;have hge:decide ((i:Int)<0)=false:=by simp
  have hgd:l.getD i ⟨0,[],0⟩=l[i]:=by rw[zqg,zqk hi];rfl
  simp only[wq.1,seval,hge,PY hi];rw[hgd];exact⟨⟨by omega,by omega⟩,aA.dat rfl⟩
end Go.Proofs.YtokppohljajhjaaGreatDoor
