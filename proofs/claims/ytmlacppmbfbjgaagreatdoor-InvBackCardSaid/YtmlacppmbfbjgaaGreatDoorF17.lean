/- Lemmas for this claim, part F17: each holds under what it names. -/
import Derived.Test.YtmlacppmbfbjgaaGreatDoorF16
import Derived.Test.YtmlacppmbfbjgaaGreatDoorA7
import Derived.Shelf.Sort.Plain
import Derived.Shelf.Strings.Count
import Derived.Shelf.Strings.LastIndex
import Derived.Shelf.Small.Strs
import Derived.Shelf.Strings.OnBuilder
import Derived.Shelf.Strings.Search1
set_option linter.unusedVariables false
set_option linter.unusedSimpArgs false
set_option linter.unnecessarySimpa false
set_option maxRecDepth 20000
set_option maxHeartbeats 8000000
namespace Go.Proofs.YtmlacppmbfbjgaaGreatDoor
open Go Go.Proofs Go.Abs
theorem WL {vals:List Bool} {a:Int} (h:inU vals.length a):(vals.getD (max a (-a)-1).toNat false==decide (0<a))=hol vals a:=by
 obtain⟨h0,h1,h2⟩:=h;unfold hol;by_cases hp:0<a
 ·rw[if_neg (by omega),show max a (-a)-1=a-1 by omega,decide_eq_true hp];cases vals.getD (a-1).toNat false<;>rfl
 ·rw[if_pos (by omega),show max a (-a)-1=-a-1 by omega,decide_eq_false hp];cases vals.getD (-a-1).toNat false<;>rfl
theorem Nw {m:Mo} (hm:m.chk=0) {s:S} (h:s∈m.lat):fQ m s=true:=by unfold fQ;rw[(Nq (Vs hm) s).2];have:=pq m.lat (·==s);have h2:m.lat.any (·==s)=true:=List.any_eq_true.2 ⟨s,h,by simp⟩;rw[h2]at this;exact of_decide_eq_true this
theorem PP {m:Mo} {q:Qn} {vals:List Bool} {i:Nat} (h:i<m.lat.length):(stK m q vals).take (i+1)=(stK m q vals).take i++[hol vals (sQ m (iC m.g q.beg q.steps) 0 (m.lat[i],false))]:=by unfold stK;rw[List.take_add_one,List.getElem?_map,List.getElem?_eq_getElem h];rfl
theorem mxI (a b:Int):uz [vi a,vi b]=(True,vi (max a b)):=by
 simp only[uz];split
 ·rw[show max a b=b by omega]
 ·rw[show max a b=a by omega]
theorem PQ {g:Gr} {b:Cl} {k:Nat}:(fZ g b 0).n≤(fZ g b k).n:=by rw[MF,MF,Nat.zero_mul];omega
abbrev hA5 (part clause:Int) (beg:Cl) (steps:Int) (fid:FuncId) (caps:List V) (n:Int) (cl rows:List Cl) (vals:List Bool) (nn:Int) (ln:List Cl) (st:List Bool):H :=
 hA2 part clause beg steps fid caps n cl rows++[.cells [vi 1,fV vals,vi nn,cls ln],.cells [vi 1,vi part,vi clause,.ls 5 1 0 st.length st.length],.cells (st.map V.bool)]
theorem Vx (m : Mo) (l : List (List Lt)) (q : Qn) (bud : Int) (fid : FuncId) (caps : List V) (hm : m.chk = 0) (hs : m.g.Sm) (ok : QOk m q) (hb : Vt m bud) (he : ai P fid = true) (hc : V.dats caps = true)
 (hmore:zJ m.g q.beg q.steps=0→Ev TE fid (uV (q.n m) (fZ m.g q.beg q.steps).cl (iC m.g q.beg q.steps)::caps) (cls q.more)) :
 EvR TE 49 [.ip (kV m l),.agg [vi q.part,vi q.clause,aG q.beg,vi q.steps,.fn (.func fid) [] caps],vi bud] (fun r=>∃a,Vj m bud q a∧r= .tup [a.1.v,vi a.2]):=by
 have hM:maxLen=9223372036854775807:=rfl;obtain⟨nv,i0,i1,hlat⟩:=Ns hm;obtain⟨hg,hi,hl,ho⟩:=oK hm;have hu:=MI m.g q.beg q.steps hs (by rw[ok.b];omega);unfold Gr.v at hu;refine EvR.of_calls ?_;refine au Tryz.func49 rfl (by simp[nts]) ?_;refine ag (vm ?_);simp only[wq.1,Nat.reduceLT,Tryz.results49];refine ag (vm ?_);by_cases hz:zJ m.g q.beg q.steps=0
 ·have eU : pM m.g q.beg q.steps = uV (q.n m) (fZ m.g q.beg q.steps).cl (iC m.g q.beg q.steps) := by unfold pM;rw [if_pos hz];rfl
  rw[eU,hz]at hu;have hmr:=hmore hz;have hnv:q.n m≤nvU m:=QL ok.b ok.r ok.s;have hsv:EvR TE 87 [cls ((fZ m.g q.beg q.steps).cl++q.more),vi (q.n m),vi bud] (vW ((fZ m.g q.beg q.steps).cl++q.more) (q.n m) bud) :=
   Pg _ _ _ (Tq ok) fun hz=>by rw[Int.toNat_natCast];exact hb _ _ hnv hz
  have hcl:(fZ m.g q.beg q.steps).cl.length≤500000:=by rw[MG];have:q.steps*m.g.ands.length≤1*m.g.ands.length:=Nat.mul_le_mul_right _ ok.s;unfold nvU at nv;omega
  have hmn:=ok.n;obtain⟨n,hn⟩:∃n,n=q.n m:=⟨_,rfl⟩;obtain⟨cl,hcle⟩:∃cl,cl=(fZ m.g q.beg q.steps).cl:=⟨_,rfl⟩;obtain⟨rows,hrows⟩:∃rows,rows=iC m.g q.beg q.steps:=⟨_,rfl⟩;rw[←hn,←hcle,←hrows]at hu hmr;rw[←hn,←hcle]at hsv;rw[←hcle]at hcl;refine Ws m l _ _ _ _ _ _ bud _ _ _ _ hu (by intro q hq;simp only[pR,List.mem_cons,List.not_mem_nil,or_false]at hq;rcases hq with rfl | rfl | rfl | rfl<;>rfl) rfl (fun f hG hd ⟨t8,t9⟩=> ?_);have t0:f.t 0= .ip (kV m l):=hG (0,.ip (kV m l)) (by simp[pR]);have t2:f.t 2=vi bud:=hG (2,vi bud) (by simp[pR]);have t4:f.t 4= .lp 0 0:=hG (4,.lp 0 0) (by simp[pR]);have t6:f.t 6= .lp 1 0:=hG (6,.lp 1 0) (by simp[pR]);show awp _ _ _ _ _ _ _;refine ag (vm ?_);simp only[wq.1,seval,t9];refine ag (vm ?_);refine WJ m l _ _ _ _ _ _ bud _ _ _ _ hmr he hc (by omega) hsv (by intro q hq;simp only[oL,List.mem_cons,List.not_mem_nil,or_false]at hq;rcases hq with rfl | rfl | rfl | rfl | rfl<;>simp only[wq.1,seval,t0,t2,t4,t6,t8]) (by simp only[wq.1,hd]) (fun f res vals nn ln e2 hS hG hd ⟨t10,t9⟩=> ?_);clear t0 t2 t4 t6 t8;have t0:f.t 0= .ip (kV m l):=hG (0,.ip (kV m l)) (by simp[oL]);have t2:f.t 2=vi bud:=hG (2,vi bud) (by simp[oL]);have t4:f.t 4= .lp 0 0:=hG (4,.lp 0 0) (by simp[oL]);have t6:f.t 6= .lp 1 0:=hG (6,.lp 1 0) (by simp[oL]);have t8:f.t 8= .lp 2 0:=hG (8,.lp 2 0) (by simp[oL]);show awp _ _ _ _ _ _ _;rcases hS with⟨hz2,rfl,rfl,rfl⟩ | ⟨hz2,rfl,hok⟩
  ·have ez : (chk (cl ++ q.more) n != 0) = true := by simpa using hz2
   refine ag (vm ?_);simp only[wq.1,seval,t6,t9,hd,ez];refine⟨_,⟨(Ve.z,chk (cl++q.more) n),.inr ⟨hz,.inl ⟨by rw[←hn,Qn.cl,←hcle];exact hz2,by rw[←hn,Qn.cl,←hcle]⟩⟩,rfl⟩,?_⟩;exact az.tup (aj.cons (az.agg (aj.cons (az.dat rfl) (aj.cons (az.dat rfl) (aj.cons (az.dat rfl) (aj.cons az.nils aj.nil))))) (aj.cons (az.dat rfl) aj.nil))
  ·refine ag (vm ?_);simp only[wq.1,seval,t9];refine ag (vm ?_);simp only[wq.1,seval,t4,t10];have fin:∀st,st=(if res=1 then stK m q vals else [])→Vj m bud q (⟨res,q.part,q.clause,st⟩,0):=fun st hst =>
    .inr ⟨hz,.inr ⟨by rw[←hn,Qn.cl,←hcle];exact hz2,res,vals,ln,by rw[←hn,Qn.cl,←hcle];exact hok,by rw[hst]⟩⟩
   by_cases h1:res=1
   ·subst h1;rw[if_pos rfl]at fin;have hvl:vals.length=n:=by
     rcases hok.2.2.2.2 with h | h | h
     ·exact absurd h.1 (by decide)
     ·exact h.2.1
     ·exact absurd h.1 (by decide)
    refine jC ?_;refine uU (h':=hA5 q.part q.clause q.beg q.steps fid caps n cl rows vals nn ln []) (HLe.set (i:=4) (o':= .cells [vi 1,vi q.part,vi q.clause,.ls 5 1 0 0 0]) rfl (OLe.cells (by simp) (gK.cons (VLe.refl _) (gK.cons (VLe.refl _) (gK.cons (VLe.refl _) (gK.cons gz gK.nil)))))) ?_;refine ag (vm ?_);simp only[wq.1,seval,t0,t10];have hrl:UOk m rows:=by rw[hrows];exact zT hm ok.b ok.r ok.s
    have hstl:(stK m q vals).length=m.lat.length:=by unfold stK;simp
    refine aA (fun q' f h=>∃i,q'+i=m.lat.length∧f.t 0= .ip (kV m l)∧f.t 6= .lp 1 0∧f.t 8= .lp 2 0∧f.t 10= .lp 3 0∧f.t 11= .lp 4 0∧f.t 65=dF m.lat∧f.t 66=vi m.lat.length∧f.t 67=vi i∧f.d=[]∧h=hA5 q.part q.clause q.beg q.steps fid caps n cl rows vals nn ln ((stK m q vals).take i)) m.lat.length ⟨0,by omega,by simp only[wq.1,seval,t0],by simp only[wq.1,seval,t6],by simp only[wq.1,seval,t8],by simp only[wq.1,seval,t10],by simp only[wq.1,seval],by simp only[wq.1,seval],by simp only[wq.1,seval],by simp only[wq.1,↓reduceIte];rfl,by simp only[wq.1,hd],rfl⟩ ?_;clear t0 t2 t4 t6 t8 t9 t10 hd hG;rintro q' f h ⟨i,hq',t0,t6,t8,t10,t11,t65,t66,t67,hd,rfl⟩;have htl:((stK m q vals).take i).length=min i m.lat.length:=by rw[List.length_take,hstl]
    refine ag (vm ?_);simp only[wq.1,Nat.reduceLT,t66,t67];refine ag (bu (b:=decide ((i:Int)<m.lat.length)) (by simp only[wq.1,↓reduceIte]) (by simp only[wq.1,↓reduceIte]) (fun hlt=> ?_) (fun hlt=> ?_))
    ·simp only [decide_eq_true_eq,Int.ofNat_lt] at hlt;have hw := aC (show i < maxLen by omega);have hmem : m.lat[i] ∈ m.lat := List.getElem_mem hlt;have hkn := Nw hm hmem;have hkl := EE m l n cl rows 0 (m.lat[i],false) hkn hrl.i hrl.lat hrl.b hrl.r;have dK : V.dats [.ip (kV m l),V.agg [vi n,cls cl,cls rows],vi 0,V.agg [V.str m.lat[i],V.bool false]] = true := by simp only [V.dats,V.dat,dJ,Bool.and_self]
     have hsu:=PP (q:=q) (vals:=vals) hlt;rw[←hrows]at hsu;have hin:=(PM (vs:=vals) (BU hg (by rw[ok.b];exact hl) ok.r) (Nat.zero_le q.steps) i0 hl hkn (x:=(m.lat[i],false))).1;have hin:inU vals.length (sQ m rows 0 (m.lat[i],false)):=by rw[hvl,hn,hrows];exact hin.mono PQ
     have hgs:(m.lat.map V.str).getD i .any= .str m.lat[i]:=Ji hlt _;obtain⟨a,ha⟩:∃a,a=sQ m rows 0 (m.lat[i],false):=⟨_,rfl⟩;rw[←ha]at hkl hsu hin;obtain⟨st,hst⟩:∃st,st=(stK m q vals).take i:=⟨_,rfl⟩;rw[←hst]at hsu htl ⊢;have htl:st.length=i:=by omega
     refine vm ?_;simp only[wq.1];refine ag (aI ?_);refine ag (vm ?_);simp only[wq.1,seval,t65,t67,hgs];refine⟨⟨by omega,by omega⟩,?_⟩;refine ag (vm ?_);simp only[wq.1,seval,t0,t8];refine ah.ev hkl dK ?_;simp only[wq.1,↓reduceIte,Nat.reduceLT];have hal:a≤1000000∧-1000000≤a:=by have h1:=hin.1;have h2:=hin.2;omega
     obtain⟨p,hp⟩:∃p:Nat,max a (-a)-1=p:=⟨(max a (-a)-1).toNat,by have:=hin.1;omega⟩;have hpl:p<vals.length:=by have:=hin;unfold inU at this;omega
     have hw1:IntKind.i64.wrap (-a)=-a:=dE (by omega) (by omega);have hw0:IntKind.i64.wrap (0-a)=-a:=by rw[Int.zero_sub];exact hw1
     have hw2:IntKind.i64.wrap (max a (-a)-1)=p:=by rw[hp];exact dE (by omega) (by omega)
     have hgv:(vals.map V.bool).getD p .any= .bool vals[p]:=WA hpl _;have hhol:(vals[p]==decide (0<a))=hol vals a:=by rw[←WL hin,hp,Int.toNat_natCast,List.getD_eq_getElem?_getD,List.getElem?_eq_getElem hpl];rfl
     have dst:∀p,V.drops p (st.map V.bool)=st.map V.bool:=fun p=>qK _;have dcp:∀p,V.drops p caps=caps:=fun p=>qA.dats_drops _ hc;have hel:(st.map V.bool).length=st.length*1:=by rw[List.length_map];omega
     refine Bd mixed 15 (.one 15<| .take 16<| .one 17<| .fin) (fun f' h'=>f'.t 0= .ip (kV m l)∧f'.t 6= .lp 1 0∧f'.t 8= .lp 2 0∧f'.t 10= .lp 3 0∧f'.t 11= .lp 4 0∧f'.t 65=dF m.lat∧f'.t 66=vi m.lat.length∧f'.t 67=vi i∧f'.d=[]∧h'=hA5 q.part q.clause q.beg q.steps fid caps n cl rows vals nn ln (st++[hol vals a])) (by decide +kernel) ?_ ?_
     ·intro K hK;simp only[List.take_succ_cons,List.take_zero];simp only[wq.1,↓reduceIte,Nat.reduceEqDiff,Nat.reduceLT,Nat.reduceLeDiff,Nat.reduceAdd,reduceCtorEq,Nat.reduceMul,t10,t11,hw0,hw2,hgv,hhol,mxI];refine⟨⟨by omega,by omega⟩,⟨rfl,by decide⟩,hK _ ?_⟩;simp only[wq.1,seval,t0,t6,t8,t10,t11,t65,t66,t67,hd,dst,dcp];exact⟨by omega,by omega,by omega⟩
     ·rintro f h ⟨t0,t6,t8,t10,t11,t65,t66,t67,hd,rfl⟩;show awp _ _ _ _ _ _ _;refine vm ?_;simp only[wq.1,seval,t67,hw];refine .inl ⟨q'-1,by omega,i+1,by omega,by simp only[wq.1,seval,t0],by simp only[wq.1,seval,t6],by simp only[wq.1,seval,t8],by simp only[wq.1,seval,t10],by simp only[wq.1,seval,t11],by simp only[wq.1,seval,t65],by simp only[wq.1,seval,t66],by simp only[wq.1,↓reduceIte],by simp only[wq.1,hd],by rw[hsu];simp⟩
    ·simp only [decide_eq_false_iff_not,Int.ofNat_lt] at hlt;have hie : i = m.lat.length := by omega
     subst hie;rw[List.take_of_length_le (by omega)]at htl ⊢;refine vm ?_;simp only[wq.1];show awp _ _ _ _ _ _ _;refine ag (vm ?_);simp only[wq.1,seval,t6,t11];refine vm ?_;simp only[wq.1,seval,t6,hd];refine⟨_,⟨_,fin _ rfl,rfl⟩,?_⟩;exact az.tup (aj.cons (az.agg (aj.cons (az.dat rfl) (aj.cons (az.dat rfl) (aj.cons (az.dat rfl) (aj.cons (IC rfl rfl) aj.nil))))) (aj.cons (az.dat rfl) aj.nil))
   ·have e1 : (res == 1) = false := by simpa using h1
    rw[if_neg h1]at fin;refine ag (vm ?_);simp only[wq.1,seval,t10,e1];refine vm ?_;simp only[wq.1,seval,t6,hd];refine⟨_,⟨_,fin [] rfl,rfl⟩,?_⟩;exact az.tup (aj.cons (az.agg (aj.cons (az.dat rfl) (aj.cons (az.dat rfl) (aj.cons (az.dat rfl) (aj.cons az.nils aj.nil))))) (aj.cons (az.dat rfl) aj.nil))
 ·have eU : pM m.g q.beg q.steps = uV 0 [] [] := by unfold pM;rw [if_neg hz]
  rw[eU]at hu;refine Ws m l _ _ _ _ _ _ bud _ _ _ _ hu (by intro q hq;simp only[pR,List.mem_cons,List.not_mem_nil,or_false]at hq;rcases hq with rfl | rfl | rfl | rfl<;>rfl) rfl (fun f hG hd ⟨t8,t9⟩=> ?_);have t6:f.t 6= .lp 1 0:=hG (6,.lp 1 0) (by simp[pR]);show awp _ _ _ _ _ _ _;have ez:(zJ m.g q.beg q.steps != 0)=true:=by simpa using hz
  refine ag (vm ?_);simp only[wq.1,seval,t6,t9,hd,ez];refine⟨_,⟨(Ve.z,zJ m.g q.beg q.steps),.inl ⟨hz,rfl⟩,rfl⟩,?_⟩;exact az.tup (aj.cons (az.agg (aj.cons (az.dat rfl) (aj.cons (az.dat rfl) (aj.cons (az.dat rfl) (aj.cons az.nils aj.nil))))) (aj.cons (az.dat rfl) aj.nil))
def QFn (m:Mo) (q:Qn) (fid:FuncId) (caps:List V) (h:H) (N:Nat):Prop :=
 ∃caps',(∀h2:H,(∀i o,N≤i→h[i]? =some o→h2[i]? =some o)→aj TE (qo (fun i=>decide (N≤i)) 0 h2) caps caps')∧V.drops (fun i=> !decide (N≤i)) caps=caps∧V.dats caps'=true∧ai P fid=true∧(zJ m.g q.beg q.steps=0→Ev TE fid (uV (q.n m) (fZ m.g q.beg q.steps).cl (iC m.g q.beg q.steps)::caps') (cls q.more))
theorem Ny {h:H} {N i:Nat} (hN:N≤i) {c:List Lt} (hi:h[i]? =some (.cells [iI c])):(qo (fun i=>decide (N≤i)) 0 h)[i]? =some (.cells [iI c]):=by rw[nT,hi,Option.map_some,if_pos (by simpa using hN)];rfl
theorem Nz (id N : Nat) (h : H) (m : Mo) (l : List (List Lt)) (bad : Int) (hm : m.chk = 0) (hkl : ∀ c ∈ l,∀ x ∈ c,fQ m x.1 = true) (hl : l.length ≤ 200) (hcl : ∀ c ∈ l,c.length ≤ 1000) (b1 : bad < m.g.outs.length)
 (I:Nat→H→(Nat→Bool)→Prop) (Stop:Option Code→H→(Nat→Bool)→Prop)
 (hN:∀j h k,I j h k→N≤h.length)
 (hap:∀j h k o,I j h k→I j (h++[o]) k)
 (h0:I 0 h (fun _=>false))
 (step:∀j h' k q fid caps,(qns m l bad)[j]? =some q→k id=false→I j h' k→QFn m q fid caps h' N →
  Wj TE id [.agg [vi q.part,vi q.clause,aG q.beg,vi q.steps,.fn (.func fid) [] caps]] h' fun jm h'' p=>(jm=none∧I (j+1) h'' (fun i=>k i||p i))∨(jm.isNone=false∧Stop jm h'' (fun i=>k i||p i))) :
 ah TE 77 ([]++[.yd id]++[.ip (.ip (kV m l)),.ip (vi bad)]) h fun ae h' p=>p id=false∧match ae with
  | .ret _=>I (qns m l bad).length h' p∨∃j,Stop j h' p
  | .pan _=>False:=by
 have hM:maxLen=9223372036854775807:=rfl;obtain⟨nv,i0,i1,hlat⟩:=Ns hm;have hrp:=IY 2 m.lat.length (by omega);refine au Tryz.func77 rfl (by simp[nts]) ?_;refine ag (vm ?_);simp only[wq.1,↓reduceIte,Nat.reduceEqDiff,Nat.reduceLT,Nat.reduceLeDiff,Nat.reduceAdd,reduceCtorEq,Nat.reduceMul,Tryz.results77];refine⟨⟨rfl,by decide⟩,ah.ev (Ev.le (gK.cons dB (gK.refl _)) hrp) rfl ?_⟩;have eany:List.replicate m.lat.length (2:Int)=Jm m:=rfl;rw[eany];simp only[wq.1,seval];obtain⟨hg,hi,hle,ho⟩:=oK hm;obtain⟨_,g0,g1,g2,g3,g4,g5⟩:=jG hg;obtain⟨r1,r2,r3,r4⟩:=kM g4;have hgo:∀a∈m.g.outs,a≤1000000:=fun a ha=>by
  have:=r4 a ha;have wf:m.g.first=1+m.g.ins+m.g.next.length:=rfl
  have wa:m.g.all=2*(m.g.first+m.g.ands.length):=rfl;omega
 have u0:UOk m (iC m.g m.g.init 0):=zT hm (zU hm).1 (zU hm).2 (Nat.zero_le _);have u1:UOk m (iC m.g (Jm m) 1):=zT hm EH EG (Nat.le_refl _);have hcl':∀c∈l,c.length≤1000000:=fun c hc=>by have:=hcl c hc;omega
 have ql:(qns m l bad).length=l.length+(l.length+if 0≤bad then 1 else 0):=by unfold qns;split<;>simp
 have qa:∀i (hi:i<l.length),(qns m l bad)[i]? =some (qn0 m i l[i]):=fun i hi=>by unfold qns;rw[List.getElem?_append_left (by simpa using hi),List.getElem?_map,List.getElem?_range hi];simp[List.getD_eq_getElem?_getD,hi]
 have qb:∀i (hi:i<l.length),(qns m l bad)[l.length+i]? =some (qn1 m l i l[i]):=fun i hi=>by unfold qns;rw[List.getElem?_append_right (by simp),List.length_map,List.length_range,show l.length+i-l.length=i by omega,List.getElem?_append_left (by simpa using hi),List.getElem?_map,List.getElem?_range hi];simp[List.getD_eq_getElem?_getD,hi]
 have qc:0≤bad→(qns m l bad)[l.length+l.length]? =some (qn2 m l bad):=fun hb=>by unfold qns;rw[List.getElem?_append_right (by simp),List.length_map,List.length_range,show l.length+l.length-l.length=l.length by omega,List.getElem?_append_right (by simp),List.length_map,List.length_range,Nat.sub_self,if_pos hb];rfl
 refine ag ?_;refine ag (vm ?_);simp only[wq.1,seval];refine aI ?_;refine aA (fun q f h=>∃i,q+i=l.length∧f.t 0= .yd id∧f.t 1= .ip (.ip (kV m l))∧f.t 2= .ip (vi bad)∧f.t 4=aG (Jm m)∧f.t 20=lss l∧f.t 21=vi l.length∧f.t 22=vi i∧f.d=[]∧f.k id=false∧I i h f.k) l.length ⟨0,by omega,by simp only[wq.1,seval],by simp only[wq.1,seval],by simp only[wq.1,seval],by simp only[wq.1,seval],by simp only[wq.1,seval],by simp only[wq.1,seval],by simp only[wq.1,↓reduceIte];rfl,by simp only[wq.1],by simp only[wq.1],by simp only[wq.1];exact h0⟩ ?_;rintro q f h ⟨i,hq,t0,t1,t2,t4,t20,t21,t22,hd,hk,hIk⟩;refine ag (vm ?_);simp only[wq.1,Nat.reduceLT,t21,t22];refine ag (bu (b:=decide ((i:Int)<l.length)) (by simp only[wq.1,↓reduceIte]) (by simp only[wq.1,↓reduceIte]) (fun hlt=> ?_) (fun hlt=> ?_))
 ·simp only [decide_eq_true_eq,Int.ofNat_lt] at hlt;have hw := aC (show i < maxLen by omega);have hgl := xq hlt .any;have hcm := List.getElem_mem hlt;have hIn := hap _ _ _ (.cells [iI l[i]]) hIk;have hNh := hN _ _ _ hIk;have hy := step i (h ++ [.cells [iI l[i]]]) f.k _ 79 [.ip (.ip (kV m l)),.lp h.length 0] (qa i hlt) hk hIn
   ⟨[.ip (.ip (kV m l)),.ip (iI l[i])],fun h2 hh=>aj.cons (az.dat rfl) (aj.cons (az.lp (Ny (c:=l[i]) hNh (hh _ _ hNh jD)) (aj.dat (by simp only[V.dats,V.dat,fB,Bool.and_self])) rfl (by simp only[V.dat,fB]) (by simp[V.vc]) rfl) aj.nil),by simp[V.drops,V.drop,hNh],rfl,rfl,
     fun _=>Vg m l _ _ _ l[i] (hkl _ hcm) u0 (hcl' _ hcm)⟩
  have hlo:∀o:O,(h++[o])[h.length]? =some o:=fun o=>jD;have hso:∀o o':O,(h++[o]).set h.length o'=h++[o']:=fun o o'=>qy;obtain⟨t,n',ps,asg,body,pend,hL,hsz,hps,hw2⟩:=hy;refine vm ?_;simp only[wq.1];refine ag (aI ?_);refine ag (vm ?_);simp only[wq.1,seval,t20,t22,hgl,hlo,hso];refine⟨⟨by omega,by omega⟩,?_⟩;refine ag (vm ?_);simp only[wq.1,seval,t0,t1,hL];refine⟨⟨by simpa using hsz,hps⟩,uQ hw2 ?_⟩;rintro j h' p hp (⟨rfl,hI2⟩ | ⟨hj,hS⟩)
  ·refine⟨by simp[DR,hd],?_⟩;simp only[wq.1,seval,Option.isNone_none];refine vm ?_;simp only[wq.1,↓reduceIte];refine vm ?_;simp only[wq.1,seval,t22,hw];refine .inl ⟨q-1,by omega,i+1,by omega,by simp only[wq.1,seval,t0,hp],by simp only[wq.1,seval,t1],by simp only[wq.1,seval,t2],by simp only[wq.1,seval,t4],by simp only[wq.1,seval,t20],by simp only[wq.1,seval,t21],by simp only[wq.1,↓reduceIte],by simp only[wq.1,hd],by simp only[wq.1,hk,hp],by simp only[wq.1];exact hI2⟩
  ·refine⟨by simp[DR,hd],?_⟩;simp only[wq.1,seval,hj];refine vm ?_;simp only[wq.1,↓reduceIte,hd,hp,hk];exact .inr ⟨j,hS⟩
 ·simp only [decide_eq_false_iff_not,Int.ofNat_lt] at hlt;have : i = l.length := by omega
  subst this;refine vm ?_;simp only[wq.1];show awp _ _ _ _ _ _ _;refine ag ?_;refine ag (vm ?_);simp only[wq.1,seval,t1];refine aI ?_;refine aA (fun q f h=>∃i,q+i=l.length∧f.t 0= .yd id∧f.t 1= .ip (.ip (kV m l))∧f.t 2= .ip (vi bad)∧f.t 4=aG (Jm m)∧f.t 43=lss l∧f.t 44=vi l.length∧f.t 45=vi i∧f.d=[]∧f.k id=false∧I (l.length+i) h f.k) l.length ⟨0,by omega,by simp only[wq.1,seval,t0],by simp only[wq.1,seval,t1],by simp only[wq.1,seval,t2],by simp only[wq.1,seval,t4],by simp only[wq.1,seval],by simp only[wq.1,seval],by simp only[wq.1,↓reduceIte];rfl,by simp only[wq.1,hd],by simp only[wq.1,hk],by simp only[wq.1];exact hIk⟩ ?_;clear t0 t1 t2 t4 t20 t21 t22 hd hk hIk;rintro q f h ⟨i,hq,t0,t1,t2,t4,u43,u44,u45,hd,hk,hIk⟩;refine ag (vm ?_);simp only[wq.1,Nat.reduceLT,u44,u45];refine ag (bu (b:=decide ((i:Int)<l.length)) (by simp only[wq.1,↓reduceIte]) (by simp only[wq.1,↓reduceIte]) (fun hlt=> ?_) (fun hlt=> ?_))
  ·simp only [decide_eq_true_eq,Int.ofNat_lt] at hlt;have hw := aC (show i < maxLen by omega);have hgl := xq hlt .any;have hcm := List.getElem_mem hlt;have hIn := hap _ _ _ (.cells [iI l[i]]) hIk;have hNh := hN _ _ _ hIk;have hy := step (l.length + i) (h ++ [.cells [iI l[i]]]) f.k _ 81 [.ip (.ip (kV m l)),.lp h.length 0] (qb i hlt) hk hIn
    ⟨[.ip (.ip (kV m l)),.ip (iI l[i])],fun h2 hh=>aj.cons (az.dat rfl) (aj.cons (az.lp (Ny (c:=l[i]) hNh (hh _ _ hNh jD)) (aj.dat (by simp only[V.dats,V.dat,fB,Bool.and_self])) rfl (by simp only[V.dat,fB]) (by simp[V.vc]) rfl) aj.nil),by simp[V.drops,V.drop,hNh],rfl,rfl,
      fun _=>Vh m l _ _ _ l[i] (hkl _ hcm) hkl u1 (hcl' _ hcm) (by omega) hcl'⟩
   have hlo:∀o:O,(h++[o])[h.length]? =some o:=fun o=>jD;have hso:∀o o':O,(h++[o]).set h.length o'=h++[o']:=fun o o'=>qy;obtain⟨t,n',ps,asg,body,pend,hL,hsz,hps,hw2⟩:=hy;refine vm ?_;simp only[wq.1];refine ag (aI ?_);refine ag (vm ?_);simp only[wq.1,seval,u43,u45,hgl,hlo,hso];refine⟨⟨by omega,by omega⟩,?_⟩;refine ag (vm ?_);simp only[wq.1,seval,t0,t1,t4,hL];refine⟨⟨by simpa using hsz,hps⟩,uQ hw2 ?_⟩;rintro j h' p hp (⟨rfl,hI2⟩ | ⟨hj,hS⟩)
   ·refine⟨by simp[DR,hd],?_⟩;simp only[wq.1,seval,Option.isNone_none];refine vm ?_;simp only[wq.1,↓reduceIte];refine vm ?_;simp only[wq.1,seval,u45,hw];refine .inl ⟨q-1,by omega,i+1,by omega,by simp only[wq.1,seval,t0,hp],by simp only[wq.1,seval,t1],by simp only[wq.1,seval,t2],by simp only[wq.1,seval,t4],by simp only[wq.1,seval,u43],by simp only[wq.1,seval,u44],by simp only[wq.1,↓reduceIte],by simp only[wq.1,hd],by simp only[wq.1,hk,hp],by simp only[wq.1];exact hI2⟩
   ·refine⟨by simp[DR,hd],?_⟩;simp only[wq.1,seval,hj];refine vm ?_;simp only[wq.1,↓reduceIte,hd,hp,hk];exact .inr ⟨j,hS⟩
  ·simp only [decide_eq_false_iff_not,Int.ofNat_lt] at hlt;have : i = l.length := by omega
   subst this;refine vm ?_;simp only[wq.1];show awp _ _ _ _ _ _ _;refine ag (vm ?_);simp only[wq.1,seval,t2];refine bu (b:=decide (0≤bad)) (by simp only[wq.1,↓reduceIte]) (by simp only[wq.1,↓reduceIte]) (fun hb=> ?_) (fun hb=> ?_)
   ·simp only [decide_eq_true_eq] at hb;have hy := step (l.length + l.length) h f.k _ 84 [.ip (.ip (kV m l)),.ip (vi bad)] (qc hb) hk hIk
     ⟨[.ip (.ip (kV m l)),.ip (vi bad)],fun _ _=>aj.dat rfl,rfl,rfl,rfl,
       fun _=>Vu m l _ _ _ bad hkl u1 (by omega) hcl' hb b1 hgo⟩
    obtain⟨t,n',ps,asg,body,pend,hL,hsz,hps,hw2⟩:=hy;refine vm ?_;simp only[wq.1,seval,t0,t1,t2,t4,hL];refine⟨⟨by simpa using hsz,hps⟩,uQ hw2 ?_⟩;rintro j h' p hp (⟨rfl,hI2⟩ | ⟨hj,hS⟩)
    ·refine⟨by simp[DR,hd],?_⟩;simp only[wq.1,hd,hp,hk,Option.isNone_none];refine .inl ?_;rw[ql,if_pos hb];exact hI2
    ·refine⟨by simp[DR,hd],?_⟩;simp only[wq.1,hd,hp,hk,hj];exact .inr ⟨j,hS⟩
   ·simp only[decide_eq_false_iff_not]at hb;refine vm ?_;simp only[wq.1,hd,hk];refine .inl ?_;rw[ql,if_neg hb];exact hIk
theorem PR {pc:Nat} {bad:Int} {h:H} {R:AEnd→H→(Nat→Bool)→Prop} (hr:R (.ret (.fn (.func 77) [] [.lp h.length 0,.lp (h.length+1) 0])) (h++[.cells [.lp pc 0],.cells [vi bad]]) (fun _=>false)):ah TE 48 [.lp pc 0,vi bad] h R:=by refine au Tryz.func48 rfl (by simp[nts]) (vm ?_);simp only[wq.1,seval,Tryz.results48];rw[List.append_assoc];exact hr
abbrev mC (m:Mo):List V:=[vi m.g.ins,aG m.g.next,aG m.g.init,prs m.g.ands,aG m.g.outs,dF m.ins,dF m.lat,dF m.out]
abbrev kC (m:Mo) (l:List (List Lt)):List V:=[vi m.g.ins,aG m.g.next,aG m.g.init,prs m.g.ands,aG m.g.outs,dF m.ins,dF m.lat,dF m.out,lss l,imV (qN m)]
abbrev hCk (m:Mo) (bud:Int) (v:List V) (e:Int):H:=[.cells (mC m),.cells [vi bud],.cells v,.cells [vi e],.dead,.dead,.dead,.dead]
theorem PS {qs:List Qn} {j:Nat} {q:Qn} (h:qs[j]? =some q):qs.drop j=q::qs.drop (j+1):=by obtain⟨hj,rfl⟩:=List.getElem?_eq_some_iff.1 h;exact List.drop_eq_getElem_cons hj
theorem Vy {m:Mo} {l:List (List Lt)} {bad:Int} (hm:m.chk=0) (hl:l.length≤1000000) (hcl:∀c∈l,c.length≤1000):∀q∈qns m l bad,QOk m q:=fun q hq=>by
 have hg:∀i,(l.getD i []).length≤1000:=fun i=>by
  by_cases h:i<l.length
  ·rw[List.getD_eq_getElem?_getD,List.getElem?_eq_getElem h];exact hcl _ (List.getElem_mem h)
  ·rw[List.getD_eq_getElem?_getD,List.getElem?_eq_none (by omega)];simp
 unfold qns at hq;rcases List.mem_append.1 hq with hq | hq
 ·obtain⟨i,_,rfl⟩:=List.mem_map.1 hq;exact WE hm (hg i)
 ·rcases List.mem_append.1 hq with hq | hq
  ·obtain⟨i,_,rfl⟩:=List.mem_map.1 hq;exact WF hl hcl (hg i)
  ·split at hq
   ·rw[List.mem_singleton.1 hq];exact WG hl hcl
   ·cases hq
theorem wK (m:Mo) (l:List (List Lt)) (bad bud:Int) (hs:m.g.Sm) (hlat:m.lat.length≤1000000) (hl:l.length≤1000000) (hcl:∀c∈l,c.length≤1000) (hb:Vt m bud) :
 EvR TE 20 [m.v,lss l,vi bad,vi bud] (fun r=>∃a,lY m l bad bud a∧r= .tup [a.1.v,vi a.2]):=by
 have hM:maxLen=9223372036854775807:=rfl;have hpl:=x8 m hs l hlat hl (fun c hc=>by have:=hcl c hc;omega);unfold Mo.v at hpl ⊢;have dp:V.dats [.agg (mC m),lss l]=true:=by simp only[V.dats,V.dat,(bV l).1,Bool.and_self]
 refine EvR.of_calls ?_;refine au Tryz.func20 rfl (by simp[nts]) ?_;refine ag (vm ?_);simp only[wq.1,seval,Tryz.results20];refine ag (vm ?_);simp only[wq.1,seval];refine ah.ev hpl dp ?_;simp only[wq.1,seval];refine ag (aI ?_);by_cases hz:(dG m l).2=0
 ·have ez : ((dG m l).2 != 0) = false := by simpa using hz
  refine ag (vm ?_);simp only[wq.1,seval,ez];obtain⟨hm,hkn,hp1⟩:m.chk=0∧kP m l=true∧(dG m l).1=imV (qN m):=by
   unfold dG at hz ⊢;by_cases h1:m.chk≠0
   ·rw[if_pos h1]at hz;exact absurd hz h1
   ·rw [if_neg h1] at hz ⊢;by_cases h2 : kP m l = true
    ·rw[if_pos h2];exact⟨by omega,h2,rfl⟩
    ·rw[if_neg h2]at hz;cases hz
  rw[hp1,hz];have hkl:∀c∈l,∀x∈c,fQ m x.1=true:=fun c hc x hx=>List.all_eq_true.1 (List.all_eq_true.1 hkn c hc) x hx;obtain⟨hg,hi,hle,ho⟩:=oK hm;by_cases hbd:bad< -1∨(m.out.length:Int)≤bad∨200<l.length
  ·have hC : lY m l bad bud (Ve.z,1) := by unfold lY;rw [if_neg (by rw [hz];decide),if_pos hbd]
   cases d1:decide (bad< -1)with
   | true=>refine vm ?_;simp only[wq.1,seval,d1];refine⟨_,⟨(Ve.z,1),hC,rfl⟩,?_⟩;exact az.tup (aj.cons (az.agg (aj.cons (az.dat rfl) (aj.cons (az.dat rfl) (aj.cons (az.dat rfl) (aj.cons az.nils aj.nil))))) (aj.cons (az.dat rfl) aj.nil))
   | false =>
    cases d2:decide ((m.out.length:Int)≤bad)with
    | true=>refine vm ?_;simp only[wq.1,seval,d1,d2];refine⟨_,⟨(Ve.z,1),hC,rfl⟩,?_⟩;exact az.tup (aj.cons (az.agg (aj.cons (az.dat rfl) (aj.cons (az.dat rfl) (aj.cons (az.dat rfl) (aj.cons az.nils aj.nil))))) (aj.cons (az.dat rfl) aj.nil))
    | false =>
     have d3:decide ((200:Int)<(l.length:Int))=true:=by simp only[decide_eq_false_iff_not]at d1 d2;rw[decide_eq_true_eq];omega
     refine vm ?_;simp only[wq.1,seval,d1,d2,d3];refine⟨_,⟨(Ve.z,1),hC,rfl⟩,?_⟩;exact az.tup (aj.cons (az.agg (aj.cons (az.dat rfl) (aj.cons (az.dat rfl) (aj.cons (az.dat rfl) (aj.cons az.nils aj.nil))))) (aj.cons (az.dat rfl) aj.nil))
  ·have d1 : decide (bad < -1) = false := by rw [decide_eq_false_iff_not];omega
   have d2:decide ((m.out.length:Int)≤bad)=false:=by rw[decide_eq_false_iff_not];omega
   have d3:decide ((200:Int)<(l.length:Int))=false:=by rw[decide_eq_false_iff_not];omega
   refine vm ?_;simp only[wq.1,seval,d1,d2,d3];show awp _ _ _ _ _ _ _;refine ag (vm ?_);simp only[wq.1,seval,imV];refine ag ?_;refine ag (vm ?_);simp only[wq.1,seval];refine PR ?_;simp only[wq.1,Nat.reduceAdd];have hkd:V.dats (kC m l)=true:=by simp only[kC,imV,V.dats,V.dat,(bV l).1,bK,jZ,Bool.and_self]
   refine pg (fun f => f.t 7 = .lp 1 0 ∧ f.t 8 = .lp 2 0 ∧ f.t 9 = .lp 3 0 ∧ f.t 12 = .lp 5 0 ∧ f.t 50 = .fn (.func 77) [] [.lp 6 0,.lp 7 0] ∧ f.d = []) [.cells (mC m),.cells [vi bud],.cells [vi 0,vi 0,vi 0,.nils],.cells [vi 0],.cells (kC m l),.cells [.lp 4 0],.cells [.lp 4 0],.cells [vi bad]]
    (fun hk=>hk _ ⟨by simp only[wq.1,seval],by simp only[wq.1,seval],by simp only[wq.1,seval],by simp only[wq.1,seval],by simp only[wq.1,↓reduceIte],by simp only[wq.1]⟩) ?_
   rintro f ⟨t7,t8,t9,t12,t50,hd⟩;have hkr:∀id:Nat,(qo (fun i=>decide (4≤i)) 0 ([.cells (mC m),.cells [vi bud],.cells [vi 0,vi 0,vi 0,.nils],.cells [vi 0],.cells (kC m l),.cells [.lp 4 0],.cells [.lp 4 0],.cells [vi bad]]:H))[id]? =some (.cells [.lp 4 0])→az TE (qo (fun i=>decide (4≤i)) 0 ([.cells (mC m),.cells [vi bud],.cells [vi 0,vi 0,vi 0,.nils],.cells [vi 0],.cells (kC m l),.cells [.lp 4 0],.cells [.lp 4 0],.cells [vi bad]]:H)) (.lp id 0) (.ip (.ip (kV m l))):=fun id hid=>by
    refine az.lp hid (aj.cons (v':= .ip (kV m l)) ?_ aj.nil) rfl rfl (by simp[V.vc]) rfl;exact az.lp (cs:=kC m l) (by show some (O.cells (V.drops _ (kC m l)))=_;rw[qA.dats_drops _ hkd]) (aj.dat hkd) rfl hkd (by simp[V.vc]) rfl
   refine EZ (fun i=>decide (4≤i)) (fun i=>if i=12 then .ip (.ip (kV m l))else if i=50 then .fn (.func 77) [] [.ip (.ip (kV m l)),.ip (vi bad)]else V.drop (fun i=>decide (4≤i)) (f.t i)) (fun i=> ?_) (by rw[hd];simp) ?_
   ·by_cases h12 : i = 12
    ·subst h12;right;rw[if_pos rfl,t12];exact⟨rfl,hkr 5 rfl⟩
    ·by_cases h50 : i = 50
     ·subst h50;right;rw[if_neg (by decide),if_pos rfl,t50];exact⟨rfl,az.fn aj.nil (aj.cons (hkr 6 rfl) (aj.cons (az.lp (id:=7) (cs:=[vi bad]) rfl (aj.dat rfl) rfl rfl (by simp[V.vc]) rfl) aj.nil))⟩
     ·left;rw[if_neg h12,if_neg h50]
   have e0 : jB (fun i => decide (4 ≤ i)) 0 ([.cells (mC m),.cells [vi bud],.cells [vi 0,vi 0,vi 0,.nils],.cells [vi 0],.cells (kC m l),.cells [.lp 4 0],.cells [.lp 4 0],.cells [vi bad]] : H) = hCk m bud [vi 0,vi 0,vi 0,.nils] 0 := rfl;rw [e0];refine pg (fun f => f.t 7 = .lp 1 0 ∧ f.t 8 = .lp 2 0 ∧ f.t 9 = .lp 3 0 ∧ f.t 12 = .ip (.ip (kV m l)) ∧ f.t 50 = .fn (.func 77) [] [.ip (.ip (kV m l)),.ip (vi bad)] ∧ f.d = []) _
    (fun hk=>hk _ ⟨by show V.drop _ (f.t 7)=_;rw[t7];rfl,by show V.drop _ (f.t 8)=_;rw[t8];rfl,by show V.drop _ (f.t 9)=_;rw[t9];rfl,rfl,rfl,hd⟩) ?_
   clear t7 t8 t9 t12 t50 hd e0 hkr f;rintro f ⟨t7,t8,t9,t12,t50,hd⟩;refine aI ?_;refine HY (n:=74) (q:=77) (first:=[]) (captured:=[.ip (.ip (kV m l)),.ip (vi bad)]) (by simp only[wq.1,t50]) (by simp only[wq.1,t50]) rfl (by decide) ?_;intro L hLd gets;have hnr:lY m l bad bud=MX m bud (qns m l bad):=by
    funext r
    unfold lY;rw[if_neg (by rw[hz];decide),if_neg hbd]
   have hrfin:∀a:Ve×Int,MX m bud (qns m l bad) a→lY m l bad bud a:=fun a h=>by rw[hnr];exact h
   refine ah.mono (Nz 9 10 _ m l bad hm hkl (by omega) hcl (by omega)
    (fun j h k=>(∀i,i<10→k i=false)∧∃t X,t 7= .lp 1 0∧t 8= .lp 2 0∧t 9= .lp 3 0∧t 12= .ip (.ip (kV m l))∧h=hCk m bud [vi 0,vi 0,vi 0,.nils] 0++[.misc .dfd,L t .ready none]++X∧∀r,MX m bud ((qns m l bad).drop j) r→MX m bud (qns m l bad) r)
    (fun j h k=>(∀i,i<10→k i=false)∧j=some .ret∧∃t X a,MX m bud (qns m l bad) a∧h=hCk m bud [vi a.1.res,vi a.1.part,vi a.1.clause,fV a.1.state] a.2++[.misc .dfd,L t .done (some .ret)]++X)
    ?_ ?_ ?_ ?_) ?_
   ·rintro j h k ⟨_,t,X,_,_,_,_,rfl,_⟩;simp
   ·rintro j h k o ⟨hk,t,X,a1,a2,a3,a4,rfl,a5⟩;exact⟨hk,t,X++[o],a1,a2,a3,a4,by rw[List.append_assoc],a5⟩
   ·exact⟨fun _ _=>rfl,f.t,[],t7,t8,t9,t12,rfl,fun r h=>h⟩
   ·rintro j h' k q fid caps hq hk ⟨hk10,t,X,t7,t8,t9,t12,eh,hrun⟩ ⟨caps',hcr,hcd,hcdat,hent,hmore⟩;have g9 : h'[9]? = some (L t .ready none) := by rw [eh];rfl
    have hlen:10≤h'.length:=by rw[eh];simp
    refine gets _ _ _ t g9 rfl (fun lb=> ?_);have hlo:∀o:O,(h'++[o])[h'.length]? =some o:=fun o=>jD;have hso:∀o o':O,(h'++[o]).set h'.length o'=h'++[o']:=fun o o'=>qy;refine vm ?_;simp only[wq.1,seval,Qs,hlo,hso];refine⟨t,by rw[List.getElem?_append_left (by omega)];exact g9,?_⟩;have hqok:=Vy (bad:=bad) hm (by omega) hcl q (List.mem_of_getElem? hq);have hdr:=PS hq;obtain⟨n0,hn0⟩:∃n0,n0=h'.length:=⟨_,rfl⟩;rw[←hn0];obtain⟨H1,eH1⟩:∃H1,H1=(h'++[O.cells [vi q.part,vi q.clause,aG q.beg,vi q.steps,.fn (.func fid) [] caps]]).set 9 (L t .busy none):=⟨_,rfl⟩;rw[←eH1];have x1:H1=hCk m bud [vi 0,vi 0,vi 0,.nils] 0++[.misc .dfd,L t .busy none]++(X++[.cells [vi q.part,vi q.clause,aG q.beg,vi q.steps,.fn (.func fid) [] caps]]):=by rw[eH1,eh];rfl
    have y1:H1[1]? =some (.cells [vi bud]):=by rw[x1];rfl
    have yq:H1[n0]? =some (.cells [vi q.part,vi q.clause,aG q.beg,vi q.steps,.fn (.func fid) [] caps]):=by rw[eH1,hn0,List.getElem?_set_ne (by omega),jD]
    refine aI ?_;refine ag (vm ?_);simp only[wq.1,seval,t7,t12,y1,yq];refine AX (fun i=>decide (10≤i)) (Vx m l q bud fid caps' hm hs hqok hb hent hcdat hmore) (by simp only[V.drops,V.drop,hcd]) ?_ ?_
    ·refine aj.cons (az.dat hkd) (aj.cons (az.agg (aj.cons (az.dat rfl) (aj.cons (az.dat rfl) (aj.cons (az.dat rfl) (aj.cons (az.dat rfl) (aj.cons (az.fn aj.nil (hcr H1 (fun i o hi ho=> ?_))) aj.nil)))))) (aj.cons (az.dat rfl) aj.nil));rw[eH1,List.getElem?_set_ne (by omega),List.getElem?_append_left (List.getElem?_eq_some_iff.1 ho).1];exact ho
    ·rintro r ⟨a,ha,rfl⟩;obtain⟨t',et'⟩:∃t':Nat→V,t'=fun i=>(t i).drop (fun i=>decide (10≤i)):=⟨_,rfl⟩;obtain⟨Y,eY⟩:∃Y,Y=jB (fun i=>decide (10≤i)) 10 (X++[O.cells [vi q.part,vi q.clause,aG q.beg,vi q.steps,.fn (.func fid) [] caps]]):=⟨_,rfl⟩;obtain⟨H2,eH2⟩:∃H2,H2=jB (fun i=>decide (10≤i)) 0 H1:=⟨_,rfl⟩;rw[←eH2];have x2:H2=hCk m bud [vi 0,vi 0,vi 0,.nils] 0++[.misc .dfd,L t' .busy none]++Y:=by
      rw[eH2,x1,eY,et',←hLd];rfl
     have z2:H2[2]? =some (.cells [vi 0,vi 0,vi 0,.nils]):=by rw[x2];rfl
     have z3:H2[3]? =some (.cells [vi 0]):=by rw[x2];rfl
     have hl2:10≤H2.length:=by rw[x2];simp
     have hlo2:∀o:O,(H2++[o])[H2.length]? =some o:=fun o=>jD;have hso2:∀o o':O,(H2++[o]).set H2.length o'=H2++[o']:=fun o o'=>qy;have u7:t' 7= .lp 1 0:=by rw[et'];show V.drop _ (t 7)=_;rw[t7];rfl
     have u8:t' 8= .lp 2 0:=by rw[et'];show V.drop _ (t 8)=_;rw[t8];rfl
     have u9:t' 9= .lp 3 0:=by rw[et'];show V.drop _ (t 9)=_;rw[t9];rfl
     have u12:t' 12= .ip (.ip (kV m l)):=by rw[et'];show V.drop _ (t 12)=_;rw[t12];rfl
     simp only[wq.1,seval,aZ,hlo2,hso2];have hk':∀i,i<10→(k i||decide (10≤i))=false:=fun i hi=>by rw[hk10 i hi,Bool.false_or,decide_eq_false_iff_not];omega
     have yA2:∀o:O,(H2++[o])[2]? =some (.cells [vi 0,vi 0,vi 0,.nils]):=fun o=>by rw[List.getElem?_append_left (by omega)];exact z2
     cases d1:(a.2 != 0)with
     | true=>refine ag (vm ?_);simp only[wq.1,seval,d1,hlo2];refine vm ?_;simp only[wq.1,seval,t8,t9,hlo2,yA2,xG,XE.jump];rw[x2];show 1≤([vi 0]:List V).length∧∃t st,_=some (L t st none)∧_;exact⟨by decide,t',.busy,rfl,.inr ⟨rfl,hk',t',Y++[.cells [vi a.1.res,vi a.1.part,vi a.1.clause,fV a.1.state]],a,hrun a (by rw[hdr];exact⟨a,ha,.inl ⟨.inl (by simpa using d1),rfl⟩⟩),rfl⟩⟩
     | false =>
      cases d2:(a.1.res==1)with
      | true=>refine ag (vm ?_);simp only[wq.1,seval,d1,d2,hlo2];refine vm ?_;simp only[wq.1,seval,t8,t9,hlo2,yA2,xG,XE.jump];rw[x2];show 1≤([vi 0]:List V).length∧∃t st,_=some (L t st none)∧_;exact⟨by decide,t',.busy,rfl,.inr ⟨rfl,hk',t',Y++[.cells [vi a.1.res,vi a.1.part,vi a.1.clause,fV a.1.state]],a,hrun a (by rw[hdr];exact⟨a,ha,.inl ⟨.inr (.inl (by simpa using d2)),rfl⟩⟩),rfl⟩⟩
      | false =>
       cases d3:(a.1.res==2)with
       | true=>refine ag (vm ?_);simp only[wq.1,seval,d1,d2,d3,hlo2];refine vm ?_;simp only[wq.1,seval,t8,t9,hlo2,yA2,xG,XE.jump];rw[x2];show 1≤([vi 0]:List V).length∧∃t st,_=some (L t st none)∧_;exact⟨by decide,t',.busy,rfl,.inr ⟨rfl,hk',t',Y++[.cells [vi a.1.res,vi a.1.part,vi a.1.clause,fV a.1.state]],a,hrun a (by rw[hdr];exact⟨a,ha,.inl ⟨.inr (.inr (by simpa using d3)),rfl⟩⟩),rfl⟩⟩
       | false =>
        have hns:¬PG a:=by
         rintro(h | h | h)
         ·rw[bne_iff_ne.2 h]at d1;cases d1
         ·rw[h]at d2;cases d2
         ·rw[h]at d3;cases d3
        refine ag (vm ?_);simp only[wq.1,seval,d1,d2,d3,hlo2];refine vm ?_;simp only[wq.1,seval,xG,XE.jump];rw[x2];exact⟨t',.busy,rfl,.inl ⟨hk',t',Y++[.cells [vi a.1.res,vi a.1.part,vi a.1.clause,fV a.1.state]],u7,u8,u9,u12,rfl,fun r hr=>hrun r (by rw[hdr];exact⟨a,ha,.inr ⟨hns,hr⟩⟩)⟩⟩
   ·rintro ae h' p ⟨hp,hr⟩;have e8 : ∀ i ∈ ({ f with d := (hCk m bud [vi 0,vi 0,vi 0,.nils] 0).length :: f.d } : Fr).d,i = 8 := fun i hi => by simpa [hd] using hi
    cases ae with
    | pan v=>exact hr.elim
    | ret v =>
     rcases hr with⟨hk10,t,X,_,_,_,_,rfl,hrun⟩ | ⟨j,hk10,rfl,t,X,a,hrun,rfl⟩
     ·refine⟨fun i hi=>by rw[e8 i hi];exact hk10 8 (by omega),hp,t,.ready,none,(by decide),rfl,?_⟩;have k2:=hk10 2 (by omega);have k3:=hk10 3 (by omega);have k8:=hk10 8 (by omega);have hend:=hrfin (Ve.z,0) (hrun (Ve.z,0) (by rw[List.drop_of_length_le (Nat.le_refl _)];rfl));simp only[wq.1,Nat.reduceAdd,hd,Oj];refine vm ?_;simp only[wq.1,seval,t8,t9,k2,k3];refine⟨_,⟨_,hend,rfl⟩,?_⟩;exact az.tup (aj.cons (az.agg (aj.cons (az.dat rfl) (aj.cons (az.dat rfl) (aj.cons (az.dat rfl) (aj.cons az.nils aj.nil))))) (aj.cons (az.dat rfl) aj.nil))
     ·refine⟨fun i hi=>by rw[e8 i hi];exact hk10 8 (by omega),hp,t,.done,some .ret,(by decide),rfl,?_⟩;have k2:=hk10 2 (by omega);have k3:=hk10 3 (by omega);have k8:=hk10 8 (by omega);have hend:=hrfin a hrun;simp only[wq.1,seval,t8,t9,hd,Oj,k2,k3];exact⟨_,⟨a,hend,rfl⟩,az.dat rfl⟩
 ·have ez : ((dG m l).2 != 0) = true := by simpa using hz
  refine ag (vm ?_);simp only[wq.1,seval,ez];refine vm ?_;simp only[wq.1,seval];refine⟨_,⟨(Ve.z,(dG m l).2),by unfold lY;rw[if_pos hz],rfl⟩,?_⟩;exact az.tup (aj.cons (az.agg (aj.cons (az.dat rfl) (aj.cons (az.dat rfl) (aj.cons (az.dat rfl) (aj.cons az.nils aj.nil))))) (aj.cons (az.dat rfl) aj.nil))
open Go.RowKit
theorem IZ {P:Program} {w:World} {e:TypeId} (he:P.underlying e=some .string) (n:Nat) (a b:ByteArray):(Op.equalIn (n+1) e (.string a) (.string b)).run P w= .ok (a==b) w:=by rw[Op.equalIn];simp[run_underlying he,Result.andThen]
theorem EJ {P:Program} {w:World} {e:TypeId} (he:P.underlying e=some .bool) (n:Nat) (a b:Bool):(Op.equalIn (n+1) e (.bool a) (.bool b)).run P w= .ok (a==b) w:=by rw[Op.equalIn];simp[run_underlying he,Result.andThen]
theorem QN:Jy P 68:=by
 refine⟨by kernel_rfl,fun w a b p q=> ?_⟩;have p0:∀(x y:Value),(part 9 #[x,y] 0).run P w= .ok x w:=fun x y=>run_part_plain w (by simp[Program.plainKey,Tryz.underlying9]) (by simp);have p1:∀(x y:Value),(part 4 #[x,y] 1).run P w= .ok y w:=fun x y=>run_part_plain w (by simp[Program.plainKey,Tryz.underlying4]) (by simp);have hso:P.stoodInHeld 68=false:=by kernel_rfl
 show(Op.equalIn 10000 68 (.agg #[.string a,.bool p]) (.agg #[.string b,.bool q])).run P w= .ok (a==b&&p==q) w;rw[Op.equalIn];have e1:=IZ (P:=P) (w:=w) Tryz.underlying9 9998;have e2:=EJ (P:=P) (w:=w) Tryz.underlying4 9998;simp only[Sem.run_bind,run_underlying Tryz.underlying68,Result.andThen];cases h1:(a==b)<;>cases h2:(p==q)<;>simp[hso,p0,p1,e1,e2,Sem.run_bind,Result.andThen,h1,h2]
theorem GH {α:Type} [BEq α] [LawfulBEq α] {c d:List α} (hl:c.length=d.length) {i:Nat} (hi:i<c.length) (hne:c[i]≠d[i]):(c==d)=false:=by rw[beq_eq_false_iff_ne];rintro rfl;exact hne rfl
theorem TA (c d:List Lt):Ev TE 47 [iI c,iI d] (.bool (c==d)):=by
 have hM:maxLen=9223372036854775807:=rfl;refine Ev.bnd fun hb=> ?_;have hlen:=Gt hb;refine ak Tryz.func47 rfl (by simp[nts]) (vm ?_);by_cases hl:c.length=d.length
 ·have e1 : (((c.length : Int) != (d.length : Int))) = false := by simp [hl]
  simp only[wq.1,seval,Tryz.results47,e1];refine aA (fun m f h=>∃i,m+i=c.length∧f.t 0=iI c∧f.t 1=iI d∧f.t 12=vi c.length∧f.t 13=vi i∧f.d=[]∧c.take i=d.take i) c.length ⟨0,by simp,rfl,rfl,rfl,rfl,rfl,rfl⟩ ?_;rintro m f h ⟨i,hm,h0,h1,h12,h13,hdd,hall⟩;refine vm ?_;simp only[wq.1,seval,h12,h13];refine vcB.mk (fun hc=> ?_) (fun hc=> ?_)
  ·simp only [decide_eq_true_eq,Int.ofNat_lt] at hc;have hc2 : i < d.length := by omega
   have ha:=zK hc .any;have hb:=zK hc2 .any;simp only[wq.1,seval,h0,h1,h13,ha,hb,uF,Jz];have hbe:(c[i].1==d[i].1&&c[i].2==d[i].2)=(c[i]==d[i]):=rfl;rw[hbe];refine⟨by decide +kernel,⟨by omega,by omega⟩,⟨by omega,by omega⟩,QN,vcB.mk (fun hb=> ?_) (fun hb=> ?_)⟩
   ·have hne : c[i] ≠ d[i] := by simpa using hb
    rw[GH hl hc hne];simp only[wq.1,seval,hdd];exact az.dat rfl
   ·have he : c[i] = d[i] := by simpa using hb
    simp only[wq.1,seval,h13,aC (show i<maxLen by omega)];exact .inl ⟨m-1,by omega,i+1,by omega,h0,h1,h12,rfl,hdd,by rw[List.take_add_one,List.take_add_one,hall,List.getElem?_eq_getElem hc,List.getElem?_eq_getElem hc2,he]⟩
  ·simp only[decide_eq_false_iff_not,Int.ofNat_lt]at hc;rw[List.take_of_length_le (by omega),List.take_of_length_le (by omega)]at hall;simp only[wq.1,seval,hdd];exact aQ rfl (by rw[hall];simp)
 ·have e1 : (((c.length : Int) != (d.length : Int))) = true := by simpa using fun h : (c.length : Int) = d.length => hl (by omega)
  have e2:(c==d)=false:=by rw[beq_eq_false_iff_ne];rintro rfl;exact hl rfl
  simp only[wq.1,seval,Tryz.results47,e1,e2];exact az.dat rfl
theorem Vz (l o:List (List Lt)):Ev TE 46 [lss l,lss o,.fn (.func 47) [] []] (.bool (l==o)):=by
 have hM:maxLen=9223372036854775807:=rfl;refine Ev.bnd fun hb=> ?_;have hlen:=MP hb;refine ak Tryz.func46 rfl (by simp[nts]) (vm ?_);by_cases hl:l.length=o.length
 ·have e1 : (((l.length : Int) != (o.length : Int))) = false := by simp [hl]
  simp only[wq.1,seval,Tryz.results46,e1];refine aA (fun m f h=>∃i,m+i=l.length∧f.t 0=lss l∧f.t 1=lss o∧f.t 2= .fn (.func 47) [] []∧f.t 15=lss l∧f.t 16=vi l.length∧f.t 17=vi i∧f.d=[]∧l.take i=o.take i) l.length ⟨0,by simp,rfl,rfl,rfl,rfl,rfl,rfl,rfl,rfl⟩ ?_;rintro m f h ⟨i,hm,h0,h1,h2,h15,h16,h17,hdd,hall⟩;refine vm ?_;simp only[wq.1,seval,h16,h17];refine vcB.mk (fun hc=> ?_) (fun hc=> ?_)
  ·simp only [decide_eq_true_eq,Int.ofNat_lt] at hc;have hc2 : i < o.length := by omega
   have ha:=xq hc .any;have hb:=xq hc2 .any;have hev:=TA l[i] o[i];simp only[wq.1,seval,h1,h2,h15,h17,ha,hb];refine⟨⟨by omega,by omega⟩,⟨by omega,by omega⟩,ah.ev hev (by simp only[V.dats,V.dat,fB,Bool.and_self]) ?_⟩;simp only[wq.1,seval];refine vcB.mk (fun hb=> ?_) (fun hb=> ?_)
   ·have hne : l[i] ≠ o[i] := by simpa using hb
    rw[GH hl hc hne];simp only[wq.1,seval,hdd];exact az.dat rfl
   ·have he : l[i] = o[i] := by simpa using hb
    simp only[wq.1,seval,h17,aC (show i<maxLen by omega)];exact .inl ⟨m-1,by omega,i+1,by omega,h0,h1,h2,h15,h16,rfl,hdd,by rw[List.take_add_one,List.take_add_one,hall,List.getElem?_eq_getElem hc,List.getElem?_eq_getElem hc2,he]⟩
  ·simp only[decide_eq_false_iff_not,Int.ofNat_lt]at hc;rw[List.take_of_length_le (by omega),List.take_of_length_le (by omega)]at hall;simp only[wq.1,seval,hdd];exact aQ rfl (by rw[hall];simp)
 ·have e1 : (((l.length : Int) != (o.length : Int))) = true := by simpa using fun h : (l.length : Int) = o.length => hl (by omega)
  have e2:(l==o)=false:=by rw[beq_eq_false_iff_ne];rintro rfl;exact hl rfl
  simp only[wq.1,seval,Tryz.results46,e1,e2];exact az.dat rfl
theorem zW (l o:List (List Lt)):Ev TE 17 [lss l,lss o] (.bool (l==o)):=by refine ak Tryz.func17 rfl (by simp[nts]) (vm ?_);simp only[wq.1,seval,Tryz.results17];refine ah.ev (Vz l o) (by simp only[V.dats,V.dat,(bV l).1,(bV o).1,Bool.and_self]) ?_;simp only[wq.1,seval];exact az.dat rfl
open Go.Shelf
open Go.Lib
open Go.Sort
def TB:Go.Shelf.Ren:=⟨fun | 217=>161 | 266=>177 | n=>n,fun | 9=>9 | 5=>5 | 3=>3 | n=>n,fun | n=>n⟩
theorem We : Go.Proofs.Lays.n217 Tryz.prog TB where
 mixed:=by kernel_rfl
 f217:=Tryz.func161.trans (congrArg some (by kernel_rfl))
 f266:=Tryz.func177.trans (congrArg some (by kernel_rfl))
 t3:=Tryz.underlying3
 a3:=Tryz.isAgg3
 z3:=Tryz.sizeOf3
 v3:=Tryz.zeroValue3
 t5:=Tryz.underlying5
 a5:=Tryz.isAgg5
 z5:=Tryz.sizeOf5
 v5:=Tryz.zeroValue5
 t9:=Tryz.underlying9
 a9:=Tryz.isAgg9
 z9:=Tryz.sizeOf9
 v9:=Tryz.zeroValue9
def PT:Go.Shelf.Ren:=⟨fun | 138=>109 | 195=>136 | 218=>138 | 143=>110 | 219=>139 | 217=>161 | 225=>162 | 224=>163 | 267=>164 | 266=>177 | 314=>178 | n=>n,fun | 9=>9 | 3=>3 | 4=>4 | 5=>5 | 0=>0 | 46=>161 | 146=>219 | 51=>218 | n=>n,fun | 1=>1 | n=>n⟩
theorem VA : Go.Proofs.Lays.n138 Tryz.prog PT where
 mixed:=by kernel_rfl
 f138:=Tryz.func109.trans (congrArg some (by kernel_rfl))
 f143:=Tryz.func110.trans (congrArg some (by kernel_rfl))
 f195:=Tryz.func136.trans (congrArg some (by kernel_rfl))
 f217:=Tryz.func161.trans (congrArg some (by kernel_rfl))
 f218:=Tryz.func138.trans (congrArg some (by kernel_rfl))
 f219:=Tryz.func139.trans (congrArg some (by kernel_rfl))
 f224:=Tryz.func163.trans (congrArg some (by kernel_rfl))
 f225:=Tryz.func162.trans (congrArg some (by kernel_rfl))
 f266:=Tryz.func177.trans (congrArg some (by kernel_rfl))
 f267:=Tryz.func164.trans (congrArg some (by kernel_rfl))
 f314:=Tryz.func178.trans (congrArg some (by kernel_rfl))
 t0:=Tryz.underlying0
 a0:=Tryz.isAgg0
 z0:=Tryz.sizeOf0
 v0:=Tryz.zeroValue0
 t3:=Tryz.underlying3
 a3:=Tryz.isAgg3
 z3:=Tryz.sizeOf3
 v3:=Tryz.zeroValue3
 t4:=Tryz.underlying4
 a4:=Tryz.isAgg4
 z4:=Tryz.sizeOf4
 v4:=Tryz.zeroValue4
 t5:=Tryz.underlying5
 a5:=Tryz.isAgg5
 z5:=Tryz.sizeOf5
 v5:=Tryz.zeroValue5
 t9:=Tryz.underlying9
 a9:=Tryz.isAgg9
 z9:=Tryz.sizeOf9
 v9:=Tryz.zeroValue9
 t46:=Tryz.underlying161
 a46:=Tryz.isAgg161
 z46:=Tryz.sizeOf161
 v46:=Tryz.zeroValue161
 t51:=Tryz.underlying218
 a51:=Tryz.isAgg218
 z51:=Tryz.sizeOf218
 v51:=Tryz.zeroValue218
 t146:=Tryz.underlying219
 a146:=Tryz.isAgg219
 z146:=Tryz.sizeOf219
 v146:=Tryz.zeroValue219
 g1:=by kernel_rfl
def C9:Go.Shelf.Ren:=⟨fun | 148=>135 | 222=>158 | 223=>159 | 269=>176 | n=>n,fun | 9=>9 | 3=>3 | 4=>4 | 5=>5 | 146=>219 | 51=>218 | 46=>161 | n=>n,fun | n=>n⟩
theorem I4 : Go.Proofs.Lays.n148 Tryz.prog C9 where
 mixed:=by kernel_rfl
 f148:=Tryz.func135.trans (congrArg some (by kernel_rfl))
 f222:=Tryz.func158.trans (congrArg some (by kernel_rfl))
 f223:=Tryz.func159.trans (congrArg some (by kernel_rfl))
 f269:=Tryz.func176.trans (congrArg some (by kernel_rfl))
 t3:=Tryz.underlying3
 a3:=Tryz.isAgg3
 z3:=Tryz.sizeOf3
 v3:=Tryz.zeroValue3
 t4:=Tryz.underlying4
 a4:=Tryz.isAgg4
 z4:=Tryz.sizeOf4
 v4:=Tryz.zeroValue4
 t5:=Tryz.underlying5
 a5:=Tryz.isAgg5
 z5:=Tryz.sizeOf5
 v5:=Tryz.zeroValue5
 t9:=Tryz.underlying9
 a9:=Tryz.isAgg9
 z9:=Tryz.sizeOf9
 v9:=Tryz.zeroValue9
 t46:=Tryz.underlying161
 a46:=Tryz.isAgg161
 z46:=Tryz.sizeOf161
 v46:=Tryz.zeroValue161
 t51:=Tryz.underlying218
 a51:=Tryz.isAgg218
 z51:=Tryz.sizeOf218
 v51:=Tryz.zeroValue218
 t146:=Tryz.underlying219
 a146:=Tryz.isAgg219
 z146:=Tryz.sizeOf219
 v146:=Tryz.zeroValue219
def NC:Go.Shelf.Ren:=⟨fun | 156=>40 | 165=>71 | 166=>39 | 169=>41 | 240=>70 | 241=>106 | 276=>105 | 277=>134 | n=>n,fun | 31=>26 | 9=>9 | 3=>3 | 4=>4 | 0=>0 | 20=>20 | 72=>94 | 76=>99 | 70=>91 | 37=>92 | 75=>98 | 127=>138 | 164=>170 | 5=>5 | 80=>96 | n=>n,fun | n=>n⟩
theorem VB : Go.Proofs.Lays.n156 Tryz.prog NC where
 mixed:=by kernel_rfl
 f156:=Tryz.func40.trans (congrArg some (by kernel_rfl))
 f165:=Tryz.func71.trans (congrArg some (by kernel_rfl))
 f166:=Tryz.func39.trans (congrArg some (by kernel_rfl))
 f169:=Tryz.func41.trans (congrArg some (by kernel_rfl))
 f240:=Tryz.func70.trans (congrArg some (by kernel_rfl))
 f241:=Tryz.func106.trans (congrArg some (by kernel_rfl))
 f276:=Tryz.func105.trans (congrArg some (by kernel_rfl))
 f277:=Tryz.func134.trans (congrArg some (by kernel_rfl))
 t0:=Tryz.underlying0
 a0:=Tryz.isAgg0
 z0:=Tryz.sizeOf0
 v0:=Tryz.zeroValue0
 t3:=Tryz.underlying3
 a3:=Tryz.isAgg3
 z3:=Tryz.sizeOf3
 v3:=Tryz.zeroValue3
 t4:=Tryz.underlying4
 a4:=Tryz.isAgg4
 z4:=Tryz.sizeOf4
 v4:=Tryz.zeroValue4
 t9:=Tryz.underlying9
 a9:=Tryz.isAgg9
 z9:=Tryz.sizeOf9
 v9:=Tryz.zeroValue9
 t20:=Tryz.underlying20
 a20:=Tryz.isAgg20
 z20:=Tryz.sizeOf20
 v20:=Tryz.zeroValue20
 t31:=Tryz.underlying26
 a31:=Tryz.isAgg26
 z31:=Tryz.sizeOf26
 v31:=Tryz.zeroValue26
 t37:=Tryz.underlying92
 a37:=Tryz.isAgg92
 z37:=Tryz.sizeOf92
 v37:=Tryz.zeroValue92
 t70:=Tryz.underlying91
 a70:=Tryz.isAgg91
 z70:=Tryz.sizeOf91
 v70:=Tryz.zeroValue91
 t72:=Tryz.underlying94
 a72:=Tryz.isAgg94
 z72:=Tryz.sizeOf94
 v72:=Tryz.zeroValue94
 t75:=Tryz.underlying98
 a75:=Tryz.isAgg98
 z75:=Tryz.sizeOf98
 v75:=Tryz.zeroValue98
 t76:=Tryz.underlying99
 a76:=Tryz.isAgg99
 z76:=Tryz.sizeOf99
 v76:=Tryz.zeroValue99
 t127:=Tryz.underlying138
 a127:=Tryz.isAgg138
 z127:=Tryz.sizeOf138
 v127:=Tryz.zeroValue138
 t164:=Tryz.underlying170
 a164:=Tryz.isAgg170
 z164:=Tryz.sizeOf170
 v164:=Tryz.zeroValue170
theorem yg {c:C} {l:S} {x:Value} (h:VRel c (.str l) x):x= .string ⟨l.toArray⟩:=by
 simp only[VRel]at h;obtain⟨s,rfl,h,_⟩:=h
 congr 1
 rw[←h]
theorem Dc (s:S) (c:UInt8):Ev TE 109 [.str s,.str [c]] (vi (s.count c:Nat)):=by intro ok w vs hs hl;simp only[VList]at hl;obtain⟨y,ys,rfl,h1,y2,ys2,rfl,h2,rfl⟩:=hl;have:=yg h1;subst this;have:=yg h2;subst this;refine Calls.mono (Any.strings_Count_one VA ⟨s.toArray⟩ c w) ?_;rintro en w' ⟨rfl,rfl⟩;exact⟨_,rfl,WExt.refl _,by simp only[VRel];rfl⟩
theorem PU (s:S) (c:UInt8) (hs0:s.length≤1000000000):Ev TE 135 [.str s,.str [c]] (vi (Lib.lastIndexByte ⟨s.toArray⟩ c.toNat)):=by intro ok w vs hs hl;simp only[VList]at hl;obtain⟨y,ys,rfl,h1,y2,ys2,rfl,h2,rfl⟩:=hl;have:=yg h1;subst this;have:=yg h2;subst this;refine Calls.mono (Any.strings_LastIndex_one I4 ⟨s.toArray⟩ ⟨#[c]⟩ rfl (by show s.toArray.size<_;simp;omega) w) ?_;rintro en w' ⟨rfl,rfl⟩;exact⟨_,rfl,WExt.refl _,by simp only[VRel];rfl⟩
theorem GK {c : C} : ∀ {l : List S} {xs : List Value},VList c (l.map V.str) xs → xs = l.map encStr
 | [],xs,h=>by simpa only[List.map_nil,VList]using h
 | a::l,xs,h=>by simp only[List.map_cons,VList]at h;obtain⟨y,ys,rfl,h1,h2⟩:=h;rw[GK h2,yg h1];rfl
end Go.Proofs.YtmlacppmbfbjgaaGreatDoor
