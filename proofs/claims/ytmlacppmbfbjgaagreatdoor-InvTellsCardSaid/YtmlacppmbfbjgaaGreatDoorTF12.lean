/- Lemmas for this claim, part F12: each holds under what it names. -/
import Derived.Test.YtmlacppmbfbjgaaGreatDoorTF11
import Derived.Lib.Join
import Derived.Test.YtmlacppmbfbjgaaGreatDoorTA10
import Derived.Test.YtmlacppmbfbjgaaGreatDoorTA9
set_option linter.unusedVariables false
set_option linter.unusedSimpArgs false
set_option linter.unnecessarySimpa false
set_option maxRecDepth 20000
set_option maxHeartbeats 4000000
namespace Go.Proofs.YtmlacppmbfbjgaaGreatDoor
open Go Go.Proofs Go.Abs
def m0:Mo:=⟨⟨0,[2],[0],[],[2]⟩,[],[[113]],[[122]]⟩
def AY:List (List Lt):=[[([113],true)]]
theorem Dx {m:Mo} {bud:Int} {q:Qn} {r:Ve×Int} (h:VG m bud q r) (hc:Aj m.g q.beg q.steps=0) (hk:chk (q.cl m) (q.n m)=0) (hn:q.n m≤2) (hb:9<bud) :
 ∃res vals ln,pV (q.cl m) (q.n m) (max bud 0) res vals ln∧r=(⟨res,q.part,q.clause,if res=1 then stK m q vals else []⟩,0)∧((res=0∧vals=[])∨(res=1∧vals.length=q.n m∧sat (q.cl m) vals=true)):=by
 rcases h with⟨h,_⟩ | ⟨_,⟨h,_⟩ | ⟨_,res,vals,ln,ok,rfl⟩⟩
 ·exact absurd hc h
 ·exact absurd hk h
 ·refine ⟨res,vals,ln,ok,rfl,?_⟩;obtain ⟨h1,h2,h3,h4,h5⟩ := ok;have h9 : (3 : Nat) ^ (q.n m) ≤ 3 ^ 2 := Nat.pow_le_pow_right (by decide) hn;rcases h5 with h | h | h
  ·exact .inl ⟨h.1,h.2.1⟩
  ·exact .inr h
  ·have:=h.2.2;omega
theorem NC {m:Mo} {bud:Int} {q:Qn} {r:Ve×Int} (h:VG m bud q r) (hc:Aj m.g q.beg q.steps=0) (hk:chk (q.cl m) (q.n m)=0) (hn:q.n m≤2) (hb:9<bud) (hu:∀vs,sat (q.cl m) vs=false):¬PY r:=by
 obtain⟨res,vals,ln,ok,rfl,h | h⟩:=Dx h hc hk hn hb
 ·rintro (h2 | h2 | h2)
  ·exact h2 rfl
  ·have h2:res=1:=h2;omega
  ·have h2:res=2:=h2;omega
 ·rw[hu]at h;cases h.2.2
theorem Au {m:Mo} {bud:Int} {q:Qn} {qs:List Qn} {r:Ve×Int} (h:Nu m bud (q::qs) r) (hc:Aj m.g q.beg q.steps=0) (hk:chk (q.cl m) (q.n m)=0) (hn:q.n m≤2) (hb:9<bud) (hu:∀vs,sat (q.cl m) vs=false):Nu m bud qs r:=by
 obtain⟨a,ha,⟨hs,_⟩ | ⟨_,hr⟩⟩:=h
 ·exact absurd hs (NC ha hc hk hn hb hu)
 ·exact hr
theorem VH:(qn0 m0 0 [([113],true)]).cl m0=[[1],[-1]]:=by decide +kernel
theorem VI:(qn1 m0 AY 0 [([113],true)]).cl m0=[[1],[-2],[2]]:=by decide +kernel
theorem VJ:(qn2 m0 AY 0).cl m0=[[1],[-2],[2]]:=by decide +kernel
theorem VK:(qn2 m0 [] 0).cl m0=[[1],[2]]:=by decide +kernel
theorem VL:qns m0 AY 0=[qn0 m0 0 [([113],true)],qn1 m0 AY 0 [([113],true)],qn2 m0 AY 0]:=rfl
theorem VM:qns m0 [] 0=[qn2 m0 [] 0]:=rfl
theorem Xc (vs:List Bool):sat [[1],[-1]] vs=false:=by have h1:hol vs (-1)= !hol vs 1:=pM (by decide);simp only[sat,List.all_cons,List.all_nil,List.any_cons,List.any_nil,h1];cases hol vs 1<;>rfl
theorem WT (vs:List Bool):sat [[1],[-2],[2]] vs=false:=by have h1:hol vs (-2)= !hol vs 2:=pM (by decide);simp only[sat,List.all_cons,List.all_nil,List.any_cons,List.any_nil,h1];cases hol vs 1<;>cases hol vs 2<;>rfl
theorem TJ {r:Ve×Int} (h:Nu m0 1099511627776 (qns m0 AY 0) r):r=(Ve.z,0):=by rw[VL]at h;have h:=Au h (by decide +kernel) (by decide +kernel) (by decide +kernel) (by decide) (fun vs=>by rw[VH];exact Xc vs);have h:=Au h (by decide +kernel) (by decide +kernel) (by decide +kernel) (by decide) (fun vs=>by rw[VI];exact WT vs);exact Au h (by decide +kernel) (by decide +kernel) (by decide +kernel) (by decide) (fun vs=>by rw[VJ];exact WT vs)
theorem TK {r:Ve×Int} (h:Nu m0 1099511627776 (qns m0 [] 0) r):r=(⟨1,2,0,[true]⟩,0):=by
 rw[VM]at h;obtain⟨a,ha,hs⟩:=h;have hq:=VK;have hn:(qn2 m0 [] 0).n m0=2:=by decide +kernel
 obtain⟨res,vals,ln,ok,rfl,h | h⟩:=Dx ha (by decide +kernel) (by decide +kernel) (by rw[hn];decide) (by decide)
 ·have:=TG ok h.1 (by rw[hq];intro c hc b hb;simp only[zrj,zrp,or_false]at hc;rcases hc with rfl | rfl<;>(simp only[zrj,zrp,or_false]at hb;subst hb;omega)) (by rw[hn];decide) [true,true];rw[hq]at this;exact absurd this (by decide)
 ·obtain⟨h1,h2,h3⟩:=h;subst h1;rw[hn]at h2;rw[hq]at h3;have hst:stK m0 (qn2 m0 [] 0) vals=[true]:=by
   have e:tJ m0 (iG m0.g (qn2 m0 [] 0).beg (qn2 m0 [] 0).steps) 0 ([113],false)=2:=by decide +kernel
   show [hol vals (tJ m0 (iG m0.g (qn2 m0 [] 0).beg (qn2 m0 [] 0).steps) 0 ([113],false))]=[true];rw[e];have:hol vals 1=true∧hol vals 2=true:=by simpa [sat]using h3
   rw[this.2]
  rcases hs with⟨_,rfl⟩ | ⟨hs,_⟩
  ·rw[if_pos rfl,hst];rfl
  ·exact absurd (.inr (.inl rfl)) hs
def AZ (c : UInt8) : S → List S
 | []=>[[]]
 | x::s=>if x=c then []::AZ c s else match AZ c s with
  | w::ws=>(x::w)::ws
  | []=>[[x]]
def D6 (c : UInt8) : S → List S
 | []=>[[]]
 | x::s=>if x=c then [x]::D6 c s else match D6 c s with
  | w::ws=>(x::w)::ws
  | []=>[[x]]
def o5 : List S → Int → List Lt → List Lt × Int × Int
 | [],_,c=>(c,0,0)
 | w::ws,a,c=>if w.headD 0≠43∧w.headD 0≠45 then([],a,2)else if bf w.tail=false then([],a+1,4)else o5 ws (a+w.length+1) (c++[(w.tail,w.headD 0==45)])
def sN (s:S):List Lt×Int×Int:=if s=[]then([],0,0)else o5 (AZ 32 s) 0 []
def lw : List S → Int → List (List Lt) → List (List Lt) × Int × Int
 | [],_,l=>(l,0,0)
 | t::ts,a,l=>if t=[]then(l,0,0)else if(sN (t.take (t.length-1))).2.2≠0 then([],a+(sN (t.take (t.length-1))).2.1,(sN (t.take (t.length-1))).2.2)else lw ts (a+t.length) (l++[(sN (t.take (t.length-1))).1])
def qY (s:S):List (List Lt)×Int×Int:=if s≠[]∧TC s [10]=false then([],s.length,2)else lw (D6 10 s) 0 []
def xP (c:List Lt):S:=Lib.join (c.map Nb) [32]++[10]
def okC (c:List Lt):Bool:=c.all fun x=>bf x.1
def wU (l:List (List Lt)):S×Int:=if l.all okC=true then(l.flatMap xP,0)else([],4)
theorem Dy {c : UInt8} : ∀ {s : S},c ∉ s → AZ c s = [s]
 | [],_=>rfl
 | x::s,h=>by simp only[zrj,not_or]at h;rw[AZ,if_neg (fun e=>h.1 e.symm),Dy h.2]
theorem G9 {c : UInt8} {r : S} : ∀ {w : S},c ∉ w → AZ c (w ++ c :: r) = w :: AZ c r
 | [],_=>by rw[List.nil_append,AZ,if_pos rfl]
 | x::w,h=>by simp only[zrj,not_or]at h;rw[List.cons_append,AZ,if_neg (fun e=>h.1 e.symm),G9 h.2]
theorem Dz {c : UInt8} : ∀ {s : S},c ∉ s → D6 c s = [s]
 | [],_=>rfl
 | x::s,h=>by simp only[zrj,not_or]at h;rw[D6,if_neg (fun e=>h.1 e.symm),Dz h.2]
theorem Ha {c : UInt8} {r : S} : ∀ {w : S},c ∉ w → D6 c (w ++ c :: r) = (w ++ [c]) :: D6 c r
 | [],_=>by rw[List.nil_append,D6,if_pos rfl];rfl
 | x::w,h=>by simp only[zrj,not_or]at h;rw[List.cons_append,D6,if_neg (fun e=>h.1 e.symm),Ha h.2];rfl
theorem He {c : UInt8} : ∀ {s : S},c ∈ s → ∃ w r,s = w ++ c :: r ∧ c ∉ w
 | x::s,h=>by
  by_cases e:x=c
  ·exact⟨[],s,by rw[e];rfl,by simp⟩
  ·have:c∈s:=by
    rcases zrj.1 h with h | h
    ·exact absurd h.symm e
    ·exact h
   obtain⟨w,r,h1,h2⟩:=He this;exact⟨x::w,r,by rw[h1];rfl,by simp only[zrj,not_or];exact⟨fun h=>e h.symm,h2⟩⟩
theorem Jl {w v:S} {ws:List S} {c:UInt8}:Lib.join (w::v::ws) [c]=w++c::Lib.join (v::ws) [c]:=by rw[Lib.join_cons,Lib.join_cons];show w++(([c]++v)++_)=_;simp[Lib.joinTail]
theorem TL {l:List S} (h:wE l=true):l.Nodup:=by simpa [wE]using h
theorem TM {l:List S} (hn:l.Nodup) {n:Nat} (h:n<l.length):at? l l[n]=some n:=by refine Am h (fun x hx he=> ?_) rfl;obtain⟨j,hj,hx2⟩:=List.mem_iff_getElem.1 hx;simp only[zrl]at hj;rw[List.getElem_take]at hx2;have:=(List.getElem_inj (h₀:=by omega) (h₁:=h) hn).1 (hx2.trans he);omega
theorem Jm {a b:List S} {s t:S} (hz:ni a b=0) (h:ug a b s=some t):ug b a t=some s:=by
 have hz2:ni b a=0:=by rw[←Dh];exact hz
 unfold ug at h;rw[if_pos hz]at h;cases hm:at? a s with
 | none=>rw[hm]at h;cases h
 | some n =>
  rw[hm]at h;obtain⟨h1,h2⟩:=og hm;have hl:=Ap hz;have hb:n<b.length:=by omega
  simp only[zrw,Option.some.injEq]at h;have ht:t=b[n]:=by rw[←h];simp[zqg,hb]
  subst ht;unfold ug;rw[if_pos hz2,TM (TL (Df hz2)) hb];simp[zqg,h1,h2]
def Aw {α β : Type} (R : α → β → Prop) : List α → List β → Prop
 | [],[]=>True
 | x::c,y::d=>R x y∧Aw R c d
 | _,_=>False
theorem Aw.turn {α β : Type} {R : α → β → Prop} {T : β → α → Prop} (h : ∀ x y,R x y → T y x) : ∀ {c : List α} {d : List β},Aw R c d → Aw T d c
 | [],[],_=>trivial
 | x::c,y::d,h2=>⟨h _ _ h2.1,Aw.turn h h2.2⟩
 | [],_::_,h2=>h2.elim
 | _::_,[],h2=>h2.elim
def VN (a b:List S) (x y:Lt):Prop:=ug a b x.1=some y.1∧y.2=x.2
theorem Hf {a b : List S} : ∀ {c acc d : List Lt},c.foldl (Nh a b) (some acc) = some d ↔ ∃ d',d = acc ++ d' ∧ Aw (VN a b) c d'
 | [],acc,d=>by
  rw[List.foldl_nil];constructor
  ·intro h;exact⟨[],by rw[zqp];exact(Option.some.inj h).symm,trivial⟩
  ·rintro⟨d',rfl,h⟩;cases d' with
   | nil=>rw[zqp]
   | cons y d'=>exact h.elim
 | x::c,acc,d=>by
  rw[List.foldl_cons];cases hg:ug a b x.1 with
  | none =>
   have e:Nh a b (some acc) x=none:=by unfold Nh;rw[hg]
   rw[e,wL];constructor
   ·intro h;cases h
   ·rintro⟨d',rfl,h⟩;cases d' with
    | nil=>exact h.elim
    | cons y d'=>have:=h.1.1;rw[hg]at this;cases this
  | some s =>
   have e:Nh a b (some acc) x=some (acc++[(s,x.2)]):=by unfold Nh;rw[hg]
   rw[e,Hf];constructor
   ·rintro⟨d',rfl,h⟩;exact⟨(s,x.2)::d',by rw[zqc];rfl,⟨hg,rfl⟩,h⟩
   ·rintro⟨d',rfl,h⟩;cases d' with
    | nil=>exact h.elim
    | cons y d'=>obtain⟨y1,y2⟩:=y;obtain⟨⟨h1,h2⟩,h3⟩:=h;rw[hg]at h1;have h1:s=y1:=Option.some.inj h1;have h2:y2=x.2:=h2;exact⟨d',by rw[h1,h2,zqc];rfl,h3⟩
theorem Az {a b:List S} {c d:List Lt}:Jh a b c=some d↔Aw (VN a b) c d:=by
 unfold Jh;rw[Hf];constructor
 ·rintro⟨d',h1,h2⟩;rw[List.nil_append]at h1;rw[h1];exact h2
 ·intro h;exact⟨d,rfl,h⟩
theorem Hg {a b : List S} : ∀ {l acc o : List (List Lt)},l.foldl (Nj a b) (some acc) = some o ↔ ∃ o',o = acc ++ o' ∧ Aw (Aw (VN a b)) l o'
 | [],acc,d=>by
  rw[List.foldl_nil];constructor
  ·intro h;exact⟨[],by rw[zqp];exact(Option.some.inj h).symm,trivial⟩
  ·rintro⟨d',rfl,h⟩;cases d' with
   | nil=>rw[zqp]
   | cons y d'=>exact h.elim
 | x::c,acc,d=>by
  rw[List.foldl_cons];cases hg:Jh a b x with
  | none =>
   have e:Nj a b (some acc) x=none:=by unfold Nj;rw[hg]
   rw[e,wM];constructor
   ·intro h;cases h
   ·rintro⟨d',rfl,h⟩;cases d' with
    | nil=>exact h.elim
    | cons y d'=>have:=Az.2 h.1;rw[hg]at this;cases this
  | some s =>
   have e:Nj a b (some acc) x=some (acc++[s]):=by unfold Nj;rw[hg]
   rw[e,Hg];constructor
   ·rintro⟨d',rfl,h⟩;exact⟨s::d',by rw[zqc];rfl,Az.1 hg,h⟩
   ·rintro⟨d',rfl,h⟩;cases d' with
    | nil=>exact h.elim
    | cons y d'=>have h1:=Az.2 h.1;rw[hg]at h1;have h1:s=y:=Option.some.inj h1;exact⟨d',by rw[h1,zqc];rfl,h.2⟩
theorem Hl {a b:List S} {l o:List (List Lt)}:Ji a b l=some o↔Aw (Aw (VN a b)) l o:=by
 unfold Ji;rw[Hg];constructor
 ·rintro⟨d',h1,h2⟩;rw[List.nil_append]at h1;rw[h1];exact h2
 ·intro h;exact⟨o,rfl,h⟩
theorem Aw.len {α β : Type} {R : α → β → Prop} : ∀ {c : List α} {d : List β},Aw R c d → d.length = c.length
 | [],[],_=>rfl
 | x::c,y::d,h2=>by rw[zrt,zrt,Aw.len h2.2]
 | [],_::_,h2=>h2.elim
 | _::_,[],h2=>h2.elim
theorem Aw.mem {α β : Type} {R : α → β → Prop} : ∀ {c : List α} {d : List β},Aw R c d → ∀ y ∈ d,∃ x ∈ c,R x y
 | [],[],_,y,hy=>by cases hy
 | x::c,z::d,h2,y,hy=>by
  rcases zrj.1 hy with rfl | hy
  ·exact⟨x,by simp,h2.1⟩
  ·obtain⟨x',h3,h4⟩:=Aw.mem h2.2 y hy;exact⟨x',by simp[h3],h4⟩
 | [],_::_,h2,_,_=>h2.elim
 | _::_,[],h2,_,_=>h2.elim
theorem ND {a b:List S} {l o:List (List Lt)} (h:oZ a b l=(o,0)):oZ b a o=(l,0)∧o.length=l.length∧∀d∈o,∃c∈l,d.length=c.length:=by
 unfold oZ at h ⊢;by_cases hz:ni a b=0
 ·rw[if_pos hz]at h;cases hr:Ji a b l with
  | none=>rw[hr]at h;simp at h
  | some o'=>rw[hr]at h;simp only[Prod.mk.injEq,and_true]at h;subst h;have h2:=Hl.1 hr;have h3:Aw (Aw (VN b a)) o' l:=h2.turn fun c d hcd=>hcd.turn fun x y hxy=>⟨Jm hz hxy.1,hxy.2.symm⟩;rw[if_pos (by rw[←Dh];exact hz),Hl.2 h3];refine⟨rfl,h2.len,fun d hd=> ?_⟩;obtain⟨c,hc,hcd⟩:=h2.mem d hd;exact⟨c,hc,hcd.len⟩
 ·rw[if_neg hz]at h;simp only[Prod.mk.injEq]at h;exact absurd h.2 hz
theorem NE {m:Mo} (h:m.chk=0):m.lat.Nodup:=by
 unfold Mo.chk at h;split at h
 ·rename_i h1;exact absurd h h1
 ·split at h
  ·cases h
  ·split at h
   ·cases h
   ·split at h
    ·cases h
    ·rename_i h4;have:qV (m.ins++m.lat)=false:=by
      cases e:qV (m.ins++m.lat)with
      | false=>rfl
      | true=>exact absurd (by unfold Mo.twos;rw[e];rfl) h4
     have:(m.ins++m.lat).Nodup:=by simpa [qV]using this
     exact(List.nodup_append.1 this).2.1
theorem NF {l : List S} (h : l.Nodup) : ∀ i,i ≤ l.length → kK l i = (l.take i,(List.range i).map fun k : Nat => (k : Int))
 | 0,_=>by simp[kK]
 | i+1,hi=>by
  have hg:l.getD i []=l[i]:=by rw[zqg,zqk (by omega)];rfl
  have hn:at? (l.take i) l[i]=none:=PR fun hm=>by obtain⟨j,hj,hx⟩:=List.mem_take_iff_getElem.1 hm;have:=(List.getElem_inj (h₀:=by omega) (h₁:=by omega) h).1 hx;omega
  rw[kK,NF h i (by omega),hg];unfold QW;rw[hn,zrg,zqk (by omega),List.range_succ,zql];rfl
theorem wV {l:List S} (h:l.Nodup) (s:S):lY (kK l l.length) s=idx l (·==s)∧((at? (kK l l.length).1 s).isSome=true↔0≤idx l (·==s)):=by
 rw[NF h _ (zrb _)];unfold lY;dsimp only;rw[zrx];cases hm:at? l s with
 | none =>
  have hn:s∉l:=fun hs=>by obtain⟨n,hn⟩:=Ae hs;rw[hm]at hn;cases hn
  rw[iP (p:=(·==s)) fun x hx=>by simp only[beq_eq_false_iff_ne];rintro rfl;exact hn hx];exact⟨rfl,by simp⟩
 | some n =>
  obtain⟨h1,h2⟩:=og hm;rw[jk (p:=(·==s)) h1 (fun x hx=>by
   simp only[beq_eq_false_iff_ne];rintro rfl;obtain⟨j,hj,hx⟩:=List.mem_take_iff_getElem.1 hx;have:=(List.getElem_inj (h₀:=by omega) (h₁:=by omega) h).1 (hx.trans h2.symm);omega) (by simpa using h2)]
  refine⟨?_,by simp⟩;dsimp only;rw[zqg,zqo,List.getElem?_range h1];rfl
theorem P8 {m:Mo} (h:m.chk=0) (x:Lt):fJ m x.1=iU m x:=by obtain⟨h1,h2⟩:=wV (NE h) x.1;unfold fJ iU;rw[Bool.eq_iff_iff,zqb];exact h2
theorem NG {m:Mo} (h:m.chk=0) (l:List (List Lt)):jo m l=qf m l:=by
 unfold jo qf
 congr 1
 funext c
 congr 1
 funext x
 exact P8 h x
theorem TN {m:Mo} (h:m.chk=0) (st:List Bool):Dk m st=jO m st:=by
 funext x
 unfold Dk jO;rw[(wV (NE h) x.1).1]
theorem P9 {m:Mo} (h:m.chk=0) (st:List Bool) (l:List (List Lt)):(!l.any (yJ m st))=l.all fun c=>c.any (jO m st):=by rw[Bool.eq_iff_iff,Bool.not_eq_true',List.any_eq_false,zrs];refine forall_congr' fun c=>forall_congr' fun hc=> ?_;unfold yJ;rw[TN h];cases c.any (jO m st)<;>simp
theorem Hm {g : Gr} {u : US} (h : ∀ c ∈ u.cl,c.length ≤ 3) : ∀ {i : Nat},i ≤ g.ands.length → ∀ c ∈ (u.ands g i).cl,c.length ≤ 3
 | 0,_=>h
 | i+1,hi=>by
  rw[gI (by omega)];intro c hc;have hc:c∈(u.ands g i).cl++[_,_,_]:=hc;rcases zrf.1 hc with hc | hc
  ·exact Hm h (by omega) c hc
  ·simp only[zrj,zrp,or_false]at hc;rcases hc with rfl | rfl | rfl<;>simp
theorem NH {g : Gr} {b : Cl} : ∀ k,∀ c ∈ (gz g b k).cl,c.length ≤ 3
 | 0=>fun c hc=>by have hc:c=[1]:=zrc.1 hc;subst hc;simp
 | k+1=>Hm (NH k) (zrb _)
def nvU (m:Mo):Nat:=1+m.lat.length+(m.g.ins.toNat+m.g.ands.length)
theorem QY {m:Mo} {b:Cl} {k:Nat} (hb:b.length=m.lat.length) (hb2:∀x∈b,0≤x∧x≤2) (hk:k≤1):(gz m.g b k).n≤nvU m:=by obtain⟨a1,a2,a3,a4⟩:=yD b (1,[]) hb2 (zrb _) (fun a ha=>by cases ha);have:(EW b).1≤1+b.length:=a2;have e:k*(m.g.ins.toNat+m.g.ands.length)≤1*(m.g.ins.toNat+m.g.ands.length):=Nat.mul_le_mul_right _ hk;rw[MS];unfold nvU;omega
theorem NI {m:Mo} (h:m.chk=0):nvU m≤4001∧0≤m.g.ins∧m.g.ins≤4000∧m.lat.length≤4000:=by obtain⟨hg,hi,hl,ho⟩:=oM h;obtain⟨_,i0,i1,i2,i3,i4,i5⟩:=jL hg;unfold nvU;omega
theorem AA {m:Mo} {b:Cl} {k:Nat} (h:m.chk=0) (hb:b.length=m.lat.length) (hb2:∀x∈b,0≤x∧x≤2) (hk:k≤1):UOk m (iG m.g b k):=by
 obtain⟨n1,n2,n3,n4⟩:=NI h;obtain⟨hg,hi,hl,ho⟩:=oM h;have ok:=CY hg (hb.trans hl) hb2 k;have hn:=QY (m:=m) hb hb2 hk;have hin:∀ {x:Int},inU (gz m.g b k).n x→-1000000≤x∧x≤1000000:=fun {x} hx=>by have:=hx.2;omega
 refine⟨⟨n2,n3⟩,n4,fun r hr x hx=> ?_,by rw[Dw];omega⟩;rcases zrf.1 hr with hr | hr
 ·exact hin ((ok.r r hr).1 x hx)
 ·rw [zrc.1 hr] at hx;rcases zrf.1 hx with hx | hx
  ·rcases zrj.1 hx with rfl | hx
   ·omega
   ·rcases zrf.1 hx with hx | hx
    ·rw[List.eq_of_mem_replicate hx];omega
    ·exact hin (ok.lo x hx)
  ·rw[List.eq_of_mem_replicate hx];omega
theorem Fb {m:Mo}:(JC m).length=m.lat.length:=List.length_replicate
structure QOk (m : Mo) (q : Qn) : Prop where
 b:q.beg.length=m.lat.length
 r:∀x∈q.beg,0≤x∧x≤2
 s:q.steps≤1
 c:∀c∈q.more,c.length≤1000
 n:q.more.length≤3000000
theorem AB {m:Mo} (h:m.chk=0):m.g.init.length=m.lat.length∧∀x∈m.g.init,0≤x∧x≤2:=by obtain⟨hg,hi,hl,ho⟩:=oM h;obtain⟨_,i0,i1,i2,i3,i4,i5⟩:=jL hg;obtain⟨r1,r2,r3,r4⟩:=kT i4;exact⟨by omega,r2⟩
theorem yK {m:Mo} {rows:List Cl} {t:Int} {c:List Lt}:∀d∈je m rows t c,d.length≤1000:=fun d hd=>by obtain⟨x,_,rfl⟩:=zrh.1 hd;simp
theorem DC {m:Mo} {rows:List Cl} {l:List (List Lt)} (hc:∀c∈l,c.length≤1000):∀d∈sK m rows l,d.length≤1000:=fun d hd=>by obtain⟨x,hx,rfl⟩:=zrh.1 hd;simpa using hc x hx
theorem Xd {m:Mo} (h:m.chk=0) {i:Nat} {c:List Lt} (hc:c.length≤1000):QOk m (qn0 m i c):=by obtain⟨h1,h2⟩:=AB h;refine⟨h1,h2,Nat.zero_le _,yK,?_⟩;show(je m _ 0 c).length≤_;unfold je;rw[zra];omega
theorem Xe {m:Mo} {l:List (List Lt)} (hl:l.length≤1000000) (hcl:∀c∈l,c.length≤1000) {i:Nat} {c:List Lt} (hc:c.length≤1000):QOk m (qn1 m l i c):=by
 refine⟨Fb,Fa,zrb _,fun d hd=> ?_,?_⟩
 ·rcases zrf.1 hd with hd | hd
  ·exact DC hcl d hd
  ·exact yK d hd
 ·show(sK m _ l++je m _ 1 c).length≤_;unfold je sK;rw[zqa,zra,zra];omega
theorem Xf {m:Mo} {l:List (List Lt)} (hl:l.length≤1000000) (hcl:∀c∈l,c.length≤1000) {bad:Int}:QOk m (qn2 m l bad):=by
 refine⟨Fb,Fa,zrb _,fun d hd=> ?_,?_⟩
 ·rcases zrf.1 hd with hd | hd
  ·exact DC hcl d hd
  ·rw[zrc.1 hd];simp
 ·show(sK m _ l++[_]).length≤_;unfold sK;rw[zqa,zra];simp;omega
theorem TP {m:Mo} {q:Qn} (h:QOk m q):∀c∈q.cl m,c.length≤1000:=fun c hc=>by
 rcases zrf.1 hc with hc | hc
 ·have:=NH _ c hc;omega
 ·exact h.c c hc
def VO (m:Mo) (bud:Int):Prop:=∀(cl:List Cl) (n:Nat),n≤nvU m→chk cl n=0→∃B,Big n cl (max bud 0) B
theorem NJ {m:Mo}:VO m 2000:=fun cl n _ hz=>by obtain⟨v1,v2,v3,v4⟩:=uo hz;refine⟨2000,by omega,fun S _ h=>by omega,?_,by omega,by omega⟩;have:(n+1)*(2*2000+4)≤20001*(2*2000+4):=Nat.mul_le_mul_right _ (by omega);omega
theorem NK:VO m0 1099511627776:=fun cl n hn hz=>by obtain⟨v1,v2,v3,v4⟩:=uo hz;have hn:n≤2:=hn;have h3:(3:Nat)^n≤3^2:=Nat.pow_le_pow_right (by decide) hn;refine⟨9,by omega,fun S i _=>by have:=i.g.few;omega,?_,by omega,by omega⟩;have:(n+1)*(2*9+4)≤3*(2*9+4):=Nat.mul_le_mul_right _ (by omega);omega
abbrev hQ3 (n:Int) (cl rows:List Cl):H:=[.cells [vi n,cls cl,cls rows]]
def bW (m:Mo) (l:List (List Lt)) (n:Int) (cl rows:List Cl) (k:Nat) (o z:Int) (A:List Cl):List (Nat×Nat×V):=[(0,5,.ip (kV m l)),(1,6,uV n cl rows),(3,8,uV n cl rows),(4,9,.ip (kV m l)),(5,10,.ip (kV m l)),(6,11,.ip (.agg [vi m.g.ins,aH m.g.next,aH m.g.init,prs m.g.ands,aH m.g.outs,bF m.ins,bF m.lat,bF m.out])),(7,12,.ip (.agg [vi m.g.ins,aH m.g.next,aH m.g.init,prs m.g.ands,aH m.g.outs])),(8,13,.ip (aH m.g.outs)),(9,14,aH m.g.outs),(10,15,vi k),(11,16,.ip (vi o)),(12,17,vi o),(13,18,vi z),(14,19,.is true 1 [vi z]),(15,20,.is true 1 [.is true 1 [vi z]]),(16,21,.ls 1 1 0 (A.length+1) (A.length+1)),(17,4,.ls 1 1 0 (A.length+1) (A.length+1))]
def AC (m:Mo) (l:List (List Lt)) (n:Int) (cl rows:List Cl) (k:Nat):List (Nat×V):=[(1,.ip (.ip (kV m l))),(2,.ip (vi k)),(3,.lp 0 0)]
theorem Xg (m : Mo) (l : List (List Lt)) (n : Int) (cl rows : List Cl) (k : Nat) (o z : Int) (A : List Cl) (hA : EvF TE 83 [.ip (kV m l),uV n cl rows] 1 A.length (A.map fun c => aH c)) (hL : Ev TE 85 [uV n cl rows,vi 0,vi o] (vi z)) (hkl : k < m.g.outs.length) (hgo : (m.g.outs.map vi).getD k .any = vi o) (hAl : A.length ≤ 1000000) {r : Option Nat} {Q : XE → Fr → H → Prop} {f0 : Fr} (g0 : GA f0 (AC m l n cl rows k)) (d0 : f0.d = [])
 (hk:∀f ,GA f (AC m l n cl rows k)→f.d=[]→f.t 4= .ls 1 1 0 (A.length+1) (A.length+1)→Q .normal f (hQ3 n cl rows++[.cells (A.map (fun c=>aH c)++[xC [z]])])) :
 awp TE 22 r (.region 1 (IG Tryz.f84 1) true) Q f0 (hQ3 n cl rows):=by
 simp only[IG,Tryz.f84,xH,List.nil_append,zqp,List.headD_cons,Nat.reduceBEq,zrm,if_false,if_true,List.cons_append];have hM:maxLen=9223372036854775807:=rfl;obtain⟨I,hI⟩:∃I:Array Bool→Fr→H→Prop,∀L f h,I L f h↔(h=HN L (hQ3 n cl rows) 2 16 (A.map fun c=>aH c) (A.map (fun c=>aH c)++[xC [z]])∧FA L f (bW m l n cl rows k o z A)∧(L.getD 2 false=true→L.getD 16 false=false→f.t 7= .ls 1 1 0 A.length A.length)∧GA f (AC m l n cl rows k)∧f.d=[]):=⟨_,fun _ _ _=>Iff.rfl⟩;refine zT mixed I (by decide +kernel) ?_ ?_ ?_
 ·exact(hI _ _ _).2 ⟨(HN.none).symm,FA.none,fun h=>by exfalso;revert h;decide +kernel,g0,d0⟩
 ·intro L f h i hcl hII hi;obtain⟨rfl,hfa,hn,hg,hd⟩:=(hI _ _ _).1 hII;have t1:f.t 1= .ip (.ip (kV m l)):=hg (1,.ip (.ip (kV m l))) (by simp[AC]);have t2:f.t 2= .ip (vi k):=hg (2,.ip (vi k)) (by simp[AC]);have t3:f.t 3= .lp 0 0:=hg (3,.lp 0 0) (by simp[AC]);have b0:(HN L (hQ3 n cl rows) 2 16 (A.map fun c=>aH c) (A.map (fun c=>aH c)++[xC [z]]))[0]? =some (.cells [vi n,cls cl,cls rows]):=HN.get (rfl);have hlt:i<18:=zS hi;have pu:∀(d:Nat) (v:V),(∀x∈(bW m l n cl rows k o z A),x.1=i→x.2.1=d∧x.2.2=v)→(∀x∈(bW m l n cl rows k o z A),x.2.1=d→x.1=i)→(decide (d∉([1,2,3,7]:List Nat))&&decide (i∉([2,16]:List Nat)))=true→I (L.setIfInBounds i true) (f.put (some d) v) (HN L (hQ3 n cl rows) 2 16 (A.map fun c=>aH c) (A.map (fun c=>aH c)++[xC [z]])):=by
   intro d v h1 h2 h3;rw[zqf,zqb,zqb]at h3;simp only[zrj,zrp,or_false,not_or,not_false_eq_true,and_true,true_and]at h3;refine(hI _ _ _).2 ⟨(HN.skip (by omega) (by omega)).symm,hfa.put h1 h2,(by rw[getD_set_ne false (by omega),getD_set_ne false (by omega)];exact fun h h2=>by have:=hn h h2;simpa [Fr.put,show ¬7=d by omega]using this),hg.put (by simp[AC];omega),hd⟩
  match i,hlt with
  | 0,_ =>
   have pu:=pu 5 (.ip (kV m l)) (by simp[bW]) (by simp[bW]) (by decide);simp only[wq.1,Nat.reduceLT,t1]
   first | exact pu | exact⟨by decide,pu⟩ | exact⟨⟨rfl,by decide⟩,pu⟩
  | 1,_ =>
   have pu:=pu 6 (uV n cl rows) (by simp[bW]) (by simp[bW]) (by decide);simp only[wq.1,seval,t3,b0]
   first | exact pu | exact⟨by decide,pu⟩ | exact⟨⟨rfl,by decide⟩,pu⟩
  | 2,_=>have dp:=aN hi (l:=[0,1]) (by decide +kernel);have e5:f.t 5= .ip (kV m l):=hfa (0,5,.ip (kV m l)) (by simp[bW]) (dp 0 (by simp));have e6:f.t 6=uV n cl rows:=hfa (1,6,uV n cl rows) (by simp[bW]) (dp 1 (by simp));have no:=jY hi;have n3:L.getD 16 false=false:=iO hcl no (by decide +kernel);rw[HN.old no];have b0:(hQ3 n cl rows)[0]? =some (.cells [vi n,cls cl,cls rows]):=rfl;simp only[wq.1,Nat.reduceLT,e5,e6];refine IC hA (by simp only[V.dats,V.dat,dM,zre]) (dM A) ?_;simp only[wq.1];refine(hI _ _ _).2 ⟨(HN.new (B:=(hQ3 n cl rows)) (ja hi) (by decide) n3).symm,hfa.put' rfl,fun _ _=>by simp[Fr.put],hg.put rfl,hd⟩
  | 3,_ =>
   have pu:=pu 8 (uV n cl rows) (by simp[bW]) (by simp[bW]) (by decide);simp only[wq.1,seval,t3,b0]
   first | exact pu | exact⟨by decide,pu⟩ | exact⟨⟨rfl,by decide⟩,pu⟩
  | 4,_ =>
   have pu:=pu 9 (.ip (kV m l)) (by simp[bW]) (by simp[bW]) (by decide);simp only[wq.1,Nat.reduceLT,t1]
   first | exact pu | exact⟨by decide,pu⟩ | exact⟨⟨rfl,by decide⟩,pu⟩
  | 5,_ =>
   have dp:=aN hi (l:=[4]) (by decide +kernel);have e9:f.t 9= .ip (kV m l):=hfa (4,9,.ip (kV m l)) (by simp[bW]) (dp 4 (by simp));have pu:=pu 10 (.ip (kV m l)) (by simp[bW]) (by simp[bW]) (by decide);simp only[wq.1,Nat.reduceLT,e9]
   first | exact pu | exact⟨by decide,pu⟩ | exact⟨⟨rfl,by decide⟩,pu⟩
  | 6,_ =>
   have dp:=aN hi (l:=[5]) (by decide +kernel);have e10:f.t 10= .ip (kV m l):=hfa (5,10,.ip (kV m l)) (by simp[bW]) (dp 5 (by simp));have pu:=pu 11 (.ip (.agg [vi m.g.ins,aH m.g.next,aH m.g.init,prs m.g.ands,aH m.g.outs,bF m.ins,bF m.lat,bF m.out])) (by simp[bW]) (by simp[bW]) (by decide);simp only[wq.1,seval,e10]
   first | exact pu | exact⟨by decide,pu⟩ | exact⟨⟨rfl,by decide⟩,pu⟩
  | 7,_ =>
   have dp:=aN hi (l:=[6]) (by decide +kernel);have e11:f.t 11= .ip (.agg [vi m.g.ins,aH m.g.next,aH m.g.init,prs m.g.ands,aH m.g.outs,bF m.ins,bF m.lat,bF m.out]):=hfa (6,11,.ip (.agg [vi m.g.ins,aH m.g.next,aH m.g.init,prs m.g.ands,aH m.g.outs,bF m.ins,bF m.lat,bF m.out])) (by simp[bW]) (dp 6 (by simp));have pu:=pu 12 (.ip (.agg [vi m.g.ins,aH m.g.next,aH m.g.init,prs m.g.ands,aH m.g.outs])) (by simp[bW]) (by simp[bW]) (by decide);simp only[wq.1,seval,e11]
   first | exact pu | exact⟨by decide,pu⟩ | exact⟨⟨rfl,by decide⟩,pu⟩
  | 8,_ =>
   have dp:=aN hi (l:=[7]) (by decide +kernel);have e12:f.t 12= .ip (.agg [vi m.g.ins,aH m.g.next,aH m.g.init,prs m.g.ands,aH m.g.outs]):=hfa (7,12,.ip (.agg [vi m.g.ins,aH m.g.next,aH m.g.init,prs m.g.ands,aH m.g.outs])) (by simp[bW]) (dp 7 (by simp));have pu:=pu 13 (.ip (aH m.g.outs)) (by simp[bW]) (by simp[bW]) (by decide);simp only[wq.1,seval,e12]
   first | exact pu | exact⟨by decide,pu⟩ | exact⟨⟨rfl,by decide⟩,pu⟩
  | 9,_ =>
   have dp:=aN hi (l:=[8]) (by decide +kernel);have e13:f.t 13= .ip (aH m.g.outs):=hfa (8,13,.ip (aH m.g.outs)) (by simp[bW]) (dp 8 (by simp));have pu:=pu 14 (aH m.g.outs) (by simp[bW]) (by simp[bW]) (by decide);simp only[wq.1,Nat.reduceLT,e13]
   first | exact pu | exact⟨by decide,pu⟩ | exact⟨⟨rfl,by decide⟩,pu⟩
  | 10,_ =>
   have pu:=pu 15 (vi k) (by simp[bW]) (by simp[bW]) (by decide);simp only[wq.1,Nat.reduceLT,t2]
   first | exact pu | exact⟨by decide,pu⟩ | exact⟨⟨rfl,by decide⟩,pu⟩
  | 11,_=>have dp:=aN hi (l:=[9,10]) (by decide +kernel);have e14:f.t 14=aH m.g.outs:=hfa (9,14,aH m.g.outs) (by simp[bW]) (dp 9 (by simp));have e15:f.t 15=vi k:=hfa (10,15,vi k) (by simp[bW]) (dp 10 (by simp));have pu:=pu 16 (.ip (vi o)) (by simp[bW]) (by simp[bW]) (by decide);simp only[wq.1,Nat.reduceLT,e14,e15,hgo];exact⟨⟨by omega,by omega⟩,pu⟩
  | 12,_ =>
   have dp:=aN hi (l:=[11]) (by decide +kernel);have e16:f.t 16= .ip (vi o):=hfa (11,16,.ip (vi o)) (by simp[bW]) (dp 11 (by simp));have pu:=pu 17 (vi o) (by simp[bW]) (by simp[bW]) (by decide);simp only[wq.1,Nat.reduceLT,e16]
   first | exact pu | exact⟨by decide,pu⟩ | exact⟨⟨rfl,by decide⟩,pu⟩
  | 13,_ =>
   have dp:=aN hi (l:=[3,12]) (by decide +kernel);have e8:f.t 8=uV n cl rows:=hfa (3,8,uV n cl rows) (by simp[bW]) (dp 3 (by simp));have e17:f.t 17=vi o:=hfa (12,17,vi o) (by simp[bW]) (dp 12 (by simp));have pu:=pu 18 (vi z) (by simp[bW]) (by simp[bW]) (by decide);simp only[wq.1,Nat.reduceLT,e8,e17];refine ah.ev (hL) (by simp only[V.dats,V.dat,dM,zre]) ?_;simp only[wq.1]
   first | exact pu | exact⟨by decide,pu⟩ | exact⟨⟨rfl,by decide⟩,pu⟩
  | 14,_ =>
   have dp:=aN hi (l:=[13]) (by decide +kernel);have e18:f.t 18=vi z:=hfa (13,18,vi z) (by simp[bW]) (dp 13 (by simp));have pu:=pu 19 (.is true 1 [vi z]) (by simp[bW]) (by simp[bW]) (by decide);simp only[wq.1,seval,e18]
   first | exact pu | exact⟨by decide,pu⟩ | exact⟨⟨rfl,by decide⟩,pu⟩
  | 15,_ =>
   have dp:=aN hi (l:=[14]) (by decide +kernel);have e19:f.t 19= .is true 1 [vi z]:=hfa (14,19,.is true 1 [vi z]) (by simp[bW]) (dp 14 (by simp));have pu:=pu 20 (.is true 1 [.is true 1 [vi z]]) (by simp[bW]) (by simp[bW]) (by decide);simp only[wq.1,seval,e19]
   first | exact pu | exact⟨by decide,pu⟩ | exact⟨⟨rfl,by decide⟩,pu⟩
  | 16,_ =>
   have dp:=aN hi (l:=[15]) (by decide +kernel);have e20:f.t 20= .is true 1 [.is true 1 [vi z]]:=hfa (15,20,.is true 1 [.is true 1 [vi z]]) (by simp[bW]) (dp 15 (by simp));have dp:=aN hi (l:=[2,15]) (by decide +kernel);have e20:f.t 20= .is true 1 [.is true 1 [vi z]]:=hfa (15,20,.is true 1 [.is true 1 [vi z]]) (by simp[bW]) (dp 15 (by simp));have no:=jY hi;have e7:=hn (dp 2 (by simp)) no;have hz:(hQ3 n cl rows++[.cells (A.map fun c=>aH c)]:H)[1]? =some (.cells (A.map fun c=>aH c)):=rfl;rw[HN.at (dp 2 (by simp)) no];have dcs:∀p,V.drops p (A.map fun c=>aH c)=A.map fun c=>aH c:=fun p=>lZ _;have hel:(A.map fun c=>aH c).length=A.length*1:=by rw[zra];omega
   simp only[wq.1,seval,e20,e7,dcs];refine⟨⟨by omega,by omega,by omega,by rw[hd];simp⟩,?_⟩;have hdr:∀q∈bW m l n cl rows k o z A,q.1≠16→q.1≠17→q.2.2.drop (·==1)=q.2.2:=by
    intro q hq;simp only[bW,zrj,zrp,or_false]at hq;rcases hq with rfl | rfl | rfl | rfl | rfl | rfl | rfl | rfl | rfl | rfl | rfl | rfl | rfl | rfl | rfl | rfl | rfl
    all_goals first | (intro _ _;rfl) | (intro h _;exact absurd rfl h) | (intro _ h;exact absurd rfl h)
   have n17:L.getD 17 false=false:=iO hcl no (by decide +kernel);refine(hI _ _ _).2 ⟨(HN.fill (B:=(hQ3 n cl rows)) (dp 2 (by simp)) (ja hi) (by decide)).symm,fun q hq hl=> ?_,fun _ h=> ?_,GA.put (d:=21) (hg.drop ?_) rfl,hd⟩
   ·by_cases h16 : q.1 = 16
    ·simp only [bW,zrj,zrp,or_false] at hq;rcases hq with rfl | rfl | rfl | rfl | rfl | rfl | rfl | rfl | rfl | rfl | rfl | rfl | rfl | rfl | rfl | rfl | rfl
     all_goals first | (exfalso;revert h16;simp;done) | (simp[Fr.put];done)
    ·rw [getD_set_ne false (Ne.symm h16)] at hl;have h17 : q.1 ≠ 17 := fun h => by rw [h,n17] at hl;cases hl
     have h21:q.2.1≠21:=by
      simp only[bW,zrj,zrp,or_false]at hq;rcases hq with rfl | rfl | rfl | rfl | rfl | rfl | rfl | rfl | rfl | rfl | rfl | rfl | rfl | rfl | rfl | rfl | rfl
      all_goals first | exact absurd rfl h16 | exact absurd rfl h17 | simp
     have:=hfa q hq hl;show(if q.2.1=21 then _ else(f.t q.2.1).drop (·==1))=q.2.2;rw[if_neg h21,this,hdr q hq h16 h17]
   ·rw[mP (ja hi)]at h;cases h
   ·intro q hq;simp only [AC,zrj,zrp,or_false] at hq;rcases hq with rfl | rfl | rfl
    all_goals rfl
  | 17,_ =>
   have dp:=aN hi (l:=[16]) (by decide +kernel);have e21:f.t 21= .ls 1 1 0 (A.length+1) (A.length+1):=hfa (16,21,.ls 1 1 0 (A.length+1) (A.length+1)) (by simp[bW]) (dp 16 (by simp));have pu:=pu 4 (.ls 1 1 0 (A.length+1) (A.length+1)) (by simp[bW]) (by simp[bW]) (by decide);simp only[wq.1,Nat.reduceLT,e21]
   first | exact pu | exact⟨by decide,pu⟩ | exact⟨⟨rfl,by decide⟩,pu⟩
  | n+18,h=>exact absurd h (by omega)
 ·intro L f h hall hII;obtain⟨rfl,hfa,hn,hg,hd⟩:=(hI _ _ _).1 hII;have h9:=hfa (17,4,.ls 1 1 0 (A.length+1) (A.length+1)) (by simp[bW]) (hall 17 (by decide +kernel));rw[HN.done (hall 2 (by decide +kernel)) (hall 16 (by decide +kernel))];exact hk f hg hd h9
theorem VP (m:Mo) (l:List (List Lt)) (n:Int) (cl rows:List Cl) (bad:Int) (hkl:∀c∈l,∀x∈c,fJ m x.1=true) (u:UOk m rows) (hl:l.length≤1000000) (hcl:∀c∈l,c.length≤1000000) (b0:0≤bad) (b1:bad<m.g.outs.length) (ho:∀a∈m.g.outs,a≤1000000) :
 Ev TE 84 [uV n cl rows,.ip (.ip (kV m l)),.ip (vi bad)] (cls (sK m rows l++[[GN rows 0 (m.g.outs.getD bad.toNat 0)]])):=by
 obtain⟨k,rfl⟩:∃k:Nat,bad=k:=⟨bad.toNat,by omega⟩;have hk:k<m.g.outs.length:=by omega
 have hA:=G7 m l n cl rows hkl u.i u.lat u.b u.r hl hcl;have hcL:=MQ n cl rows 0 m.g.outs[k] u.b (ho _ (zqu hk)) u.r;rw[Int.toNat_natCast,iD hk];have hal:l.length=(sK m rows l).length:=by unfold sK;rw[zra]
 rw[hal]at hA hl;refine ai Tryz.func84 rfl (by simp[nts]) ?_;refine ag (vm ?_);simp only[wq.1,Nat.reduceLT,Tryz.results84];refine ag (vm ?_);refine Xg m l n cl rows k _ _ _ hA hcL hk (ED hk _) hl (by intro q hq;simp only[AC,zrj,zrp,or_false]at hq;rcases hq with rfl | rfl | rfl<;>rfl) rfl (fun f hg hd t4=> ?_);show awp _ _ _ _ _ _ _;refine vm ?_;simp only[wq.1,t4,hd];refine az.ls (cs':=((sK m rows l++[[GN rows 0 m.g.outs[k]]]).map fun c=>aH c)) rfl ?_ (kG _).1 (kG _).2 (by simp);rw[zql];exact ak.append (ak.dat (dM _)) (uA [[GN rows 0 m.g.outs[k]]]) rfl
theorem TQ {n:Int} (h0:0≤n) (h1:n≤1000000):IntKind.u64.wrap n=n:=by
 simp only[IntKind.wrap,IntKind.signed,IntKind.bits]
 first | omega | (simp;omega)
theorem Qa (c:Nat) (hc:c≤1000000):Ev TE 141 [.int .u64 1,.int .u64 c] (.tup [.int .u64 0,.int .u64 c]):=by
 have e1:Int.fdiv 1 (2^min 32 IntKind.u64.bits)=0:=by decide
 have f0:Int.fdiv 0 (2^min 32 IntKind.u64.bits)=0:=by decide
 have e2:Int.fdiv c (2^min 32 IntKind.u64.bits)=0:=by show Int.fdiv c 4294967296=0;rw[Int.fdiv_eq_ediv_of_nonneg _ (by decide)];omega
 have e3:IntKind.u64.wrap ((BitVec.ofInt IntKind.u64.bits (c:Int) &&& BitVec.ofInt IntKind.u64.bits 4294967295).toNat:Int)=c:=by
  have h1:(BitVec.ofInt IntKind.u64.bits (c:Int) &&& BitVec.ofInt IntKind.u64.bits 4294967295).toNat=c:=by
   show(BitVec.ofInt 64 (c:Int) &&& BitVec.ofInt 64 4294967295).toNat=c;rw[BitVec.toNat_and];have h2:(BitVec.ofInt 64 (c:Int)).toNat=c:=by simp;omega
   have h3:(BitVec.ofInt 64 4294967295).toNat=2^32-1:=by decide
   rw[h2,h3,Nat.and_two_pow_sub_one_eq_mod];exact Nat.mod_eq_of_lt (by omega)
  rw[h1,TQ (by omega) (by omega)]
 have e4:IntKind.u64.wrap ((BitVec.ofInt IntKind.u64.bits 1 &&& BitVec.ofInt IntKind.u64.bits 4294967295).toNat:Int)=1:=by decide
 have e5:IntKind.u64.wrap ((BitVec.ofInt IntKind.u64.bits 0 &&& BitVec.ofInt IntKind.u64.bits 4294967295).toNat:Int)=0:=by decide
 have e6:IntKind.u64.wrap (c:Int)=c:=TQ (by omega) (by omega);have e7:IntKind.u64.wrap 0=0:=by decide
 refine ai Tryz.func141 rfl (by simp[nts]) (vm ?_);simp only[wq.1,seval,Tryz.results141,e1,e2,e3,e4,e5,e6,e7,f0,Int.zero_mul,Int.mul_zero,Int.one_mul,Int.add_zero];exact az.dat rfl
theorem VQ (c:Nat) (hc:c≤1000000):Ev TE 112 [.int .u64 1,.int .u64 c] (.tup [.int .u64 0,.int .u64 c]):=by refine ai Tryz.func112 rfl (by simp[nts]) (vm ?_);simp only[wq.1,seval,Tryz.results112];refine ah.ev (Qa c hc) rfl ?_;simp only[wq.1,seval];exact az.dat rfl
theorem TR (h:H) (n:Int):uJ P h 3 161 (.int .i64 n)=(True,.int .u64 (IntKind.u64.wrap n)):=by simp only[uJ,tis]
theorem TS (h:H) (n:Int):uJ P h 161 3 (.int .u64 n)=(True,.int .i64 (IntKind.i64.wrap n)):=by simp only[uJ,tis]
def QZ:Plan:= .take 0<| .take 1<| .take 2<| .take 3<| .take 4<| .take 5<| .take 6<| .one 7<| .one 8<| .take 9<| .fin
def tK (x:Int) (c k:Nat):Cl:=List.replicate k x++List.replicate (c-k) 0
theorem Ho {x:Int} {c k:Nat} (h:k≤c):(tK x c k).length=c:=by unfold tK;simp;omega
theorem Fe {x:Int} {c k n:Nat} (h:k+n≤c) (hn:n≤k):bY ((tK x c k).map vi) k ((((tK x c k).map vi).drop 0).take (n*1))=(tK x c (k+n)).map vi:=by
 have e1:(((tK x c k).map vi).drop 0).take (n*1)=(List.replicate n x).map vi:=by unfold tK;rw[List.drop_zero,Nat.mul_one,←List.map_take,List.take_append_of_le_length (by simpa using hn),List.take_replicate,Nat.min_eq_left hn]
 rw[e1];unfold bY;rw[←List.map_take,←List.map_drop,←zql,←zql]
 congr 1
 unfold tK;rw[List.take_append_of_le_length (by simp),zqh (by simp),zra,List.length_replicate,List.drop_append,List.length_replicate,List.drop_of_length_le (by simp),List.nil_append,show k+n-k=n by omega,List.drop_replicate,List.replicate_append_replicate,show c-k-n=c-(k+n) by omega]
theorem Xh (x:Int) (c:Nat):(List.range c).flatMap (fun _=>[vi 0])=(tK x c 0).map vi:=by
 unfold tK;rw[List.replicate_zero,List.nil_append,Nat.sub_zero,List.map_replicate]
 induction c with
 | zero=>rfl
 | succ c ih=>rw[List.range_succ,List.flatMap_append,ih,List.replicate_succ'];rfl
theorem Jn (x:Int) (c:Nat) (hc:c≤1000000):Ev TE 78 [aH [x],vi c] (aH (List.replicate c x)):=by
 have hM:maxLen=9223372036854775807:=rfl;have hn0:decide ((c:Int)<0)=false:=by rw[zqd];omega
 have hz:decide ((9223372036854775807:Int)<(c:Int))=false:=by rw[zqd];omega
 have wu:IntKind.u64.wrap (c:Int)=c:=TQ (by omega) (by omega);have wi:IntKind.i64.wrap (c:Int)=c:=dh (by omega) (by omega);refine ai Tryz.func78 rfl (by simp[nts]) ?_;refine ag (vm ?_);simp only[wq.1,Nat.reduceLT,Tryz.results78];refine ag (vm ?_);simp only[wq.1,seval,hn0];refine ag (vm ?_);have w1:IntKind.u64.wrap ((1:Nat):Int)=1:=by decide
 simp only[wq.1,seval,wu,TR,w1];refine ah.ev (VQ c hc) rfl ?_;simp only[wq.1,seval];refine ag (vm ?_);simp only[wq.1,seval,hz];refine ag ?_;refine gK ?_;refine aF rfl rfl ?_;simp only[wq.1,seval];refine aF rfl rfl ?_;simp only[wq.1,↓reduceIte,TS,wi];refine eH rfl rfl ?_;refine lh (t:=22) rfl (q:={kind:= .slice 3,size:=1,bytes:=24,zero:= .nils}) (by simp only[wq.1]) (el:=3) rfl (re:={kind:= .int .i64,size:=1,bytes:=8,zero:=vi 0}) (by simp only[wq.1]) rfl rfl (by decide) (by simp only[wq.1,↓reduceIte]) (by simp only[wq.1,↓reduceIte]) (k:= .i64) (k':= .i64) (m:=(c:Int)) (by simp only[wq.1,↓reduceIte]) (by simp only[wq.1,↓reduceIte]) (by omega) (by omega) (by decide) (by rw[Int.toNat_natCast];show c*1≤_;omega) ?_;rw[Int.toNat_natCast];simp only[wq.1];refine aF rfl rfl ?_;simp only[wq.1,↓reduceIte];refine gq ?_;have h0:=Xh x c;rw[h0];refine ag ?_;refine gK ?_;refine aF rfl rfl ?_;simp only[wq.1,↓reduceIte];refine aF rfl rfl ?_;simp only[wq.1,seval];refine eH rfl rfl ?_;have hsrc:jZ TE [O.cells ((tK x c 0).map vi)] 1 (aH [x]) 1 (min 1 c) ((List.replicate (min 1 c) x).map vi):=by
  by_cases h:c=0
  ·subst h;exact jZ.none
  ·rw[show min 1 c=1 by omega];exact jZ.all rfl rfl
 have hsp:bY ((tK x c 0).map vi) 0 ((List.replicate (min 1 c) x).map vi)=(tK x c (min 1 c)).map vi:=by
  by_cases h:c=0
  ·subst h;rfl
  ·obtain⟨d,rfl⟩:∃d,c=d+1:=⟨c-1,by omega⟩;rw[show min 1 (d+1)=1 by omega];unfold tK bY;simp[List.replicate_succ]
 refine FX (t:=22) (el:=3) rfl rfl (q:={kind:= .slice 3,size:=1,bytes:=24,zero:= .nils}) (by simp only[wq.1]) rfl (re:={kind:= .int .i64,size:=1,bytes:=8,zero:=vi 0}) (by simp only[wq.1]) (by simp only[wq.1,seval]) (by simp only[wq.1,↓reduceIte]) (id:=0) (off:=0) (len:=c) (cap:=c) (by simp only[wq.1,seval]) (cs0:=(tK x c 0).map vi) rfl (by rw[zra,Ho (by omega)];show 0+c*1≤c;omega) (m:=1) (n':=min 1 c) (cs:=(List.replicate (min 1 c) x).map vi) hsrc rfl (lM _) ?_;rw[hsp];simp only[wq.1];refine aF rfl rfl ?_;simp only[wq.1,↓reduceIte];refine gq ?_;simp only[wq.1];refine ag (vm ?_);simp only[wq.1];refine aB (fun m f h=>∃k,m+k=c∧(1≤k∨c=0)∧f.t 7= .ls 0 1 0 c c∧f.t 8=vi k∧f.d=[]∧h=[.cells ((tK x c k).map vi)]) (c-min 1 c) ⟨min 1 c,by omega,by omega,by simp only[wq.1,seval],by simp only[wq.1,↓reduceIte],by simp only[wq.1],rfl⟩ ?_;rintro m f h ⟨k,hm,hk1,t7,t8,hd,rfl⟩;refine ag (vm ?_);simp only[wq.1,seval,t7,t8];refine vcB.mk (fun hlt=> ?_) (fun hlt=> ?_)
 ·simp only [zqb,zqi] at hlt;have hkc : k ≤ c := by omega
  have hrl:(tK x c k).length=c:=Ho hkc;simp only[wq.1];refine aC ?_;refine BQ mixed 7 QZ (fun f' h'=>f'.t 7= .ls 0 1 0 c c∧f'.t 8=vi ((k+min k (c-k):Nat):Int)∧f'.d=[]∧h'=[.cells ((tK x c (k+min k (c-k))).map vi)]) (by decide +kernel) (by decide +kernel) ?_ ?_
  ·intro K hK;simp only [wq.1,seval,QZ,mO,II,t7,t8];obtain ⟨n,hn⟩ : ∃ n,n = min k (c - k) := ⟨_,rfl⟩;rw [← hn];have hw : IntKind.i64.wrap ((k : Int) + (n : Int)) = ((k + n : Nat) : Int) := by rw [dh (by omega) (by omega)];omega
   have hcs:iL [O.cells ((tK x c k).map vi)] 1 (.ls 0 1 0 n c)=some (n,(((tK x c k).map vi).drop 0).take (n*1)):=by exact if_pos (show 1=1∧0+n*1≤((tK x c k).map vi).length from⟨rfl,by rw[zra,hrl];omega⟩)
   have hao:bM ((((tK x c k).map vi).drop 0).take (n*1))=true:=by rw[←List.map_drop,←List.map_take];exact lM _
   refine⟨⟨by omega,by omega⟩,⟨by omega,.inl (by omega)⟩,FW (d:=45) rfl rfl rfl rfl fun r' o ho hod=> ?_⟩;refine FX (x:= .tmp 41) (y:= .tmp 44) (ts:=#[22,22]) (t:=22) (el:=3) (by subst ho;rfl) rfl (q:={kind:= .slice 3,size:=1,bytes:=24,zero:= .nils}) (by simp only[wq.1]) rfl (re:={kind:= .int .i64,size:=1,bytes:=8,zero:=vi 0}) (by simp only[wq.1]) (by simp only[wq.1,seval]) (by simp only[wq.1,↓reduceIte]) (id:=0) (off:=k) (len:=c-k) (cap:=c-k) (by simp only[wq.1,seval,Nat.mul_one]) (cs0:=(tK x c k).map vi) rfl (by rw[zra,hrl];show k+(c-k)*1≤c;omega) (m:=k) (n':=n) (cs:=(((tK x c k).map vi).drop 0).take (n*1)) (by simp only[wq.1,↓reduceIte];exact jZ.part (by omega) hcs) hn hao (hK _ _ _ ?_);rw[Fe (by omega) (by omega),hod];simp only[wq.1,seval,t7,hd,hw];exact⟨by rw[hn],by rw[hn]⟩
  ·rintro f h ⟨t7,t8,hd,rfl⟩;exact .inl ⟨c-(k+min k (c-k)),by omega,k+min k (c-k),by omega,by omega,t7,t8,hd,rfl⟩
 ·simp only [zqd,zqi] at hlt;simp only [wq.1];have hkc : k = c := by omega
  have hre:tK x c k=List.replicate c x:=by unfold tK;rw[hkc];simp
  rw[hre];show awp _ _ _ _ _ _ _;refine ag (vm ?_);simp only[wq.1,seval,t7];refine vm ?_;simp only[wq.1,↓reduceIte,hd];exact qR rfl (by simp)
end Go.Proofs.YtmlacppmbfbjgaaGreatDoor
