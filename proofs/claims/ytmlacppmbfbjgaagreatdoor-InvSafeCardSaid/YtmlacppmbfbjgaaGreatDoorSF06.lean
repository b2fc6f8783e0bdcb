/- Lemmas for this claim, part F06: each holds under what it names. -/
import Derived.Test.YtmlacppmbfbjgaaGreatDoorSF05
import Derived.Test.YtmlacppmbfbjgaaGreatDoorSA7
set_option linter.unusedVariables false
set_option linter.unusedSimpArgs false
set_option linter.unnecessarySimpa false
set_option maxRecDepth 20000
set_option maxHeartbeats 2000000
namespace Go.Proofs.YtmlacppmbfbjgaaGreatDoor
open Go Go.Proofs Go.Abs
def lub : Nat → Nat → Nat
 | 0,_=>0
 | k+1,i=>if i+1=2*2^i.log2 then 2^i.log2 else lub k (i+1-2^i.log2)
def UC (i:Int):Int:=if i<1∨2147483647<i then 0 else(lub i.toNat i.toNat:Nat)
theorem SX {p k i:Nat} (hp:p=2^k) (h1:p≤i) (h2:i<2*p):p=2^i.log2:=by
 have h0:i≠0:=by have:=Nat.two_pow_pos k;omega
 have:i.log2=k:=(Nat.log2_eq_iff h0).2 ⟨by omega,by rw[Nat.pow_succ];omega⟩;rw[this,hp]
theorem Gj {i p k f:Nat} (hp:p=2^k) (h1:p≤i) (h2:i<2*p):lub (f+1) i=if i+1=2*p then p else lub f (i+1-p):=by rw[lub,←SX hp h1 h2]
theorem Gl : ∀ (f g i : Nat),1 ≤ i → i ≤ f → i ≤ g → lub f i = lub g i
 | 0,_,i,h0,h1,_=>by omega
 | _,0,i,h0,_,h1=>by omega
 | f+1,g+1,i,h0,h1,h2=>by
  have hlo:2^i.log2≤i:=Nat.log2_self_le (by omega);have hhi:i<2^(i.log2+1):=Nat.lt_log2_self;rw[Nat.pow_succ]at hhi;simp only[lub];split
  ·rfl
  ·rename_i hne;have hp:1<2^i.log2:=by
    have:=Nat.two_pow_pos i.log2;omega
   exact Gl f g _ (by omega) (by omega) (by omega)
theorem Gm {i p k:Nat} (hp:p=2^k) (h1:p≤i) (h2:i<2*p) (hne:i+1≠2*p):lub i i=lub (i+1-p) (i+1-p)∧1≤i+1-p∧i+1-p<i:=by
 have hp1:1<p:=by have:=Nat.two_pow_pos k;omega
 obtain⟨f,rfl⟩:∃f,i=f+1:=⟨i-1,by omega⟩;refine⟨?_,by omega,by omega⟩;rw[Gj hp h1 h2,if_neg hne];exact Gl _ _ _ (by omega) (by omega) (by omega)
theorem Gn {i p k:Nat} (hp:p=2^k) (h1:p≤i) (h2:i<2*p) (he:i+1=2*p):lub i i=p:=by obtain⟨f,rfl⟩:∃f,i=f+1:=⟨i-1,by have:=Nat.two_pow_pos k;omega⟩;rw[Gj hp h1 h2,if_pos he]
theorem SY (i:Int):Ev TE 170 [vi i] (vi (UC i)):=by
 refine ak Tryz.func170 rfl (by simp[nts]) (vm ?_);by_cases hr:i<1
 ·have e1:decide (i<1)=true:=decide_eq_true hr;have ev:UC i=0:=if_pos (.inl hr);rw[ev];simp only[wq.1,seval,Tryz.results170,e1];exact az.dat rfl
 ·have e1 : decide (i < 1) = false := decide_eq_false hr;by_cases hr2 : 2147483647 < i
  ·have e2:decide (2147483647<i)=true:=decide_eq_true hr2;have ev:UC i=0:=if_pos (.inr hr2);rw[ev];simp only[wq.1,seval,Tryz.results170,e1,e2];exact az.dat rfl
  ·have e2 : decide (2147483647 < i) = false := decide_eq_false hr2;obtain ⟨m0,rfl⟩ : ∃ m0 : Nat,i = m0 := ⟨i.toNat,by omega⟩;have ev : UC (m0 : Int) = (lub m0 m0 : Nat) := if_neg (by omega);rw [ev];simp only [wq.1,seval,Tryz.results170,e1,e2];refine aC (fun m f h => ∃ i : Nat,m = i ∧ f.t 0 = vi i ∧ f.d = [] ∧ 1 ≤ i ∧ i ≤ m0 ∧ lub i i = lub m0 m0) m0 ⟨m0,rfl,rfl,rfl,by omega,zrb _,rfl⟩ ?_;rintro i f h ⟨_,rfl,g0,gd,hi1,hi2,hl⟩;refine vm ?_;simp only [wq.1,Nat.reduceLT];refine aC (fun m f h => ∃ k : Nat,m = i - 2 ^ k ∧ f.t 0 = vi i ∧ f.t 3 = vi (2 ^ k : Nat) ∧ f.d = [] ∧ 2 ^ k ≤ i) (i - 1) ⟨0,by simp,by simp only [wq.1,seval,g0],by simp only [wq.1,↓reduceIte];try rfl,by simp only [wq.1,gd],by simpa using hi1⟩ ?_;rintro m2 f2 h2 ⟨k,rfl,k0,k3,kd,hk⟩;refine vm ?_;simp only [wq.1,seval,k0,k3];have hpk := Nat.two_pow_pos k;have w1 : IntKind.i64.wrap (2 * ((2 ^ k : Nat) : Int)) = ((2 * 2 ^ k : Nat) : Int) := by rw [aZ (by omega) (by omega)];omega
   have w2:IntKind.i64.wrap (((2^k:Nat):Int)*2)=((2^(k+1):Nat):Int):=by rw[Nat.pow_succ,aZ (by omega) (by omega)];omega
   by_cases h2k:2*2^k≤i
   ·have eb : decide (((2 * 2 ^ k : Nat) : Int) ≤ (i : Int)) = true := by rw [zqb];omega
    simp only[wq.1,seval,k3,w1,eb,w2];exact .inl ⟨i-2^(k+1),by rw[Nat.pow_succ];omega,k+1,rfl,by simp only[wq.1,seval,k0],by simp only[wq.1,↓reduceIte],by simp only[wq.1,kd],by rw[Nat.pow_succ];omega⟩
   ·have eb : decide (((2 * 2 ^ k : Nat) : Int) ≤ (i : Int)) = false := by rw [zqd];omega
    have w3:IntKind.i64.wrap (((2*2^k:Nat):Int)-1)=((2*2^k-1:Nat):Int):=by rw[aZ (by omega) (by omega)];omega
    by_cases he:i+1=2*2^k
    ·have eq1 : ((i : Int) == ((2 * 2 ^ k - 1 : Nat) : Int)) = true := by rw [beq_iff_eq];omega
     simp only[wq.1,seval,k0,k3,kd,w1,eb,w3,eq1];rw[←hl,Gn rfl hk (by omega) he];exact az.dat rfl
    ·have eq1 : ((i : Int) == ((2 * 2 ^ k - 1 : Nat) : Int)) = false := by rw [beq_eq_false_iff_ne];omega
     have w4:IntKind.i64.wrap (((2^k:Nat):Int)-1)=((2^k-1:Nat):Int):=by rw[aZ (by omega) (by omega)];omega
     have w5:IntKind.i64.wrap ((i:Int)-((2^k-1:Nat):Int))=((i+1-2^k:Nat):Int):=by rw[aZ (by omega) (by omega)];omega
     obtain⟨n1,n2,n3⟩:=Gm rfl hk (by omega) he;simp only[wq.1,seval,k0,k3,w1,eb,w3,eq1,w4,w5];exact .inl ⟨i+1-2^k,n3,i+1-2^k,rfl,by simp only[wq.1,↓reduceIte],by simp only[wq.1,kd],n2,by omega,n1▸hl⟩
theorem L8 : ∀ (b i : Nat),1 ≤ i → i ≤ b → ∃ k,lub i i = 2 ^ k ∧ 2 ^ k ≤ i
 | 0,i,h1,h2=>by omega
 | b+1,i,h1,h2=>by
  have hlo:2^i.log2≤i:=Nat.log2_self_le (by omega);have hhi:i<2^(i.log2+1):=Nat.lt_log2_self;rw[Nat.pow_succ]at hhi;by_cases he:i+1=2*2^i.log2
  ·exact⟨i.log2,Gn rfl hlo (by omega) he,hlo⟩
  ·obtain⟨n1,n2,n3⟩:=Gm rfl hlo (by omega) he;obtain⟨k,k1,k2⟩:=L8 b _ n2 (by omega);exact⟨k,n1.trans k1,by omega⟩
section
variable {h:H}
theorem wE {id:Nat} {c:Cl} (hid:h[id]? =some (.cells (c.map vi))) (hc:c≠[]) (hcl:c.length≤1000000) {R:AEnd→H→(Nat→Bool)→Prop} (hr:R (.ret (.ls h.length 1 0 c.length c.length)) (h++[.cells (c.map vi)]) (fun _=>false)) :
 ah TE 173 [.ls id 1 0 c.length c.length] h R:=by
 have hM:maxLen=9223372036854775807:=rfl;have hl:(c.map vi).length=c.length:=zra ..;have hp:=List.length_pos_iff.2 hc;have ht:(if c.length*1≤c.length then some (c.length,List.take (c.length*1) (c.map vi))else none)=some (c.length,c.map vi):=by rw[if_pos (by omega),Nat.mul_one,zqh (by simp)]
 refine ax Tryz.func173 rfl (by simp[nts]) (vm ?_);simp only[wq.1,↓reduceIte,Nat.reduceLT,reduceCtorEq,Tryz.results173];intro b hb;have hb:b=false:=by
  cases b with
  | false=>rfl
  | true=>have:=hb rfl;omega
 subst hb;simp only[wq.1,↓reduceIte,Nat.reduceEqDiff,Nat.reduceLT,reduceCtorEq,Nat.reduceMul,hid,ht,bM];exact⟨⟨rfl,by decide⟩,⟨by omega,by omega⟩,hr⟩
end
section
variable {n:Nat} {bud:Int} {L:Lay} {S:St} {h:H} {a:Int} {j:Nat} {l d Lc:List Cl}
def BZ (L:Lay) (m id:Nat):Lay:={L with k:=fun i=>if i=m then id else L.k i,ro:=fun q=>if q=id then some (.k m)else L.ro q}
theorem L9 {nc m id:Nat} (h0:L.ro id=none):LX nc L (BZ L m id) :=
 ⟨rfl,rfl,rfl,rfl,rfl,rfl,rfl,fun _ _=>rfl,fun _ _ h=>h,fun i r hi=>by
  show(if i=id then some (Ro.k m)else L.ro i)=some r;rw[if_neg fun e=>by rw[e,h0]at hi;cases hi];exact hi⟩
theorem HS.pushLn (hs:HS n bud L S h) {id:Nat} {out:Cl} (h0:L.ro id=none) (hid:h[id]? =some (.cells (out.map vi))) :
 HS n bud (BZ L S.ln.length id) (lnS S out) (((h.map (O.drop fun x => x == L.g)).set L.g (.cells ((List.range S.ln.length).map (lnV L S) ++ [.ls id 1 0 out.length out.length]))).set L.s
  (.cells [.ls L.v 5 0 (n+1) (n+1),.lm L.m,.ls L.t 1 0 S.tr.length S.tr.length,vi S.hd,.ls L.l 1 0 S.lv.length S.lv.length,.ls L.x 2 0 S.nx.length S.nx.length,.ls L.g 1 0 (S.ln.length+1) (S.ln.length+1),vi bud])):=by
 have k:=hs.toHR.drop (p:=fun x=>x==L.g) (Pz L hs.rg (.inr (.inr (.inr rfl))));have hlg:=hs.rlt _ _ hs.rg;have hls:=hs.rlt _ _ hs.rs;have RO:∀ {i:Nat} {r:Ro},L.ro i=some r→(BZ L S.ln.length id).ro i=some r:=fun {i r} hi=>(L9 (nc:=0) h0).ro _ _ hi;have ne:∀ {i:Nat} {r:Ro},L.ro i=some r→r≠ .s→r≠ .g→∀o q:O,(((h.map (O.drop fun x=>x==L.g)).set L.g o).set L.s q)[i]? =(h.map (O.drop fun x=>x==L.g))[i]? :=fun {i r} hi h1 h2 o q=>by rw[zqn (bg L hs.rs hi (Ne.symm h1)),zqn (bg L hs.rg hi (Ne.symm h2))]
 have hidg:L.g≠id:=fun e=>by have:=hs.rg;rw[e,h0]at this;cases this
 have hids:L.s≠id:=fun e=>by have:=hs.rs;rw[e,h0]at this;cases this
 have hgs:L.s≠L.g:=bg L hs.rs hs.rg (by simp);have hkn:∀i,i<S.ln.length→(BZ L S.ln.length id).k i=L.k i:=fun i hi=>if_neg (Nat.ne_of_lt hi);have hgd:∀i,i<S.ln.length→(S.ln++[out]).getD i []=S.ln.getD i []:=fun i hi=>by rw[zqg,zqj hi,←zqg]
 have hgl:(S.ln++[out]).getD S.ln.length []=out:=by simp[zqg]
 refine⟨{var:=(ne k.rv (by simp) (by simp) _ _).trans k.var,map:= ?_,trl:=(ne k.rt (by simp) (by simp) _ _).trans k.trl,lvl:=(ne k.rl (by simp) (by simp) _ _).trans k.lvl,nxl:=(ne k.rx (by simp) (by simp) _ _).trans k.nxl,lnl:= ?_,lnk:=fun i hi=> ?_,cla:=fun q hq=>⟨(ne (k.cla q hq).2 (by simp) (by simp) _ _).trans (k.cla q hq).1,RO (k.cla q hq).2⟩,wat:=fun b=> ?_,fre:=k.fre,fwt:=k.fwt,rs:=RO k.rs,rv:=RO k.rv,rm:=RO k.rm,rt:=RO k.rt,rl:=RO k.rl,rx:=RO k.rx,rg:=RO k.rg,rlt:=fun i r hr=> ?_,ext:=fun i o ho=> ?_},?_⟩
 ·obtain⟨ks,h1,h2⟩:=k.map;exact⟨ks,(ne k.rm (by simp) (by simp) _ _).trans h1,h2⟩
 ·show (((h.map (O.drop fun x => x == L.g)).set L.g _).set L.s _)[L.g]? = some (.cells ((List.range (S.ln ++ [out]).length).map (lnV (BZ L S.ln.length id) (lnS S out))));rw [zqn hgs,zqt (by simpa using hlg),zqa,zrk,List.range_succ,zql]
  congr 2
  congr 1
  ·refine List.map_congr_left fun i hi=> ?_;have hi:=List.mem_range.1 hi;show V.ls (L.k i) 1 0 (S.ln.getD i []).length (S.ln.getD i []).length=V.ls ((BZ L S.ln.length id).k i) 1 0 ((S.ln++[out]).getD i []).length ((S.ln++[out]).getD i []).length;rw[hkn i hi,hgd i hi]
  ·show [V.ls id 1 0 out.length out.length]=[V.ls ((BZ L S.ln.length id).k S.ln.length) 1 0 ((S.ln++[out]).getD S.ln.length []).length ((S.ln++[out]).getD S.ln.length []).length];rw[show(BZ L S.ln.length id).k S.ln.length=id from if_pos rfl,hgl]
 ·have hi : i < (S.ln ++ [out]).length := hi;rw [zqa,zrk] at hi;show (((h.map (O.drop fun x => x == L.g)).set L.g _).set L.s _)[(BZ L S.ln.length id).k i]? = some (O.cells (((S.ln ++ [out]).getD i []).map vi)) ∧ (BZ L S.ln.length id).ro ((BZ L S.ln.length id).k i) = some (Ro.k i);by_cases he : i = S.ln.length
  ·subst he;rw[show(BZ L S.ln.length id).k S.ln.length=id from if_pos rfl,hgl];refine⟨?_,if_pos rfl⟩;rw[zqn hids,zqn hidg,zqo,hid,zrw,bH,bu]
  ·have hi2 : i < S.ln.length := by omega
   rw[hkn i hi2,hgd i hi2];exact⟨(ne (k.lnk i hi2).2 (by simp) (by simp) _ _).trans (k.lnk i hi2).1,RO (k.lnk i hi2).2⟩
 ·have kw:=k.wat b;unfold gp at kw ⊢;rw[show(BZ L S.ln.length id).w b=L.w b from rfl];cases hw:L.w b with
  | none=>rw[hw]at kw;exact kw
  | some i=>rw[hw]at kw;exact⟨(ne kw.2 (by simp) (by simp) _ _).trans kw.1,RO kw.2⟩
 ·have hr : (if i = id then some (Ro.k S.ln.length) else L.ro i) = some r := hr;rw [zrn,zrn,zra];split at hr
  ·rename_i e;rw[e];exact(zqe hid).1
  ·exact hs.rlt i r hr
 ·have ho : (if i = id then some (Ro.k S.ln.length) else L.ro i) = some (.e o) := ho;split at ho
  ·cases ho
  ·exact⟨(ne ho (by simp) (by simp) _ _).trans (k.ext i o ho).1,(k.ext i o ho).2.mono fun i r hi=>RO hi⟩
 ·rw[show(BZ L S.ln.length id).s=L.s from rfl,zqt (by simpa using hls)];simp[ay,lnS,BZ]
end
section
variable {n:Nat} {bud:Int} {L:Lay} {S:St} {h:H} {a:Int} {j:Nat} {l d Lc:List Cl}
def lY (seen:List Nat):Cl:=seen.map fun v=>((v:Nat):Int)
theorem wF {seen:List Nat} {v:Nat}:(v:Int)∈lY seen↔v∈seen:=by unfold lY;rw[zrh];exact⟨fun⟨w,h1,h2⟩=>by rwa [show w=v by omega]at h1,fun h=>⟨v,h,rfl⟩⟩
theorem Gp (seen:List Nat) (v:Nat):uq (.int .i64) (vi v) ((lY seen).map vi) ((lY seen).map fun _=> .bool true) (.bool false) false=(True,.bool (decide (v∈seen))):=by
 unfold uq;rw[BC];cases hf:(lY seen).findIdx? (·==(v:Int))with
 | none =>
  have:¬v∈seen:=fun hm=>by have:=List.findIdx?_eq_none_iff.1 hf v (wF.2 hm);simp at this
  simp only[cond_false,decide_eq_false this]
 | some q =>
  obtain⟨h1,h2,_⟩:=List.findIdx?_eq_some_iff_getElem.1 hf;have h2:(lY seen)[q]=v:=by simpa using h2
  have hm:v∈seen:=wF.1 (h2▸zqu h1);simp only[cond_false,zqg,zqo,zqk h1,zrw,Option.getD_some,decide_eq_true hm]
theorem PM {seen:List Nat} {v:Nat} (hv:¬v∈seen):Ju (.int .i64) (vi v) (.bool true) ((lY seen).map vi) ((lY seen).map fun _=> .bool true)=some ((lY (seen++[v])).map vi,(lY (seen++[v])).map fun _=> .bool true):=by
 unfold Ju;rw[BC];cases hf:(lY seen).findIdx? (·==(v:Int))with
 | none=>simp only[lY,zql,zrd,List.map_nil]
 | some q =>
  obtain⟨h1,h2,_⟩:=List.findIdx?_eq_some_iff_getElem.1 hf;have h2:(lY seen)[q]=v:=by simpa using h2
  exact absurd (wF.1 (h2▸zqu h1)) hv
end
section
variable {n:Nat} {bud:Int} {L:Lay} {S:St} {h:H} {a:Int} {j:Nat} {l d:List Cl}
def xB (seen:List Nat):O:= .map ((lY seen).map vi) ((lY seen).map fun _=> .bool true)
def LH (h:H) (seen:List Nat) (x:Int) (rest:Cl) (h':H):Prop:=h'[h.length]? =some (xB seen)∧h'[h.length+1]? =some (.cells (vi x::rest.map vi))∧h.length+2≤h'.length
theorem LI.len {seen:List Nat} {rest:Cl} (k:LI S seen rest) (t:Tr n S):rest.length≤n+1:=by
 have:=fQ (m:=n+1) k.rn fun x hx=>by obtain⟨a,ha,rfl⟩:=zrh.1 hx;have:=t.rng _ (k.s2 a ha).1;omega
 simpa using this
theorem Mc {rs:Cl} {i:Nat} (hi:i<rs.length) (y:V):List.take ((i+1)*1) (y::vi (rs.getD i 0)::List.drop 1 (rs.map vi))++[vi (rs.getD 0 0)]++List.drop ((i+1)*1) (vi (rs.getD i 0)::List.drop 1 (rs.map vi))=y::(sw rs 0 i 0).map vi:=by
 match rs,hi with
 | x::r,hi =>
  rw[Nat.mul_one];cases i with
  | zero=>simp[sw]
  | succ j =>
   have hj:j<r.length:=by simpa using hi
   have e:(sw (x::r) 0 (j+1) 0).map vi=vi (r.getD j 0)::(r.map vi).set j (vi x):=by simp[sw,List.map_set]
   rw[e,List.set_eq_take_append_cons_drop,if_pos (by simpa using hj)];simp
theorem S9 {rs:Cl} {i:Nat} (hi:i<rs.length):∃r,sw rs 0 i 0=rs.getD i 0::r:=by
 match rs,hi with
 | x::r,hi =>
  cases i with
  | zero=>exact⟨r,by simp[sw]⟩
  | succ j=>exact⟨r.set j x,by simp[sw]⟩
theorem Tc {rs:Cl} {i:Nat} (hi:i<rs.length) {b:Int} (hb:b∈(sw rs 0 i 0).take (i+1)):b∈rs.take (i+1):=by
 match rs,hi with
 | x::r,hi =>
  cases i with
  | zero=>simpa [sw]using hb
  | succ j =>
   have hj:j<r.length:=by simpa using hi
   have e:sw (x::r) 0 (j+1) 0=r[j]::r.set j x:=by simp[sw,zqg,hj]
   rw[e,List.take_succ_cons,zrj]at hb;rw[List.take_succ_cons,zrj];rcases hb with rfl | hb
   ·exact .inr (ku hj (by omega))
   ·obtain ⟨k,hk,hk2,rfl⟩ := je hb;rw [List.getElem_set];split
    ·exact .inl rfl
    ·exact .inr (ku (by simpa using hk) hk2)
def Vo:Plan:= .take 0<| .take 1<| .take 2<| .take 3<| .take 4<| .take 5<| .take 6<| .take 7<| .take 9<| .take 10<| .alt 8 (.one 11<| .take 12<| .one 13<| .take 14<| .one 15<| .fin) (.one 11 (.one 8<| .take 12<| .one 13<| .take 14<| .one 15<| .fin))
theorem Td (hs : HS n bud L S h) (hn : n ≤ 20000) {k : Nat} (hk : k ≤ n) (hv : (S.v k).value ≠ 0) {R : AEnd → H → (Nat → Bool) → Prop}
 (hr:∀h',HS n bud L (su S k (IntKind.i64.wrap ((S.v k).score+1))) h'→h'.length=h.length→(∀i,L.ro i=none→h'[i]? =h[i]?)→R (.ret (.tup [])) h' (fun _=>false)):ah TE 179 [.lp L.s 0,vi k] h R:=by
 have hM:maxLen=9223372036854775807:=rfl;have hvar:=hs.var;have hsol:=hs.sol;have hvs:L.v≠L.s:=bg L hs.rv hs.rs (by simp);have hlv:=hs.rlt _ _ hs.rv;have hB:=hs.bump hk (s:=IntKind.i64.wrap ((S.v k).score+1));have hz:((S.v k).value==0)=false:=by simpa using hv
 have g0:((dC L S n).set (k*5+4) (vi (IntKind.i64.wrap ((S.v k).score+1)))).getD (k*5) .any=vi (S.v k).value:=by rw[zqg,zqn (by omega),←zqg];exact vc0 hk
 refine ax Tryz.func179 rfl (by simp[nts]) (vm ?_);simp only[wq.1,seval,Tryz.results179,hsol,ay,hvar,bi,zqt,zrn,hlv,WO hk,vc4 hk,zqn,hvs,ne_eq,not_false_eq_true,g0,hz];exact⟨⟨by omega,by omega⟩,by omega,⟨by omega,by omega⟩,by omega,⟨by omega,by omega⟩,by omega,hr _ hB (by simp) fun i hi=>zqn fun e=>by rw[←e,hs.rv]at hi;cases hi⟩
theorem EN (hs : HS n bud L S h) (hn : n ≤ 20000) (i0 : Inv n l d S.ln S) (hlv : 0 < S.lv.length) (hj : j < S.nc) (hf : ∀ b ∈ S.cl j,-b ∈ S.tr) (htop : ∃ b ∈ S.cl j,fB S b = S.lv.length) {R : AEnd → H → (Nat → Bool) → Prop}
 (hr:∀S' out k id h' p,Sco S S'→Inv n l d S.ln S'→Lrnt n l S out k→HS n bud L S' h'→L.ro id=none→h'[id]? =some (.cells (out.map vi))→h.length≤h'.length→(∀q,p q=true→L.ro q=none)→R (.ret (.tup [.ls id 1 0 out.length out.length,vi k])) h' p) :
 ah TE 172 [.lp L.s 0,clV L S j] h R:=by
 have hM:maxLen=9223372036854775807:=rfl;refine ax Tryz.func172 rfl (by simp[nts]) ?_;refine ag (vm ?_);simp only[wq.1,Nat.reduceLT,Tryz.results172];refine ag (vm ?_);simp only[wq.1,seval];refine ag ?_;refine O5 rfl (by decide) ?_;refine xW (x:= .const (.int .i64 0)) (t:=150) rfl (q:={kind:= .slice 3,size:=1,bytes:=24,zero:= .nils}) (by simp only[wq.1]) (el:=3) rfl (re:={kind:= .int .i64,size:=1,bytes:=8,zero:= .int .i64 0}) (by simp only[wq.1]) rfl (by simp only[wq.1]) (kk:= .i64) (m:=0) (by simp only[wq.1]) ?_;simp only[wq.1,seval];have hA:=hs.app [xB [],O.cells [vi 0]];have eA:h++[O.map [] []]++[O.cells [vi 0]]=h++[xB [],O.cells [vi 0]]:=by simp[xB,lY]
 have eA1:(h++[xB [],O.cells [vi 0]])[h.length]? =some (xB []):=by simp
 have eA2:(h++[xB [],O.cells [vi 0]])[h.length+1]? =some (O.cells [vi 0]):=by simp
 have hsolA:=hA.sol;have htl:=i0.t.len;have hwA:IntKind.i64.wrap ((S.tr.length:Int)-1)=(S.tr.length:Int)-1:=aZ (by omega) (by omega);rw[eA];refine ag (vm ?_);simp only[wq.1,seval,hsolA,ay,hwA];refine⟨by decide +kernel,?_⟩;refine ag (gy (Q:=fun xe f' h'=>xe= .normal∧∃(S':St) (seen:List Nat) (rest:Cl) (q:Nat) (hq:q<S.tr.length),Sco S S'∧Inv n l d S.ln S'∧HS n bud L S' h'∧LI S seen rest∧(S.tr[q]).natAbs∈seen∧fB S S.tr[q]=S.lv.length∧Bad (l++S.ln) (zL (-S.tr[q]::rest)) ∧
  f'.t 0= .lp L.s 0∧f'.t 7= .ls (h.length+1) 1 0 (rest.length+1) (rest.length+1)∧f'.t 10=vi S.tr[q]∧f'.d=[]∧(∀i,f'.k i=true→L.ro i=none)∧LH h seen 0 rest h') ?_ (aG ?_))
 ·rintro xe f' h' ⟨rfl,S',seen,rest,q,hq,c1,c2,c3,c4,c5,c6,c7,g0,g7,g10,gd,gk,hl⟩;show awp _ _ _ _ _ _ _;obtain ⟨hl1,hl2,hl3⟩ := hl;obtain ⟨p,ep⟩ : ∃ p,p = S.tr[q] := ⟨_,rfl⟩;rw [← ep] at c5 c6 c7 g10;have hpn : p.natAbs ≤ n := ep ▸ (i0.t.rng _ (zqu hq)).2;have hwn : IntKind.i64.wrap (0 - p) = -p := by rw [aZ (by omega) (by omega)];omega
  have hrl:=c4.len i0.t;have hro1:L.ro (h.length+1)=none:=by
   cases e:L.ro (h.length+1)with
   | none=>rfl
   | some r=>have:=hs.rlt _ _ e;omega
  have hcl1:(vi 0::rest.map vi).length=rest.length+1:=by simp
  refine vm ?_;simp only[wq.1,seval,g7,g10,hl2,hwn,Nat.add_sub_cancel];refine⟨by omega,by omega,?_⟩;refine aC (fun m f2 h2=>∃(i:Nat) (rs:Cl) (lv:Nat),m+i=rest.length∧rs.Perm rest∧(∀a∈rs.take i,fB S a≤lv)∧((i=0∧lv=0)∨∃a r,rs=a::r∧fB S a=lv) ∧
   f2.t 0= .lp L.s 0∧f2.t 7= .ls (h.length+1) 1 0 (rest.length+1) (rest.length+1)∧f2.t 14=vi lv∧f2.t 126= .ls (h.length+1) 1 1 rest.length rest.length∧f2.t 127=vi rest.length∧f2.t 128=vi i∧f2.d=[]∧(∀i,f2.k i=true→L.ro i=none) ∧
   HS n bud L S' h2∧h2[h.length+1]? =some (.cells (vi (-p)::rs.map vi))∧h.length+2≤h2.length) rest.length
   ⟨0,rest,0,rfl,List.Perm.refl _,by simp,.inl ⟨rfl,rfl⟩,by simp only[wq.1,seval,g0],by simp only[wq.1,seval,g7],by simp only[wq.1,seval];try rfl,by simp only[wq.1,seval];try rfl,by simp only[wq.1,seval];try rfl,by simp only[wq.1,↓reduceIte];try rfl,by simp only[wq.1,gd],gk,c3.congr (fun i r hi=>zqn fun e=>by rw[←e,hro1]at hi;cases hi) (by simp),zqt (by omega),by rw[zrn];exact hl3⟩ ?_
  rintro m f2 h2 ⟨i,rs,lv,hm,hpm,hmx,hmm,e0,e7,e14,e126,e127,e128,ed,ek,hs2,hh2,hl2'⟩;have hrsl:rs.length=rest.length:=hpm.length_eq;have hcl2:(vi (-p)::rs.map vi).length=rest.length+1:=by simp[hrsl]
  by_cases hi:i<rest.length
  ·have eb : decide ((i : Int) < (rest.length : Int)) = true := by rw [zqb];omega
   obtain⟨a,ea⟩:∃a,a=rs[i]:=⟨_,rfl⟩;have har:a∈rs:=ea▸zqu _;obtain⟨s1,s2,s3,s4⟩:=c4.s2 a (hpm.mem_iff.1 har);have han:a.natAbs≤n:=by have:=(i0.t.rng _ s1).2;omega
   have hg:(vi (-p)::rs.map vi).getD (1+i*1) .any=vi a:=by rw[Nat.mul_one,Nat.add_comm,ea];simp[zqg,hrsl,hi]
   have hws:IntKind.i64.wrap ((i:Int)+1)=((i+1:Nat):Int):=by rw[aZ (by omega) (by omega)];omega
   have hvar2:=hs2.var;have hlva:(S'.v a.natAbs).level=fB S a:=c1.level _;have hH:∀rs':Cl,HS n bud L S' (h2.set (h.length+1) (.cells (vi (-p)::rs'.map vi))):=fun rs'=>hs2.congr (fun i r hi=>zqn fun e=>by rw[←e,hro1]at hi;cases hi) (by simp);by_cases hlt:(lv:Int)<fB S a
   ·have bd:decide ((lv:Int)<fB S a)=true:=decide_eq_true hlt;refine ag (vm ?_);simp only[wq.1,Nat.reduceLT,e127,e128,eb];refine ag (vm ?_);simp only[wq.1,↓reduceIte];refine ag (aG ?_);refine ag (vm ?_);simp only[wq.1,seval,e126,e128,hh2,hg];refine⟨⟨by omega,by omega⟩,by omega,?_⟩;refine ag (vm ?_);simp only[wq.1,seval,e0];refine ni hs2 hn han ?_;simp only[wq.1,seval,hvar2,bi,vc1 han,hlva];refine⟨by omega,?_⟩;refine ag (vm ?_);simp only[wq.1,seval,e14,bd];refine bD (b:=true) (by simp only[wq.1,↓reduceIte]) (by simp only[wq.1,↓reduceIte]) (fun _=> ?_) (fun h=>by cases h);obtain⟨lv2,elv⟩:∃k:Nat,fB S a=k:=⟨(fB S a).toNat,by omega⟩;rw[elv];refine ag (vm ?_);simp only[wq.1,seval];obtain⟨rs2,ers2⟩:∃rs2,rs2=sw rs 0 i 0:=⟨_,rfl⟩;have hg1:(rs.map vi).getD 0 .any=vi (rs.getD 0 0):=by
     have:0<rs.length:=by omega
     simp[zqg,this]
    have hg2:(vi (-p)::rs.map vi).getD ((i+1)*1) .any=vi a:=by rw[Nat.mul_one,ea];simp[zqg,hrsl,hi]
    have hself:∀o,(h2.set (h.length+1) o)[h.length+1]? =some o:=fun o=>zqt (by omega);have ea2:a=rs.getD i 0:=by rw[ea];simp[zqg,hrsl,hi]
    have hsp:=Mc (rs:=rs) (i:=i) (by omega) (vi (-p));rw[←ers2,←ea2]at hsp;have hln:(vi (-p)::vi a::List.drop 1 (rs.map vi)).length=rest.length+1:=by simp;omega
    refine cu mixed Vo (fun f' h'=>f'.t 0= .lp L.s 0∧f'.t 7= .ls (h.length+1) 1 0 (rest.length+1) (rest.length+1)∧f'.t 14=vi lv2∧f'.t 126= .ls (h.length+1) 1 1 rest.length rest.length∧f'.t 127=vi rest.length∧f'.t 128=vi i∧f'.d=[]∧(∀i,f'.k i=true→L.ro i=none)∧h'=h2.set (h.length+1) (.cells (vi (-p)::rs2.map vi))) (by decide +kernel) (by decide +kernel) ?_ ?_
    ·simp only [wq.1,seval,Vo,e0,e7,e126,e127,e128,ed,hh2,hws,hg1,hg2,hself,List.set_set,hsp];have hdl : (List.drop 1 (rs.map vi)).length + 1 = rs.length := by rw [List.length_drop,zra];omega
     rw[hdl]
     and_intros<;>first | omega | exact ek | rfl
    ·rintro f3 h3 ⟨k0,k7,k14,k126,k127,k128,kd,kk,rfl⟩;simp only [wq.1];refine vm ?_;simp only [wq.1,seval,k128,hws];have hp2 : rs2.Perm rs := ers2 ▸ sF (by omega) (by omega);have e20 : ∃ r,rs2 = a :: r := by rw [ers2,ea2];exact S9 (by omega)
     obtain⟨r2,e20⟩:=e20;refine .inl ⟨m-1,by omega,i+1,rs2,lv2,by omega,hp2.trans hpm,fun b hb=> ?_,.inr ⟨a,r2,e20,elv⟩,by simp only[wq.1,seval,k0],by simp only[wq.1,seval,k7],by simp only[wq.1,seval,k14],by simp only[wq.1,seval,k126],by simp only[wq.1,seval,k127],by simp only[wq.1,↓reduceIte],by simp only[wq.1,kd],kk,hH rs2,hself _,by rw[zrn];exact hl2'⟩;have hb:=Tc (by omega) (ers2▸hb);rw[zrg,zqk (by omega),Option.toList_some,zrf,zrc,←ea]at hb;rcases hb with hb | rfl
     ·have:=hmx b hb;omega
     ·omega
   ·have bd : decide ((lv : Int) < fB S a) = false := decide_eq_false hlt;refine vm ?_;simp only [wq.1,seval,e0,e126,e127,e128,eb,hh2,hg];refine ⟨⟨by omega,by omega⟩,by omega,ni hs2 hn han ?_⟩;simp only [wq.1,seval,e14,e128,hvar2,bi,vc1 han,hlva,bd,hws];refine ⟨by omega,.inl ⟨m - 1,by omega,i + 1,rs,lv,by omega,hpm,fun b hb => ?_,?_,by simp only [wq.1,seval,e0],by simp only [wq.1,seval,e7],by simp only [wq.1,seval,e14],by simp only [wq.1,seval,e126],by simp only [wq.1,seval,e127],by simp only [wq.1,↓reduceIte],by simp only [wq.1,ed],ek,hs2,hh2,hl2'⟩⟩
    ·rw [zrg,zqk (by omega),Option.toList_some,zrf,zrc,← ea] at hb;rcases hb with hb | rfl
     ·exact hmx b hb
     ·omega
    ·rcases hmm with ⟨_,h2⟩ | hmm
     ·omega
     ·exact .inr hmm
  ·have eb : decide ((i : Int) < (rest.length : Int)) = false := by rw [zqd];omega
   refine vm ?_;simp only[wq.1,seval,e7,e14,e127,e128,ed,eb];have hmx':∀a∈rs,fB S a≤lv:=fun a ha=>hmx a (by rw[zqh (by omega)];exact ha);have eo:rest.length+1=(-p::rs).length:=by simp[hrsl]
   rw[eo];refine hr S' (-p::rs) lv (h.length+1) h2 f2.k c1 c2 ?_ hs2 hro1 hh2 (by omega) ek;rw[ep];refine LK i0 c4 hq (ep▸c5) (ep▸c6) (ep▸c7) hpm ?_ hmx' hlv ?_
   ·rcases hmm with ⟨h1,h2⟩ | hmm
    ·exact .inl ⟨List.length_eq_zero_iff.1 (by omega),h2⟩
    ·exact .inr hmm
   ·refine Bad.mono (fun _ h=>h) (fun b hb=> ?_) (ep▸c7);unfold zL at hb ⊢;rw[zrd,zrj]at hb ⊢;exact hb.imp id fun h=>((hpm.map _).mem_iff).2 h
 refine aC (fun m f' h'=>∃(S':St) (seen:List Nat) (rest:Cl) (p:Int) (k:Nat),Sco S S'∧Inv n l d S.ln S'∧HS n bud L S' h'∧LA S j m p k seen rest ∧
  f'.t 0= .lp L.s 0∧f'.t 1=clV L S k∧f'.t 6= .lm h.length∧f'.t 7= .ls (h.length+1) 1 0 (rest.length+1) (rest.length+1)∧f'.t 8=vi (di S seen m)∧f'.t 9=vi ((m:Int)-1)∧f'.t 10=vi p∧f'.d=[]∧(∀i,f'.k i=true→L.ro i=none)∧LH h seen 0 rest h') S.tr.length
  ⟨S,[],[],0,j,Sco.refl S,i0,hA,LA.start i0.t hj hf,by simp only[wq.1,seval],by simp only[wq.1,seval],by simp only[wq.1,seval],by simp only[wq.1,seval];try rfl,by simp only[wq.1,seval];simp[di],by simp only[wq.1,seval],by simp only[wq.1,↓reduceIte],by simp only[wq.1];try rfl,fun q hq=>absurd hq Bool.false_ne_true,eA1,eA2,by simp⟩ ?_
 rintro q f1 h1 ⟨S1,seen,rest,p,k,sc1,i1,hs1,la,g0,g1,g6,g7,g8,g9,g10,gd,gk,hl1⟩;refine aG ?_;refine ag (gy (Q:=fun xe f' h'=>xe= .normal∧∃(S':St) (seen:List Nat) (rest:Cl),Sco S S'∧Inv n l d S.ln S'∧HS n bud L S' h'∧LC S j q seen rest ∧
  f'.t 0= .lp L.s 0∧f'.t 6= .lm h.length∧f'.t 7= .ls (h.length+1) 1 0 (rest.length+1) (rest.length+1)∧f'.t 8=vi (di S seen q)∧f'.t 9=vi ((q:Int)-1)∧f'.d=[]∧(∀i,f'.k i=true→L.ro i=none)∧LH h seen 0 rest h') ?_ ?_)
 ·rintro xe f2 h2 ⟨rfl,S2,seen2,rest2,sc2,i2,hs2,lc2,e0,e6,e7,e8,e9,ed,ek,hl2⟩;show awp _ _ _ _ _ _ _;have hsol2:=hs2.sol;have htr2:=hs2.trl;rw[sc2.tr]at htr2;have hmap:h2[h.length]? =some (.map ((lY seen2).map vi) ((lY seen2).map fun _=> .bool true)):=hl2.1;have hqn:=lc2.qn;have htm:(S.tr.map vi).length=S.tr.length:=zra ..;refine ag (gy (Q:=fun xe f' h'=>xe= .normal∧h'=h2∧∃(q':Nat) (hq:q'<S.tr.length),q'+1≤q∧Gap S seen2 (q'+1) q∧(S.tr[q']).natAbs∈seen2 ∧
   f'.t 0= .lp L.s 0∧f'.t 6= .lm h.length∧f'.t 7= .ls (h.length+1) 1 0 (rest2.length+1) (rest2.length+1)∧f'.t 8=vi (di S seen2 q)∧f'.t 9=vi (q':Int)∧f'.d=[]∧(∀i,f'.k i=true→L.ro i=none)) ?_ (aG ?_))
  ·rintro xe f3 h3 ⟨rfl,rfl,q',hq',hqq,hgap,hsn,k0,k6,k7,k8,k9,kd,kk⟩;show awp _ _ _ _ _ _ _;obtain ⟨a,ea⟩ : ∃ a,a = S.tr[q'] := ⟨_,rfl⟩;have han : a.natAbs ≤ n := ea ▸ (i0.t.rng _ (zqu hq')).2;have hg : (S.tr.map vi).getD (q' * 1) .any = vi a := by rw [Nat.mul_one,ea];simp [zqg,hq']
   have etr:S2.tr.length=S.tr.length:=by rw[sc2.tr]
   have hvar2:=hs2.var;obtain⟨n1,n2,n3,n4⟩:=lc2.next i0 hlv hj hf hqq hq' hgap hsn
   have hws:IntKind.i64.wrap ((q':Int)-1)=(q':Int)-1:=aZ (by omega) (by omega);have hwo:IntKind.i64.wrap ((di S seen2 q:Int)-1)=((di S seen2 q':Nat):Int):=by have:=F7 (seen:=seen2) hqn;rw[aZ (by omega) (by omega)];omega
   refine vm ?_;simp only[wq.1,seval,k0,k9,hsol2,ay,htr2,etr,hg];refine⟨⟨by omega,by omega⟩,by omega,ni hs2 hn han ?_⟩;by_cases hoz:di S seen2 q'=0
   ·have bz : ((di S seen2 q' : Int) == 0) = true := by rw [hoz];rfl
    simp only[wq.1,seval,k0,k7,k8,k9,kd,hvar2,bi,vc2 han,hws,hwo,bz];exact⟨by omega,S2,seen2,rest2,q',hq',sc2,i2,hs2,lc2.li,hsn,n1,n3 hoz,rfl,by rw[ea],kk,hl2⟩
   ·have bz : ((di S seen2 q' : Int) == 0) = false := by rw [beq_eq_false_iff_ne];omega
    obtain⟨c,n5,n6⟩:=n4 hoz;have hre:reV L S2 (S2.v a.natAbs).reason=clV L S c:=by rw[sc2.reason,ea,n5];show V.ls _ _ _ _ _=V.ls _ _ _ _ _;rw[sc2.cl]
    simp only[wq.1,seval,k8,k9,hvar2,bi,vc2 han,hre,hws,hwo,bz];exact⟨by omega,.inl ⟨q',by omega,S2,seen2,rest2,a,c,sc2,i2,hs2,ea▸n6,by simp only[wq.1,seval,k0],by simp only[wq.1,seval],by simp only[wq.1,seval,k6],by simp only[wq.1,seval,k7],by simp only[wq.1,seval],by simp only[wq.1,seval],by simp only[wq.1,seval],by simp only[wq.1,kd],kk,hl2⟩⟩
  refine aC (fun m f' h'=>h'=h2∧m≤q∧Gap S seen2 m q ∧
   f'.t 0= .lp L.s 0∧f'.t 6= .lm h.length∧f'.t 7= .ls (h.length+1) 1 0 (rest2.length+1) (rest2.length+1)∧f'.t 8=vi (di S seen2 q)∧f'.t 9=vi ((m:Int)-1)∧f'.d=[]∧(∀i,f'.k i=true→L.ro i=none)) q
   ⟨rfl,zrb _,fun i _ h1 h2=>by omega,e0,e6,e7,e8,e9,ed,ek⟩ ?_
  rintro m f3 h3 ⟨rfl,hmq,hgap,k0,k6,k7,k8,k9,kd,kk⟩;have hm0:=Po hmq hgap lc2.op;obtain⟨u,rfl⟩:∃u,m=u+1:=⟨m-1,by omega⟩;have hu:u<S.tr.length:=by omega
  have k9:f3.t 9=vi (u:Int):=by rw[k9];congr 1;omega
  obtain⟨a,ea⟩:∃a,a=S.tr[u]:=⟨_,rfl⟩;have han:a.natAbs≤n:=ea▸(i0.t.rng _ (zqu hu)).2;have hg:(S.tr.map vi).getD (u*1) .any=vi a:=by rw[Nat.mul_one,ea];simp[zqg,hu]
  have hget:=Gp seen2 a.natAbs;have etr:S2.tr.length=S.tr.length:=by rw[sc2.tr]
  by_cases hse:a.natAbs∈seen2
  ·refine vm ?_;simp only[wq.1,seval,k0,k6,k7,k8,k9,kd,hsol2,ay,htr2,etr,hg,QS hn han,hmap,hget,decide_eq_true hse];refine⟨by decide +kernel,⟨by omega,by omega⟩,by omega,⟨by omega,by omega⟩,by omega,u,hu,hmq,hgap,ea▸hse,rfl,kk⟩
  ·have hws : IntKind.i64.wrap ((u : Int) - 1) = (u : Int) - 1 := aZ (by omega) (by omega);refine vm ?_;simp only [wq.1,seval,k0,k6,k9,hsol2,ay,htr2,etr,hg,QS hn han,hmap,hget,decide_eq_false hse,hws];refine ⟨by decide +kernel,⟨by omega,by omega⟩,by omega,⟨by omega,by omega⟩,by omega,.inl ⟨u,by omega,rfl,by omega,fun i hi h1 h2 => ?_,by simp only [wq.1,seval,k0],by simp only [wq.1,seval,k6],by simp only [wq.1,seval,k7],by simp only [wq.1,seval,k8],by simp only [wq.1,↓reduceIte],by simp only [wq.1,kd],kk⟩⟩;by_cases hiu : i = u
   ·subst hiu;exact ea▸hse
   ·exact hgap i hi (by omega) h2
 obtain⟨c,ec⟩:∃c,c=S.cl k:=⟨_,rfl⟩;have hclV:clV L S k= .ls (L.c k) 1 0 c.length c.length:=by rw[ec];rfl
 rw[hclV]at g1;refine ag (vm ?_);simp only[wq.1,seval,g1];refine aG ?_;refine aC (fun m f' h'=>∃(S':St) (seen:List Nat) (rest:Cl) (i:Nat),m+i=c.length∧Sco S S'∧Inv n l d S.ln S'∧HS n bud L S' h'∧LA S j q p k seen rest∧(∀b∈c.take i,b≠p→Acc S seen b) ∧
  f'.t 0= .lp L.s 0∧f'.t 6= .lm h.length∧f'.t 7= .ls (h.length+1) 1 0 (rest.length+1) (rest.length+1)∧f'.t 8=vi (di S seen q)∧f'.t 9=vi ((q:Int)-1)∧f'.t 10=vi p∧f'.t 26= .ls (L.c k) 1 0 c.length c.length∧f'.t 27=vi c.length∧f'.t 28=vi i∧f'.d=[]∧(∀i,f'.k i=true→L.ro i=none)∧LH h seen 0 rest h') c.length
  ⟨S1,seen,rest,0,rfl,sc1,i1,hs1,la,by simp,by simp only[wq.1,seval,g0],by simp only[wq.1,seval,g6],by simp only[wq.1,seval,g7],by simp only[wq.1,seval,g8],by simp only[wq.1,seval,g9],by simp only[wq.1,seval,g10],by simp only[wq.1,seval],by simp only[wq.1,seval];try rfl,by simp only[wq.1,↓reduceIte];try rfl,by simp only[wq.1,gd],gk,hl1⟩ ?_
 rintro m f2 h2 ⟨S2,seen2,rest2,i,hm,sc2,i2,hs2,la2,ac2,e0,e6,e7,e8,e9,e10,e26,e27,e28,ed,ek,hl2⟩;have hk:=la2.jn;have hl22:=hl2.2.2;have hcc:h2[L.c k]? =some (.cells (c.map vi)):=by
  have:=(hs2.cla k (by rw[sc2.nc];exact hk)).1;rw[sc2.cl,←ec]at this;exact this
 have hcm:(c.map vi).length=c.length:=zra ..;have hcn:c.length≤n:=by
  have h1:=i0.c.cnd k hk;have h2:=i0.c.crg k hk;rw[←ec]at h1 h2;have:=fQ (m:=n) (l:=c.map fun a=>a.natAbs-1) (by
   rw[List.Nodup,List.pairwise_map]at h1 ⊢;refine h1.imp_of_mem fun {a b} ha hb hab=> ?_;have:=(h2 a ha).1;have:=(h2 b hb).1;omega) (by
   intro x hx;obtain⟨a,ha,rfl⟩:=zrh.1 hx;have:=h2 a ha;omega)
  simpa using this
 by_cases hi:i<c.length
 ·have eb : decide ((i : Int) < (c.length : Int)) = true := by rw [zqb];omega
  obtain⟨a,ea⟩:∃a,a=c[i]:=⟨_,rfl⟩;have hg:(c.map vi).getD (i*1) .any=vi a:=by rw[Nat.mul_one,ea];simp[zqg,hi]
  have hac:a∈S.cl k:=by rw[←ec,ea];exact zqu hi
  obtain⟨ha0,han⟩:=i0.c.crg k hk a hac;have etk:c.take (i+1)=c.take i++[a]:=by rw[zrg,ea];simp[hi]
  have hws:IntKind.i64.wrap ((i:Int)+1)=((i+1:Nat):Int):=by rw[aZ (by omega) (by omega)];omega
  have hmap:h2[h.length]? =some (.map ((lY seen2).map vi) ((lY seen2).map fun _=> .bool true)):=hl2.1;have hsol2:=hs2.sol;have hvar2:=hs2.var;have hget:=Gp seen2 a.natAbs;have skip:(a=p∨Acc S seen2 a)→∀b∈c.take (i+1),b≠p→Acc S seen2 b:=fun hz b hb hne=>by
   rw[etk]at hb;rcases zrf.1 hb with hb | hb
   ·exact ac2 b hb hne
   ·rw[zrc.1 hb]at hne ⊢;exact hz.resolve_left hne
  by_cases hap:a=p
  ·have b1 : (a == p) = true := by simpa using hap
   refine vm ?_;simp only[wq.1,seval,e0,e6,e10,e26,e27,e28,eb,hcc,hg,QS hn han,b1,hmap,hget,hsol2,ay,hvar2,bi,vc1 han,hws];refine⟨⟨by omega,by omega⟩,by omega,.inl ⟨m-1,by omega,S2,seen2,rest2,i+1,by omega,sc2,i2,hs2,la2,skip (.inl hap),by simp only[wq.1,seval,e0],by simp only[wq.1,seval,e6],by simp only[wq.1,seval,e7],by simp only[wq.1,seval,e8],by simp only[wq.1,seval,e9],by simp only[wq.1,seval,e10],by simp only[wq.1,seval,e26],by simp only[wq.1,seval,e27],by simp only[wq.1,↓reduceIte],by simp only[wq.1,ed],ek,hl2⟩⟩
  ·have b1 : (a == p) = false := by simpa using hap
   by_cases hse:a.natAbs∈seen2
   ·refine vm ?_;simp only[wq.1,seval,e0,e6,e10,e26,e27,e28,eb,hcc,hg,QS hn han,b1,hmap,hget,decide_eq_true hse,hsol2,ay,hvar2,bi,vc1 han,hws];refine⟨⟨by omega,by omega⟩,by omega,.inl ⟨m-1,by omega,S2,seen2,rest2,i+1,by omega,sc2,i2,hs2,la2,skip (.inr (.inr hse)),by simp only[wq.1,seval,e0],by simp only[wq.1,seval,e6],by simp only[wq.1,seval,e7],by simp only[wq.1,seval,e8],by simp only[wq.1,seval,e9],by simp only[wq.1,seval,e10],by simp only[wq.1,seval,e26],by simp only[wq.1,seval,e27],by simp only[wq.1,↓reduceIte],by simp only[wq.1,ed],ek,hl2⟩⟩
   ·by_cases hl0 : fB S a = 0
    ·have bl : ((S2.v a.natAbs).level == 0) = true := by rw [sc2.level];exact beq_iff_eq.2 hl0
     refine vm ?_;simp only[wq.1,seval,e0,e6,e10,e26,e27,e28,eb,hcc,hg,QS hn han,b1,hmap,hget,decide_eq_false hse,hsol2,ay,hvar2,bi,vc1 han,bl,hws];refine⟨⟨by omega,by omega⟩,by omega,⟨by omega,by omega⟩,by omega,.inl ⟨m-1,by omega,S2,seen2,rest2,i+1,by omega,sc2,i2,hs2,la2,skip (.inr (.inl hl0)),by simp only[wq.1,seval,e0],by simp only[wq.1,seval,e6],by simp only[wq.1,seval,e7],by simp only[wq.1,seval,e8],by simp only[wq.1,seval,e9],by simp only[wq.1,seval,e10],by simp only[wq.1,seval,e26],by simp only[wq.1,seval,e27],by simp only[wq.1,↓reduceIte],by simp only[wq.1,ed],ek,hl2⟩⟩
    ·have bl : ((S2.v a.natAbs).level == 0) = false := by rw [sc2.level];exact beq_eq_false_iff_ne.2 hl0
     have hput:=PM hse;have hhl:h.length<h2.length:=by have:=hl2.2.2;omega
     have hro0:L.ro h.length=none:=LQ hs;have hro1:L.ro (h.length+1)=none:=by
      cases e:L.ro (h.length+1)with
      | none=>rfl
      | some r=>have:=hs.rlt _ _ e;omega
     have hmn:∀ {i r},L.ro i=some r→h.length≠i:=fun hi e=>by rw[←e,hro0]at hi;cases hi
     have hs3:HS n bud L S2 (h2.set h.length (xB (seen2++[a.natAbs]))):=hs2.congr (fun i r hi=>zqn (hmn hi)) (by simp);have hvz:(S2.v a.natAbs).value≠0:=by have h1:=la2.jf a hac hap;rw[sc2.value];have h2:=(i0.t.lval_neg ha0 han).2 (List.mem_of_mem_take h1);intro e;unfold lD at h2;rw[e]at h2;split at h2<;>omega
     obtain⟨mk1,mk2⟩:=la2.mark i0.t hac hap hl0 hse;refine vm ?_;simp only[wq.1,seval,e0,e6,e10,e26,e27,e28,eb,hcc,hg,QS hn han,b1,hmap,hget,decide_eq_false hse,hsol2,ay,hvar2,bi,vc1 han,bl,hput];refine⟨⟨by omega,by omega⟩,by omega,⟨by omega,by omega⟩,by omega,Td hs3 hn han hvz fun h4 hs4 hl4 hk4=> ?_⟩;obtain⟨S4,eS4⟩:∃S4,S4=su S2 a.natAbs (IntKind.i64.wrap ((S2.v a.natAbs).score+1)):=⟨_,rfl⟩;rw[←eS4]at hs4;have sc4:Sco S S4:=eS4▸sc2.bump _ _;have i4:Inv n l d S.ln S4:=eS4▸Py i2 ⟨by omega,han⟩ hvz;have hsol4:=hs4.sol;have hvar4:=hs4.var;have hmap4:h4[h.length]? =some (xB (seen2++[a.natAbs])):=by rw[hk4 _ hro0];exact zqt hhl
     have hout4:h4[h.length+1]? =some (.cells (vi 0::rest2.map vi)):=by rw[hk4 _ hro1,zqn (by omega)];exact hl2.2.1
     have hl4':h4.length=h2.length:=by rw[hl4,zrn]
     have skip2:∀b∈c.take (i+1),b≠p→Acc S (seen2++[a.natAbs]) b:=fun b hb hne=>by
      rw[etk]at hb;rcases zrf.1 hb with hb | hb
      ·exact(ac2 b hb hne).mono fun v hv=>List.mem_append_left _ hv
      ·rw[zrc.1 hb];exact .inr (by simp)
     by_cases hD:fB S a=S.lv.length
     ·have bd : ((S4.v a.natAbs).level == (S4.lv.length : Int)) = true := by rw [sc4.level,sc4.lv];exact beq_iff_eq.2 hD
      obtain⟨la3,ho3⟩:=mk1 hD;have hwo:IntKind.i64.wrap ((di S seen2 q:Int)+1)=((di S seen2 q+1:Nat):Int):=by have:=F7 (seen:=seen2) la2.qn;have:=la2.qn;rw[aZ (by omega) (by omega)];omega
      simp only[wq.1,seval,e0,e8,e28,hsol4,ay,hvar4,bi,vc1 han,bd,hws,hwo];refine⟨by decide +kernel,⟨by omega,by omega⟩,by omega,.inl ⟨m-1,by omega,S4,seen2++[a.natAbs],rest2,i+1,by omega,sc4,i4,hs4,la3,skip2,by simp only[wq.1,seval,e0],by simp only[wq.1,seval,e6],by simp only[wq.1,seval,e7],by simp only[wq.1,seval,ho3],by simp only[wq.1,seval,e9],by simp only[wq.1,seval,e10],by simp only[wq.1,seval,e26],by simp only[wq.1,seval,e27],by simp only[wq.1,↓reduceIte],by simp only[wq.1,ed],ek,hmap4,hout4,by omega⟩⟩
     ·have bd : ((S4.v a.natAbs).level == (S4.lv.length : Int)) = false := by rw [sc4.level,sc4.lv];exact beq_eq_false_iff_ne.2 hD
      obtain⟨la3,ho3⟩:=mk2 hD;simp only[wq.1,↓reduceIte,Nat.reduceEqDiff,Nat.reduceLT,Nat.reduceLeDiff,Nat.reduceAdd,reduceCtorEq,Nat.reduceMul,e0,e7,e28,ed,hsol4,ay,hvar4,bi,vc1 han,bd,hws,hout4];have bne:∀ {i r},L.ro i=some r→(i==h.length+1)=false:=fun {i r} hi=>by simp only[beq_eq_false_iff_ne];rintro rfl;rw[hro1]at hi;cases hi
      have bs:=bne hs.rs;have bc:=bne (hs2.cla k (by rw[sc2.nc];exact hk)).2;have bh:(h.length==h.length+1)=false:=by simp
      have hdv:V.drops (fun x=>x==h.length+1) (rest2.map vi)=rest2.map vi:=bu _;have hD4:HS n bud L S4 ((List.map (O.drop fun x=>x==h.length+1) h4).set (h.length+1) (.cells (vi 0::(rest2.map vi++[vi a])))) :=
       (hs4.dropN (p:=fun x=>x==h.length+1) fun i r hi=>bne hi).congr (fun i r hi=>zqn fun e=>by rw[←e,hro1]at hi;cases hi) (by simp)
      rw[hdv];have hrl:=la2.li.len i0.t;have er:(rest2++[a]).length=rest2.length+1:=by simp
      have ho3':di S seen2 q=di S (seen2++[a.natAbs]) q:=ho3.symm;refine⟨by decide +kernel,⟨by omega,by omega⟩,by omega,⟨rfl,by decide⟩,⟨by omega,by omega,by omega⟩,.inl ⟨m-1,by omega,S4,seen2++[a.natAbs],rest2++[a],i+1,by omega,sc4,i4,hD4,la3,skip2,by simp only[wq.1,↓reduceIte,Nat.reduceEqDiff,Nat.reduceLT,Nat.reduceLeDiff,Nat.reduceAdd,Nat.reduceSub,Int.reduceToNat,Nat.reduceDiv,Int.reduceLT,Int.reduceLE,Int.reduceNeg,Int.reduceBEq,Int.reduceBNe,Int.reduceAdd,Int.reduceSub,Nat.reduceBEq,reduceCtorEq,Nat.reduceMul,au,Tryz.results172,e0,bs],by simp only[wq.1,↓reduceIte,Nat.reduceEqDiff,Nat.reduceLT,Nat.reduceLeDiff,Nat.reduceAdd,Nat.reduceSub,Int.reduceToNat,Nat.reduceDiv,Int.reduceLT,Int.reduceLE,Int.reduceNeg,Int.reduceBEq,Int.reduceBNe,Int.reduceAdd,Int.reduceSub,Nat.reduceBEq,reduceCtorEq,Nat.reduceMul,au,Tryz.results172,e6,bh],by simp only[wq.1,↓reduceIte,Nat.reduceEqDiff,Nat.reduceLT,Nat.reduceLeDiff,Nat.reduceAdd,Nat.reduceSub,Int.reduceToNat,Nat.reduceDiv,Int.reduceLT,Int.reduceLE,Int.reduceNeg,Int.reduceBEq,Int.reduceBNe,Int.reduceAdd,Int.reduceSub,Nat.reduceBEq,reduceCtorEq,Nat.reduceMul,au,Tryz.results172,er],by simp only[wq.1,↓reduceIte,Nat.reduceEqDiff,Nat.reduceLT,Nat.reduceLeDiff,Nat.reduceAdd,Nat.reduceSub,Int.reduceToNat,Nat.reduceDiv,Int.reduceLT,Int.reduceLE,Int.reduceNeg,Int.reduceBEq,Int.reduceBNe,Int.reduceAdd,Int.reduceSub,Nat.reduceBEq,reduceCtorEq,Nat.reduceMul,au,Tryz.results172,e8,ho3],by simp only[wq.1,↓reduceIte,Nat.reduceEqDiff,Nat.reduceLT,Nat.reduceLeDiff,Nat.reduceAdd,Nat.reduceSub,Int.reduceToNat,Nat.reduceDiv,Int.reduceLT,Int.reduceLE,Int.reduceNeg,Int.reduceBEq,Int.reduceBNe,Int.reduceAdd,Int.reduceSub,Nat.reduceBEq,reduceCtorEq,Nat.reduceMul,au,Tryz.results172,e9],by simp only[wq.1,↓reduceIte,Nat.reduceEqDiff,Nat.reduceLT,Nat.reduceLeDiff,Nat.reduceAdd,Nat.reduceSub,Int.reduceToNat,Nat.reduceDiv,Int.reduceLT,Int.reduceLE,Int.reduceNeg,Int.reduceBEq,Int.reduceBNe,Int.reduceAdd,Int.reduceSub,Nat.reduceBEq,reduceCtorEq,Nat.reduceMul,au,Tryz.results172,e10],by simp only[wq.1,↓reduceIte,Nat.reduceEqDiff,Nat.reduceLT,Nat.reduceLeDiff,Nat.reduceAdd,Nat.reduceSub,Int.reduceToNat,Nat.reduceDiv,Int.reduceLT,Int.reduceLE,Int.reduceNeg,Int.reduceBEq,Int.reduceBNe,Int.reduceAdd,Int.reduceSub,Nat.reduceBEq,reduceCtorEq,Nat.reduceMul,au,Tryz.results172,e26,bc],by simp only[wq.1,↓reduceIte,Nat.reduceEqDiff,Nat.reduceLT,Nat.reduceLeDiff,Nat.reduceAdd,Nat.reduceSub,Int.reduceToNat,Nat.reduceDiv,Int.reduceLT,Int.reduceLE,Int.reduceNeg,Int.reduceBEq,Int.reduceBNe,Int.reduceAdd,Int.reduceSub,Nat.reduceBEq,reduceCtorEq,Nat.reduceMul,au,Tryz.results172,e27],by simp only[wq.1,↓reduceIte,Nat.reduceEqDiff,Nat.reduceLT,Nat.reduceLeDiff,Nat.reduceAdd,Nat.reduceSub,Int.reduceToNat,Nat.reduceDiv,Int.reduceLT,Int.reduceLE,Int.reduceNeg,Int.reduceBEq,Int.reduceBNe,Int.reduceAdd,Int.reduceSub,Nat.reduceBEq,reduceCtorEq,Nat.reduceMul,au,Tryz.results172],by simp only[wq.1,↓reduceIte,Nat.reduceEqDiff,Nat.reduceLT,Nat.reduceLeDiff,Nat.reduceAdd,Nat.reduceSub,Int.reduceToNat,Nat.reduceDiv,Int.reduceLT,Int.reduceLE,Int.reduceNeg,Int.reduceBEq,Int.reduceBNe,Int.reduceAdd,Int.reduceSub,Nat.reduceBEq,reduceCtorEq,Nat.reduceMul,au,Tryz.results172,ed],fun q hq=> ?_,?_,?_,?_⟩⟩
      ·rcases Bool.or_eq_true_iff.1 hq with hq | hq
       ·exact ek q hq
       ·rw[show q=h.length+1 by simpa using hq];exact hro1
      ·rw[zqn (by omega),zqo,hmap4,zrw,xB,jO,bu,dD (fun v hv=>by obtain⟨_,_,rfl⟩:=zrh.1 hv;simp only[V.drop])]
      ·rw[zqt (by rw[zra];omega)];simp
      ·rw[zrn,zra];omega
 ·have eb : decide ((i : Int) < (c.length : Int)) = false := by rw [zqd];omega
  refine vm ?_;simp only[wq.1,seval,e0,e6,e7,e8,e9,e27,e28,ed,eb];refine⟨S2,seen2,rest2,sc2,i2,hs2,la2.done i0.t (fun b hb=>(i0.c.crg j hj b hb).1) hlv htop fun b hb hne=>ac2 b (by rw[zqh (by omega),ec];exact hb) hne,rfl,rfl,ek,hl2⟩
end
section
variable {n:Nat} {bud:Int} {L:Lay} {S:St} {h:H} {a:Int} {j:Nat} {l d Lc:List Cl}
def DX (L:Lay) (p:Nat→Bool):Prop:=∀q r,L.ro q=some r→p q=true→r= .t∨r= .l∨r= .x∨r= .g∨∃a,r= .w a
theorem DX.none (L:Lay):DX L (fun _=>false):=fun q r _ hp=>absurd hp Bool.false_ne_true
theorem DX.or {p q:Nat→Bool} (hp:DX L p) (hq:DX L q):DX L (fun i=>p i||q i):=fun i r hi h=>(Bool.or_eq_true_iff.1 h).elim (hp i r hi) (hq i r hi)
theorem DX.back {L':Lay} {p:Nat→Bool} (hl:∀i r,L.ro i=some r→L'.ro i=some r) (h:DX L' p):DX L p:=fun q r hq=>h q r (hl q r hq)
theorem Vp {L':Lay} {m:Nat} {p:Nat→Bool} (lx:LX m L L') (hs:HS n bud L S h) (hp:Dr L' p):DX L p:=fun q r hq hpq=>by
 rcases hp q hpq with⟨a,ha⟩ | ha
 ·have:=lx.ro _ _ hq;rw[ha]at this;cases this;exact .inr (.inr (.inr (.inr ⟨a,rfl⟩)))
 ·rw[lx.t]at ha;subst ha;rw[hs.rt]at hq;cases hq;exact .inl rfl
theorem DX.ext {o:O} {p:Nat→Bool} (h:DX L p) (he:Ext L o):o.drop p=o:=he p h
def Jy (L:Lay) (id:Nat) (o:O):Lay:={L with ro:=fun i=>if i=id then some (.e o)else L.ro i}
theorem pW {m id:Nat} {o:O} (h0:L.ro id=none):LX m L (Jy L id o) :=
 ⟨rfl,rfl,rfl,rfl,rfl,rfl,rfl,fun _ _=>rfl,fun _ _ h=>h,fun i r hi=>by
  show(if i=id then some (Ro.e o)else L.ro i)=some r;rw[if_neg fun e=>by rw[e,h0]at hi;cases hi];exact hi⟩
theorem HR.layE {id:Nat} {o:O} (k:HR n L S h) (h0:L.ro id=none) (hid:h[id]? =some o) (he:Ext (Jy L id o) o):HR n (Jy L id o) S h:=by
 have RO:∀ {i:Nat} {r:Ro},L.ro i=some r→(Go.Proofs.YtmlacppmbfbjgaaGreatDoor.Jy L id o).ro i=some r:=fun hi=>(pW (m:=0) h0).ro _ _ hi;refine {var:=k.var,map:=k.map,trl:=k.trl,lvl:=k.lvl,nxl:=k.nxl,lnl:=k.lnl,lnk:=fun i hi=>⟨(k.lnk i hi).1,RO (k.lnk i hi).2⟩,cla:=fun q hq=>⟨(k.cla q hq).1,RO (k.cla q hq).2⟩,wat:=fun b=> ?_,fre:=k.fre,fwt:=k.fwt,rs:=RO k.rs,rv:=RO k.rv,rm:=RO k.rm,rt:=RO k.rt,rl:=RO k.rl,rx:=RO k.rx,rg:=RO k.rg,rlt:=fun i r hr=> ?_,ext:=fun i q hq=> ?_}
 ·have kw:=k.wat b;unfold gp at kw ⊢;rw[show(Go.Proofs.YtmlacppmbfbjgaaGreatDoor.Jy L id o).w b=L.w b from rfl];cases hw:L.w b with
  | none=>rw[hw]at kw;exact kw
  | some i=>rw[hw]at kw;exact⟨kw.1,RO kw.2⟩
 ·have hr : (if i = id then some (Ro.e o) else L.ro i) = some r := hr;split at hr
  ·rename_i e;rw[e];exact(zqe hid).1
  ·exact k.rlt i r hr
 ·have hq' : (if i = id then some (Ro.e o) else L.ro i) = some (.e q) := hq;split at hq'
  ·rename_i e;cases hq';exact⟨e▸hid,he⟩
  ·exact⟨(k.ext i q hq').1,(k.ext i q hq').2.mono fun i r hi=>RO hi⟩
theorem HS.layE (hs:HS n bud L S h) {id:Nat} {o:O} (h0:L.ro id=none) (hid:h[id]? =some o) (he:Ext (Jy L id o) o):HS n bud (Jy L id o) S h:=⟨hs.toHR.layE h0 hid he,hs.sol⟩
theorem Tf (L:Lay) (c:Cl):Ext L (.cells (c.map vi)):=fun p _=>by rw[bH,bu]
def Md:Plan:= .take 0<| .take 1<| .take 2<| .take 3<| .take 5<| .alt 4 (.one 6<| .one 7<| .one 8<| .take 9<| .take 10<| .one 11<| .fin) (.one 6 (.alt 4 (.one 7<| .one 8<| .take 9<| .take 10<| .one 11<| .fin) (.one 7 (.one 4<| .one 8<| .take 9<| .take 10<| .one 11<| .fin))))
theorem xE (hs : HS n bud L S h) (hn : n ≤ 20000) (i0 : Inv n l d S.ln S) (hj : j < S.nc) (hf : ∀ b ∈ S.cl j,-b ∈ S.tr) (htop : ∃ b ∈ S.cl j,fB S b = S.lv.length) (hnc : S.nc ≤ 800000) (hnx : S.nx.length ≤ 100000000) (hln : S.ln.length ≤ 100000000) {R : AEnd → H → (Nat → Bool) → Prop}
 (r1:S.lv=[]→R (.pan (.iface 197 (.agg [vi 0]))) h (fun _=>false))
 (r2:bud≤S.ln.length→R (.pan (.iface 197 (.agg [vi 2]))) h (fun _=>false))
 (r3:∀S' L' h' p out,(S.ln.length:Int)<bud→Inv n l d S'.ln S'→S'.ln=S.ln++[out]→S'.nx.length≤S.nx.length+n→S'.nc≤S.nc+1→LX S.nc L L'→HS n bud L' S' h'→h.length≤h'.length→DX L p→R (.ret (.tup [])) h' p) :
 ah TE 154 [.lp L.s 0,clV L S j] h R:=by
 have hM:maxLen=9223372036854775807:=rfl;have hsol:=hs.sol;by_cases hlv:S.lv=[]
 ·have hlvz : (((S.lv.length : Nat) : Int) == 0) = true := by rw [hlv];rfl
  refine ax Tryz.func154 rfl (by simp[nts]) (vm ?_);simp only[wq.1,seval,Tryz.results154,hsol,ay,hlvz];exact⟨by decide,r1 hlv⟩
 ·have hlvp := List.length_pos_iff.2 hlv;have hlvz : (((S.lv.length : Nat) : Int) == 0) = false := by rw [beq_eq_false_iff_ne];omega
  by_cases hb:bud≤S.ln.length
  ·have hbd:decide (bud≤(S.ln.length:Int))=true:=decide_eq_true hb;refine ax Tryz.func154 rfl (by simp[nts]) (vm ?_);simp only[wq.1,seval,Tryz.results154,hsol,ay,hlvz,hbd];exact⟨by decide +kernel,by decide,r2 hb⟩
  ·have hbd:decide (bud≤(S.ln.length:Int))=false:=decide_eq_false hb;refine ax Tryz.func154 rfl (by simp[nts]) ?_;refine ag (vm ?_);simp only[wq.1,seval,Tryz.results154,hsol,ay,hlvz];refine ag (vm ?_);simp only[wq.1,seval,hsol,ay,hbd];refine⟨by decide +kernel,?_⟩;have ecl:clV L S j= .ls (L.c j) 1 0 (S.cl j).length (S.cl j).length:=rfl;refine ag (vm ?_);simp only[wq.1,seval,ecl];refine EN hs hn i0 hlvp hj hf htop fun S1 out k id h1 p1 sc1 i1 lr1 hs1 hro1 hh1 hl1 hp1=> ?_;have hsd:(L.s:Nat)=L.s:=rfl;have hp1s:p1 L.s=false:=by
    cases e:p1 L.s with
    | false=>rfl
    | true=>have:=hp1 _ e;rw[hs.rs]at this;cases this
   simp only[wq.1,seval,aW];obtain⟨pv,rest,eout,_⟩:=lr1.fst;have honn:out≠[]:=by rw[eout];simp
   have hol:out.length≤n+1:=by
    have:=fQ (m:=n+1) lr1.nd fun x hx=>by obtain⟨a,ha,rfl⟩:=zrh.1 hx;have:=(lr1.rng a ha).2;omega
    simpa using this
   have hA:=hs1.app [O.cells (out.map vi)];have hA1:(h1++[O.cells (out.map vi)])[h1.length]? =some (O.cells (out.map vi)):=by simp
   have hAi:(h1++[O.cells (out.map vi)])[id]? =some (O.cells (out.map vi)):=by rw[zqj (zqe hh1).1];exact hh1
   have hAl:(h1++[O.cells (out.map vi)]).length=h1.length+1:=by simp
   obtain⟨hB,ehB⟩:∃hB,hB=h1++[O.cells (out.map vi)]:=⟨_,rfl⟩;rw[←ehB]at hA hA1 hAi hAl;have hsol1:=hs1.sol;have hsolA:=hA.sol;have hlnA:=hA.lnl;have hhl1:=(zqe hh1).1;have hro2:L.ro h1.length=none:=LQ hs1;have hP:=hA.pushLn (id:=h1.length) (out:=out) hro2 hA1;have hlgA:=hA.rlt _ _ hA.rg;have hlsA:=hA.rlt _ _ hA.rs;have hgs:L.g≠L.s:=bg L hs1.rg hs1.rs (by simp);have nb:∀ {i r},L.ro i=some r→r≠ .g→(i==L.g)=false:=fun hi hr=>by simp[bg L hi hs1.rg hr]
   have b1:=nb hs1.rs (by simp);have b2:=nb hs1.rv (by simp);have b3:=nb hs1.rm (by simp);have b4:=nb hs1.rt (by simp);have b5:=nb hs1.rl (by simp);have b6:=nb hs1.rx (by simp);have hig:id≠L.g:=fun e=>by have:=hs1.rg;rw[←e,hro1]at this;cases this
   have his:id≠L.s:=fun e=>by have:=hs1.rs;rw[←e,hro1]at this;cases this
   have b7:(id==L.g)=false:=by simp[hig]
   have b8:(h1.length==L.g)=false:=by have:=hs1.rlt _ _ hs1.rg;simp;omega
   have eln:S1.ln=S.ln:=sc1.ln;have hln1:S1.ln.length≤100000000:=by rw[eln];exact hln
   have hrl:((List.range S1.ln.length).map (lnV L S1)).length=S1.ln.length:=by simp
   have hdl:V.drops (fun x=>x==L.g) ((List.range S1.ln.length).map (lnV L S1))=(List.range S1.ln.length).map (lnV L S1):=dD fun x hx=>by obtain⟨i,hi,rfl⟩:=zrh.1 hx;exact bf (nb (hs1.lnk i (List.mem_range.1 hi)).2 (by simp))
   refine ag ?_;refine cu mixed Md (fun f' h'=>f'.t 0= .lp L.s 0∧f'.t 4= .ls id 1 0 out.length out.length∧f'.t 5=vi k∧f'.d=[]∧(∀q,f'.k q=true→p1 q=true∨q=L.g)∧HS n bud (BZ L S1.ln.length h1.length) (lnS S1 out) h'∧h'[id]? =some (.cells (out.map vi))∧h1.length≤h'.length) (by decide +kernel) (by decide +kernel) ?_ ?_
   ·simp only [wq.1,seval,-Int.reduceNatCast,-Int.reduceNatCast',au,Tryz.results154,Md,hp1s,hsol1,ay];refine ⟨wE hh1 honn (by omega) ?_,wE hh1 honn (by omega) ?_⟩
    all_goals
     rw[←ehB];simp only[wq.1,↓reduceIte,Nat.reduceEqDiff,Nat.reduceLT,Nat.reduceLeDiff,Nat.reduceAdd,Nat.reduceSub,Int.reduceToNat,Nat.reduceDiv,Int.reduceLT,Int.reduceLE,Int.reduceNeg,Int.reduceBEq,Int.reduceBNe,Int.reduceAdd,Int.reduceSub,Nat.reduceBEq,reduceCtorEq,Nat.reduceMul,au,Tryz.results154,Md,aW,hp1s,hsolA,ay,hlnA,hrl,hdl,b1,b2,b3,b4,b5,b6,b7,b8,hlgA,hlsA,zqt,zqn,hgs,ne_eq,not_false_eq_true,zrn,zra,zqo]
    all_goals
     refine⟨⟨rfl,by decide⟩,⟨by simp,by omega,by omega⟩,fun q hq=>(Bool.or_eq_true_iff.1 hq).imp (fun h=>h) (by simp),hP,?_,by omega⟩;rw[zqn his.symm,zqn hig.symm,zqo,hAi,zrw,bH,bu]
   ·rintro f2 h2 ⟨g0,g4,g5,gd,gk,hs2,hh2,hl2⟩;have lr := lr1.sco sc1;have i1' : Inv n l d S1.ln S1 := by rw [eln];exact i1
    obtain⟨X,eX⟩:∃X,X=lnS S1 out:=⟨_,rfl⟩;obtain⟨L2,eL2⟩:∃L2,L2=BZ L S1.ln.length h1.length:=⟨_,rfl⟩;rw[←eX,←eL2]at hs2;have lx2:LX S.nc L L2:=by rw[eL2];exact L9 hro2
    have hro3:L2.ro id=none:=by rw[eL2];show(if id=h1.length then some (Ro.k S1.ln.length)else L.ro id)=none;rw[if_neg (by omega)];exact hro1
    obtain⟨b0,eb0⟩:∃b0,b0=S1.lv.getD k 0:=⟨_,rfl⟩;have hkl:k<S1.lv.length:=by rw[sc1.lv];exact lr1.klt
    have hb0:b0≤S1.tr.length:=by rw[eb0,iW hkl];have h1:=i1.t.lvh _ (zqu hkl);have h2:=i1.t.hdl;omega
    have eXtr:X.tr=S1.tr:=by rw[eX];rfl
    have eXlv:X.lv=S1.lv:=by rw[eX];rfl
    have eXnx:X.nx=S1.nx:=by rw[eX];rfl
    have eXv:X.v=S1.v:=by rw[eX];rfl
    have eXnc:X.nc=S.nc:=by rw[eX];exact sc1.nc
    have htl1:=i1.t.len;have hlv1:=i1.t.lvlen;have hlv2:S1.lv.length≤S1.tr.length:=fQ (i1.t.lvs.imp fun h=>by omega) fun x hx=>i1.lt x hx;have fin:∀nx:List (Int×Int),nx.Perm (S1.nx++(S1.tr.drop b0).map fun a=>((a.natAbs:Int),(S1.v a.natAbs).score))→(∀x∈S1.nx,x∈nx)∧(∀a∈S1.tr.drop (S1.lv.getD k 0),((a.natAbs:Int),(S1.v a.natAbs).score)∈nx)∧(∀x∈nx,x∈S1.nx∨∃a∈S1.tr.drop (S1.lv.getD k 0),x.1=a.natAbs)∧nx.length≤S.nx.length+n:=by
     intro nx hp;rw[←eb0];refine⟨fun x hx=>hp.mem_iff.2 (List.mem_append_left _ hx),fun a ha=>hp.mem_iff.2 (List.mem_append_right _ (zrh.2 ⟨a,ha,rfl⟩)),fun x hx=> ?_,?_⟩
     ·rcases zrf.1 (hp.mem_iff.1 hx) with hx | hx
      ·exact .inl hx
      ·obtain⟨a,ha,rfl⟩:=zrh.1 hx;exact .inr ⟨a,ha,rfl⟩
     ·have:=hp.length_eq;rw[zqa,zra,List.length_drop,sc1.nx]at this;omega
    have dx1:DX L p1:=fun q r hq hpq=>by rw[hp1 q hpq]at hq;cases hq
    obtain⟨nbk,nbl,nbh,nbd,nbt⟩:k<X.lv.length∧X.lv.getD k 0=b0∧b0≤X.tr.length∧(X.tr.map Int.natAbs).Nodup∧(∀a∈X.tr,a.natAbs≤n):=⟨by rw[eXlv];exact hkl,by rw[eXlv];exact eb0.symm,by rw[eXtr];exact hb0,by rw[eXtr];exact i1.t.nd,fun a ha=>(i1.t.rng a (by rw[←eXtr];exact ha)).2⟩;have nbx:X.nx.length≤10000000000:=by rw[eXnx,sc1.nx];omega
    have nbr:X.tr.length≤20000:=by rw[eXtr];omega
    have nbv:X.lv.length≤20000:=by rw[eXlv];omega
    have hL2s:L2.s=L.s:=lx2.s;have sne:L2.s≠L2.x:=bg L2 hs2.rs hs2.rx (by simp);have ine:id≠L2.x:=fun e=>by have:=hs2.rx;rw[←e,hro3]at this;cases this
    have pback:∀p3:Nat→Bool,(∀q,p3 q=true→q=L2.x)→p3 L.s=false∧p3 id=false∧DX L p3:=fun p3 hp=>by
     refine⟨?_,?_,fun q r hq hpq=> ?_⟩
     ·cases e:p3 L.s with
      | false=>rfl
      | true=>exact absurd (hp _ e) (hL2s▸sne)
     ·cases e:p3 id with
      | false=>rfl
      | true=>exact absurd (hp _ e) ine
     ·have:=hp q hpq;rw[lx2.x]at this;subst this;rw[hs.rx]at hq;cases hq;exact .inr (.inr (.inl rfl))
    have dxk:DX L f2.k:=fun q r hq hpq=>(gk q hpq).elim (fun h=>dx1 q r hq h) fun h=>by subst h;rw[hs.rg]at hq;cases hq;exact .inr (.inr (.inr (.inl rfl)))
    show awp _ _ _ _ _ _ _
    match rest,eout with
    | [],eout =>
     have hX:=hs2.layE hro3 hh2 (Tf _ _);obtain⟨L3,eL3⟩:∃L3,L3=Jy L2 id (.cells (out.map vi)):=⟨_,rfl⟩;have lx3:LX S.nc L2 L3:=by rw[eL3];exact pW hro3
     rw[←eL3]at hX;have hidE:L3.ro id=some (.e (.cells (out.map vi))):=by rw[eL3];exact if_pos rfl
     have eol:out.length=1:=by rw[eout];rfl
     have hz:(((out.length:Nat):Int)==1)=true:=by rw[eol];rfl
     have hg0:(out.map vi).getD 0 .any=vi (-pv):=by rw[eout];rfl
     have hpn:(-pv).natAbs≤n:=(lr1.rng (-pv) (by rw[eout];simp)).2;refine vm ?_;simp only[wq.1,seval,g0,g5];rw[←hL2s,←lx3.s];refine sH hX hn nbk nbl nbh nbr nbv nbd nbt nbx fun nx h3 p3 hp3 hs3 hl3 hd3=> ?_;obtain⟨q1,q2,q3⟩:=pback p3 fun q hq=>(hd3 q hq).trans lx3.x;rw[←hL2s,←lx3.s]at q1;have g0:f2.t 0= .lp L3.s 0:=by rw[g0,lx3.s,hL2s]
     have hid3:h3[id]? =some (.cells (out.map vi)):=(hs3.ext _ _ hidE).1;rw[eXtr,eXv,eXnx]at hp3;obtain⟨m1,m2,m3,m4⟩:=fin nx hp3;simp only[wq.1,seval,aW,q1,q2,g0,g4,gd,hz,hid3,hg0];refine⟨by omega,by simp[eol],?_⟩;have htr3:(eu X k nx).tr.length≤20000:=by show(X.tr.take (X.lv.getD k 0)).length≤_;rw[zrl];omega
     refine jP hs3 hn (a:=-pv) hpn htr3 none (fun _ h=>by cases h) fun h4 p4 hs4 hp4 hl4=> ?_;simp only[wq.1,aW,gd];have hi:=(BL i1' lr m1 m2 m3).1 (-pv) eout;rw[←eX]at hi;refine r3 (jL (eu X k nx) (-pv) none) L3 h4 _ out (by omega) (by rw[show(jL (eu X k nx) (-pv) none).ln=S1.ln++[out] by rw[eX];rfl];exact hi) (by rw[←eln,eX];rfl) m4 (by show X.nc≤_;omega) (lx2.trans lx3) hs4 (by omega) ((dxk.or q3).or (fun q r hq hpq=> ?_));have:=hp4 q hpq;rw[(lx2.trans lx3).t]at this;subst this;rw[hs.rt]at hq;cases hq;exact .inl rfl
    | b::r,eout =>
     have hX:=hs2.newC hro3 hh2;obtain⟨L3,eL3⟩:∃L3,L3=EM L2 X.nc id:=⟨_,rfl⟩;have lx3:LX X.nc L2 L3:=by rw[eL3];exact wC hro3
     have hcid:L3.c X.nc=id:=by rw[eL3];exact if_pos rfl
     rw[←eL3]at hX;have eol:out.length=r.length+2:=by rw[eout];rfl
     have hz:(((out.length:Nat):Int)==1)=false:=by rw[beq_eq_false_iff_ne];omega
     have hg0:(out.map vi).getD 0 .any=vi (-pv):=by rw[eout];rfl
     have hpn:(-pv).natAbs≤n:=(lr1.rng (-pv) (by rw[eout];simp)).2;have hpb:-pv≠b:=by have:=lr1.nd;rw[eout]at this;simp only[zrd,List.nodup_cons,zrj,not_or]at this;exact fun e=>this.1.1 (by rw[e])
     refine vm ?_;simp only[wq.1,seval,g0,g5];rw[←hL2s,←lx3.s];refine sH hX hn nbk nbl nbh nbr nbv nbd nbt nbx fun nx h3 p3 hp3 hs3 hl3 hd3=> ?_;obtain⟨q1,q2,q3⟩:=pback p3 fun q hq=>(hd3 q hq).trans lx3.x;rw[←hL2s,←lx3.s]at q1;have g0:f2.t 0= .lp L3.s 0:=by rw[g0,lx3.s,hL2s]
     have hp3:nx.Perm (X.nx++(X.tr.drop b0).map fun a=>((a.natAbs:Int),(X.v a.natAbs).score)):=hp3;rw[eXtr,eXv,eXnx]at hp3;obtain⟨m1,m2,m3,m4⟩:=fin nx hp3;obtain⟨Y,eY⟩:∃Y,Y=eu X k nx:=⟨_,rfl⟩;have hs3:HS n bud L3 (BX Y out) h3:=by rw[eY];exact hs3
     have eYnc:Y.nc=X.nc:=by rw[eY];rfl
     rw[←eYnc]at hcid;have hclv:V.ls id 1 0 out.length out.length=clV L3 (BX Y out) Y.nc:=by
      unfold clV;rw[hcid,show(BX Y out).cl Y.nc=out from aO _ _ _]
     simp only[wq.1,seval,aW,q1,q2,g0,g4,gd,hz];have hcl2:(BX Y out).cl Y.nc=out:=aO _ _ _;have hwt:∀a,((BX Y out).wt a).length≤1000000:=fun a=>by
      have h1:=i1.wlen a;have e:(BX Y out).wt a=S1.wt a:=by rw[eY,eX];rfl
      rw[e];have:=sc1.nc;omega
     rw[hclv];refine wB hs3 (Nat.lt_succ_self _) (by rw[hcl2];omega) (by rw[hcl2];omega) hwt fun L4 h4 p4 lx4 hs4 hl4 hp4=> ?_;have hro4:L3.ro id=some (.c X.nc):=by rw[eL3];exact if_pos rfl
     have r1:p4 L3.s=false:=by
      cases e:p4 L3.s with
      | false=>rfl
      | true=>obtain⟨a,ha⟩:=hp4 _ e;rw[lx4.ro _ _ hX.rs]at ha;cases ha
     have r2:p4 id=false:=by
      cases e:p4 id with
      | false=>rfl
      | true=>obtain⟨a,ha⟩:=hp4 _ e;rw[lx4.ro _ _ hro4]at ha;cases ha
     rw[hcl2,eout,tZ Y hpb,←eout]at hs4;have hc4:L4.c Y.nc=id:=(lx4.c _ (Nat.lt_succ_self _)).trans hcid;have hid4:h4[id]? =some (.cells (out.map vi)):=by
      have:=(hs4.cla Y.nc (Nat.lt_succ_self _)).1;rw[hc4,show(dY Y out).cl Y.nc=out from aO _ _ _]at this;exact this
     rw[←hclv];simp only[wq.1,seval,aW,r1,r2,q1,q2,g0,g4,gd,hid4,hg0];have hre:V.ls id 1 0 out.length out.length=reV L4 (dY Y out) (some Y.nc):=by
      show _=clV L4 (dY Y out) Y.nc;unfold clV;rw[hc4,show(dY Y out).cl Y.nc=out from aO _ _ _]
     have htr4:(dY Y out).tr.length≤20000:=by rw[eY];show(X.tr.take (X.lv.getD k 0)).length≤_;rw[zrl];omega
     rw[hre,←lx4.s];refine⟨by omega,by omega,?_⟩;refine jP hs4 hn (a:=-pv) hpn htr4 (some Y.nc) (fun _ h=>by cases h;exact Nat.lt_succ_self _) fun h5 p5 hs5 hp5 hl5=> ?_;simp only[wq.1,aW,gd];have hi:=(BL i1' lr m1 m2 m3).2 (-pv) b r eout;rw[←eX,←eY]at hi;have eYc:Y.nc=S.nc:=by rw[eYnc,eXnc]
     have hi:Inv n l d (S1.ln++[out]) (jL (dY Y out) (-pv) (some Y.nc)):=by rw[eYc,←sc1.nc];exact hi
     have lx3':LX S.nc L2 L3:=lx3.mono (by omega);have lx4':LX S.nc L3 L4:=lx4.mono (by show S.nc≤Y.nc+1;omega);have lxa:=(lx2.trans lx3').trans lx4';refine r3 (jL (dY Y out) (-pv) (some Y.nc)) L4 h5 _ out (by omega) (by rw[show(jL (dY Y out) (-pv) (some Y.nc)).ln=S1.ln++[out] by rw[eY,eX];rfl];exact hi) (by rw[←eln,eY,eX];rfl) (by rw[eY];exact m4) (by show Y.nc+1≤_;omega) lxa hs5 (by omega) (((dxk.or q3).or (fun q r hq hpq=> ?_)).or (fun q r hq hpq=> ?_))
     ·obtain⟨a,ha⟩:=hp4 q hpq;rw[lxa.ro _ _ hq]at ha;cases ha;exact .inr (.inr (.inr (.inr ⟨a,rfl⟩)))
     ·have:=hp5 q hpq;rw[lxa.t]at this;subst this;rw[hs.rt]at hq;cases hq;exact .inl rfl
end
section
variable {n:Nat} {bud:Int} {L:Lay} {S:St} {h:H} {a:Int} {j:Nat} {l d Lc:List Cl}
def reE (L:Lay) (id:Nat) (o:O):Lay:={L with ro:=fun i=>if i=id then some (.e o)else L.ro i}
theorem Ext.re {id:Nat} {o o' q:O} (hid:L.ro id=some (.e o)) (h:Ext L q):Ext (reE L id o') q:=fun p hp=>h p fun i r hi hpi=>by
 by_cases he:i=id
 ·subst he;have:=hp i (.e o') (if_pos rfl) hpi;simp at this
 ·exact hp i r (by show(if i=id then some (Ro.e o')else L.ro i)=some r;rw[if_neg he];exact hi) hpi
theorem HS.re (hs:HS n bud L S h) {id:Nat} {o o':O} (hid:L.ro id=some (.e o)) (he:Ext L o'):HS n bud (reE L id o') S (h.set id o'):=by
 have ne:∀ {i r},L.ro i=some r→r≠ .e o→i≠id:=fun hi hr e=>hr (by rw[e,hid]at hi;exact(Option.some.inj hi).symm);have RO:∀ {i:Nat} {r:Ro},L.ro i=some r→r≠ .e o→(reE L id o').ro i=some r:=fun hi hr=>by show(if _=id then some (Ro.e o')else L.ro _)=_;rw[if_neg (ne hi hr)];exact hi
 have G:∀ {i:Nat} {r:Ro},L.ro i=some r→r≠ .e o→(h.set id o')[i]? =h[i]? :=fun hi hr=>zqn (ne hi hr).symm;have k:=hs.toHR;refine⟨{var:=(G k.rv (by simp)).trans k.var,map:= ?_,trl:=(G k.rt (by simp)).trans k.trl,lvl:=(G k.rl (by simp)).trans k.lvl,nxl:=(G k.rx (by simp)).trans k.nxl,lnl:=(G k.rg (by simp)).trans k.lnl,lnk:=fun i hi=>⟨(G (k.lnk i hi).2 (by simp)).trans (k.lnk i hi).1,RO (k.lnk i hi).2 (by simp)⟩,cla:=fun q hq=>⟨(G (k.cla q hq).2 (by simp)).trans (k.cla q hq).1,RO (k.cla q hq).2 (by simp)⟩,wat:=fun b=> ?_,fre:=k.fre,fwt:=k.fwt,rs:=RO k.rs (by simp),rv:=RO k.rv (by simp),rm:=RO k.rm (by simp),rt:=RO k.rt (by simp),rl:=RO k.rl (by simp),rx:=RO k.rx (by simp),rg:=RO k.rg (by simp),rlt:=fun i r hr=> ?_,ext:=fun i q hq=> ?_},(G k.rs (by simp)).trans hs.sol⟩
 ·obtain⟨ks,h1,h2⟩:=k.map;exact⟨ks,(G k.rm (by simp)).trans h1,h2⟩
 ·have kw:=k.wat b;unfold gp at kw ⊢;rw[show(reE L id o').w b=L.w b from rfl];cases hw:L.w b with
  | none=>rw[hw]at kw;exact kw
  | some i=>rw[hw]at kw;exact⟨(G kw.2 (by simp)).trans kw.1,RO kw.2 (by simp)⟩
 ·have hr : (if i = id then some (Ro.e o') else L.ro i) = some r := hr;rw [zrn];split at hr
  ·rename_i e;rw[e];exact k.rlt _ _ hid
  ·exact k.rlt i r hr
 ·have hq' : (if i = id then some (Ro.e o') else L.ro i) = some (.e q) := hq;split at hq'
  ·rename_i e;cases hq';subst e;exact⟨zqt (k.rlt _ _ hid),he.re hid⟩
  ·rename_i e;exact⟨(zqn (Ne.symm e)).trans (k.ext i q hq').1,(k.ext i q hq').2.re hid⟩
theorem Gq {id:Nat} {o:O}:(reE L id o).ro id=some (.e o):=if_pos rfl
theorem wG {id i:Nat} {o:O} (hi:i≠id):(reE L id o).ro i=L.ro i:=if_neg hi
theorem DX.re {id:Nat} {o o':O} {p:Nat→Bool} (hid:L.ro id=some (.e o)):DX (reE L id o') p→DX L p:=fun hp i r hi hpi=>by
 by_cases he:i=id
 ·subst he;have:=hp i (.e o') Gq hpi;simp at this
 ·exact hp i r (by rw[wG he];exact hi) hpi
theorem DX.e {p:Nat→Bool} (hp:DX L p) {id:Nat} {o:O} (hid:L.ro id=some (.e o)):p id=false:=by
 cases e:p id with
 | false=>rfl
 | true=>have:=hp _ _ hid e;simp at this
theorem DX.s {p:Nat→Bool} (hp:DX L p) (hs:HR n L S h):p L.s=false:=by
 cases e:p L.s with
 | false=>rfl
 | true=>have:=hp _ _ hs.rs e;simp at this
end
end Go.Proofs.YtmlacppmbfbjgaaGreatDoor
