/- Lemmas for this claim, part F07: each holds under what it names. -/
import Derived.Test.YtmlacppmbfbjgaaGreatDoorF06
set_option linter.unusedVariables false
set_option linter.unusedSimpArgs false
set_option linter.unnecessarySimpa false
set_option maxRecDepth 20000
namespace Go.Proofs.YtmlacppmbfbjgaaGreatDoor
open Go Go.Proofs Go.Abs
section
variable {n:Nat} {bud:Int} {L:Lay} {S:St} {h:H} {a:Int} {j:Nat} {l d Lc:List Cl}
theorem LX.mono {m k:Nat} {A B:Lay} (p:LX k A B) (h:m≤k):LX m A B:=⟨p.s,p.v,p.m,p.t,p.l,p.x,p.g,fun j hj=>p.c j (Nat.lt_of_lt_of_le hj h),p.w,p.ro⟩
def VW (L:Lay) (h:H) (x:V) (c:Cl):Prop:=(x= .nils∧c=[])∨∃id,x= .ls id 1 0 c.length c.length∧h[id]? =some (.cells (c.map vi))∧L.ro id=none
theorem VW.at {x:V} {c:Cl} (h1:VW L h x c):CAt h x c:=h1.elim .inl fun⟨id,h2,h3,_⟩=> .inr ⟨id,h2,h3⟩
theorem Lu (hs : HS n bud L S h) (hn : n ≤ 20000) (hnc : S.nc ≤ 800000) {c : Cl} (i0 : Inv n l d Lc S) (hcl : c ∈ l) (hcr : ∀ a ∈ c,a ≠ 0 ∧ a.natAbs ≤ n) (hcn : c.length ≤ 1000) (hlv : S.lv = []) (hhd : S.hd = 0) {R : AEnd → H → (Nat → Bool) → Prop}
 (r1:∀S' L' h' p,Inv n l (d++[c]) Lc S'→S'.lv=[]→S'.hd=0→S'.nc≤S.nc+1→S'.nx=S.nx→S'.ln=S.ln→LX S.nc L L'→HS n bud L' S' h'→h.length≤h'.length→(∀q,p q=true→L.ro q=none∨(∃a,L'.ro q=some (.w a))∨q=L.t)→R (.ret (.tup [])) h' p)
 (r2:∀h' p,Bad (l++S.ln) []→HS n bud L S h'→h.length≤h'.length→(∀q,p q=true→L.ro q=none)→R (.pan (.iface 197 (.agg [vi 0]))) h' p) :
 ah TE 123 [.lp L.s 0,aG c] h R:=by
 have hM : maxLen = 9223372036854775807 := rfl;have hli : (aG c) = .is false 1 (c.map vi) := rfl;refine au Tryz.func123 rfl (by simp [nts]) (vm ?_);simp only [wq.1,seval,Tryz.results123,hli];refine aA (fun m f h' => ∃ (i : Nat) (e : Cl) (x : V),m + i = c.length ∧ ddp [] c = ddp e (c.drop i) ∧ e.length ≤ i ∧ f.t 0 = .lp L.s 0 ∧ f.t 4 = x ∧ VW L h' x e ∧ f.t 7 = .is false 1 (c.map vi) ∧ f.t 8 = vi c.length ∧ f.t 9 = vi i ∧ f.d = [] ∧ (∀ q,f.k q = true → L.ro q = none) ∧ HS n bud L S h' ∧ h.length ≤ h'.length) c.length
  ⟨0,[],.nils,rfl,rfl,Nat.le_refl _,by simp only[wq.1,seval],by simp only[wq.1,seval],.inl ⟨rfl,rfl⟩,by simp only[wq.1,seval],by simp only[wq.1,seval];try rfl,by simp only[wq.1,↓reduceIte];try rfl,by simp only[wq.1];try rfl,(fun q hq=>absurd hq Bool.false_ne_true),hs,Nat.le_refl _⟩ ?_
 rintro m f h1 ⟨i,e,x,hm,hdd,hei,g0,g4,hx,g7,g8,g9,gd,gk,hs1,hl1⟩;by_cases hi:i<c.length
 ·have eb : decide ((i : Int) < (c.length : Int)) = true := by rw [decide_eq_true_eq];omega
  obtain⟨a,ea⟩:∃a,a=c[i]:=⟨_,rfl⟩;have hg:(c.map vi).getD i .any=vi a:=by rw[ea];simp[List.getD_eq_getElem?_getD,hi]
  have hlm:(c.map vi).length=c.length:=List.length_map ..;have edr:c.drop i=a::c.drop (i+1):=by rw[ea];exact List.drop_eq_getElem_cons hi
  obtain⟨ha0,han⟩:=hcr a (ea▸List.getElem_mem hi);have hwn:IntKind.i64.wrap (0-a)=-a:=by rw[aX (by omega) (by omega)];omega
  have hws:IntKind.i64.wrap ((i:Int)+1)=((i+1:Nat):Int):=by rw[aX (by omega) (by omega)];omega
  have hat:=hx.at;rw[edr]at hdd;have hdd:ddp [] c=(if -a∈e then none else if a∈e then ddp e (c.drop (i+1))else ddp (e++[a]) (c.drop (i+1))):=hdd;rcases hx with⟨rfl,rfl⟩ | ⟨id,rfl,hid,hro⟩
  ·rw [if_neg (by simp),if_neg (by simp),List.nil_append] at hdd;have d1 : decide (-a ∈ ([] : Cl)) = false := by simp
   have d2:decide (a∈([]:Cl))=false:=by simp
   refine vm ?_;simp only[wq.1,seval,g4,g7,g8,g9,eb,hg];refine⟨⟨by omega,by omega⟩,?_⟩;simp only[wq.1,hwn];refine dY hat (by simp) ?_;simp only[wq.1,seval,g4];refine dY hat (by simp) ?_;simp only[wq.1,↓reduceIte,Nat.reduceEqDiff,Nat.reduceLT,Nat.reduceLeDiff,reduceCtorEq,Nat.reduceMul,g4,g9,hws];refine⟨⟨rfl,by decide⟩,by decide,.inl ⟨m-1,by omega,i+1,[a],.ls h1.length 1 0 1 1,by omega,hdd,by simp,by simp only[wq.1,↓reduceIte,Nat.reduceEqDiff,Nat.reduceLT,Nat.reduceLeDiff,Nat.reduceAdd,Nat.reduceSub,Int.reduceToNat,Nat.reduceDiv,Int.reduceLT,Int.reduceLE,Int.reduceNeg,Int.reduceBEq,Int.reduceBNe,Int.reduceAdd,Int.reduceSub,Nat.reduceBEq,reduceCtorEq,Nat.reduceMul,ay,Tryz.results123,g0],by simp only[wq.1,↓reduceIte,Nat.reduceEqDiff,Nat.reduceLT,Nat.reduceLeDiff,Nat.reduceAdd,Nat.reduceSub,Int.reduceToNat,Nat.reduceDiv,Int.reduceLT,Int.reduceLE,Int.reduceNeg,Int.reduceBEq,Int.reduceBNe,Int.reduceAdd,Int.reduceSub,Nat.reduceBEq,reduceCtorEq,Nat.reduceMul,ay,Tryz.results123],.inr ⟨h1.length,rfl,by simp,Lj hs1⟩,by simp only[wq.1,↓reduceIte,Nat.reduceEqDiff,Nat.reduceLT,Nat.reduceLeDiff,Nat.reduceAdd,Nat.reduceSub,Int.reduceToNat,Nat.reduceDiv,Int.reduceLT,Int.reduceLE,Int.reduceNeg,Int.reduceBEq,Int.reduceBNe,Int.reduceAdd,Int.reduceSub,Nat.reduceBEq,reduceCtorEq,Nat.reduceMul,ay,Tryz.results123,g7],by simp only[wq.1,↓reduceIte,Nat.reduceEqDiff,Nat.reduceLT,Nat.reduceLeDiff,Nat.reduceAdd,Nat.reduceSub,Int.reduceToNat,Nat.reduceDiv,Int.reduceLT,Int.reduceLE,Int.reduceNeg,Int.reduceBEq,Int.reduceBNe,Int.reduceAdd,Int.reduceSub,Nat.reduceBEq,reduceCtorEq,Nat.reduceMul,ay,Tryz.results123,g8],by simp only[wq.1,↓reduceIte,Nat.reduceEqDiff,Nat.reduceLT,Nat.reduceLeDiff,Nat.reduceAdd,Nat.reduceSub,Int.reduceToNat,Nat.reduceDiv,Int.reduceLT,Int.reduceLE,Int.reduceNeg,Int.reduceBEq,Int.reduceBNe,Int.reduceAdd,Int.reduceSub,Nat.reduceBEq,reduceCtorEq,Nat.reduceMul,ay,Tryz.results123],by simp only[wq.1,↓reduceIte,Nat.reduceEqDiff,Nat.reduceLT,Nat.reduceLeDiff,Nat.reduceAdd,Nat.reduceSub,Int.reduceToNat,Nat.reduceDiv,Int.reduceLT,Int.reduceLE,Int.reduceNeg,Int.reduceBEq,Int.reduceBNe,Int.reduceAdd,Int.reduceSub,Nat.reduceBEq,reduceCtorEq,Nat.reduceMul,ay,Tryz.results123,gd],gk,hs1.app _,by simp;omega⟩⟩
  ·have hem : (e.map vi).length = e.length := List.length_map ..;by_cases d1 : -a ∈ e
   ·have d1b:decide (-a∈e)=true:=decide_eq_true d1;rw[if_pos d1]at hdd;refine vm ?_;simp only[wq.1,seval,g4,g7,g8,g9,eb,hg];refine⟨⟨by omega,by omega⟩,?_⟩;simp only[wq.1,hwn];refine dY hat (by omega) ?_;simp only[wq.1,↓reduceIte,d1b,gd];exact r1 S L h1 f.k (OZ i0 hdd) hlv hhd (Nat.le_succ _) rfl rfl (LX.refl _ L) hs1 hl1 fun q hq=> .inl (gk q hq)
   ·have d1b : decide (-a ∈ e) = false := decide_eq_false d1;rw [if_neg d1] at hdd;by_cases d2 : a ∈ e
    ·have d2b:decide (a∈e)=true:=decide_eq_true d2;rw[if_pos d2]at hdd;refine vm ?_;simp only[wq.1,seval,g4,g7,g8,g9,eb,hg];refine⟨⟨by omega,by omega⟩,?_⟩;simp only[wq.1,hwn];refine dY hat (by omega) ?_;simp only[wq.1,seval,d1b,g4];refine dY hat (by omega) ?_;simp only[wq.1,seval,d2b,g9,hws];exact .inl ⟨m-1,by omega,i+1,e,.ls id 1 0 e.length e.length,by omega,hdd,by omega,by simp only[wq.1,seval,g0],by simp only[wq.1,seval,g4],.inr ⟨id,rfl,hid,hro⟩,by simp only[wq.1,seval,g7],by simp only[wq.1,seval,g8],by simp only[wq.1,↓reduceIte],by simp only[wq.1,gd],gk,hs1,hl1⟩
    ·have d2b : decide (a ∈ e) = false := decide_eq_false d2;rw [if_neg d2] at hdd;have hne : ∀ {i r},L.ro i = some r → (i == id) = false := fun {i r} hi => by simp only [beq_eq_false_iff_ne];rintro rfl;rw [hro] at hi;cases hi
     have hdv:V.drops (fun x=>x==id) (e.map vi)=e.map vi:=bg _;have bs:=hne hs1.rs;have hD:HS n bud L S ((List.map (O.drop fun x=>x==id) h1).set id (.cells (e.map vi++[vi a]))) :=
      (hs1.dropN (p:=fun x=>x==id) fun i r hi=>hne hi).congr (fun i r hi=>List.getElem?_set_ne fun e=>by rw[←e,hro]at hi;cases hi) (by simp)
     have hil:=(List.getElem?_eq_some_iff.1 hid).1;refine vm ?_;simp only[wq.1,seval,g4,g7,g8,g9,eb,hg];refine⟨⟨by omega,by omega⟩,?_⟩;simp only[wq.1,hwn];refine dY hat (by omega) ?_;simp only[wq.1,seval,d1b,g4];refine dY hat (by omega) ?_;simp only[wq.1,↓reduceIte,Nat.reduceEqDiff,Nat.reduceLT,reduceCtorEq,Nat.reduceMul,d2b,g4,g9,gd,hws,hid,hdv];refine⟨⟨rfl,by decide⟩,⟨by omega,by omega,by omega⟩,.inl ⟨m-1,by omega,i+1,e++[a],.ls id 1 0 (e.length+1) (e.length+1),by omega,hdd,by simp;omega,by simp only[wq.1,↓reduceIte,Nat.reduceEqDiff,Nat.reduceLT,Nat.reduceLeDiff,Nat.reduceAdd,Nat.reduceSub,Int.reduceToNat,Nat.reduceDiv,Int.reduceLT,Int.reduceLE,Int.reduceNeg,Int.reduceBEq,Int.reduceBNe,Int.reduceAdd,Int.reduceSub,Nat.reduceBEq,reduceCtorEq,Nat.reduceMul,ay,Tryz.results123,g0,bs],by simp only[wq.1,↓reduceIte,Nat.reduceEqDiff,Nat.reduceLT,Nat.reduceLeDiff,Nat.reduceAdd,Nat.reduceSub,Int.reduceToNat,Nat.reduceDiv,Int.reduceLT,Int.reduceLE,Int.reduceNeg,Int.reduceBEq,Int.reduceBNe,Int.reduceAdd,Int.reduceSub,Nat.reduceBEq,reduceCtorEq,Nat.reduceMul,ay,Tryz.results123],.inr ⟨id,by simp,?_,hro⟩,by simp only[wq.1,↓reduceIte,Nat.reduceEqDiff,Nat.reduceLT,Nat.reduceLeDiff,Nat.reduceAdd,Nat.reduceSub,Int.reduceToNat,Nat.reduceDiv,Int.reduceLT,Int.reduceLE,Int.reduceNeg,Int.reduceBEq,Int.reduceBNe,Int.reduceAdd,Int.reduceSub,Nat.reduceBEq,reduceCtorEq,Nat.reduceMul,ay,Tryz.results123,g7],by simp only[wq.1,↓reduceIte,Nat.reduceEqDiff,Nat.reduceLT,Nat.reduceLeDiff,Nat.reduceAdd,Nat.reduceSub,Int.reduceToNat,Nat.reduceDiv,Int.reduceLT,Int.reduceLE,Int.reduceNeg,Int.reduceBEq,Int.reduceBNe,Int.reduceAdd,Int.reduceSub,Nat.reduceBEq,reduceCtorEq,Nat.reduceMul,ay,Tryz.results123,g8],by simp only[wq.1,↓reduceIte,Nat.reduceEqDiff,Nat.reduceLT,Nat.reduceLeDiff,Nat.reduceAdd,Nat.reduceSub,Int.reduceToNat,Nat.reduceDiv,Int.reduceLT,Int.reduceLE,Int.reduceNeg,Int.reduceBEq,Int.reduceBNe,Int.reduceAdd,Int.reduceSub,Nat.reduceBEq,reduceCtorEq,Nat.reduceMul,ay,Tryz.results123],by simp only[wq.1,↓reduceIte,Nat.reduceEqDiff,Nat.reduceLT,Nat.reduceLeDiff,Nat.reduceAdd,Nat.reduceSub,Int.reduceToNat,Nat.reduceDiv,Int.reduceLT,Int.reduceLE,Int.reduceNeg,Int.reduceBEq,Int.reduceBNe,Int.reduceAdd,Int.reduceSub,Nat.reduceBEq,reduceCtorEq,Nat.reduceMul,ay,Tryz.results123,gd],fun q hq=> ?_,hD,by simp;omega⟩⟩
     ·rw[List.getElem?_set_self (by simpa using hil)];simp
     ·rcases Bool.or_eq_true_iff.1 hq with hq | hq
      ·exact gk q hq
      ·rw[show q=id by simpa using hq];exact hro
 ·have eb : decide ((i : Int) < (c.length : Int)) = false := by rw [decide_eq_false_iff_not];omega
  rw[List.drop_of_length_le (by omega)]at hdd;have hdd:ddp [] c=some e:=hdd;refine vm ?_;rcases hx with⟨rfl,rfl⟩ | ⟨id,rfl,hid,hro⟩
  ·have z0:((0:Int)==0)=true:=rfl;simp only[wq.1,seval,g4,g8,g9,gd,eb,uO];refine⟨by decide,?_⟩;exact r2 h1 f.k (BB hcr hcl hdd) hs1 hl1 gk
  ·by_cases he0 : e = []
   ·subst he0;have z0:(((0:Nat):Int)==0)=true:=rfl;simp only[wq.1,seval,g4,g8,g9,gd,eb,z0,uO];refine⟨by decide,?_⟩;exact r2 h1 f.k (BB hcr hcl hdd) hs1 hl1 gk
   ·have hep := List.length_pos_iff.2 he0;have z0 : ((e.length : Int) == 0) = false := by rw [beq_eq_false_iff_ne];omega
    obtain⟨hen,hem⟩:=oG (by simp) (fun a ha=>(hcr a ha).1) hdd;have hec:∀a∈e,a∈c:=fun a ha=>by simpa using(hem a).1 ha
    by_cases he2:2≤e.length
    ·have z1 : decide ((1 : Int) < (e.length : Int)) = true := by rw [decide_eq_true_eq];omega
     simp only[wq.1,seval,g0,g4,g8,g9,eb,z0,z1];obtain⟨u,w,r,rfl⟩:∃u w r,e=u::w::r:=by
      match e,he2 with
      | u::w::r,_=>exact⟨u,w,r,rfl⟩
     have huw:u≠w:=by rintro rfl;simp at hen
     have hC:=hs1.newC hro hid;have ev:V.ls id 1 0 (u::w::r).length (u::w::r).length=clV (En L S.nc id) (BK S (u::w::r)) S.nc:=by unfold clV;rw[show(En L S.nc id).c S.nc=id from if_pos rfl,show(BK S (u::w::r)).cl S.nc=u::w::r from aO _ _ _]
     have hc2:(BK S (u::w::r)).cl S.nc=u::w::r:=aO _ _ _;rw[ev];refine vP hC (Nat.lt_succ_self _) (by rw[hc2];exact he2) (by rw[hc2];omega) (fun b=>by have:=i0.wlen b;show(S.wt b).length≤_;omega) fun L2 h2 p lx2 hs2 hl2 hp2=> ?_;rw[hc2,sN S huw]at hs2;simp only[wq.1,↓reduceIte,Nat.reduceEqDiff,Nat.reduceLT,Nat.reduceLeDiff,Nat.reduceAdd,Nat.reduceSub,Int.reduceToNat,Nat.reduceDiv,Int.reduceLT,Int.reduceLE,Int.reduceNeg,Int.reduceBEq,Int.reduceBNe,Int.reduceAdd,Int.reduceSub,Nat.reduceBEq,reduceCtorEq,Nat.reduceMul,ay,Tryz.results123,aZ,gd];refine r1 (dR S (u::w::r)) L2 h2 _ (RI i0 hcl hcr hdd he2 hhd) hlv hhd (Nat.le_refl _) rfl rfl ((vS hro).trans (lx2.mono (Nat.le_succ _))) hs2 (by omega) fun q hq=> ?_;rcases Bool.or_eq_true_iff.1 hq with hq | hq
     ·exact .inl (gk q hq)
     ·exact .inr (.inl (hp2 q hq))
    ·obtain ⟨a,rfl⟩ : ∃ a,e = [a] := List.length_eq_one_iff.1 (by omega);obtain ⟨a0,an⟩ := hcr a (hec a (by simp));have z1 : decide ((1 : Int) < ((1 : Nat) : Int)) = false := rfl;have z2 : (((1 : Nat) : Int) == 0) = false := rfl;have z3 : ((0 : Int) < ((1 : Nat) : Int)) = True := by simp
     have hid1:h1[id]? =some (.cells [vi a]):=hid;have hg0:(([a]:Cl).map vi).getD 0 .any=vi a:=rfl;have hlv0:=i0.valb (k:=a.natAbs) (by omega) an;simp only[wq.1,↓reduceIte,Nat.reduceEqDiff,Nat.reduceLT,Nat.reduceLeDiff,Nat.reduceAdd,Nat.reduceSub,Int.reduceToNat,Nat.reduceDiv,Int.reduceLT,Int.reduceLE,Int.reduceNeg,Int.reduceBEq,Int.reduceBNe,Int.reduceAdd,Int.reduceSub,Nat.reduceBEq,reduceCtorEq,Nat.reduceMul,ay,Tryz.results123,g0,g4,g7,g8,g9,gd,eb,z2,z1,hid1,Int.toNat_natCast];refine⟨by decide,jW hs1 hn an hlv0 ?_⟩;by_cases y1:lh S a<0
     ·have y1b:decide (lh S a<0)=true:=decide_eq_true y1;simp only[wq.1,↓reduceIte,Nat.reduceEqDiff,Nat.reduceLT,Nat.reduceLeDiff,Nat.reduceAdd,Nat.reduceSub,Int.reduceToNat,Nat.reduceDiv,Int.reduceLT,Int.reduceLE,Int.reduceNeg,Int.reduceBEq,Int.reduceBNe,Int.reduceAdd,Int.reduceSub,Nat.reduceBEq,reduceCtorEq,Nat.reduceMul,ay,Tryz.results123,g0,g4,gd,y1b,uO];exact⟨by decide,r2 h1 f.k (RP i0 hcl hcr hdd hlv ((i0.t.lval_neg a0 an).1 y1)) hs1 hl1 gk⟩
     ·have y1b : decide (lh S a < 0) = false := decide_eq_false y1;simp only [wq.1,↓reduceIte,Nat.reduceEqDiff,Nat.reduceLT,Nat.reduceLeDiff,Nat.reduceAdd,Nat.reduceSub,Int.reduceToNat,Nat.reduceDiv,Int.reduceLT,Int.reduceLE,Int.reduceNeg,Int.reduceBEq,Int.reduceBNe,Int.reduceAdd,Int.reduceSub,Nat.reduceBEq,reduceCtorEq,Nat.reduceMul,ay,Tryz.results123,g0,g4,gd,y1b,hid1];refine ⟨by decide,jW hs1 hn an hlv0 ?_⟩;by_cases y2 : lh S a = 0
      ·have y2b : (lh S a == 0) = true := by simpa using y2
       obtain⟨t1,t2⟩:=(i0.t.lval_zero a0 an).1 y2;simp only[wq.1,↓reduceIte,Nat.reduceEqDiff,Nat.reduceLT,Nat.reduceLeDiff,Nat.reduceAdd,Nat.reduceSub,Int.reduceToNat,Nat.reduceDiv,Int.reduceLT,Int.reduceLE,Int.reduceNeg,Int.reduceBEq,Int.reduceBNe,Int.reduceAdd,Int.reduceSub,Nat.reduceBEq,reduceCtorEq,Nat.reduceMul,ay,Tryz.results123,g0,g4,gd,y2b,hid1];refine⟨by decide,jJ hs1 hn an (Nat.le_trans i0.t.len hn) none (fun _ h=>by cases h) fun h2 p hs2 hp2 hl2=> ?_⟩;simp only[wq.1,aZ,gd];refine r1 (jF S a none) L h2 _ (RJ i0 hcl hcr hdd hlv t1 t2) hlv hhd (Nat.le_succ _) rfl rfl (LX.refl _ L) hs2 (by omega) fun q hq=> ?_;rcases Bool.or_eq_true_iff.1 hq with hq | hq
       ·exact .inl (gk q hq)
       ·exact .inr (.inr (hp2 q hq))
      ·have y2b : (lh S a == 0) = false := by simpa using y2
       simp only[wq.1,seval,gd,y2b];exact r1 S L h1 f.k (RN i0 hcr hdd hlv ((i0.t.lval_pos a0 an).1 (by omega))) hlv hhd (Nat.le_succ _) rfl rfl (LX.refl _ L) hs1 hl1 fun q hq=> .inl (gk q hq)
end
def lub : Nat → Nat → Nat
 | 0,_=>0
 | k+1,i=>if i+1=2*2^i.log2 then 2^i.log2 else lub k (i+1-2^i.log2)
def TZ (i:Int):Int:=if i<1∨2147483647<i then 0 else(lub i.toNat i.toNat:Nat)
theorem RY {p k i:Nat} (hp:p=2^k) (h1:p≤i) (h2:i<2*p):p=2^i.log2:=by
 have h0:i≠0:=by have:=Nat.two_pow_pos k;omega
 have:i.log2=k:=(Nat.log2_eq_iff h0).2 ⟨by omega,by rw[Nat.pow_succ];omega⟩;rw[this,hp]
theorem FM {i p k f:Nat} (hp:p=2^k) (h1:p≤i) (h2:i<2*p):lub (f+1) i=if i+1=2*p then p else lub f (i+1-p):=by rw[lub,←RY hp h1 h2]
theorem FN : ∀ (f g i : Nat),1 ≤ i → i ≤ f → i ≤ g → lub f i = lub g i
 | 0,_,i,h0,h1,_=>by omega
 | _,0,i,h0,_,h1=>by omega
 | f+1,g+1,i,h0,h1,h2=>by
  have hlo:2^i.log2≤i:=Nat.log2_self_le (by omega);have hhi:i<2^(i.log2+1):=Nat.lt_log2_self;rw[Nat.pow_succ]at hhi;simp only[lub];split
  ·rfl
  ·rename_i hne;have hp:1<2^i.log2:=by
    have:=Nat.two_pow_pos i.log2;omega
   exact FN f g _ (by omega) (by omega) (by omega)
theorem FO {i p k:Nat} (hp:p=2^k) (h1:p≤i) (h2:i<2*p) (hne:i+1≠2*p):lub i i=lub (i+1-p) (i+1-p)∧1≤i+1-p∧i+1-p<i:=by
 have hp1:1<p:=by have:=Nat.two_pow_pos k;omega
 obtain⟨f,rfl⟩:∃f,i=f+1:=⟨i-1,by omega⟩;refine⟨?_,by omega,by omega⟩;rw[FM hp h1 h2,if_neg hne];exact FN _ _ _ (by omega) (by omega) (by omega)
theorem FP {i p k:Nat} (hp:p=2^k) (h1:p≤i) (h2:i<2*p) (he:i+1=2*p):lub i i=p:=by obtain⟨f,rfl⟩:∃f,i=f+1:=⟨i-1,by have:=Nat.two_pow_pos k;omega⟩;rw[FM hp h1 h2,if_pos he]
theorem RZ (i:Int):Ev TE 170 [vi i] (vi (TZ i)):=by
 refine ak Tryz.func170 rfl (by simp[nts]) (vm ?_);by_cases hr:i<1
 ·have e1:decide (i<1)=true:=decide_eq_true hr;have ev:TZ i=0:=if_pos (.inl hr);rw[ev];simp only[wq.1,seval,Tryz.results170,e1];exact az.dat rfl
 ·have e1 : decide (i < 1) = false := decide_eq_false hr;by_cases hr2 : 2147483647 < i
  ·have e2:decide (2147483647<i)=true:=decide_eq_true hr2;have ev:TZ i=0:=if_pos (.inr hr2);rw[ev];simp only[wq.1,seval,Tryz.results170,e1,e2];exact az.dat rfl
  ·have e2 : decide (2147483647 < i) = false := decide_eq_false hr2;obtain ⟨m0,rfl⟩ : ∃ m0 : Nat,i = m0 := ⟨i.toNat,by omega⟩;have ev : TZ (m0 : Int) = (lub m0 m0 : Nat) := if_neg (by omega);rw [ev];simp only [wq.1,seval,Tryz.results170,e1,e2];refine aA (fun m f h => ∃ i : Nat,m = i ∧ f.t 0 = vi i ∧ f.d = [] ∧ 1 ≤ i ∧ i ≤ m0 ∧ lub i i = lub m0 m0) m0 ⟨m0,rfl,rfl,rfl,by omega,Nat.le_refl _,rfl⟩ ?_;rintro i f h ⟨_,rfl,g0,gd,hi1,hi2,hl⟩;refine vm ?_;simp only [wq.1,Nat.reduceLT];refine aA (fun m f h => ∃ k : Nat,m = i - 2 ^ k ∧ f.t 0 = vi i ∧ f.t 3 = vi (2 ^ k : Nat) ∧ f.d = [] ∧ 2 ^ k ≤ i) (i - 1) ⟨0,by simp,by simp only [wq.1,seval,g0],by simp only [wq.1,↓reduceIte];try rfl,by simp only [wq.1,gd],by simpa using hi1⟩ ?_;rintro m2 f2 h2 ⟨k,rfl,k0,k3,kd,hk⟩;refine vm ?_;simp only [wq.1,seval,k0,k3];have hpk := Nat.two_pow_pos k;have w1 : IntKind.i64.wrap (2 * ((2 ^ k : Nat) : Int)) = ((2 * 2 ^ k : Nat) : Int) := by rw [aX (by omega) (by omega)];omega
   have w2:IntKind.i64.wrap (((2^k:Nat):Int)*2)=((2^(k+1):Nat):Int):=by rw[Nat.pow_succ,aX (by omega) (by omega)];omega
   by_cases h2k:2*2^k≤i
   ·have eb : decide (((2 * 2 ^ k : Nat) : Int) ≤ (i : Int)) = true := by rw [decide_eq_true_eq];omega
    simp only[wq.1,seval,k3,w1,eb,w2];exact .inl ⟨i-2^(k+1),by rw[Nat.pow_succ];omega,k+1,rfl,by simp only[wq.1,seval,k0],by simp only[wq.1,↓reduceIte],by simp only[wq.1,kd],by rw[Nat.pow_succ];omega⟩
   ·have eb : decide (((2 * 2 ^ k : Nat) : Int) ≤ (i : Int)) = false := by rw [decide_eq_false_iff_not];omega
    have w3:IntKind.i64.wrap (((2*2^k:Nat):Int)-1)=((2*2^k-1:Nat):Int):=by rw[aX (by omega) (by omega)];omega
    by_cases he:i+1=2*2^k
    ·have eq1 : ((i : Int) == ((2 * 2 ^ k - 1 : Nat) : Int)) = true := by rw [beq_iff_eq];omega
     simp only[wq.1,seval,k0,k3,kd,w1,eb,w3,eq1];rw[←hl,FP rfl hk (by omega) he];exact az.dat rfl
    ·have eq1 : ((i : Int) == ((2 * 2 ^ k - 1 : Nat) : Int)) = false := by rw [beq_eq_false_iff_ne];omega
     have w4:IntKind.i64.wrap (((2^k:Nat):Int)-1)=((2^k-1:Nat):Int):=by rw[aX (by omega) (by omega)];omega
     have w5:IntKind.i64.wrap ((i:Int)-((2^k-1:Nat):Int))=((i+1-2^k:Nat):Int):=by rw[aX (by omega) (by omega)];omega
     obtain⟨n1,n2,n3⟩:=FO rfl hk (by omega) he;simp only[wq.1,seval,k0,k3,w1,eb,w3,eq1,w4,w5];exact .inl ⟨i+1-2^k,n3,i+1-2^k,rfl,by simp only[wq.1,↓reduceIte],by simp only[wq.1,kd],n2,by omega,n1▸hl⟩
theorem LD : ∀ (b i : Nat),1 ≤ i → i ≤ b → ∃ k,lub i i = 2 ^ k ∧ 2 ^ k ≤ i
 | 0,i,h1,h2=>by omega
 | b+1,i,h1,h2=>by
  have hlo:2^i.log2≤i:=Nat.log2_self_le (by omega);have hhi:i<2^(i.log2+1):=Nat.lt_log2_self;rw[Nat.pow_succ]at hhi;by_cases he:i+1=2*2^i.log2
  ·exact⟨i.log2,FP rfl hlo (by omega) he,hlo⟩
  ·obtain⟨n1,n2,n3⟩:=FO rfl hlo (by omega) he;obtain⟨k,k1,k2⟩:=LD b _ n2 (by omega);exact⟨k,n1.trans k1,by omega⟩
section
variable {h:H}
theorem vT {id:Nat} {c:Cl} (hid:h[id]? =some (.cells (c.map vi))) (hc:c≠[]) (hcl:c.length≤1000000) {R:AEnd→H→(Nat→Bool)→Prop} (hr:R (.ret (.ls h.length 1 0 c.length c.length)) (h++[.cells (c.map vi)]) (fun _=>false)) :
 ah TE 173 [.ls id 1 0 c.length c.length] h R:=by
 have hM:maxLen=9223372036854775807:=rfl;have hl:(c.map vi).length=c.length:=List.length_map ..;have hp:=List.length_pos_iff.2 hc;have ht:(if c.length*1≤c.length then some (c.length,List.take (c.length*1) (c.map vi))else none)=some (c.length,c.map vi):=by rw[if_pos (by omega),Nat.mul_one,List.take_of_length_le (by simp)]
 refine au Tryz.func173 rfl (by simp[nts]) (vm ?_);simp only[wq.1,↓reduceIte,Nat.reduceLT,reduceCtorEq,Tryz.results173];intro b hb;have hb:b=false:=by
  cases b with
  | false=>rfl
  | true=>have:=hb rfl;omega
 subst hb;simp only[wq.1,↓reduceIte,Nat.reduceEqDiff,Nat.reduceLT,reduceCtorEq,Nat.reduceMul,hid,ht,bH];exact⟨⟨rfl,by decide⟩,⟨by omega,by omega⟩,hr⟩
end
section
variable {n:Nat} {bud:Int} {L:Lay} {S:St} {h:H} {a:Int} {j:Nat} {l d Lc:List Cl}
def BL (L:Lay) (m id:Nat):Lay:={L with k:=fun i=>if i=m then id else L.k i,ro:=fun q=>if q=id then some (.k m)else L.ro q}
theorem LG {nc m id:Nat} (h0:L.ro id=none):LX nc L (BL L m id) :=
 ⟨rfl,rfl,rfl,rfl,rfl,rfl,rfl,fun _ _=>rfl,fun _ _ h=>h,fun i r hi=>by
  show(if i=id then some (Ro.k m)else L.ro i)=some r;rw[if_neg fun e=>by rw[e,h0]at hi;cases hi];exact hi⟩
theorem HS.pushLn (hs:HS n bud L S h) {id:Nat} {out:Cl} (h0:L.ro id=none) (hid:h[id]? =some (.cells (out.map vi))) :
 HS n bud (BL L S.ln.length id) (lnS S out) (((h.map (O.drop fun x => x == L.g)).set L.g (.cells ((List.range S.ln.length).map (lnV L S) ++ [.ls id 1 0 out.length out.length]))).set L.s
  (.cells [.ls L.v 5 0 (n+1) (n+1),.lm L.m,.ls L.t 1 0 S.tr.length S.tr.length,vi S.hd,.ls L.l 1 0 S.lv.length S.lv.length,.ls L.x 2 0 S.nx.length S.nx.length,.ls L.g 1 0 (S.ln.length+1) (S.ln.length+1),vi bud])):=by
 have k:=hs.toHR.drop (p:=fun x=>x==L.g) (O1 L hs.rg (.inr (.inr (.inr rfl))));have hlg:=hs.rlt _ _ hs.rg;have hls:=hs.rlt _ _ hs.rs;have RO:∀ {i:Nat} {r:Ro},L.ro i=some r→(BL L S.ln.length id).ro i=some r:=fun {i r} hi=>(LG (nc:=0) h0).ro _ _ hi;have ne:∀ {i:Nat} {r:Ro},L.ro i=some r→r≠ .s→r≠ .g→∀o q:O,(((h.map (O.drop fun x=>x==L.g)).set L.g o).set L.s q)[i]? =(h.map (O.drop fun x=>x==L.g))[i]? :=fun {i r} hi h1 h2 o q=>by rw[List.getElem?_set_ne (aY L hs.rs hi (Ne.symm h1)),List.getElem?_set_ne (aY L hs.rg hi (Ne.symm h2))]
 have hidg:L.g≠id:=fun e=>by have:=hs.rg;rw[e,h0]at this;cases this
 have hids:L.s≠id:=fun e=>by have:=hs.rs;rw[e,h0]at this;cases this
 have hgs:L.s≠L.g:=aY L hs.rs hs.rg (by simp);have hkn:∀i,i<S.ln.length→(BL L S.ln.length id).k i=L.k i:=fun i hi=>if_neg (Nat.ne_of_lt hi);have hgd:∀i,i<S.ln.length→(S.ln++[out]).getD i []=S.ln.getD i []:=fun i hi=>by rw[List.getD_eq_getElem?_getD,List.getElem?_append_left hi,←List.getD_eq_getElem?_getD]
 have hgl:(S.ln++[out]).getD S.ln.length []=out:=by simp[List.getD_eq_getElem?_getD]
 refine⟨{var:=(ne k.rv (by simp) (by simp) _ _).trans k.var,map:= ?_,trl:=(ne k.rt (by simp) (by simp) _ _).trans k.trl,lvl:=(ne k.rl (by simp) (by simp) _ _).trans k.lvl,nxl:=(ne k.rx (by simp) (by simp) _ _).trans k.nxl,lnl:= ?_,lnk:=fun i hi=> ?_,cla:=fun q hq=>⟨(ne (k.cla q hq).2 (by simp) (by simp) _ _).trans (k.cla q hq).1,RO (k.cla q hq).2⟩,wat:=fun b=> ?_,fre:=k.fre,fwt:=k.fwt,rs:=RO k.rs,rv:=RO k.rv,rm:=RO k.rm,rt:=RO k.rt,rl:=RO k.rl,rx:=RO k.rx,rg:=RO k.rg,rlt:=fun i r hr=> ?_,ext:=fun i o ho=> ?_},?_⟩
 ·obtain⟨ks,h1,h2⟩:=k.map;exact⟨ks,(ne k.rm (by simp) (by simp) _ _).trans h1,h2⟩
 ·show (((h.map (O.drop fun x => x == L.g)).set L.g _).set L.s _)[L.g]? = some (.cells ((List.range (S.ln ++ [out]).length).map (lnV (BL L S.ln.length id) (lnS S out))));rw [List.getElem?_set_ne hgs,List.getElem?_set_self (by simpa using hlg),List.length_append,List.length_singleton,List.range_succ,List.map_append]
  congr 2
  congr 1
  ·refine List.map_congr_left fun i hi=> ?_;have hi:=List.mem_range.1 hi;show V.ls (L.k i) 1 0 (S.ln.getD i []).length (S.ln.getD i []).length=V.ls ((BL L S.ln.length id).k i) 1 0 ((S.ln++[out]).getD i []).length ((S.ln++[out]).getD i []).length;rw[hkn i hi,hgd i hi]
  ·show [V.ls id 1 0 out.length out.length]=[V.ls ((BL L S.ln.length id).k S.ln.length) 1 0 ((S.ln++[out]).getD S.ln.length []).length ((S.ln++[out]).getD S.ln.length []).length];rw[show(BL L S.ln.length id).k S.ln.length=id from if_pos rfl,hgl]
 ·have hi : i < (S.ln ++ [out]).length := hi;rw [List.length_append,List.length_singleton] at hi;show (((h.map (O.drop fun x => x == L.g)).set L.g _).set L.s _)[(BL L S.ln.length id).k i]? = some (O.cells (((S.ln ++ [out]).getD i []).map vi)) ∧ (BL L S.ln.length id).ro ((BL L S.ln.length id).k i) = some (Ro.k i);by_cases he : i = S.ln.length
  ·subst he;rw[show(BL L S.ln.length id).k S.ln.length=id from if_pos rfl,hgl];refine⟨?_,if_pos rfl⟩;rw[List.getElem?_set_ne hids,List.getElem?_set_ne hidg,List.getElem?_map,hid,Option.map_some,bD,bg]
  ·have hi2 : i < S.ln.length := by omega
   rw[hkn i hi2,hgd i hi2];exact⟨(ne (k.lnk i hi2).2 (by simp) (by simp) _ _).trans (k.lnk i hi2).1,RO (k.lnk i hi2).2⟩
 ·have kw:=k.wat b;unfold fK at kw ⊢;rw[show(BL L S.ln.length id).w b=L.w b from rfl];cases hw:L.w b with
  | none=>rw[hw]at kw;exact kw
  | some i=>rw[hw]at kw;exact⟨(ne kw.2 (by simp) (by simp) _ _).trans kw.1,RO kw.2⟩
 ·have hr : (if i = id then some (Ro.k S.ln.length) else L.ro i) = some r := hr;rw [List.length_set,List.length_set,List.length_map];split at hr
  ·rename_i e;rw[e];exact(List.getElem?_eq_some_iff.1 hid).1
  ·exact hs.rlt i r hr
 ·have ho : (if i = id then some (Ro.k S.ln.length) else L.ro i) = some (.e o) := ho;split at ho
  ·cases ho
  ·exact⟨(ne ho (by simp) (by simp) _ _).trans (k.ext i o ho).1,(k.ext i o ho).2.mono fun i r hi=>RO hi⟩
 ·rw[show(BL L S.ln.length id).s=L.s from rfl,List.getElem?_set_self (by simpa using hls)];simp[ax,lnS,BL]
end
section
variable {n:Nat} {bud:Int} {L:Lay} {S:St} {h:H} {a:Int} {j:Nat} {l d Lc:List Cl}
def lT (seen:List Nat):Cl:=seen.map fun v=>((v:Nat):Int)
theorem vU {seen:List Nat} {v:Nat}:(v:Int)∈lT seen↔v∈seen:=by unfold lT;rw[List.mem_map];exact⟨fun⟨w,h1,h2⟩=>by rwa [show w=v by omega]at h1,fun h=>⟨v,h,rfl⟩⟩
theorem FQ (seen:List Nat) (v:Nat):tJ (.int .i64) (vi v) ((lT seen).map vi) ((lT seen).map fun _=> .bool true) (.bool false) false=(True,.bool (decide (v∈seen))):=by
 unfold tJ;rw[Bg];cases hf:(lT seen).findIdx? (·==(v:Int))with
 | none =>
  have:¬v∈seen:=fun hm=>by have:=List.findIdx?_eq_none_iff.1 hf v (vU.2 hm);simp at this
  simp only[cond_false,decide_eq_false this]
 | some q =>
  obtain⟨h1,h2,_⟩:=List.findIdx?_eq_some_iff_getElem.1 hf;have h2:(lT seen)[q]=v:=by simpa using h2
  have hm:v∈seen:=vU.1 (h2▸List.getElem_mem h1);simp only[cond_false,List.getD_eq_getElem?_getD,List.getElem?_map,List.getElem?_eq_getElem h1,Option.map_some,Option.getD_some,decide_eq_true hm]
theorem O9 {seen:List Nat} {v:Nat} (hv:¬v∈seen):Jd (.int .i64) (vi v) (.bool true) ((lT seen).map vi) ((lT seen).map fun _=> .bool true)=some ((lT (seen++[v])).map vi,(lT (seen++[v])).map fun _=> .bool true):=by
 unfold Jd;rw[Bg];cases hf:(lT seen).findIdx? (·==(v:Int))with
 | none=>simp only[lT,List.map_append,List.map_cons,List.map_nil]
 | some q =>
  obtain⟨h1,h2,_⟩:=List.findIdx?_eq_some_iff_getElem.1 hf;have h2:(lT seen)[q]=v:=by simpa using h2
  exact absurd (vU.1 (h2▸List.getElem_mem h1)) hv
end
end Go.Proofs.YtmlacppmbfbjgaaGreatDoor
