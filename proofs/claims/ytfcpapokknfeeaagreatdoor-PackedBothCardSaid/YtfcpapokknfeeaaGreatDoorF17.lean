/- Lemmas for this claim, part F17: each holds under what it names. -/
import Derived.Test.YtfcpapokknfeeaaGreatDoorF16
import Derived.Shelf.Strings.OnBuilder
import Derived.Test.YtfcpapokknfeeaaGreatDoorF14
set_option linter.unusedVariables false
set_option linter.unusedSimpArgs false
set_option linter.unnecessarySimpa false
set_option maxRecDepth 20000
set_option maxHeartbeats 8000000
namespace Go.Proofs.YtfcpapokknfeeaaGreatDoor
open Go Go.Proofs Go.Abs
theorem Um {h : H} {K : H → (Nat → Bool) → Prop} (hK : ∀ X,K (h ++ [X]) (fun _ => false)) : iR TE 75 [.lp 0 0,.lp 1 0,.lp 2 0] h K := by
 have hgE : ∀ x : O,(h ++ [x])[h.length]? = some x := fun x => by simp
 have hgS : ∀ x y : O,(h ++ [x]).set h.length y = h ++ [y] := fun x y => by simp
 refine kW rfl Tryz.func75 rfl rfl (by simp [nts]) rfl (fun ev w => rfl) rfl (by decide) ?_;simp only [nts];refine bW rfl rfl ?_;refine jI (x := .tmp 6) (t := 86) (q := ⟨.struct [(0,3),(1,31)],2,16,.agg [vi 0,vi 0]⟩) rfl (by simp only [wq.1]) (by simp only [wq.1,↓reduceIte]) (by simp only [wq.1,↓reduceIte]) ?_;refine ay rfl rfl ?_;simp only [wq.1,↓reduceIte];refine ay rfl rfl ?_;simp only [wq.1,seval];refine ay rfl rfl ?_;simp only [wq.1,seval];refine ay rfl rfl ?_;simp only [wq.1];refine ay rfl rfl ?_;simp only [wq.1,seval,hgE,hgS];refine ay rfl rfl ?_;simp only [wq.1,seval];refine bT ?_;show awp _ _ _ _ _ _ _;refine ag (vm ?_);simp only [wq.1,seval];refine bQ (b := false) (by simp only [wq.1,↓reduceIte]) (by simp only [wq.1,↓reduceIte]) (fun hb => by cases hb) (fun _ => ?_);refine vm ?_;simp only [wq.1,reduceCtorEq];exact hK _
def Un : Plan := .take 0 <| .take 2 <| .alt 1 (.alt 3 (.one 4 <| .one 5 <| .one 6 <| .fin) (.one 4 (.alt 3 (.one 5 <| .one 6 <| .fin) (.one 5 (.one 3 <| .one 6 <| .fin))))) (.alt 3 (.alt 1 (.one 4 <| .one 5 <| .one 6 <| .fin) (.one 4 (.one 1 <| .one 5 <| .one 6 <| .fin))) (.one 4 (.alt 1 (.alt 3 (.one 5 <| .one 6 <| .fin) (.one 5 (.one 3 <| .one 6 <| .fin))) (.one 3 (.one 1 <| .one 5 <| .one 6 <| .fin)))))
theorem Uo {h : H} {d0 d1 d2 : V} {K : H → (Nat → Bool) → Prop} (a e : Int) (h0 : h[0]? = some (.cells [d0])) (h1 : h[1]? = some (.cells [d1])) (h2 : h[2]? = some (.cells [d2]))
 (hK : ∀ X,K ((((h.set 0 (.cells [.nils])).set 1 (.cells [vi a])).set 2 (.cells [vi e])) ++ [X]) (fun _ => false)) :
 mf TE 75 [.lp 0 0,.lp 1 0,.lp 2 0] (qp a e) h K := by
 obtain ⟨Y,rfl⟩ : ∃ Y,h = .cells [d0] :: .cells [d1] :: .cells [d2] :: Y := by
  match h,h0,h1,h2 with
  | _ :: _ :: _ :: Y,h0,h1,h2 => cases h0;cases h1;cases h2;exact ⟨Y,rfl⟩
 have hgE : ∀ x : O,(Y ++ [x])[Y.length]? = some x := fun x => by simp
 have hgS : ∀ x y : O,(Y ++ [x]).set Y.length y = Y ++ [y] := fun x y => by simp
 refine kU rfl Tryz.func75 rfl rfl (by simp [nts]) rfl (fun ev w => rfl) rfl (by decide) ?_;simp only [nts];refine ay rfl rfl ?_;simp only [wq.1,↓reduceIte];refine ⟨by decide,?_⟩;refine ay rfl rfl ?_;simp only [wq.1,↓reduceIte];refine ay rfl rfl ?_;simp only [wq.1,seval];refine ay rfl rfl ?_;simp only [wq.1,seval];refine ay rfl rfl ?_;simp only [wq.1];refine ay rfl rfl ?_;simp only [wq.1,seval,hgE,hgS];refine ay rfl rfl ?_;simp only [wq.1,seval];refine bT ?_;show awp _ _ _ _ _ _ _;refine ag (vm ?_);simp only [wq.1,seval];refine bQ (b := true) (by simp only [wq.1,↓reduceIte]) (by simp only [wq.1,↓reduceIte]) (fun _ => ?_) (fun hb => by cases hb);refine bu mixed Un (fun f' h' => f'.d = [] ∧ (∀ j,f'.k j = false) ∧ ∃ X,h' = .cells [.nils] :: .cells [vi a] :: .cells [vi e] :: (Y ++ [X])) (by decide +kernel) (by decide +kernel) ?_ ?_
 ·simp only [wq.1,seval,Un,hgE];exact ⟨_,rfl⟩
 ·rintro f' h' ⟨hd,hk,X,rfl⟩;refine ⟨.inl rfl,hd,?_⟩;rw [show f'.k = fun _ => false from funext hk];exact hK X
theorem Lp {s : S} {lo hi a n b : Int} (h : qo s lo hi a = .ok (n,b)) : lo ≤ n ∧ n ≤ hi := by
 unfold qo at h;split at h
 ·split at h
  ·rename_i hc;cases h;exact hc
  ·cases h
 ·cases h
abbrev hU (s : S) (b : Int) (L : List Pr) : H := [.cells [.ls 4 2 0 L.length L.length],.cells [vi 0],.cells [vi 0],rdP s b,.cells (fl L)]
def rG : Plan := .take 1 <| .take 2 <| .take 3 <| .take 4 <| .alt 0 (.one 5 <| .one 6 <| .one 7 <| .one 8 <| .one 9 <| .one 10 <| .fin) (.one 5 (.alt 0 (.one 6 <| .one 7 <| .one 8 <| .one 9 <| .one 10 <| .fin) (.one 6 (.alt 0 (.one 7 <| .one 8 <| .one 9 <| .one 10 <| .fin) (.one 7 (.alt 0 (.one 8 <| .one 9 <| .one 10 <| .fin) (.one 8 (.one 0 <| .one 9 <| .one 10 <| .fin))))))))
def Lr : Plan := .take 1 <| .take 2 <| .take 3 <| .alt 0 (.alt 4 (.one 5 <| .one 6 <| .one 7 <| .fin) (.one 5 (.one 4 <| .one 6 <| .one 7 <| .fin))) (.one 4 (.one 0 <| .one 5 <| .one 6 <| .one 7 <| .fin))
theorem xE (s : S) (a f0 m0 : Int) (hs : s.length ≤ 100000) : Ev TE 35 [.str s,vi a,vi f0,vi m0] (.tup [prs (mM s a f0 m0).1,vi (mM s a f0 m0).2.1,vi (mM s a f0 m0).2.2]) := by
 have hM : maxLen = 9223372036854775807 := rfl;obtain ⟨r1,r2,r3,hr⟩ : ∃ r1 r2 r3,mM s a f0 m0 = (r1,r2,r3) := ⟨_,_,_,rfl⟩;rw [hr];unfold mM at hr;refine gU ?_;refine gG rfl Tryz.func35 rfl (by simp [nts]) fun ok pl0 w0 => ?_;simp only [nts];refine oz (Q := fun _ _ _ => False) ?_ (fun _ _ _ h => by obtain ⟨_,_,_,_,_,_,h⟩ := h;exact h.elim);refine vm ?_;simp only [wq.1,seval];refine oz (Q := bz TE.P (Func.results Tryz.f35).toList (fun ae h p => match ae with | AEnd.ret v => aC TE h v (.tup [prs r1,vi r2,vi r3]) | AEnd.pan v => False)) ?_ (fun ex a w h => O7 (e := TE) rfl ex a w h);have fin : f0 < 1 ∨ 4001 < f0 ∨ m0 < 0 ∨ 4000 < m0 → aC TE [.cells [.nils],.cells [vi a],.cells [vi 1]] (.tup [.nils,vi a,vi 1]) (.tup [prs r1,vi r2,vi r3]) := fun hc => by rw [if_pos hc] at hr;cases hr;exact aC.tup (aB.cons aC.nils (aB.dat rfl))
 cases e1 : decide (f0 < 1) with
 | true => refine vm ?_;simp only [wq.1,seval,Tryz.results35,e1];exact fin (.inl (of_decide_eq_true e1))
 | false =>
 cases e2 : decide (4001 < f0) with
 | true => refine vm ?_;simp only [wq.1,seval,Tryz.results35,e1,e2];exact fin (.inr (.inl (of_decide_eq_true e2)))
 | false =>
 cases e3 : decide (m0 < 0) with
 | true => refine vm ?_;simp only [wq.1,seval,Tryz.results35,e1,e2,e3];exact fin (.inr (.inr (.inl (of_decide_eq_true e3))))
 | false =>
 cases e4 : decide (4000 < m0) with
 | true => refine vm ?_;simp only [wq.1,seval,Tryz.results35,e1,e2,e3,e4];exact fin (.inr (.inr (.inr (of_decide_eq_true e4))))
 | false =>
 simp only [decide_eq_false_iff_not] at e1 e2 e3 e4;rw [if_neg (by omega)] at hr;have e1' : decide (f0 < 1) = false := by simpa using e1
 have e2' : decide (4001 < f0) = false := by simpa using e2
 have e3' : decide (m0 < 0) = false := by simpa using e3
 have e4' : decide (4000 < m0) = false := by simpa using e4
 refine vm ?_;simp only [wq.1,seval,Tryz.results35,e1',e2',e3',e4'];clear fin e1' e2' e3' e4';generalize hFF : Fr.put _ _ _ = FF;have t0 : FF.t 0 = .str s := by rw [← hFF];rfl
 have t1 : FF.t 1 = vi a := by rw [← hFF];rfl
 have t2 : FF.t 2 = vi f0 := by rw [← hFF];rfl
 have t3 : FF.t 3 = vi m0 := by rw [← hFF];rfl
 have t8 : FF.t 8 = .lp 0 0 := by rw [← hFF];rfl
 have t9 : FF.t 9 = .lp 1 0 := by rw [← hFF];rfl
 have t10 : FF.t 10 = .lp 2 0 := by rw [← hFF];rfl
 have fd : FF.d = [] := by rw [← hFF];rfl
 have fk : FF.k = fun _ => false := by rw [← hFF];rfl
 clear hFF;refine qJ (fn := Tryz.f35) (q := 75) (avs := [.lp 0 0,.lp 1 0,.lp 2 0]) (F1 := FF.put (some 30) (.fn (.func 75) [] [.lp 0 0,.lp 1 0,.lp 2 0])) rfl ⟨rfl,by simp only [wq.1,Nat.reduceLT],by simp only [wq.1,t8,t9,t10],by simp only [wq.1,t8,t9,t10],rfl,rfl,⟨.tmp 30,#[],#[],[.lp 0 0,.lp 1 0,.lp 2 0],rfl,by simp only [wq.1,↓reduceIte],by simp only [wq.1,↓reduceIte],by simp,by simp only [wq.1]⟩,by simp only [wq.1,fd]⟩ rfl fk fun d => ?_;obtain ⟨ee,hee⟩ : ∃ ee : E,ee = { TE with tl := [d] } := ⟨_,rfl⟩;have hP : ee.P = P := by rw [hee];rfl
 have hmix : ee.P.follows .mixedOrders = true := by rw [hP];exact mixed
 have hT : ∀ {g : FuncId} {args : List V} {h : H} {R : AEnd → H → (Nat → Bool) → Prop},ah TE g args h R → ah ee g args h R := fun hc => by rw [hee];exact hc.tl _
 rw [← hee];obtain ⟨QP,eQP⟩ : ∃ QP : XE → Fr → H → Prop,QP = LV TE Tryz.f35 (fun ae h x => match ae with | AEnd.ret v => aC TE h v (.tup [prs r1,vi r2,vi r3]) | AEnd.pan v => False) [(75,[.lp 0 0,.lp 1 0,.lp 2 0])] := ⟨_,rfl⟩;refine bG (Q := QP) (fun xe f' h' hq => by rw [eQP] at hq;exact hq) ?_;have hkd : ∀ {f' : Fr},(∀ j,f'.k j = true → 4 ≤ j) → ∀ x ∈ [((75 : FuncId),[V.lp 0 0,V.lp 1 0,V.lp 2 0])],V.drops f'.k x.2 = x.2 := fun {f'} h x hx => by
  have z : ∀ i,i < 4 → f'.k i = false := fun i hi => by
   cases hj : f'.k i with
   | false => rfl
   | true => exact absurd (h i hj) (by omega)
  simp only [List.mem_singleton] at hx;subst hx;simp [V.drops,V.drop,z 0 (by decide),z 1 (by decide),z 2 (by decide)]
 have hpan : ∀ {w e : Int} {f' : Fr} {b : Int} {L : List Pr},dJ s f0 m0.toNat 0 a [] = .error (w,e) → f'.d = [] → (∀ j,f'.k j = true → 4 ≤ j) → f'.t 8 = .lp 0 0 → f'.t 9 = .lp 1 0 → f'.t 10 = .lp 2 0 → QP (.pan (qp w e)) f' (hU s b L) := by intro w e f' b L hp hd hk t8 t9 t10;rw [hp] at hr;simp only [Prod.mk.injEq] at hr;obtain ⟨z1,z2,z3⟩ := hr;rw [eQP,← z1,← z2,← z3];refine ⟨hd,hkd hk,?_⟩;refine Uo w e rfl rfl rfl fun X => ⟨fun y hy => (by cases hy),?_⟩;unfold LVr;simp only [Tryz.results35,nts];simp only [wq.1,↓reduceIte,hd,t8,t9,t10];exact aC.tup (aB.cons aC.nils (aB.dat rfl))
 have hret : ∀ {f' : Fr} {b : Int} {L : List Pr},dJ s f0 m0.toNat 0 a [] = .ok (L,b) → f'.d = [] → (∀ j,f'.k j = true → 4 ≤ j) → f'.t 8 = .lp 0 0 → f'.t 9 = .lp 1 0 → f'.t 10 = .lp 2 0 → QP .ret f' [.cells [.ls 4 2 0 L.length L.length],.cells [vi b],.cells [vi 0],rdP s b,.cells (fl L)] := by intro f' b L hp hd hk t8 t9 t10;rw [hp] at hr;simp only [Prod.mk.injEq] at hr;obtain ⟨z1,z2,z3⟩ := hr;rw [eQP,← z1,← z2,← z3];refine ⟨hd,hkd hk,?_⟩;refine Um fun X => ⟨fun y hy => (by cases hy),?_⟩;unfold LVr;simp only [Tryz.results35,nts];simp only [wq.1,↓reduceIte,hd,t8,t9,t10];exact aC.tup (aB.cons (qO rfl rfl) (aB.dat rfl))
 refine ag (aN hmix _ _ _ _ ?_);simp only [wq.1,seval,hP,t0,t1,fd];refine fU ?_;refine vK (h' := hU s a []) (HLe.set (i := 0) (o' := .cells [.ls 4 2 0 0 0]) rfl (OLe.cells (by simp) (dW.cons dD dW.nil))) ?_;obtain ⟨n,hn⟩ : ∃ n : Nat,m0 = n := ⟨m0.toNat,by omega⟩;subst hn;rw [Int.toNat_natCast] at hpan hret;obtain ⟨U0,hU0⟩ : ∃ U0,U0 = dJ s f0 n 0 a [] := ⟨_,rfl⟩;rw [← hU0] at hpan hret;refine ag ?_;refine ag (aN hmix _ _ _ _ ?_);simp only [wq.1,seval,hP,t3];refine az ?_;refine aF (fun mm f h' => ∃ (i : Nat) (b : Int) (L : List Pr),mm + i = n ∧ L.length = i ∧ U0 = dJ s f0 (n - i) i b L ∧ f.t 2 = vi f0 ∧ f.t 8 = .lp 0 0 ∧ f.t 9 = .lp 1 0 ∧ f.t 10 = .lp 2 0 ∧ f.t 11 = .lp 3 0 ∧ f.t 35 = vi n ∧ f.t 36 = vi i ∧ f.d = [] ∧ (∀ j,f.k j = true → 4 ≤ j) ∧ h' = hU s b L) n ⟨0,a,[],by omega,rfl,hU0,by simp only [wq.1,seval,t2],by simp only [wq.1,seval,t8],by simp only [wq.1,seval,t9],by simp only [wq.1,seval,t10],by simp only [wq.1,seval],by simp only [wq.1,seval],rfl,by simp only [wq.1],fun j hj => (by cases hj),rfl⟩ ?_;clear t0 t1 t2 t3 t8 t9 t10 fd fk;rintro mm f h' ⟨i,b,L,hmm,hLl,hun,t2,t8,t9,t10,t11,t35,t36,fd,hk,rfl⟩;refine ag (aN hmix _ _ _ _ ?_);simp only [wq.1,Nat.reduceLT,hP,t35,t36];refine ag (aN hmix _ _ _ _ ?_);simp only [wq.1,↓reduceIte];refine vcB.mk (fun hlt => ?_) (fun hlt => ?_)
 ·have hlt : i < n := by have := of_decide_eq_true hlt;omega
  rw [show n - i = (n - i - 1) + 1 by omega] at hun;unfold dJ FP at hun;obtain ⟨own,hown⟩ : ∃ own,own = 2 * (f0 + (i : Int)) := ⟨_,rfl⟩;rw [← hown] at hun;have w1 : IntKind.i64.wrap (f0 + (i : Int)) = f0 + i := aZ (by omega) (by omega);have w2 : IntKind.i64.wrap (2 * (f0 + (i : Int))) = own := by rw [hown];exact aZ (by omega) (by omega)
  have hw := ax (show i < maxLen by omega);refine ag (az ?_);refine ag (aN hmix _ _ _ _ ?_);simp only [wq.1,seval,hP,t36];refine ag (aN hmix _ _ _ _ ?_);simp only [wq.1,seval,hP,t2,w1,w2];refine ag (aN hmix _ _ _ _ ?_);simp only [wq.1,seval,hP,t11];refine hT (nX (s := s) (a := b) hs rfl (fun x c hx => ?_) (fun w e hx => ?_))
  ·rw [hx] at hun;dsimp only at hun;have hxo := Lp hx;obtain ⟨p,hp⟩ : ∃ p,p = own - x := ⟨_,rfl⟩;rw [← hp] at hun;have w3 : IntKind.i64.wrap (own - x) = p := by rw [hp];exact aZ (by omega) (by omega)
   simp only [wq.1,seval,hP,w3];show awp _ _ _ _ _ _ (hU s c L);have dF : ∀ q,V.drops q (fl L) = fl L := fun q => iH;have hfl : (fl L).length = L.length * 2 := IK L;cases hy : qo s 0 p c with
   | error er =>
    obtain ⟨w,e⟩ := er;rw [hy] at hun;dsimp only at hun;refine bY hmix rG (fun _ _ => False) [8,9,10] (fun v d kk ts h' => d = [] ∧ (∀ j,kk j = true → 4 ≤ j) ∧ ts = [.lp 0 0,.lp 1 0,.lp 2 0] ∧ v = qp w e ∧ h' = hU s c L) (by rw [hP];decide +kernel) (by decide +kernel) ?_ (fun _ _ h => h.elim) ?_
    ·simp only [wq.1,seval,rG,hP,t8,t11]
     repeat' apply And.intro
     all_goals
      refine hT (nX (s := s) (a := c) hs rfl (fun x c hx => by rw [hy] at hx;cases hx) (fun w' e' hx => ?_));rw [hy] at hx;cases hx;simp only [wq.1,seval,aX,gI,t8,t9,t10,fd];exact hk
    ·rintro v f' h' ⟨kd,kk,kt,rfl,rfl⟩;simp only [XE.block,XE.seq];simp only [List.map_cons,List.map_nil,List.cons.injEq,and_true] at kt;exact hpan hun kd kk kt.1 kt.2.1 kt.2.2
   | ok yd =>
    obtain ⟨y,d⟩ := yd;rw [hy] at hun;dsimp only at hun;have hyo := Lp hy;have w4 : IntKind.i64.wrap (p - y) = p - y := aZ (by omega) (by omega);refine bY hmix rG (fun f h => f.t 2 = vi f0 ∧ f.t 8 = .lp 0 0 ∧ f.t 9 = .lp 1 0 ∧ f.t 10 = .lp 2 0 ∧ f.t 11 = .lp 3 0 ∧ f.t 35 = vi n ∧ f.t 36 = vi i ∧ f.d = [] ∧ (∀ j,f.k j = true → 4 ≤ j) ∧ h = hU s d (L ++ [(p,p - y)])) [] (fun _ _ _ _ _ => False) (by rw [hP];decide +kernel) (by decide +kernel) ?_ ?_ (fun _ _ _ h => h.elim)
    ·simp only [wq.1,seval,-Int.reduceNatCast,-Int.reduceNatCast',ak,Tryz.results35,rG,hP,t2,t8,t9,t10,t11,t35,t36,fd]
     repeat' apply And.intro
     all_goals
      refine hT (nX (s := s) (a := c) hs rfl (fun x' c' hx => ?_) (fun w' e' hx => by rw [hy] at hx;cases hx));rw [hy] at hx;cases hx;simp only [wq.1,↓reduceIte,Nat.reduceEqDiff,Nat.reduceLT,Nat.reduceLeDiff,Nat.reduceAdd,Nat.reduceSub,Int.reduceToNat,Nat.reduceDiv,Int.reduceLT,Int.reduceLE,Int.reduceNeg,Int.reduceBEq,Int.reduceBNe,Int.reduceAdd,Int.reduceSub,Nat.reduceBEq,reduceCtorEq,Nat.reduceMul,ak,Tryz.results35,bg,rG,dw,hP,t2,t8,t9,t10,t11,t35,t36,fd,w4,dF,hfl];refine ⟨⟨rfl,by decide⟩,rfl,⟨rfl,by omega,by omega⟩,fun j hj => ?_,?_⟩
      ·rw [Bool.or_eq_true] at hj;rcases hj with hj | hj
       ·exact hk j hj
       ·have : j = 4 := by simpa using hj
        omega
      ·show [O.cells _,_,_,_,O.cells (fl L ++ [vi p,vi (p - y)])] = hU s d (L ++ [(p,p - y)]);rw [show fl L ++ [vi p,vi (p - y)] = fl (L ++ [(p,p - y)]) by simp];simp only [hU,List.length_append,List.length_singleton]
    ·rintro f h ⟨t2,t8,t9,t10,t11,t35,t36,fd,hk,rfl⟩;show awp _ _ _ _ _ _ _;refine aN hmix _ _ _ _ ?_;simp only [wq.1,seval,hP,t36,hw];exact .inl ⟨mm - 1,by omega,i + 1,d,L ++ [(p,p - y)],by omega,by simp [hLl],by rw [hun,Nat.sub_sub],by simp only [wq.1,seval,t2],by simp only [wq.1,seval,t8],by simp only [wq.1,seval,t9],by simp only [wq.1,seval,t10],by simp only [wq.1,seval,t11],by simp only [wq.1,seval,t35],rfl,by simp only [wq.1,fd],hk,rfl⟩
  ·rw [hx] at hun;dsimp only at hun;simp only [wq.1,aX];simp only [XE.seq,XE.block];exact hpan hun (by simp only [wq.1,fd]) (fun j hj => hk j (by simpa only [tJ,Dj,Bool.or_false,Bool.false_or] using hj)) (by simp only [wq.1,seval,t8]) (by simp only [wq.1,seval,t9]) (by simp only [wq.1,seval,t10])
 ·have hin : i = n := by have := of_decide_eq_false hlt;omega
  subst hin;rw [Nat.sub_self] at hun;simp only [wq.1];refine ag ?_;refine bu hmix Lr (fun f h => f.t 8 = .lp 0 0 ∧ f.t 9 = .lp 1 0 ∧ f.t 10 = .lp 2 0 ∧ f.d = [] ∧ (∀ j,f.k j = true → 4 ≤ j) ∧ h = [.cells [.ls 4 2 0 L.length L.length],.cells [vi b],.cells [vi 0],rdP s b,.cells (fl L)]) (by rw [hP];decide +kernel) (by decide +kernel) ?_ ?_
  ·simp only [wq.1,seval,Lr,hP,t8,t9,t10,t11,fd]
   all_goals exact hk
  ·rintro f h ⟨t8,t9,t10,fd,hk,rfl⟩;show awp _ _ _ _ _ _ _;refine aN hmix _ _ _ _ ?_;simp only [wq.1];exact hret hun fd hk t8 t9 t10
open Go.RowKit
open Go.Shelf
open Go.Lib
open Go.Sort
theorem zaT : Builder.Extra Tryz.prog PT where
 sizeBuilder := by kernel_rfl
 liesBuilder := by kernel_rfl
 t5 := Tryz.underlying5
 a5 := Tryz.isAgg5
 z5 := Tryz.sizeOf5
 v5 := Tryz.zeroValue5
 infoByte := by kernel_rfl
 cellsByte := by kernel_rfl
 sizeByte := by kernel_rfl
 neB5 := by decide
theorem Y5 {w : World} {b o : Nat} {v : Value} (h : w.cell? ⟨b,o,none⟩ = some v) : b < w.heap.size := by
 rcases Nat.lt_or_ge b w.heap.size with h1 | h1
 ·exact h1
 ·exfalso;unfold World.cell? at h;simp [Array.getElem?_eq_none h1] at h
theorem Aa : ∀ l : List S,(l.map fun s : S => (⟨s.toArray⟩ : ByteArray)).map (·.data.toList) = l
 | [] => rfl
 | a :: l => by rw [List.map_cons,List.map_cons,Aa l]
theorem WS (l : List S) (sep : S) (hn : l.length ≤ 100000000) (hj : (Lib.join l sep).length ≤ 100000000) : Ev TE 78 [aT l,.str sep] (.str (Lib.join l sep)) := by
 intro ok w vs hs hl;simp only [VList] at hl;obtain ⟨y,ys,rfl,h1,y2,ys2,rfl,h2,rfl⟩ := hl;have := yH h2;subst this;simp only [VRel] at h1;obtain ⟨a,cp,rfl,hle,hcp,_,hel⟩ := h1;rw [List.length_map] at hle;have fin : Calls TE.P 78 (Value.slice a (l.map V.str).length cp :: Value.string ⟨sep.toArray⟩ :: []).toArray w fun en w' => en = .returned (.string ⟨(Lib.join l sep).toArray⟩) ∧ Below w.heap.size w w' := by
  rw [List.length_map];rcases l with _ | ⟨s0,l0⟩
  ·exact (Any.strings_Join_none zab zaT a cp ⟨sep.toArray⟩ w).mono fun e w' ⟨he,hw⟩ => ⟨he,hw ▸ Below.refl _ _⟩
  ·obtain ⟨b,off,rfl,hv⟩ := hel.resolve_left (by simp);obtain ⟨xs,hx1,hx2,hx3⟩ := VElems.list hv (by intro v hv;obtain ⟨s,_,rfl⟩ := List.mem_map.1 hv;rfl);have hxs := IG hx3;subst hxs;have eG : ∀ (j : Nat) (x : ByteArray),((s0 :: l0).map fun s : S => (⟨s.toArray⟩ : ByteArray))[j]? = some x → w.cell? ⟨b,off + j,none⟩ = some (.string x) := fun j x hj => by
    refine hx2 j _ ?_;rw [List.getElem?_map] at hj ⊢;cases hg : (s0 :: l0)[j]? with
    | none => rw [hg] at hj;simp at hj
    | some s => rw [hg] at hj;simp at hj;subst hj;rfl
   have hmm := Aa (s0 :: l0);have := Any.strings_Join zab zaT b off cp ((s0 :: l0).map fun s : S => (⟨s.toArray⟩ : ByteArray)) ⟨sep.toArray⟩ w eG (Y5 (eG 0 _ rfl)) (by simp at hn ⊢;omega) (by simpa using hle) (by rw [hmm];show (Lib.join (s0 :: l0) sep).length ≤ _;omega);rw [hmm,List.length_map] at this;exact this
 refine Calls.mono fin ?_;rintro en w' ⟨rfl,hb⟩;refine ⟨_,rfl,vY hb,?_⟩;simp only [VRel];exact ⟨_,rfl,by simp,by have hM : maxLen = 9223372036854775807 := rfl;omega⟩
theorem Ls : ∀ l : Cl,Lib.joinTail [32] (l.map Lib.itoa) ++ [10] = lnG l
 | [] => rfl
 | n :: l => by have h := Ls l;show Lib.joinTail [32] (Lib.itoa n :: l.map Lib.itoa) ++ [10] = 32 :: (Lib.itoa n ++ lnG l);rw [← h];simp [Lib.joinTail]
theorem Ur (n : Int) (l : Cl) : Lib.join ((n :: l).map Lib.itoa) [32] ++ [10] = lnT (n :: l) := by show Lib.join (Lib.itoa n :: l.map Lib.itoa) [32] ++ [10] = Lib.itoa n ++ lnG l;rw [Lib.join_cons,List.append_assoc,Ls]
def gY (s : S) : V := match iW s with
 | .error (w,e) => .tup [ry,bD s w e]
 | .ok m => .tup [m.v,.agg [vi 0,vi 0,vi 0]]
theorem FU {h : H} {K : H → (Nat → Bool) → Prop} (hK : ∀ X,K (h ++ [X]) (fun _ => false)) : iR TE 44 [.lp 0 0,.lp 1 0,.lp 2 0] h K := by
 have hgE : ∀ x : O,(h ++ [x])[h.length]? = some x := fun x => by simp
 have hgS : ∀ x y : O,(h ++ [x]).set h.length y = h ++ [y] := fun x y => by simp
 refine kW rfl Tryz.func44 rfl rfl (by simp [nts]) rfl (fun ev w => rfl) rfl (by decide) ?_;simp only [nts];refine bW rfl rfl ?_;refine jI (x := .tmp 6) (t := 86) (q := ⟨.struct [(0,3),(1,31)],2,16,.agg [vi 0,vi 0]⟩) rfl (by simp only [wq.1]) (by simp only [wq.1,↓reduceIte]) (by simp only [wq.1,↓reduceIte]) ?_;refine ay rfl rfl ?_;simp only [wq.1,↓reduceIte];refine ay rfl rfl ?_;simp only [wq.1,seval];refine ay rfl rfl ?_;simp only [wq.1,seval];refine ay rfl rfl ?_;simp only [wq.1];refine ay rfl rfl ?_;simp only [wq.1,seval,hgE,hgS];refine ay rfl rfl ?_;simp only [wq.1,seval];refine bT ?_;show awp _ _ _ _ _ _ _;refine ag (vm ?_);simp only [wq.1,seval];refine bQ (b := false) (by simp only [wq.1,↓reduceIte]) (by simp only [wq.1,↓reduceIte]) (fun hb => by cases hb) (fun _ => ?_);refine vm ?_;simp only [wq.1,reduceCtorEq];exact hK _
theorem Ut {s : S} {Y : H} {c1 c2 : List V} {K : H → (Nat → Bool) → Prop} (w e : Int) (hs : s.length ≤ 1000000000) (h1 : c1.length = 8) (h2 : c2.length = 3)
 (hK : ∀ X,K (.cells [.str s] :: bM :: .cells (bD s w e).vc :: (Y ++ [X])) (fun _ => false)) :
 mf TE 44 [.lp 0 0,.lp 1 0,.lp 2 0] (qp w e) (.cells [.str s] :: .cells c1 :: .cells c2 :: Y) K := by
 have hgE : ∀ x : O,(Y ++ [x])[Y.length]? = some x := fun x => by simp
 have hgS : ∀ x y : O,(Y ++ [x]).set Y.length y = Y ++ [y] := fun x y => by simp
 match c1,h1,c2,h2 with
 | [x0,x1,x2,x3,x4,x5,x6,x7],_,[y0,y1,y2],_ =>
 have hf : ∃ x y z,bD s w e = .agg [vi x,vi y,vi z] := by unfold bD;split <;> exact ⟨_,_,_,rfl⟩
 obtain ⟨x,y,z,hf⟩ := hf;rw [hf] at hK;have hsf := II s w e hs;rw [hf] at hsf;refine kU rfl Tryz.func44 rfl rfl (by simp [nts]) rfl (fun ev w => rfl) rfl (by decide) ?_;simp only [nts];refine ay rfl rfl ?_;simp only [wq.1,↓reduceIte];refine ⟨by decide,?_⟩;refine ay rfl rfl ?_;simp only [wq.1,↓reduceIte];refine ay rfl rfl ?_;simp only [wq.1,seval];refine ay rfl rfl ?_;simp only [wq.1,seval];refine ay rfl rfl ?_;simp only [wq.1];refine ay rfl rfl ?_;simp only [wq.1,seval,hgE,hgS];refine ay rfl rfl ?_;simp only [wq.1,seval];refine bT ?_;show awp _ _ _ _ _ _ _;refine ag (vm ?_);simp only [wq.1,seval];refine bQ (b := true) (by simp only [wq.1,↓reduceIte]) (by simp only [wq.1,↓reduceIte]) (fun _ => ?_) (fun hb => by cases hb);refine vm ?_;simp only [wq.1,seval,hgE];refine ah.ev hsf rfl ?_;simp only [wq.1,seval];exact hK _
theorem Uu {s magic : S} {w : Nat} {e : Int} (h : qg s magic = .error (w,e)) : e ≠ 0 := by
 have hL : ∀ (k a : Nat) (l : Cl),mX s k a l = .error (w,e) → e ≠ 0 := by
  intro k
  induction k with
  | zero => intro a l h;cases h
  | succ k ih =>
   intro a l h;unfold mX at h;split at h
   ·split at h
    ·exact ih _ _ h
    ·rename_i er hn;cases h;have := KO hn;omega
   ·cases h
 unfold qg at h;split at h
 ·split at h
  ·split at h
   ·split at h
    ·split at h
     ·split at h
      ·cases h
      ·cases h;decide
     ·cases h;decide
    ·rename_i er hb;unfold lC at hb;split at hb
     ·cases hb
     ·cases hb;cases h;decide
   ·cases h;decide
  ·rename_i er hb;cases h;exact hL _ _ _ hb
 ·cases h;decide
theorem WT {s : S} {a : Int} (h : 0 ≤ a) : 0 ≤ (Cb s a).2.1 := by
 unfold Cb
 repeat' split
 all_goals (show (0 : Int) ≤ _;dsimp only;omega)
theorem FV {s : S} {lo hi a : Int} (h : 0 ≤ a) : (∀ n b,qo s lo hi a = .ok (n,b) → 0 ≤ b) ∧ ∀ w e,qo s lo hi a = .error (w,e) → 0 ≤ w ∧ e ≠ 0 := by
 have hp := WT (s := s) h;unfold qo;by_cases h1 : (Cb s a).2.2 = 0
 ·rw [if_pos h1];split
  ·exact ⟨fun n b hh => (by cases hh;exact hp),fun w e hh => (by cases hh)⟩
  ·exact ⟨fun n b hh => (by cases hh),fun w e hh => (by cases hh;exact ⟨h,by decide⟩)⟩
 ·rw [if_neg h1];exact ⟨fun n b hh => (by cases hh),fun w e hh => (by cases hh;exact ⟨h,h1⟩)⟩
theorem xF {s : S} {f : Int} : ∀ (k i : Nat) (a : Int) (L : List Pr),0 ≤ a → (∀ M b,dJ s f k i a L = .ok (M,b) → 0 ≤ b) ∧ ∀ w e,dJ s f k i a L = .error (w,e) → 0 ≤ w ∧ e ≠ 0
 | 0,i,a,L,h => by unfold dJ;exact ⟨fun M b hh => (by cases hh;exact h),fun w e hh => (by cases hh)⟩
 | k + 1,i,a,L,h => by
  unfold dJ FP;obtain ⟨p1,p2⟩ := FV (s := s) (lo := 1) (hi := 2 * (f + (i : Int))) h;cases hx : qo s 1 (2 * (f + (i : Int))) a with
  | error er => dsimp only;exact ⟨fun M b hh => (by cases hh),fun w e hh => (by cases hh;exact p2 _ _ hx)⟩
  | ok xb =>
   obtain ⟨x,b⟩ := xb;have hb := p1 _ _ hx;dsimp only;obtain ⟨q1,q2⟩ := FV (s := s) (lo := 0) (hi := 2 * (f + (i : Int)) - x) hb;cases hy : qo s 0 (2 * (f + (i : Int)) - x) b with
   | error er => dsimp only;exact ⟨fun M b hh => (by cases hh),fun w e hh => (by cases hh;exact q2 _ _ hy)⟩
   | ok yc => obtain ⟨y,c⟩ := yc;dsimp only;exact xF k (i + 1) c _ (q1 _ _ hy)
end Go.Proofs.YtfcpapokknfeeaaGreatDoor
