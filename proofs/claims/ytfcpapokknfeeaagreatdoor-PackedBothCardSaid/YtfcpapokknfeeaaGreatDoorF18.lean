/- Lemmas for this claim, part F18: each holds under what it names. -/
import Derived.Test.YtfcpapokknfeeaaGreatDoorF17
import Derived.Test.YtfcpapokknfeeaaGreatDoorF15
import Derived.Test.YtfcpapokknfeeaaGreatDoorA7
set_option linter.unusedVariables false
set_option linter.unusedSimpArgs false
set_option linter.unnecessarySimpa false
set_option maxRecDepth 20000
set_option maxHeartbeats 16000000
namespace Go.Proofs.YtfcpapokknfeeaaGreatDoor
open Go Go.Proofs Go.Abs
abbrev hPK (s : S) (hd : List V) (h1 : Int) (a : Int) (N I O' : Cl) : H := [.cells [.str s],bM,bF,.cells hd,rdP s a,.cells [vi h1,.ls 6 1 0 N.length N.length,.ls 7 1 0 I.length I.length,.nils,.ls 8 1 0 O'.length O'.length],.cells (N.map vi),.cells (I.map vi),.cells (O'.map vi)]
theorem xG {s : S} {f : Int} : ∀ (k i : Nat) (a : Int) (L M : List Pr) (b : Int),dJ s f k i a L = .ok (M,b) → M.length = L.length + k
 | 0,i,a,L,M,b,h => by unfold dJ at h;cases h;rfl
 | k + 1,i,a,L,M,b,h => by
  unfold dJ at h;split at h
  ·cases h
  ·have := xG k _ _ _ _ _ h;rw [this,List.length_append,List.length_singleton];omega
theorem zaU {g : FuncId} {args : List V} {r : V} (hv : Ev TE g args r) (tl : List Deferred) : Ev { TE with tl := tl } g args r := fun ok w vs hs hl => hv ok w vs hs.untl hl
def Cf : Plan := .alt 0 (.alt 1 (.one 2 <| .one 3 <| .fin) (.one 2 (.one 1 <| .one 3 <| .fin))) (.one 1 (.one 0 <| .one 2 <| .one 3 <| .fin))
def oO : Plan := .take 0 <| .take 2 <| .take 3 <| .alt 1 (.one 4 <| .one 5 <| .one 6 <| .take 7 <| .one 8 <| .fin) (.one 4 (.alt 1 (.one 5 <| .one 6 <| .take 7 <| .one 8 <| .fin) (.one 5 (.one 1 <| .one 6 <| .take 7 <| .one 8 <| .fin))))
def oP : Plan := .take 0 <| .take 2 <| .take 3 <| .take 6 <| .alt 1 (.one 4 <| .one 5 <| .one 7 <| .one 8 <| .one 9 <| .one 10 <| .one 11 <| .take 12 <| .one 13 <| .fin) (.one 4 (.alt 1 (.one 5 <| .one 7 <| .one 8 <| .one 9 <| .one 10 <| .one 11 <| .take 12 <| .one 13 <| .fin) (.one 5 (.alt 1 (.one 7 <| .one 8 <| .one 9 <| .one 10 <| .one 11 <| .take 12 <| .one 13 <| .fin) (.one 7 (.alt 1 (.one 8 <| .one 9 <| .one 10 <| .one 11 <| .take 12 <| .one 13 <| .fin) (.one 8 (.alt 1 (.one 9 <| .one 10 <| .one 11 <| .take 12 <| .one 13 <| .fin) (.one 9 (.alt 1 (.one 10 <| .one 11 <| .take 12 <| .one 13 <| .fin) (.one 10 (.one 1 <| .one 11 <| .take 12 <| .one 13 <| .fin))))))))))))
def oQ : Plan := .take 0 <| .take 2 <| .take 3 <| .alt 1 (.one 4 <| .one 5 <| .one 6 <| .take 7 <| .one 8 <| .fin) (.one 4 (.alt 1 (.one 5 <| .one 6 <| .take 7 <| .one 8 <| .fin) (.one 5 (.one 1 <| .one 6 <| .take 7 <| .one 8 <| .fin))))
theorem xH (s : S) (hs : s.length ≤ 100000) : Ev TE 17 [.str s] (gY s) := by
 have hM : maxLen = 9223372036854775807 := rfl;have eH := TV s [97,105,103] hs;unfold Ht at eH;refine gU ?_;refine gG rfl Tryz.func17 rfl (by simp [nts]) fun ok pl0 w0 => ?_;simp only [nts];refine oz (Q := fun _ _ _ => False) ?_ (fun _ _ _ h => by obtain ⟨_,_,_,_,_,_,h⟩ := h;exact h.elim);refine vm ?_;simp only [wq.1,seval];generalize hFF : Fr.put _ _ _ = FF;have t1 : FF.t 1 = .lp 0 0 := by rw [← hFF];rfl
 have t2 : FF.t 2 = .lp 1 0 := by rw [← hFF];rfl
 have t3 : FF.t 3 = .lp 2 0 := by rw [← hFF];rfl
 have fd : FF.d = [] := by rw [← hFF];rfl
 have fk : FF.k = fun _ => false := by rw [← hFF];rfl
 clear hFF;refine qJ (fn := Tryz.f17) (q := 44) (avs := [.lp 0 0,.lp 1 0,.lp 2 0]) (F1 := FF.put (some 13) (.fn (.func 44) [] [.lp 0 0,.lp 1 0,.lp 2 0])) rfl ⟨rfl,by simp only [wq.1,Nat.reduceLT],by simp only [wq.1,t1,t2,t3],by simp only [wq.1,t1,t2,t3],rfl,rfl,⟨.tmp 13,#[],#[],[.lp 0 0,.lp 1 0,.lp 2 0],rfl,by simp only [wq.1,↓reduceIte],by simp only [wq.1,↓reduceIte],by simp,by simp only [wq.1]⟩,by simp only [wq.1,fd]⟩ rfl fk fun d => ?_;obtain ⟨ee,hee⟩ : ∃ ee : E,ee = { TE with tl := [d] } := ⟨_,rfl⟩;have hP : ee.P = P := by rw [hee];rfl
 have hmix : ee.P.follows .mixedOrders = true := by rw [hP];exact mixed
 have hT : ∀ {g : FuncId} {args : List V} {h : H} {R : AEnd → H → (Nat → Bool) → Prop},ah TE g args h R → ah ee g args h R := fun hc => by rw [hee];exact hc.tl _
 rw [← hee];obtain ⟨QP,eQP⟩ : ∃ QP : XE → Fr → H → Prop,QP = LV TE Tryz.f17 (fun ae h x => match ae with | AEnd.ret v => aC TE h v (gY s) | AEnd.pan v => False) [(44,[.lp 0 0,.lp 1 0,.lp 2 0])] := ⟨_,rfl⟩;refine bG (Q := QP) (fun xe f' h' hq => by rw [eQP] at hq;exact hq) ?_;have hkd : ∀ {f' : Fr},(∀ j,f'.k j = true → 4 ≤ j) → ∀ x ∈ [((44 : FuncId),[V.lp 0 0,V.lp 1 0,V.lp 2 0])],V.drops f'.k x.2 = x.2 := fun {f'} h x hx => by
  have z : ∀ i,i < 4 → f'.k i = false := fun i hi => by
   cases hj : f'.k i with
   | false => rfl
   | true => exact absurd (h i hj) (by omega)
  simp only [List.mem_singleton] at hx;subst hx;simp [V.drops,V.drop,z 0 (by decide),z 1 (by decide),z 2 (by decide)]
 have hpan : ∀ {w : Nat} {e : Int} {f' : Fr} {c1 c2 : List V} {Y : H},iW s = .error (w,e) → c1.length = 8 → c2.length = 3 → f'.d = [] → (∀ j,f'.k j = true → 4 ≤ j) → f'.t 2 = .lp 1 0 → f'.t 3 = .lp 2 0 → QP (.pan (qp w e)) f' (.cells [.str s] :: .cells c1 :: .cells c2 :: Y) := by
  intro w e f' c1 c2 Y hp h1 h2 hd hk t2 t3;have hv : gY s = .tup [ry,bD s w e] := by unfold gY;rw [hp]
  have hf : ∃ x y z,bD s w e = .agg [vi x,vi y,vi z] := by unfold bD;split <;> exact ⟨_,_,_,rfl⟩
  obtain ⟨e1,e2,e3,hf⟩ := hf;rw [eQP,hv];refine ⟨hd,hkd hk,?_⟩;refine Ut w e (by omega) h1 h2 fun X => ⟨fun y hy => (by cases hy),?_⟩;rw [hf];unfold LVr;simp only [Tryz.results17,nts];simp only [wq.1,seval,hd,t2,t3];exact aC.tup (aB.cons (aC.agg (aB.cons (aC.dat rfl) (aB.cons aC.nils (aB.cons aC.nils (aB.cons aC.nils (aB.cons aC.nils (aB.cons aC.nils (aB.cons aC.nils (aB.cons aC.nils aB.nil))))))))) (aB.cons (aC.dat rfl) aB.nil))
 have hret : ∀ {v w : V} {c1 c2 : List V} {f' : Fr} {h : H},gY s = .tup [v,w] → v = .agg c1 → w = .agg c2 → V.dats c1 = true → V.dats c2 = true → f'.d = [] → (∀ j,f'.k j = true → 4 ≤ j) → f'.t 2 = .lp 1 0 → f'.t 3 = .lp 2 0 → h[1]? = some (.cells c1) → c1.length = 8 → h[2]? = some (.cells c2) → c2.length = 3 → QP .ret f' h := by
  intro v w c1 c2 f' h hv h1 h2 d1 d2 hd hk t2 t3 g0 l1 g1 l2;rw [eQP,hv,h1,h2];refine ⟨hd,hkd hk,?_⟩;refine FU fun X => ⟨fun y hy => (by cases hy),?_⟩;have r0 : (h ++ [X])[1]? = some (.cells c1) := by rw [List.getElem?_append_left (List.getElem?_eq_some_iff.1 g0).1];exact g0
  have r1 : (h ++ [X])[2]? = some (.cells c2) := by rw [List.getElem?_append_left (List.getElem?_eq_some_iff.1 g1).1];exact g1
  unfold LVr;simp only [Tryz.results17,nts];simp only [wq.1,seval,hd,t2,t3,r0,r1];refine ⟨⟨by omega,by omega⟩,?_⟩;rw [List.take_of_length_le (by omega),List.take_of_length_le (by omega)];exact aC.tup (aB.cons (aC.dat d1) (aB.cons (aC.dat d2) aB.nil))
 have hretE : ∀ {e1 e2 e3 : Int} {f' : Fr} {h : H},gY s = .tup [ry,.agg [vi e1,vi e2,vi e3]] → f'.d = [] → (∀ j,f'.k j = true → 4 ≤ j) → f'.t 2 = .lp 1 0 → f'.t 3 = .lp 2 0 → h[1]? = some bM → h[2]? = some (.cells [vi e1,vi e2,vi e3]) → QP .ret f' h := by
  intro e1 e2 e3 f' h hv hd hk t2 t3 g0 g1;rw [eQP,hv];refine ⟨hd,hkd hk,?_⟩;refine FU fun X => ⟨fun y hy => (by cases hy),?_⟩;have r0 : (h ++ [X])[1]? = some bM := by rw [List.getElem?_append_left (List.getElem?_eq_some_iff.1 g0).1];exact g0
  have r1 : (h ++ [X])[2]? = some (.cells [vi e1,vi e2,vi e3]) := by rw [List.getElem?_append_left (List.getElem?_eq_some_iff.1 g1).1];exact g1
  unfold LVr;simp only [Tryz.results17,nts];simp only [wq.1,seval,hd,t2,t3,r0,r1];exact aC.tup (aB.cons (aC.agg (aB.cons (aC.dat rfl) (aB.cons aC.nils (aB.cons aC.nils (aB.cons aC.nils (aB.cons aC.nils (aB.cons aC.nils (aB.cons aC.nils (aB.cons aC.nils aB.nil))))))))) (aB.cons (aC.dat rfl) aB.nil))
 refine ag (aN hmix _ _ _ _ ?_);cases hh : qg s [97,105,103] with
 | error er =>
  obtain ⟨w,e⟩ := er;rw [hh] at eH;dsimp only at eH;have he := Uu hh;have hf : bD s w e = .agg [vi e,vi (bZ s w).1,vi (bZ s w).2] := by unfold bD;rw [if_neg he]
  rw [hf] at eH;have hv : gY s = .tup [ry,.agg [vi e,vi (bZ s w).1,vi (bZ s w).2]] := by
   unfold gY iW;rw [hh];show V.tup [ry,bD s w e] = _;rw [hf]
  have hne : (e != 0) = true := by simpa using he
  simp only [wq.1,seval,hP,t1,fd];refine hT (ah.ev eH rfl ?_);simp only [wq.1,seval,hP,t3];refine ag (ag (aN hmix _ _ _ _ ?_));simp only [wq.1,seval,hP,t3,hne];refine bQ (b := true) (by simp only [wq.1,↓reduceIte]) (by simp only [wq.1,↓reduceIte]) (fun _ => ?_) (fun hb => by cases hb);refine ag ?_;refine bu hmix Cf (fun f h => f.t 2 = .lp 1 0 ∧ f.t 3 = .lp 2 0 ∧ f.d = [] ∧ (∀ j,f.k j = true → 4 ≤ j) ∧ h[1]? = some bM ∧ h[2]? = some (.cells [vi e,vi (bZ s w).1,vi (bZ s w).2])) (by rw [hP];decide +kernel) (by decide +kernel) ?_ ?_
  ·simp only [wq.1,seval,hP,Cf,t2,t3]
   repeat' apply And.intro
   all_goals first | rfl | exact fun j hj => (by cases hj) | skip
  ·rintro f h ⟨t2,t3,gd,uk,g0,g1⟩;show awp _ _ _ _ _ _ _;refine aN hmix _ _ _ _ ?_;simp only [wq.1];exact hretE hv gd uk t2 t3 g0 g1
 | ok lb =>
  obtain ⟨l,b⟩ := lb;rw [hh] at eH;dsimp only at eH;obtain ⟨a0,a1,a2,a3,a4,a5,a6,rfl,c0,c1,c2,c3,c4,c5,c6,c7,c8,c9⟩ := uI hh;have hpA : iW s = (if a0 = a1 + a2 + a4 then (match pG s (2 * a0 + 1) (1 + a1) a2.toNat 0 b [] [] with
  | .error e => .error e
  | .ok ((N,I),b) => match pI s (2 * a0 + 1) (a3 + a5 + a6).toNat b [] with
   | .error e => .error e
   | .ok (O,c) => match dJ s (1 + a1 + a2) a4.toNat 0 (c : Int) [] with
    | .error (w,e) => .error (w.toNat,e)
    | .ok (A,d) => YG ⟨a1,N,I,A,O⟩ (wK s [a1,a2,a3,a5,a6] d.toNat)) else .error (0,1)) := by unfold iW;rw [hh];rfl
  simp only [wq.1,seval,hP,t1,fd];refine hT (ah.ev eH rfl ?_);simp only [wq.1,seval,hP,t3];generalize hGG : Fr.put _ _ _ = GG;have u1 : GG.t 1 = .lp 0 0 := by rw [← hGG];exact t1
  have u2 : GG.t 2 = .lp 1 0 := by rw [← hGG];exact t2
  have u3 : GG.t 3 = .lp 2 0 := by rw [← hGG];exact t3
  have u4 : GG.t 4 = .lp 3 0 := by rw [← hGG];rfl
  have u5 : GG.t 5 = vi b := by rw [← hGG];rfl
  have ud : GG.d = [] := by rw [← hGG];rfl
  have uk : ∀ j,GG.k j = true → 6 ≤ j := fun j hj => by rw [← hGG] at hj;cases hj
  clear hGG t1 t2 t3 fd fk;refine ag (aN hmix _ _ _ _ ?_);simp only [wq.1,seval,-Int.reduceNatCast,-Int.reduceNatCast',ak,Tryz.results17,hP,u1,u2,u3,ud];have w1 : IntKind.i64.wrap (a1 + a2) = a1 + a2 := aZ (by omega) (by omega);have w2 : IntKind.i64.wrap (a1 + a2 + a4) = a1 + a2 + a4 := aZ (by omega) (by omega);have w3 : IntKind.i64.wrap (2 * a0) = 2 * a0 := aZ (by omega) (by omega);have w4 : IntKind.i64.wrap (2 * a0 + 1) = 2 * a0 + 1 := aZ (by omega) (by omega);refine ag (aN hmix _ _ _ _ ?_);simp only [wq.1,seval,-Int.reduceNatCast,-Int.reduceNatCast',ak,Tryz.results17,hP,u1,u2,u3,u4,u5,ud,w1,w2];refine ⟨by decide,by decide,by decide,by decide,?_⟩;refine hT (cZ _ 0 1 (fun hq => ?_) (fun hq => ?_))
  rotate_left
  ·have hne : ¬ a0 = a1 + a2 + a4 := by simpa using hq
   rw [if_neg hne] at hpA;simp only [wq.1,aX,ud];simp only [XE.seq];exact hpan (w := 0) (c1 := [vi 0,.nils,.nils,.nils,.nils,.nils,.nils,.nils]) (c2 := [vi 0,vi 0,vi 0]) hpA rfl rfl (by simp only [wq.1,ud]) (fun j hj => Nat.le_trans (by decide) (uk j (by simpa only [tJ,Dj,Bool.or_false,Bool.false_or] using hj))) (by simp only [wq.1,seval,u2]) (by simp only [wq.1,seval,u3])
  have hq : a0 = a1 + a2 + a4 := by simpa using hq
  rw [if_pos hq] at hpA;simp only [wq.1,seval,-Int.reduceNatCast,-Int.reduceNatCast',ak,Tryz.results17,bg,hP,ud];refine ag (aN hmix _ _ _ _ ?_);simp only [wq.1,seval,-Int.reduceNatCast,-Int.reduceNatCast',ak,Tryz.results17,hP,u1,u2,u3,u4,u5,ud];refine ag (aN hmix _ _ _ _ ?_);simp only [wq.1,seval,-Int.reduceNatCast,-Int.reduceNatCast',ak,Tryz.results17,hP,u1,u2,u3,u4,u5,ud,w3,w4];refine ⟨by decide,?_⟩;refine ag (aN hmix _ _ _ _ ?_);simp only [wq.1,seval,-Int.reduceNatCast,-Int.reduceNatCast',ak,Tryz.results17,hP,u1,u2,u3,u4,u5,ud];refine ⟨by decide,?_⟩;refine fU (fU (fU ?_));obtain ⟨hd,ehd⟩ : ∃ hd : List V,hd = [vi a0,vi a1,vi a2,vi a3,vi a4,vi a5,vi a6,vi 0,vi 0] := ⟨_,rfl⟩;refine vK (h' := hPK s hd a1 b [] [] []) (HLe.trans (HLe.set (i := 5) (o' := .cells [vi a1,.ls 6 1 0 0 0,.ls 7 1 0 0 0,.nils,.ls 8 1 0 0 0]) rfl (OLe.cells (by simp) (dW.cons (VLe.refl _) (dW.cons dD (dW.cons dD (dW.cons (VLe.refl _) (dW.cons dD dW.nil))))))) (by rw [ehd];exact HLe.refl _)) ?_;generalize hGG : Fr.put _ _ _ = G2;have t1 : G2.t 1 = .lp 0 0 := by rw [← hGG];exact u1
  have t2 : G2.t 2 = .lp 1 0 := by rw [← hGG];exact u2
  have t3 : G2.t 3 = .lp 2 0 := by rw [← hGG];exact u3
  have t4 : G2.t 4 = .lp 3 0 := by rw [← hGG];exact u4
  have t6 : G2.t 6 = .lp 4 0 := by rw [← hGG];rfl
  have t7 : G2.t 7 = vi (2 * a0 + 1) := by rw [← hGG];rfl
  have t8 : G2.t 8 = .lp 5 0 := by rw [← hGG];rfl
  have fd : G2.d = [] := by rw [← hGG];exact ud
  have fk : ∀ j,G2.k j = true → 6 ≤ j := fun j hj => uk j (by rw [← hGG] at hj;exact hj);clear hGG u1 u2 u3 u4 u5 ud uk;obtain ⟨mo,hmo⟩ : ∃ mo,mo = 2 * a0 + 1 := ⟨_,rfl⟩;obtain ⟨n2,hn2⟩ : ∃ n : Nat,a2 = n := ⟨a2.toNat,by omega⟩;obtain ⟨n3,hn3⟩ : ∃ n : Nat,a3 + a5 + a6 = n := ⟨(a3 + a5 + a6).toNat,by omega⟩;rw [← hmo] at hpA t7;obtain ⟨PL,hPL⟩ : ∃ PL,PL = pG s mo (1 + a1) n2 0 b [] [] := ⟨_,rfl⟩;rw [hn3,show a2.toNat = n2 by omega,Int.toNat_natCast,← hPL] at hpA;have hpL : ∀ {w : Nat} {e : Int} {f' : Fr} {bb : Int} {N I O' : Cl},iW s = .error (w,e) → f'.d = [] → (∀ j,f'.k j = true → 6 ≤ j) → f'.t 2 = .lp 1 0 → f'.t 3 = .lp 2 0 → QP (.pan (qp w e)) f' (hPK s hd a1 bb N I O') := fun hp h1 h2 h3 h4 => hpan hp rfl rfl h1 (fun j hj => Nat.le_trans (by decide) (h2 j hj)) h3 h4;have hd1 : hd.getD 1 .any = vi a1 := by rw [ehd];rfl
  have hdl : hd.length = 9 := by rw [ehd];rfl
  have dhd : ∀ p,V.drops p hd = hd := fun p => by rw [ehd];rfl
  have kor : ∀ {k : Nat → Bool} {c : Nat},6 ≤ c → (∀ j,k j = true → 6 ≤ j) → ∀ j,(k j || j == c) = true → 6 ≤ j := fun {k c} hc hk j hj => by
   rw [Bool.or_eq_true] at hj;rcases hj with hj | hj
   ·exact hk j hj
   ·have : j = c := by simpa using hj
    omega
  refine ag ?_;refine ag (aN hmix _ _ _ _ ?_);simp only [wq.1,seval,-Int.reduceNatCast,-Int.reduceNatCast',ak,Tryz.results17,hP,t1,t2,t3,t4,t6,t7,t8,fd,ehd];rw [← ehd,hn2];refine ⟨by decide,?_⟩;refine az ?_;refine aF (fun mm f h' => ∃ (i bb : Nat) (N I : Cl),mm + i = n2 ∧ N.length = i ∧ I.length = i ∧ PL = pG s mo (1 + a1) (n2 - i) i bb N I ∧ f.t 1 = .lp 0 0 ∧ f.t 2 = .lp 1 0 ∧ f.t 3 = .lp 2 0 ∧ f.t 4 = .lp 3 0 ∧ f.t 6 = .lp 4 0 ∧ f.t 7 = vi mo ∧ f.t 8 = .lp 5 0 ∧ f.t 49 = vi n2 ∧ f.t 50 = vi i ∧ f.d = [] ∧ (∀ j,f.k j = true → 6 ≤ j) ∧ h' = hPK s hd a1 bb N I []) n2 ⟨0,b,[],[],by omega,rfl,rfl,hPL,by simp only [wq.1,seval,t1],by simp only [wq.1,seval,t2],by simp only [wq.1,seval,t3],by simp only [wq.1,seval,t4],by simp only [wq.1,seval,t6],by simp only [wq.1,seval,t7],by simp only [wq.1,seval,t8],by simp only [wq.1,seval],rfl,by simp only [wq.1,fd],fk,rfl⟩ ?_;clear t1 t2 t3 t4 t6 t7 t8 fd fk hPL;rintro mm f h' ⟨i,bb,N,I,hmm,hNl,hIl,hun,t1,t2,t3,t4,t6,t7,t8,t49,t50,fd,fk,rfl⟩;refine ag (aN hmix _ _ _ _ ?_);simp only [wq.1,Nat.reduceLT,hP,t49,t50];refine ag (aN hmix _ _ _ _ ?_);simp only [wq.1,seval,-Int.reduceNatCast,-Int.reduceNatCast',ak,Tryz.results17,hP,t1,t2,t3,t4,t6,t7,t8,t49,t50,fd];refine vcB.mk (fun hlt => ?_) (fun hlt => ?_)
  ·have hlt : i < n2 := by have := of_decide_eq_true hlt;omega
   rw [show n2 - i = (n2 - i - 1) + 1 by omega] at hun;unfold pG NS at hun;obtain ⟨lit,hlit⟩ : ∃ lit,lit = 2 * (1 + a1 + (i : Int)) := ⟨_,rfl⟩;rw [← hlit] at hun;have x1 : IntKind.i64.wrap (1 + a1) = 1 + a1 := aZ (by omega) (by omega);have x2 : IntKind.i64.wrap (1 + a1 + (i : Int)) = 1 + a1 + i := aZ (by omega) (by omega);have x3 : IntKind.i64.wrap (2 * (1 + a1 + (i : Int))) = lit := by rw [hlit];exact aZ (by omega) (by omega)
   have hw := ax (show i < maxLen by omega);have dI : ∀ (p : Nat → Bool) (l : Cl),V.drops p (l.map vi) = l.map vi := fun p l => aP _;refine ag (az ?_);refine ag (aN hmix _ _ _ _ ?_);simp only [wq.1,seval,-Int.reduceNatCast,-Int.reduceNatCast',ak,Tryz.results17,hP,t1,t2,t3,t4,t6,t7,t8,t49,t50,fd];refine ag ?_;cases hx : x8 s mo bb with
   | error er =>
    obtain ⟨w,e⟩ := er;rw [hx] at hun;rw [hun] at hpA;refine bY hmix oO (fun _ _ => False) [2,3] (fun v d kk ts h' => d = [] ∧ (∀ j,kk j = true → 6 ≤ j) ∧ ts = [.lp 1 0,.lp 2 0] ∧ v = qp w e ∧ h' = hPK s hd a1 bb N I []) (by rw [hP];decide +kernel) (by decide +kernel) ?_ (fun _ _ h => h.elim) ?_
    ·simp only [wq.1,seval,-Int.reduceNatCast,-Int.reduceNatCast',ak,Tryz.results17,oO,hP,t2,t3,t6,t7,t8,fd]
     repeat' apply And.intro
     all_goals
      refine hT (iM (s := s) (a := bb) hs rfl (fun n b hn => by rw [hx] at hn;cases hn) (fun w' e' hn => ?_));rw [hx] at hn;cases hn;simp only [wq.1,seval,-Int.reduceNatCast,-Int.reduceNatCast',ak,Tryz.results17,aX,oO,gI,hP,t2,t3,fd];exact fk
    ·rintro v f' h' ⟨kd,kk,kt,rfl,rfl⟩;simp only [XE.block,XE.seq];simp only [List.map_cons,List.map_nil,List.cons.injEq,and_true] at kt;exact hpL hpA kd kk kt.1 kt.2
   | ok nb =>
    obtain ⟨nn,b2⟩ := nb;rw [hx] at hun;dsimp only at hun;refine bY hmix oO (fun f h => f.t 1 = .lp 0 0 ∧ f.t 2 = .lp 1 0 ∧ f.t 3 = .lp 2 0 ∧ f.t 4 = .lp 3 0 ∧ f.t 6 = .lp 4 0 ∧ f.t 7 = vi mo ∧ f.t 8 = .lp 5 0 ∧ f.t 9 = vi i ∧ f.t 49 = vi n2 ∧ f.t 50 = vi i ∧ f.d = [] ∧ (∀ j,f.k j = true → 6 ≤ j) ∧ h = hPK s hd a1 b2 (N ++ [nn]) I []) [] (fun _ _ _ _ _ => False) (by rw [hP];decide +kernel) (by decide +kernel) ?_ ?_ (fun _ _ _ h => h.elim)
    ·simp only [wq.1,seval,-Int.reduceNatCast,-Int.reduceNatCast',ak,Tryz.results17,oO,hP,t1,t2,t3,t4,t6,t7,t8,t49,t50,fd]
     repeat' apply And.intro
     all_goals
      refine hT (iM (s := s) (a := bb) hs rfl (fun n b hn => ?_) (fun w' e' hn => by rw [hx] at hn;cases hn));rw [hx] at hn;cases hn;simp only [wq.1,↓reduceIte,Nat.reduceEqDiff,Nat.reduceLT,Nat.reduceLeDiff,Nat.reduceAdd,Nat.reduceSub,Int.reduceToNat,Nat.reduceDiv,Int.reduceLT,Int.reduceLE,Int.reduceNeg,Int.reduceBEq,Int.reduceBNe,Int.reduceAdd,Int.reduceSub,Nat.reduceBEq,reduceCtorEq,Nat.reduceMul,ak,Tryz.results17,bg,oO,dw,hP,t1,t2,t3,t4,t6,t7,t8,t49,t50,fd,dI,List.length_map];refine ⟨⟨rfl,by decide⟩,⟨by omega,by omega,by omega⟩,kor (by decide) fk,?_⟩;simp only [hPK,dhd,List.length_append,List.length_singleton,List.map_append,List.map_cons,List.map_nil,List.length_nil]
    ·rintro f h ⟨t1,t2,t3,t4,t6,t7,t8,t9,t49,t50,fd,fk,rfl⟩;show awp _ _ _ _ _ _ _;refine ag ?_;cases hy : H9 s lit b2 with
     | error er =>
      obtain ⟨w,e⟩ := er;rw [hy] at hun;rw [hun] at hpA;refine bY hmix oP (fun _ _ => False) [2,3] (fun v d kk ts h' => d = [] ∧ (∀ j,kk j = true → 6 ≤ j) ∧ ts = [.lp 1 0,.lp 2 0] ∧ v = qp w e ∧ ∃ bb : Int,h' = hPK s hd a1 bb (N ++ [nn]) I []) (by rw [hP];decide +kernel) (by decide +kernel) ?_ (fun _ _ h => h.elim) ?_
      ·simp only [wq.1,seval,-Int.reduceNatCast,-Int.reduceNatCast',ak,Tryz.results17,oP,hP,t2,t3,t4,t6,t7,t8,t9,fd,hd1,hdl,x1,x2,x3]
       repeat' apply And.intro
       all_goals first
        | omega
        | (refine hT (rF (s := s) (a := b2) hs rfl (fun n b hn => by rw [hy] at hn; cases hn) (fun w' e' hn bb => ?_))
           rw [hy] at hn;cases hn;simp only [wq.1,seval,-Int.reduceNatCast,-Int.reduceNatCast',ak,Tryz.results17,aX,oP,gI,hP,t2,t3,fd];refine ⟨fk,bb,?_⟩;simp only [hPK,dhd,List.length_append,List.length_singleton,List.map_append,List.map_cons,List.map_nil,List.length_nil])
      ·rintro v f' h' ⟨kd,kk,kt,rfl,bb,rfl⟩;simp only [XE.block,XE.seq];simp only [List.map_cons,List.map_nil,List.cons.injEq,and_true] at kt;exact hpL hpA kd kk kt.1 kt.2
     | ok vb3 =>
      obtain ⟨v,b3⟩ := vb3;rw [hy] at hun;dsimp only at hun;refine bY hmix oP (fun f h => f.t 1 = .lp 0 0 ∧ f.t 2 = .lp 1 0 ∧ f.t 3 = .lp 2 0 ∧ f.t 4 = .lp 3 0 ∧ f.t 6 = .lp 4 0 ∧ f.t 7 = vi mo ∧ f.t 8 = .lp 5 0 ∧ f.t 49 = vi n2 ∧ f.t 50 = vi i ∧ f.d = [] ∧ (∀ j,f.k j = true → 6 ≤ j) ∧ h = hPK s hd a1 b3 (N ++ [nn]) (I ++ [v]) []) [] (fun _ _ _ _ _ => False) (by rw [hP];decide +kernel) (by decide +kernel) ?_ ?_ (fun _ _ _ h => h.elim)
      ·simp only [wq.1,seval,-Int.reduceNatCast,-Int.reduceNatCast',ak,Tryz.results17,oP,hP,t1,t2,t3,t4,t6,t7,t8,t9,t49,t50,fd,hd1,hdl,x1,x2,x3]
       repeat' apply And.intro
       all_goals first
        | omega
        | (refine hT (rF (s := s) (a := b2) hs rfl (fun n b hn => ?_) (fun w' e' hn bb => by rw [hy] at hn; cases hn))
           rw [hy] at hn;cases hn;simp only [wq.1,↓reduceIte,Nat.reduceEqDiff,Nat.reduceLT,Nat.reduceLeDiff,Nat.reduceAdd,Nat.reduceSub,Int.reduceToNat,Nat.reduceDiv,Int.reduceLT,Int.reduceLE,Int.reduceNeg,Int.reduceBEq,Int.reduceBNe,Int.reduceAdd,Int.reduceSub,Nat.reduceBEq,reduceCtorEq,Nat.reduceMul,ak,Tryz.results17,bg,oP,dw,hP,t1,t2,t3,t4,t6,t7,t8,t9,t49,t50,fd,dI,List.length_map,hd1,hdl,x1,x2,x3];refine ⟨⟨rfl,by decide⟩,⟨by omega,by omega,by omega⟩,kor (by decide) fk,?_⟩;simp only [hPK,dhd,List.length_append,List.length_singleton,List.map_append,List.map_cons,List.map_nil,List.length_nil])
      ·rintro f h ⟨t1,t2,t3,t4,t6,t7,t8,t49,t50,fd,fk,rfl⟩;show awp _ _ _ _ _ _ _;refine aN hmix _ _ _ _ ?_;simp only [wq.1,seval,hP,t6];refine hT (y9 (s := s) (a := b3) (by omega) rfl (fun he => ?_) (fun he => ?_))
       ·unfold lC at hun;rw [if_pos he] at hun;dsimp only at hun;simp only [wq.1];refine aN hmix _ _ _ _ ?_;simp only [wq.1,seval,hP,t50,hw];exact .inl ⟨mm - 1,by omega,i + 1,b3 + 1,N ++ [nn],I ++ [v],by omega,by simp [hNl],by simp [hIl],by rw [hun,Nat.sub_sub],by simp only [wq.1,seval,t1],by simp only [wq.1,seval,t2],by simp only [wq.1,seval,t3],by simp only [wq.1,seval,t4],by simp only [wq.1,seval,t6],by simp only [wq.1,seval,t7],by simp only [wq.1,seval,t8],by simp only [wq.1,seval,t49],rfl,by simp only [wq.1,fd],fk,by simp only [hPK,List.length_append,List.length_singleton,List.map_append,List.map_cons,List.map_nil,List.length_nil]⟩
       ·unfold lC at hun;rw [if_neg (by rw [he];decide)] at hun;rw [hun] at hpA;simp only [wq.1,seval,-Int.reduceNatCast,-Int.reduceNatCast',ak,Tryz.results17,aX,hP,fd];simp only [XE.block,XE.seq];exact hpL hpA (by simp only [wq.1,seval,-Int.reduceNatCast,-Int.reduceNatCast',ak,Tryz.results17,fd]) (fun j hj => fk j (by simpa only [tJ,Dj,Bool.or_false,Bool.false_or] using hj)) (by simp only [wq.1,seval,-Int.reduceNatCast,-Int.reduceNatCast',ak,Tryz.results17,t2]) (by simp only [wq.1,seval,-Int.reduceNatCast,-Int.reduceNatCast',ak,Tryz.results17,t3])
  ·have hin : i = n2 := by have := of_decide_eq_false hlt;omega
   subst hin;rw [Nat.sub_self] at hun;unfold pG at hun;rw [hun] at hpA;dsimp only at hpA;obtain ⟨QL,hQL⟩ : ∃ QL,QL = pI s mo n3 bb [] := ⟨_,rfl⟩;rw [← hQL] at hpA;have x4 : IntKind.i64.wrap (a3 + a5) = a3 + a5 := aZ (by omega) (by omega);have x5 : IntKind.i64.wrap (a3 + a5 + a6) = n3 := by rw [hn3];exact aZ (by omega) (by omega)
   simp only [wq.1,seval,-Int.reduceNatCast,-Int.reduceNatCast',ak,Tryz.results17];refine ag ?_;refine ag (aN hmix _ _ _ _ ?_);simp only [wq.1,seval,-Int.reduceNatCast,-Int.reduceNatCast',ak,Tryz.results17,hP,t1,t2,t3,t4,t6,t7,t8,fd,ehd,x4,x5];rw [← ehd];refine ⟨by decide,by decide,by decide,?_⟩;refine az ?_;refine aF (fun mm f h' => ∃ (j cc : Nat) (O' : Cl),mm + j = n3 ∧ O'.length = j ∧ QL = pI s mo (n3 - j) cc O' ∧ f.t 1 = .lp 0 0 ∧ f.t 2 = .lp 1 0 ∧ f.t 3 = .lp 2 0 ∧ f.t 4 = .lp 3 0 ∧ f.t 6 = .lp 4 0 ∧ f.t 7 = vi mo ∧ f.t 8 = .lp 5 0 ∧ f.t 84 = vi n3 ∧ f.t 85 = vi j ∧ f.d = [] ∧ (∀ j,f.k j = true → 6 ≤ j) ∧ h' = hPK s hd a1 cc N I O') n3 ⟨0,bb,[],by omega,rfl,hQL,by simp only [wq.1,seval,t1],by simp only [wq.1,seval,t2],by simp only [wq.1,seval,t3],by simp only [wq.1,seval,t4],by simp only [wq.1,seval,t6],by simp only [wq.1,seval,t7],by simp only [wq.1,seval,t8],by simp only [wq.1,seval],rfl,by simp only [wq.1,seval,-Int.reduceNatCast,-Int.reduceNatCast',ak,Tryz.results17,fd],fk,rfl⟩ ?_;clear t1 t2 t3 t4 t6 t7 t8 t49 t50 fd fk hQL;rintro mm f h' ⟨j,cc,O',hmm,hOl,hun,t1,t2,t3,t4,t6,t7,t8,t84,t85,fd,fk,rfl⟩;refine ag (aN hmix _ _ _ _ ?_);simp only [wq.1,seval,-Int.reduceNatCast,-Int.reduceNatCast',ak,Tryz.results17,hP,t1,t2,t3,t4,t6,t7,t8,t84,t85,fd];refine ag (aN hmix _ _ _ _ ?_);simp only [wq.1,seval,-Int.reduceNatCast,-Int.reduceNatCast',ak,Tryz.results17,hP,t1,t2,t3,t4,t6,t7,t8,t84,t85,fd];have dI : ∀ (p : Nat → Bool) (l : Cl),V.drops p (l.map vi) = l.map vi := fun p l => aP _;refine vcB.mk (fun hlt => ?_) (fun hlt => ?_)
   ·have hlt : j < n3 := by have := of_decide_eq_true hlt;omega
    rw [show n3 - j = (n3 - j - 1) + 1 by omega] at hun;unfold pI Y3 at hun;have hw := ax (show j < maxLen by omega);refine ag (az ?_);refine ag ?_;cases hx : x8 s mo cc with
    | error er =>
     obtain ⟨w,e⟩ := er;rw [hx] at hun;rw [hun] at hpA;refine bY hmix oQ (fun _ _ => False) [2,3] (fun v d kk ts h' => d = [] ∧ (∀ j,kk j = true → 6 ≤ j) ∧ ts = [.lp 1 0,.lp 2 0] ∧ v = qp w e ∧ h' = hPK s hd a1 cc N I O') (by rw [hP];decide +kernel) (by decide +kernel) ?_ (fun _ _ h => h.elim) ?_
     ·simp only [wq.1,seval,-Int.reduceNatCast,-Int.reduceNatCast',ak,Tryz.results17,oQ,hP,t2,t3,t6,t7,t8,fd]
      repeat' apply And.intro
      all_goals
       refine hT (iM (s := s) (a := cc) hs rfl (fun n b hn => by rw [hx] at hn;cases hn) (fun w' e' hn => ?_));rw [hx] at hn;cases hn;simp only [wq.1,seval,-Int.reduceNatCast,-Int.reduceNatCast',ak,Tryz.results17,aX,oQ,gI,hP,t2,t3,fd];exact fk
     ·rintro v f' h' ⟨kd,kk,kt,rfl,rfl⟩;simp only [XE.block,XE.seq];simp only [List.map_cons,List.map_nil,List.cons.injEq,and_true] at kt;exact hpL hpA kd kk kt.1 kt.2
    | ok nb =>
     obtain ⟨nn,c2⟩ := nb;rw [hx] at hun;dsimp only at hun;refine bY hmix oQ (fun f h => f.t 1 = .lp 0 0 ∧ f.t 2 = .lp 1 0 ∧ f.t 3 = .lp 2 0 ∧ f.t 4 = .lp 3 0 ∧ f.t 6 = .lp 4 0 ∧ f.t 7 = vi mo ∧ f.t 8 = .lp 5 0 ∧ f.t 84 = vi n3 ∧ f.t 85 = vi j ∧ f.d = [] ∧ (∀ j,f.k j = true → 6 ≤ j) ∧ h = hPK s hd a1 c2 N I (O' ++ [nn])) [] (fun _ _ _ _ _ => False) (by rw [hP];decide +kernel) (by decide +kernel) ?_ ?_ (fun _ _ _ h => h.elim)
     ·simp only [wq.1,seval,-Int.reduceNatCast,-Int.reduceNatCast',ak,Tryz.results17,oQ,hP,t1,t2,t3,t4,t6,t7,t8,t84,t85,fd]
      repeat' apply And.intro
      all_goals
       refine hT (iM (s := s) (a := cc) hs rfl (fun n b hn => ?_) (fun w' e' hn => by rw [hx] at hn;cases hn));rw [hx] at hn;cases hn;simp only [wq.1,↓reduceIte,Nat.reduceEqDiff,Nat.reduceLT,Nat.reduceLeDiff,Nat.reduceAdd,Nat.reduceSub,Int.reduceToNat,Nat.reduceDiv,Int.reduceLT,Int.reduceLE,Int.reduceNeg,Int.reduceBEq,Int.reduceBNe,Int.reduceAdd,Int.reduceSub,Nat.reduceBEq,reduceCtorEq,Nat.reduceMul,ak,Tryz.results17,bg,oQ,dw,hP,t1,t2,t3,t4,t6,t7,t8,t84,t85,fd,dI,List.length_map];refine ⟨⟨rfl,by decide⟩,⟨by omega,by omega,by omega⟩,kor (by decide) fk,?_⟩;simp only [hPK,dhd,List.length_append,List.length_singleton,List.map_append,List.map_cons,List.map_nil,List.length_nil]
     ·rintro f h ⟨t1,t2,t3,t4,t6,t7,t8,t84,t85,fd,fk,rfl⟩;show awp _ _ _ _ _ _ _;refine aN hmix _ _ _ _ ?_;simp only [wq.1,seval,hP,t6];refine hT (y9 (s := s) (a := c2) (by omega) rfl (fun he => ?_) (fun he => ?_))
      ·unfold lC at hun;rw [if_pos he] at hun;dsimp only at hun;simp only [wq.1];refine aN hmix _ _ _ _ ?_;simp only [wq.1,seval,hP,t85,hw];exact .inl ⟨mm - 1,by omega,j + 1,c2 + 1,O' ++ [nn],by omega,by simp [hOl],by rw [hun,Nat.sub_sub],by simp only [wq.1,seval,t1],by simp only [wq.1,seval,t2],by simp only [wq.1,seval,t3],by simp only [wq.1,seval,t4],by simp only [wq.1,seval,t6],by simp only [wq.1,seval,t7],by simp only [wq.1,seval,t8],by simp only [wq.1,seval,t84],rfl,by simp only [wq.1,seval,-Int.reduceNatCast,-Int.reduceNatCast',ak,Tryz.results17,fd],fk,by simp only [hPK,List.length_append,List.length_singleton,List.map_append,List.map_cons,List.map_nil,List.length_nil]⟩
      ·unfold lC at hun;rw [if_neg (by rw [he];decide)] at hun;rw [hun] at hpA;simp only [wq.1,seval,-Int.reduceNatCast,-Int.reduceNatCast',ak,Tryz.results17,aX,hP,fd];simp only [XE.block,XE.seq];exact hpL hpA (by simp only [wq.1,seval,-Int.reduceNatCast,-Int.reduceNatCast',ak,Tryz.results17,fd]) (fun j hj => fk j (by simpa only [tJ,Dj,Bool.or_false,Bool.false_or] using hj)) (by simp only [wq.1,seval,-Int.reduceNatCast,-Int.reduceNatCast',ak,Tryz.results17,t2]) (by simp only [wq.1,seval,-Int.reduceNatCast,-Int.reduceNatCast',ak,Tryz.results17,t3])
   ·have hjn : j = n3 := by have := of_decide_eq_false hlt;omega
    subst hjn;rw [Nat.sub_self] at hun;unfold pI at hun;rw [hun] at hpA;dsimp only at hpA;simp only [wq.1,seval,-Int.reduceNatCast,-Int.reduceNatCast',ak,Tryz.results17];show awp _ _ _ _ _ _ _;obtain ⟨r1,r2,r3,hr⟩ : ∃ r1 r2 r3,mM s (cc : Int) (1 + a1 + a2) a4 = (r1,r2,r3) := ⟨_,_,_,rfl⟩;have hU := xE s (cc : Int) (1 + a1 + a2) a4 hs;rw [hr] at hU;dsimp only at hU;have hcs : (r3 = 0 ∧ ∃ d : Nat,r2 = d ∧ dJ s (1 + a1 + a2) a4.toNat 0 (cc : Int) [] = .ok (r1,(d : Int))) ∨ (r3 ≠ 0 ∧ ∃ w : Nat,r2 = w ∧ dJ s (1 + a1 + a2) a4.toNat 0 (cc : Int) [] = .error ((w : Int),r3)) := by
     unfold mM at hr;rw [if_neg (by omega)] at hr;obtain ⟨z1,z2⟩ := xF (s := s) (f := 1 + a1 + a2) a4.toNat 0 (cc : Int) [] (Int.natCast_nonneg _);cases hu : dJ s (1 + a1 + a2) a4.toNat 0 (cc : Int) [] with
     | ok Lb => obtain ⟨L,d⟩ := Lb;rw [hu] at hr;simp only [Prod.mk.injEq] at hr;obtain ⟨rfl,rfl,rfl⟩ := hr;exact .inl ⟨rfl,d.toNat,(Int.toNat_of_nonneg (z1 _ _ hu)).symm,by rw [Int.toNat_of_nonneg (z1 _ _ hu)]⟩
     | error we => obtain ⟨w,e⟩ := we;rw [hu] at hr;simp only [Prod.mk.injEq] at hr;obtain ⟨rfl,rfl,rfl⟩ := hr;obtain ⟨z3,z4⟩ := z2 _ _ hu;exact .inr ⟨z4,w.toNat,(Int.toNat_of_nonneg z3).symm,by rw [Int.toNat_of_nonneg z3]⟩
    have y1 : IntKind.i64.wrap (1 + a1) = 1 + a1 := aZ (by omega) (by omega);have y2 : IntKind.i64.wrap (1 + a1 + a2) = 1 + a1 + a2 := aZ (by omega) (by omega);refine ag (aN hmix _ _ _ _ ?_);simp only [wq.1,seval,-Int.reduceNatCast,-Int.reduceNatCast',ak,Tryz.results17,hP,t1,t2,t3,t4,t6,t7,t8,fd,ehd,y1,y2];rw [← ehd];refine ⟨by decide +kernel,by decide,by decide,by decide,yw.mk (by rw [hee];exact zaU hU [d]) (by rw [hP];rfl) rfl ?_⟩;simp only [wq.1,seval,hP];generalize hGG : Fr.put _ _ _ = G3;have u1 : G3.t 1 = .lp 0 0 := by rw [← hGG];exact t1
    have u2 : G3.t 2 = .lp 1 0 := by rw [← hGG];exact t2
    have u3 : G3.t 3 = .lp 2 0 := by rw [← hGG];exact t3
    have u4 : G3.t 4 = .lp 3 0 := by rw [← hGG];exact t4
    have u5 : G3.t 5 = vi r2 := by rw [← hGG];rfl
    have u8 : G3.t 8 = .lp 5 0 := by rw [← hGG];exact t8
    have u10 : G3.t 10 = prs r1 := by rw [← hGG];rfl
    have u11 : G3.t 11 = vi r3 := by rw [← hGG];rfl
    have ud : G3.d = [] := by rw [← hGG];exact fd
    have uk : ∀ j,G3.k j = true → 6 ≤ j := fun j hj => fk j (by rw [← hGG] at hj;exact hj);clear hGG t1 t2 t3 t4 t6 t7 t8 t84 t85 fd fk;refine ag (aN hmix _ _ _ _ ?_);simp only [wq.1,seval,-Int.reduceNatCast,-Int.reduceNatCast',ak,Tryz.results17,hP,u5,u11,ud];rcases hcs with ⟨rfl,dd,rfl,hok⟩ | ⟨hne,w,rfl,her⟩
    rotate_left
    ·rw [her] at hpA;have hnb : (r3 == 0) = false := by simpa using hne
     rw [hnb];refine hT (cZ _ _ _ (fun hb => by cases hb) (fun _ => ?_));dsimp only at hpA;rw [Int.toNat_natCast] at hpA;simp only [wq.1,seval,-Int.reduceNatCast,-Int.reduceNatCast',ak,Tryz.results17,aX,hP,ud];simp only [XE.seq];exact hpL hpA (by simp only [wq.1,seval,-Int.reduceNatCast,-Int.reduceNatCast',ak,Tryz.results17,ud]) (fun j hj => uk j (by simpa only [tJ,Dj,Bool.or_false,Bool.false_or] using hj)) (by simp only [wq.1,seval,-Int.reduceNatCast,-Int.reduceNatCast',ak,Tryz.results17,u2]) (by simp only [wq.1,seval,-Int.reduceNatCast,-Int.reduceNatCast',ak,Tryz.results17,u3])
    rw [hok] at hpA;dsimp only at hpA;rw [Int.toNat_natCast] at hpA;refine hT (cZ true _ _ (fun _ => ?_) (fun hb => by cases hb));simp only [wq.1,seval,-Int.reduceNatCast,-Int.reduceNatCast',ak,Tryz.results17,bg,hP,ud];refine ag (aN hmix _ _ _ _ ?_);simp only [wq.1,seval,-Int.reduceNatCast,-Int.reduceNatCast',ak,Tryz.results17,hP,u8,u10,ud];refine ⟨⟨by omega,by omega⟩,?_⟩;rw [List.take_of_length_le (by rw [List.length_map];exact Nat.le_refl _)];have hrl := xG _ _ _ _ _ _ hok;rw [List.length_nil] at hrl;generalize hGG : Fr.put _ _ _ = G4;have t1 : G4.t 1 = .lp 0 0 := by rw [← hGG];exact u1
    have t2 : G4.t 2 = .lp 1 0 := by rw [← hGG];exact u2
    have t3 : G4.t 3 = .lp 2 0 := by rw [← hGG];exact u3
    have t4 : G4.t 4 = .lp 3 0 := by rw [← hGG];exact u4
    have t5 : G4.t 5 = vi dd := by rw [← hGG];exact u5
    have t8 : G4.t 8 = .lp 5 0 := by rw [← hGG];exact u8
    have fd : G4.d = [] := by rw [← hGG];exact ud
    have fk : ∀ j,G4.k j = true → 6 ≤ j := fun j hj => uk j (by rw [← hGG] at hj;exact hj);clear hGG u1 u2 u3 u4 u5 u8 u10 u11 ud uk hU hun;refine vK (h' := [.cells [.str s],bM,bF,.cells hd,rdP s cc,.cells [vi a1,.ls 6 1 0 N.length N.length,.ls 7 1 0 I.length I.length,prs r1,.ls 8 1 0 O'.length O'.length],.cells (N.map vi),.cells (I.map vi),.cells (O'.map vi)]) (HLe.set (i := 5) (o' := .cells [vi a1,.ls 6 1 0 N.length N.length,.ls 7 1 0 I.length I.length,prs r1,.ls 8 1 0 O'.length O'.length]) rfl (OLe.cells (by simp) (dW.cons (VLe.refl _) (dW.cons (VLe.refl _) (dW.cons (VLe.refl _) (dW.cons iT (dW.cons (VLe.refl _) dW.nil))))))) ?_;obtain ⟨p,hp⟩ : ∃ p : Nat → Bool,p = fun i => i == 6 || i == 7 || i == 8 := ⟨_,rfl⟩;refine qG p [.cells [.str s],bM,bF,.cells hd,rdP s cc,.cells [vi a1,aH N,aH I,prs r1,aH O'],.dead,.dead,.dead] (fun i hi => ?_) (fun i o hi ho => ?_) (fun i hi => ?_) ?_
    ·rcases i with _|_|_|_|_|_|_|_|_|i
     ·exact .inl rfl
     ·exact .inl rfl
     ·exact .inl rfl
     ·exact .inl (by show _ = some (O.cells (V.drops p hd));rw [dhd];rfl)
     ·exact .inl rfl
     ·refine .inr ⟨_,_,rfl,rfl,?_⟩;refine ⟨.inl rfl,.inr ⟨?_,dh ?_ ?_⟩,.inr ⟨?_,dh ?_ ?_⟩,.inl rfl,.inr ⟨?_,dh ?_ ?_⟩,trivial⟩
      ·rw [hp];rfl
      ·rw [hp];show some (O.cells (V.drops _ _)) = _;rw [aP]
      ·simp
      ·rw [hp];rfl
      ·rw [hp];show some (O.cells (V.drops _ _)) = _;rw [aP]
      ·simp
      ·rw [hp];rfl
      ·rw [hp];show some (O.cells (V.drops _ _)) = _;rw [aP]
      ·simp
     ·rw [hp] at hi;cases hi
     ·rw [hp] at hi;cases hi
     ·rw [hp] at hi;cases hi
     ·exact .inl rfl
    ·rw [hp] at hi;simp only [Bool.or_eq_true,beq_iff_eq] at hi;rcases hi with (rfl | rfl) | rfl
     all_goals (cases ho;rfl)
    ·rw [fd] at hi;cases hi
    obtain ⟨f',hf'⟩ : ∃ f' : Fr,f' = { t := fun i => V.drop p (G4.t i),d := G4.d,k := fun i => G4.k i || p i } := ⟨_,rfl⟩;have u1 : f'.t 1 = .lp 0 0 := by rw [hf'];show V.drop p (G4.t 1) = _;rw [t1,hp];rfl
    have u2 : f'.t 2 = .lp 1 0 := by rw [hf'];show V.drop p (G4.t 2) = _;rw [t2,hp];rfl
    have u3 : f'.t 3 = .lp 2 0 := by rw [hf'];show V.drop p (G4.t 3) = _;rw [t3,hp];rfl
    have u4 : f'.t 4 = .lp 3 0 := by rw [hf'];show V.drop p (G4.t 4) = _;rw [t4,hp];rfl
    have u5 : f'.t 5 = vi dd := by rw [hf'];show V.drop p (G4.t 5) = _;rw [t5];rfl
    have u8 : f'.t 8 = .lp 5 0 := by rw [hf'];show V.drop p (G4.t 8) = _;rw [t8,hp];rfl
    have ud : f'.d = [] := by rw [hf'];exact fd
    have uk : ∀ j,f'.k j = true → 4 ≤ j := fun j hj => by
     rw [hf'] at hj;have hj2 : (G4.k j || p j) = true := hj;rcases Bool.or_eq_true_iff.1 hj2 with h | h
     ·exact Nat.le_trans (by decide) (fk j h)
     ·rw [hp] at h;simp only [Bool.or_eq_true,beq_iff_eq] at h;omega
    rw [← hf'];clear hf' t1 t2 t3 t4 t5 t8 fd fk;have hS := y7 s [a1,a2,a3,a5,a6] dd rfl hs;refine ag (aN hmix _ _ _ _ ?_);simp only [wq.1,seval,-Int.reduceNatCast,-Int.reduceNatCast',ak,Tryz.results17,hP,u1,u2,u3,u4,u5,u8,ud,ehd];rw [← ehd];refine ⟨by decide,by decide,by decide,by decide,by decide,?_⟩;obtain ⟨n0,n1,n2',n3',n4,w0,w1,w2,hsy,hcase⟩ : ∃ (n0 n1 n2 n3 n4 : List S) (w0 w1 w2 : Int),NE s [a1,a2,a3,a5,a6] dd = .tup [.agg [aT n0,aT n1,aT n2,aT n3,aT n4],.agg [vi w0,vi w1,vi w2]] ∧ ((w0 ≠ 0 ∧ gY s = .tup [ry,.agg [vi w0,vi w1,vi w2]]) ∨ (w0 = 0 ∧ w1 = 0 ∧ w2 = 0 ∧ iW s = YG ⟨a1,N,I,r1,O'⟩ (.ok [n0,n1,n2,n3,n4]) ∧ n2.length ≤ 4000 ∧ n3.length ≤ 4000 ∧ n4.length ≤ 4000)) := by
     cases hsr : wK s [a1,a2,a3,a5,a6] dd with
     | error er =>
      obtain ⟨w,e⟩ := er;have he := KT hsr;rw [hsr] at hpA;have hf : bD s w e = .agg [vi e,vi (bZ s w).1,vi (bZ s w).2] := by unfold bD;rw [if_neg he]
      refine ⟨[],[],[],[],[],e,_,_,by rw [TS hsr,hf],.inl ⟨he,?_⟩⟩;unfold gY;rw [hpA];show V.tup [ry,bD s w e] = _;rw [hf]
     | ok NN => rw [hsr] at hpA;have hl := KW rfl hsr;refine ⟨_,_,_,_,_,0,0,0,TR hsr,.inr ⟨rfl,rfl,rfl,?_,hl 2,hl 3,hl 4⟩⟩;rw [hpA];rfl
    rw [hsy] at hS;refine hT (ah.ev hS rfl ?_);simp only [wq.1,seval,hP,u3];generalize hGG : Fr.put _ _ _ = G5;have t2 : G5.t 2 = .lp 1 0 := by rw [← hGG];exact u2
    have t3 : G5.t 3 = .lp 2 0 := by rw [← hGG];exact u3
    have t8 : G5.t 8 = .lp 5 0 := by rw [← hGG];exact u8
    have t12 : G5.t 12 = .lp 9 0 := by rw [← hGG];rfl
    have fd : G5.d = [] := by rw [← hGG];exact ud
    have fk : ∀ j,G5.k j = true → 4 ≤ j := fun j hj => uk j (by rw [← hGG] at hj;exact hj);clear hGG u1 u2 u3 u4 u5 u8 ud uk;refine ag (ag (aN hmix _ _ _ _ ?_));simp only [wq.1,seval,-Int.reduceNatCast,-Int.reduceNatCast',ak,Tryz.results17,hP,t2,t3,t8,t12,fd];rcases hcase with ⟨hne,hv⟩ | ⟨rfl,rfl,rfl,hpE,l2,l3,l4⟩
    ·have hne' : (w0 != 0) = true := by simpa using hne
     refine bQ (b := true) (by simp only [wq.1,seval,-Int.reduceNatCast,-Int.reduceNatCast',ak,Tryz.results17]) (by simp only [wq.1,seval,-Int.reduceNatCast,-Int.reduceNatCast',ak,Tryz.results17,hne']) (fun _ => ?_) (fun hb => by cases hb);refine ag ?_;refine bu hmix Cf (fun f h => f.t 2 = .lp 1 0 ∧ f.t 3 = .lp 2 0 ∧ f.d = [] ∧ (∀ j,f.k j = true → 4 ≤ j) ∧ h[1]? = some bM ∧ h[2]? = some (.cells [vi w0,vi w1,vi w2])) (by rw [hP];decide +kernel) (by decide +kernel) ?_ ?_
     ·simp only [wq.1,seval,-Int.reduceNatCast,-Int.reduceNatCast',ak,Tryz.results17,hP,Cf,t2,t3,t8,t12,fd]
      repeat' apply And.intro
      all_goals first | rfl | exact fk | skip
     ·rintro f h ⟨t2,t3,gd,uk,g0,g1⟩;show awp _ _ _ _ _ _ _;refine aN hmix _ _ _ _ ?_;simp only [wq.1,seval,-Int.reduceNatCast,-Int.reduceNatCast',ak,Tryz.results17];exact hretE hv gd uk t2 t3 g0 g1
    ·refine bQ (b := false) (by simp only [wq.1,seval,-Int.reduceNatCast,-Int.reduceNatCast',ak,Tryz.results17]) (by simp only [wq.1,seval,-Int.reduceNatCast,-Int.reduceNatCast',ak,Tryz.results17]) (fun hb => by cases hb) (fun _ => ?_);refine aN hmix _ _ _ _ ?_;simp only [wq.1,seval,-Int.reduceNatCast,-Int.reduceNatCast',ak,Tryz.results17];obtain ⟨m,hm⟩ : ∃ m : Mo,m = ⟨⟨a1,N,I,r1,O'⟩,n0,n1,n2' ++ (n3' ++ n4)⟩ := ⟨_,rfl⟩;have hcc := oH [n2',n3',n4] (by simp;omega) (by show 3 ≤ 1000000000;omega);rw [show [n2',n3',n4].flatten = n2' ++ (n3' ++ n4) by simp] at hcc;have hccE := zaU hcc [d];rw [← hee] at hccE;refine ag ?_;refine DC hmix 14 (.one 14 <| .fin) (fun f h => f.t 2 = .lp 1 0 ∧ f.t 3 = .lp 2 0 ∧ f.d = [] ∧ (∀ j,f.k j = true → 4 ≤ j) ∧ ∃ Y,h = [.cells [.str s],.cells [vi m.g.ins,aH m.g.next,aH m.g.init,prs m.g.ands,aH m.g.outs,aT m.ins,aT m.lat,aT m.out],bF] ++ Y) (by rw [hP];decide +kernel) ?_ ?_
     ·intro K hK;simp only [List.take_succ_cons,List.take_zero];simp only [wq.1,↓reduceIte,Nat.reduceEqDiff,Nat.reduceLT,Nat.reduceLeDiff,Nat.reduceAdd,Nat.reduceSub,Int.reduceToNat,Nat.reduceDiv,Int.reduceLT,Int.reduceLE,Int.reduceNeg,Int.reduceBEq,Int.reduceBNe,Int.reduceAdd,Int.reduceSub,Nat.reduceBEq,reduceCtorEq,Nat.reduceMul,ak,Tryz.results17,hP,t2,t3,t8,t12,fd];refine ⟨by decide,by decide,by decide,by decide,by decide,⟨rfl,by decide⟩,yw.mk hccE (by rw [hP];rfl) rfl ?_⟩;simp only [wq.1,↓reduceIte,Nat.reduceEqDiff,Nat.reduceLT,Nat.reduceLeDiff,Nat.reduceAdd,hP];refine hK _ ?_;simp only [wq.1,seval,hP,t2,t3,fd];refine ⟨fk,[.cells hd,rdP s cc,.cells [vi a1,aH N,aH I,prs r1,aH O'],.dead,.dead,.dead,.cells [aT n0,aT n1,aT n2',aT n3',aT n4]],?_⟩;rw [hm]
     ·rintro f h ⟨t2,t3,fd,fk,Y,rfl⟩;show awp _ _ _ _ _ _ _;have hsm : m.g.Sm := by
       rw [hm];refine ⟨?_,?_⟩
       ·show N.length ≤ _;omega
       ·show r1.length ≤ _;omega
      have hlc := vU m hsm;have hdm : V.dats [m.v] = true := by simp only [Mo.v,V.dats,V.dat,Bool.and_self]
      unfold Mo.v at hlc hdm;have hpE' : iW s = if m.chk = 0 then .ok m else .error (0,m.chk) := by
       rw [hpE,hm];rfl
      refine ag (aN hmix _ _ _ _ ?_);simp only [wq.1,seval,hP,t2];refine hT (ah.ev hlc hdm ?_);simp only [wq.1,seval,hP];refine ag (aN hmix _ _ _ _ ?_);simp only [wq.1,seval,hP];refine hT (cZ _ 0 m.chk (fun hc0 => ?_) (fun hc0 => ?_))
      ·have hc0 : m.chk = 0 := by simpa using hc0
       rw [if_pos hc0] at hpE';have hv : gY s = .tup [m.v,.agg [vi 0,vi 0,vi 0]] := by unfold gY;rw [hpE']
       simp only [wq.1];refine ag (aN hmix _ _ _ _ ?_);simp only [wq.1,seval,hP,t2,t3];refine aN hmix _ _ _ _ ?_;simp only [wq.1];refine hret hv (show m.v = .agg _ from rfl) rfl (by simp only [V.dats,V.dat,Bool.and_self]) rfl (by simp only [wq.1,fd]) fk (by simp only [wq.1,seval,t2]) (by simp only [wq.1,seval,t3]) rfl rfl rfl rfl
      ·have hc0 : m.chk ≠ 0 := by simpa using hc0
       rw [if_neg hc0] at hpE';simp only [wq.1,aX,fd];simp only [XE.seq];exact hpan (w := 0) hpE' rfl rfl (by simp only [wq.1,fd]) (fun j hj => fk j (by simpa only [tJ,Dj,Bool.or_false,Bool.false_or] using hj)) (by simp only [wq.1,seval,t2]) (by simp only [wq.1,seval,t3])
theorem Uw (g : Gr) : Ev TE 41 [g.v] (.fn (.func 84) [] [.ip g.v]) := by unfold Gr.v;refine aA Tryz.func41 rfl (by simp [nts]) (vm ?_);simp only [wq.1,seval,Tryz.results41];refine aC.fn aB.nil (aB.cons (aC.lp rfl (aB.dat (by simp only [V.dats,V.dat,Bool.and_self])) rfl (by simp only [V.dats,V.dat,Bool.and_self]) (by simp [V.vc]) rfl) aB.nil)
theorem Ci {g : Gr} (hg : GP g) (hi0 : 0 ≤ g.ins) {id : Nat} {h : H} {I : Nat → H → (Nat → Bool) → Prop} (h0 : I 0 h (fun _ => false))
 (hy : ∀ i h' k (hi : i < g.ands.length),k id = false → I i h' k → Y8 TE id [vi (2 * (g.first + (i : Int)) - g.ands[i].1),vi (g.ands[i].1 - g.ands[i].2)] (h' ++ [.cells [vi g.ands[i].1,vi g.ands[i].2]]) fun j h'' p => j = none ∧ I (i + 1) h'' (fun x => k x || p x)) :
 ah TE 84 [.yd id,.ip g.v] h fun ae h' p => p id = false ∧ (∃ w,ae = .ret w) ∧ I g.ands.length h' p := by
 have hM : maxLen = 9223372036854775807 := rfl;have wf : g.first = 1 + g.ins + g.next.length := rfl
 have f0 := hg.f0;have f1 := hg.f1;have w1 : IntKind.i64.wrap (1 + g.ins) = 1 + g.ins := aZ (by omega) (by omega);have w2 : IntKind.i64.wrap (1 + g.ins + (g.next.length : Int)) = g.first := by rw [wf];exact aZ (by omega) (by omega)
 have w3 : IntKind.i64.wrap (2 * g.first) = 2 * g.first := aZ (by omega) (by omega)
 unfold Gr.v;refine au Tryz.func84 rfl (by simp [nts]) (vm ?_);simp only [wq.1,seval,Tryz.results84,w1,w2,w3];refine aF (fun m f h => ∃ i,m + i = g.ands.length ∧ f.t 0 = .yd id ∧ f.t 1 = .ip (.agg [vi g.ins,aH g.next,aH g.init,prs g.ands,aH g.outs]) ∧ f.t 3 = vi (2 * g.first) ∧ f.t 15 = prs g.ands ∧ f.t 16 = vi g.ands.length ∧ f.t 17 = vi i ∧ f.d = [] ∧ f.k id = false ∧ I i h f.k) g.ands.length ⟨0,by simp,rfl,rfl,by simp only [wq.1,seval],by simp only [wq.1,seval],by simp only [wq.1,seval],rfl,rfl,rfl,h0⟩ ?_;rintro m f h ⟨i,hm,t0,t1,t3,t15,t16,t17,hd,hk,hI⟩;refine vm ?_;simp only [wq.1,seval,-Int.reduceNatCast,-Int.reduceNatCast',ak,Tryz.results84,t0,t1,t3,t15,t16,t17,hd];refine vcB.mk (fun hc => ?_) (fun hc => ?_)
 ·have hc : i < g.ands.length := by simp only [decide_eq_true_eq] at hc;omega
  obtain ⟨q1,q2,q3⟩ := hg.at_ i hc;have w4 : IntKind.i64.wrap (2 * (i : Int)) = 2 * i := aZ (by omega) (by omega);have w5 : IntKind.i64.wrap (2 * g.first + 2 * (i : Int)) = 2 * (g.first + i) := by rw [aZ (by omega) (by omega)];omega
  have w6 : IntKind.i64.wrap (2 * (g.first + (i : Int)) - g.ands[i].1) = 2 * (g.first + i) - g.ands[i].1 := aZ (by omega) (by omega);have w7 : IntKind.i64.wrap (g.ands[i].1 - g.ands[i].2) = g.ands[i].1 - g.ands[i].2 := aZ (by omega) (by omega);have hw := ax (show i < maxLen by omega);have hg2 := hy i h f.k hc hk hI;obtain ⟨t,n',ps,asg,body,pend,hL,hsz,hps,hww⟩ := hg2;simp only [wq.1,seval,-Int.reduceNatCast,-Int.reduceNatCast',ak,Tryz.results84,t0,t1,t3,t15,t16,t17,hd,nR hc,gE0,gS0,w4,w5,w6,w7,hL];refine ⟨⟨by omega,by omega⟩,by decide,by decide,by decide,⟨by simpa using hsz,hps⟩,jE hww ?_⟩;rintro j h' p' hp' ⟨rfl,hS⟩;refine ⟨by simp [xM,hd],?_⟩;simp only [wq.1,seval,t17,Option.isNone_none,hw];exact .inl ⟨m - 1,by omega,i + 1,by omega,by simp only [wq.1,seval,t0,hp'],by simp only [wq.1,seval,t1],by simp only [wq.1,seval,t3],by simp only [wq.1,seval,t15],by simp only [wq.1,seval,t16],by simp only [wq.1,↓reduceIte],by simp only [wq.1,hd],by simp only [wq.1,hk,hp'],by simp only [wq.1];exact hS⟩
 ·have hi : i = g.ands.length := by simp only [decide_eq_false_iff_not] at hc;omega
  subst hi;simp only [wq.1,hd];exact ⟨hk,⟨_,rfl⟩,hI⟩
theorem Ux (a b : List Pr) (ha : a.length ≤ 1000000) : Ev TE 77 [.agg [vi 0,aH [],aH [],prs a,aH []],.agg [vi 0,aH [],aH [],prs b,aH []]] (.bool (a == b)) := by
 have hM : maxLen = 9223372036854775807 := rfl;have e1 := Yi [] [];rw [show (([] : Cl) == []) = true from rfl] at e1;refine aA Tryz.func77 rfl (by simp [nts]) ?_;refine ag (vm ?_);simp only [wq.1,seval,Tryz.results77];cases hl : ((a.length : Int) != (b.length : Int)) with
 | true =>
  have hne : (a == b) = false := by simp only [bne_iff_ne,ne_eq,Int.natCast_inj] at hl;simp only [beq_eq_false_iff_ne,ne_eq];intro h;exact hl (by rw [h])
  rw [hne];refine ag (vm ?_);simp only [wq.1,seval];refine ah.ev e1 rfl ?_;simp only [wq.1,seval];refine ah.ev e1 rfl ?_;simp only [wq.1,seval];refine ah.ev e1 rfl ?_;simp only [wq.1,seval,hl];exact aC.dat rfl
 | false =>
  have hl' : a.length = b.length := by
   have : (a.length : Int) = (b.length : Int) := by simpa using hl
   omega
  refine ag (vm ?_);simp only [wq.1,seval];refine ah.ev e1 rfl ?_;simp only [wq.1,seval];refine ah.ev e1 rfl ?_;simp only [wq.1,seval];refine ah.ev e1 rfl ?_;simp only [wq.1,seval,hl];refine ag (vm ?_);simp only [wq.1,Nat.reduceLT];refine aF (fun m f h => ∃ i,m + i = a.length ∧ f.t 2 = .lp 0 0 ∧ f.t 3 = .lp 1 0 ∧ f.t 5 = vi i ∧ f.d = [] ∧ h = [.cells [vi 0,aH [],aH [],prs a,aH []],.cells [vi 0,aH [],aH [],prs b,aH []]] ∧ a.take i = b.take i) a.length ⟨0,by simp,by simp only [wq.1,seval],by simp only [wq.1,seval],rfl,by simp only [wq.1],rfl,by simp⟩ ?_;rintro m f h ⟨i,hm,t2,t3,t5,hd,rfl,hall⟩;refine ag (vm ?_);simp only [wq.1,seval,t2,t5];refine vcB.mk (fun hc => ?_) (fun hc => ?_)
  ·simp only [decide_eq_true_eq,Int.ofNat_lt] at hc;have hcb : i < b.length := by omega
   have hg := nR hc V.any;have hgb := nR hcb V.any;have hw := ax (show i < maxLen by omega);simp only [wq.1];refine ag (az ?_);refine ag (vm ?_);simp only [wq.1,seval,t2,t3,t5,hg,hgb];refine ⟨by decide +kernel,⟨by omega,by omega⟩,⟨by omega,by omega⟩,G9,?_⟩;have hbe : ([a[i].1,a[i].2] == [b[i].1,b[i].2]) = (a[i] == b[i]) := by
    rw [Bool.eq_iff_iff];simp only [beq_iff_eq,List.cons.injEq,and_true];constructor
    ·rintro ⟨h1,h2⟩;exact Prod.ext h1 h2
    ·intro h;rw [h];exact ⟨rfl,rfl⟩
   cases hq : a[i] == b[i] with
   | true => rw [hq] at hbe;refine bQ (b := false) (by simp only [wq.1,↓reduceIte]) (by simp only [wq.1,↓reduceIte,hbe]) (fun h => by cases h) (fun _ => ?_);refine vm ?_;simp only [wq.1];refine vm ?_;simp only [wq.1,seval,t5,hw];exact .inl ⟨m - 1,by omega,i + 1,by omega,by simp only [wq.1,seval,t2],by simp only [wq.1,seval,t3],rfl,by simp only [wq.1,hd],rfl,by rw [List.take_add_one,List.take_add_one,List.getElem?_eq_getElem hc,List.getElem?_eq_getElem hcb,hall,eq_of_beq hq]⟩
   | false =>
    rw [hq] at hbe;have hne : (a == b) = false := by
     simp only [beq_eq_false_iff_ne,ne_eq] at hq ⊢;intro h;exact hq (by simp only [h])
    rw [hne];refine bQ (b := true) (by simp only [wq.1,↓reduceIte]) (by simp only [wq.1,↓reduceIte,hbe]) (fun _ => ?_) (fun h => by cases h);refine vm ?_;simp only [wq.1,seval,hd];exact aC.dat rfl
  ·simp only [decide_eq_false_iff_not,Int.ofNat_lt] at hc;have : i = a.length := by omega
   subst this;rw [List.take_length,hl',List.take_length] at hall;rw [show (a == b) = true by rw [hall];exact beq_self_eq_true b];simp only [wq.1];refine vm ?_;simp only [wq.1,seval,hd];exact aC.dat rfl
theorem WU (a b : List Pr) (ha : a.length ≤ 1000000) : Ev TE 36 [prs a,prs b] (.bool (a == b)) := by have e1 := Ux a b ha;refine aA Tryz.func36 rfl (by simp [nts]) (vm ?_);simp only [wq.1,seval,Tryz.results36];refine ah.ev (e1.les (dW.cons (GX (dW.cons (VLe.refl _) (dW.cons cO (dW.cons cO (dW.cons (VLe.refl _) (dW.cons cO dW.nil)))))) (dW.cons (GX (dW.cons (VLe.refl _) (dW.cons cO (dW.cons cO (dW.cons (VLe.refl _) (dW.cons cO dW.nil)))))) dW.nil))) (by simp only [V.dats,V.dat,Bool.and_self]) ?_;simp only [wq.1,seval];exact aC.dat rfl
theorem Cj (l : Cl) (hne : l ≠ []) (hl : l.length ≤ 1000) (hn : ∀ n ∈ l,0 ≤ n ∧ n ≤ 2147483647) : Ev TE 37 [aH l] (.str (lnT l)) := by
 have hM : maxLen = 9223372036854775807 := rfl;refine aA Tryz.func37 rfl (by simp [nts]) ?_;refine ag (vm ?_);simp only [wq.1,seval,Tryz.results37];refine ag (vm ?_);simp only [wq.1,Nat.reduceLT];refine yB 3 1 (by simp only [wq.1,↓reduceIte]) ?_;refine ag ?_;refine vm ?_;simp only [wq.1,seval];refine aF (fun m f h => ∃ (i : Nat) (cs : List V),m + i = l.length ∧ f.t 3 = .ls 0 1 0 i i ∧ f.t 6 = aH l ∧ f.t 7 = vi l.length ∧ f.t 8 = vi i ∧ f.d = [] ∧ cs = ((l.take i).map Lib.itoa).map V.str ∧ h = [.cells cs]) l.length ⟨0,[],by simp,by simp only [wq.1,seval],by simp only [wq.1,seval],by simp only [wq.1,seval],rfl,by simp only [wq.1],rfl,rfl⟩ ?_;rintro m f h ⟨i,cs,hm,t3,t6,t7,t8,hd,hcs,rfl⟩;refine ag (vm ?_);simp only [wq.1,Nat.reduceLT,t7,t8];refine ag (vm ?_);simp only [wq.1,↓reduceIte];refine vcB.mk (fun hc => ?_) (fun hc => ?_)
 ·simp only [decide_eq_true_eq,Int.ofNat_lt] at hc;have hg : (l.map vi).getD i .any = vi l[i] := xU hc _;obtain ⟨b0,b1⟩ := hn _ (List.getElem_mem hc);have hw := ax (show i < maxLen by omega);have hcl : cs.length = i * 1 := by rw [hcs];simp;omega
  have dcs : ∀ p,V.drops p cs = cs := fun p => by rw [hcs];exact yz
  refine ag (az ?_);refine ag (vm ?_);simp only [wq.1,seval,t6,t8,hg];refine ⟨⟨by omega,by omega⟩,?_⟩;refine vm ?_;simp only [wq.1,↓reduceIte,Nat.reduceEqDiff,Nat.reduceLT,t3];refine ah.ev (vX l[i] b0 b1) rfl ?_;simp only [wq.1,↓reduceIte,Nat.reduceEqDiff,Nat.reduceLT,reduceCtorEq,Nat.reduceMul,hd,dcs,hcl];refine ⟨⟨rfl,by decide⟩,⟨by omega,by omega⟩,?_⟩;refine vm ?_;simp only [wq.1,seval,t8,hw];exact .inl ⟨m - 1,by omega,i + 1,_,by omega,by simp only [wq.1,seval],by simp only [wq.1,seval,t6],by simp only [wq.1,seval,t7],by simp only [wq.1,↓reduceIte],by simp only [wq.1,hd],by rw [hcs,List.take_add_one,List.getElem?_eq_getElem hc,List.map_append,List.map_append];rfl,rfl⟩
 ·simp only [decide_eq_false_iff_not,Int.ofNat_lt] at hc;have : i = l.length := by omega
  subst this;rw [List.take_length] at hcs;subst hcs;have hjl : (Lib.join (l.map Lib.itoa) [32]).length ≤ 100000000 := by
   obtain ⟨n,l',rfl⟩ := List.exists_cons_of_ne_nil hne;have h1 := congrArg List.length (Ur n l');rw [List.length_append] at h1;have h2 := gz hn;omega
  have hj := WS (l.map Lib.itoa) [32] (by rw [List.length_map];omega) hjl;simp only [wq.1];refine ag (vm ?_);simp only [wq.1,seval,t3];refine ah.lend hj (aB.cons (fP rfl (by simp)) (aB.cons (aC.dat rfl) aB.nil)) rfl ?_;simp only [wq.1,seval];have hlt2 : (Lib.join (l.map Lib.itoa) [32]).length + 1 ≤ maxLen := by omega
  refine ⟨hlt2,?_⟩;refine vm ?_;simp only [wq.1,↓reduceIte,hd];obtain ⟨n,l',rfl⟩ := List.exists_cons_of_ne_nil hne;rw [Ur];exact aC.dat rfl
end Go.Proofs.YtfcpapokknfeeaaGreatDoor
