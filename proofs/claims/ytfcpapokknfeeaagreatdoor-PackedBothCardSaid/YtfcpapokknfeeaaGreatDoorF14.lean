/- Lemmas for this claim, part F14: each holds under what it names. -/
import Derived.Test.YtfcpapokknfeeaaGreatDoorF13
import Derived.Test.YtfcpapokknfeeaaGreatDoorF10
import Derived.Test.YtfcpapokknfeeaaGreatDoorF08
set_option linter.unusedVariables false
set_option linter.unusedSimpArgs false
set_option linter.unnecessarySimpa false
set_option maxRecDepth 20000
set_option maxHeartbeats 16000000
namespace Go.Proofs.YtfcpapokknfeeaaGreatDoor
open Go Go.Proofs Go.Abs
def st1 (s : S) (mo : Int) (b N1 : Nat) : RE Fi := kX (iI s mo) N1 (.start b)
def st2 (s : S) (mo : Int) (b N1 N2 : Nat) : RE Fi := match st1 s mo b N1 with
 | .error e => .error e
 | .ok x => kX (iJ s mo) N2 x
def st3 (s : S) (mo : Int) (b N1 N2 N3 : Nat) : RE Fi := match st2 s mo b N1 N2 with
 | .error e => .error e
 | .ok x => kX (eX s mo) N3 x
def st4 (s : S) (mo : Int) (b N1 N2 N3 N4 : Nat) : RE Fi := match st3 s mo b N1 N2 N3 with
 | .error e => .error e
 | .ok x => kX (mY s mo) N4 x
def stR (s : S) (mo : Int) (b N1 N2 N3 N4 : Nat) : Nat → RE Fi
 | 0 => .ok (.start b)
 | 1 => st1 s mo b N1
 | 2 => st2 s mo b N1 N2
 | 3 => st3 s mo b N1 N2 N3
 | _ => st4 s mo b N1 N2 N3 N4
theorem TU {s : S} {h : Cl} {b : Nat} : wL s h b = stR s (2 * h.getD 0 0 + 1) b (h.getD 1 0).toNat (h.getD 2 0).toNat (h.getD 3 0 + h.getD 5 0 + h.getD 6 0).toNat (h.getD 4 0).toNat 4 := by
 unfold wL;simp only [stR,st4,st3,st2,st1];cases kX (iI s (2 * h.getD 0 0 + 1)) (h.getD 1 0).toNat (.start b) with
 | error e => rfl
 | ok x =>
  dsimp only;cases kX (iJ s (2 * h.getD 0 0 + 1)) (h.getD 2 0).toNat x with
  | error e => rfl
  | ok x =>
   dsimp only;cases kX (eX s (2 * h.getD 0 0 + 1)) (h.getD 3 0 + h.getD 5 0 + h.getD 6 0).toNat x with
   | error e => rfl
   | ok x => rfl
theorem ui {j : Nat} (h : mZ j = true) : 4 ≤ j := by unfold mZ at h;simp only [Bool.and_eq_true,decide_eq_true_eq] at h;exact h.1
theorem zaB {s : S} {mo : Int} {b N1 N2 N3 N4 : Nat} {x : Fi} (h : stR s mo b N1 N2 N3 N4 0 = .ok x) : stR s mo b N1 N2 N3 N4 1 = kX (iI s mo) N1 x := by cases h;rfl
theorem zaC {s : S} {mo : Int} {b N1 N2 N3 N4 : Nat} {x : Fi} (h : stR s mo b N1 N2 N3 N4 1 = .ok x) : stR s mo b N1 N2 N3 N4 2 = kX (iJ s mo) N2 x := by have h : st1 s mo b N1 = .ok x := h;show st2 s mo b N1 N2 = _;unfold st2;rw [h]
theorem zaD {s : S} {mo : Int} {b N1 N2 N3 N4 : Nat} {x : Fi} (h : stR s mo b N1 N2 N3 N4 2 = .ok x) : stR s mo b N1 N2 N3 N4 3 = kX (eX s mo) N3 x := by have h : st2 s mo b N1 N2 = .ok x := h;show st3 s mo b N1 N2 N3 = _;unfold st3;rw [h]
theorem zaE {s : S} {mo : Int} {b N1 N2 N3 N4 : Nat} {x : Fi} (h : stR s mo b N1 N2 N3 N4 3 = .ok x) : stR s mo b N1 N2 N3 N4 4 = kX (mY s mo) N4 x := by have h : st3 s mo b N1 N2 N3 = .ok x := h;show st4 s mo b N1 N2 N3 N4 = _;unfold st4;rw [h]
theorem XH {s : S} {mo : Int} {b N1 N2 N3 N4 : Nat} {e : Nat × Int} (h : stR s mo b N1 N2 N3 N4 3 = .error e) : stR s mo b N1 N2 N3 N4 4 = .error e := by have h : st3 s mo b N1 N2 N3 = .error e := h;show st4 s mo b N1 N2 N3 N4 = _;unfold st4;rw [h]
theorem XI {s : S} {mo : Int} {b N1 N2 N3 N4 : Nat} {e : Nat × Int} (h : stR s mo b N1 N2 N3 N4 2 = .error e) : stR s mo b N1 N2 N3 N4 4 = .error e := by have h : st2 s mo b N1 N2 = .error e := h;refine XH ?_;show st3 s mo b N1 N2 N3 = _;unfold st3;rw [h]
theorem zaF {s : S} {mo : Int} {b N1 N2 N3 N4 : Nat} {e : Nat × Int} (h : stR s mo b N1 N2 N3 N4 1 = .error e) : stR s mo b N1 N2 N3 N4 4 = .error e := by have h : st1 s mo b N1 = .error e := h;refine XI ?_;show st2 s mo b N1 N2 = _;unfold st2;rw [h]
theorem Wu (s : S) (hs : s.length ≤ 100000) : Ev TE 18 [.str s] (iV s) := by
 have hM : maxLen = 9223372036854775807 := rfl;refine gU ?_;refine gG rfl Tryz.func18 rfl (by simp [nts]) fun ok pl0 w0 => ?_;simp only [nts];refine oz (Q := fun _ _ _ => False) ?_ (fun _ _ _ h => by obtain ⟨_,_,_,_,_,_,h⟩ := h;exact h.elim);refine vm ?_;simp only [wq.1,Nat.reduceLT];have hsc : ∀ (x : Operand),x ∈ #[Operand.tmp 14,Operand.tmp 3] → (Fr.ev TE ((((Fr.init [V.str s]).put (some 2) (.lp 0 0)).put (some 3) (.lp 1 0)).put (some 14) (.str s)) x).sc := fun x hx => by
  simp only [List.mem_toArray,List.mem_cons,List.not_mem_nil,or_false] at hx;rcases hx with rfl | rfl
  ·simp only [wq.1,↓reduceIte]
  ·simp only [wq.1,seval]
 refine qJ (fn := Tryz.f18) (q := 52) (avs := [.str s,.lp 1 0]) (F1 := (((Fr.init [V.str s]).put (some 2) (.lp 0 0)).put (some 3) (.lp 1 0)).put (some 14) (.str s)) rfl ⟨rfl,by simp only [wq.1,Nat.reduceLT],by simp only [wq.1,seval],rfl,rfl,rfl,⟨.func 52,#[.tmp 14,.tmp 3],_,[],rfl,by simp only [wq.1],by simp only [wq.1],hsc,by simp only [wq.1,seval]⟩,by simp only [wq.1]⟩ rfl rfl fun d => ?_;obtain ⟨ee,hee⟩ : ∃ ee : E,ee = { TE with tl := [d] } := ⟨_,rfl⟩;have hP : ee.P = P := by rw [hee];rfl
 have hmix : ee.P.follows .mixedOrders = true := by rw [hP];exact mixed
 have hT : ∀ {g : FuncId} {args : List V} {h : H} {R : AEnd → H → (Nat → Bool) → Prop},ah TE g args h R → ah ee g args h R := fun hc => by rw [hee];exact hc.tl _
 rw [← hee];obtain ⟨QP,eQP⟩ : ∃ QP : XE → Fr → H → Prop,QP = LV TE Tryz.f18 (fun ae h x => match ae with | AEnd.ret v => aC TE h v (iV s) | AEnd.pan v => False) [(52,[V.str s,V.lp 1 0])] := ⟨_,rfl⟩;refine bG (Q := QP) (fun xe f' h' hq => by rw [eQP] at hq;exact hq) ?_;have hkd : ∀ {f' : Fr},(∀ j,f'.k j = true → 4 ≤ j) → ∀ x ∈ [((52 : FuncId),[V.str s,V.lp 1 0])],V.drops f'.k x.2 = x.2 := fun {f'} h x hx => by
  have z : f'.k 1 = false := by
   cases hj : f'.k 1 with
   | false => rfl
   | true => exact absurd (h 1 hj) (by decide)
  simp only [List.mem_singleton] at hx;subst hx;simp [V.drops,V.drop,z]
 have hpan : ∀ {w : Nat} {e : Int} {f' : Fr} {h : H},jO s = .error (w,e) → f'.d = [] → (∀ j,f'.k j = true → 4 ≤ j) → f'.t 2 = .lp 0 0 → f'.t 3 = .lp 1 0 → h[0]? = some bM → h[1]? = some bF → QP (.pan (gV w e)) f' h := by
  intro w e f' h hp hd hk t2 t3 g0 g1;have l0 : 0 < h.length := (List.getElem?_eq_some_iff.1 g0).1;have l1 : 1 < h.length := (List.getElem?_eq_some_iff.1 g1).1;have hv : iV s = .tup [ry,bD s w e] := by unfold iV;rw [hp]
  have hf : ∃ x y z,bD s w e = .agg [vi x,vi y,vi z] := by unfold bD;split <;> exact ⟨_,_,_,rfl⟩
  obtain ⟨e1,e2,e3,hf⟩ := hf;rw [eQP,hv];refine ⟨hd,hkd hk,?_⟩;refine qj w e (by omega) g1 fun X => ⟨fun y hy => (by cases hy),?_⟩;have r0 : (h.set 1 (.cells (bD s w e).vc) ++ [X])[0]? = some bM := by rw [List.getElem?_append_left (by rw [List.length_set];exact l0),List.getElem?_set_ne (by decide)];exact g0
  have r1 : (h.set 1 (.cells (bD s w e).vc) ++ [X])[1]? = some (.cells [vi e1,vi e2,vi e3]) := by rw [List.getElem?_append_left (by rw [List.length_set];exact l1),List.getElem?_set_self l1,hf];rfl
  obtain ⟨h3,eh3⟩ : ∃ h3,h3 = h.set 1 (.cells (bD s w e).vc) ++ [X] := ⟨_,rfl⟩;rw [← eh3] at r0 r1 ⊢;unfold LVr;simp only [Tryz.results18,nts];simp only [wq.1,seval,hd,t2,t3,r0,r1];rw [hf];exact aC.tup (aB.cons (aC.agg (aB.cons (aC.dat rfl) (aB.cons aC.nils (aB.cons aC.nils (aB.cons aC.nils (aB.cons aC.nils (aB.cons aC.nils (aB.cons aC.nils (aB.cons aC.nils aB.nil))))))))) (aB.cons (aC.dat rfl) aB.nil))
 have hret : ∀ {v w : V} {c1 c2 : List V} {f' : Fr} {h : H},iV s = .tup [v,w] → v = .agg c1 → w = .agg c2 → V.dats c1 = true → V.dats c2 = true → f'.d = [] → (∀ j,f'.k j = true → 4 ≤ j) → f'.t 2 = .lp 0 0 → f'.t 3 = .lp 1 0 → h[0]? = some (.cells c1) → c1.length = 8 → h[1]? = some (.cells c2) → c2.length = 3 → QP .ret f' h := by
  intro v w c1 c2 f' h hv h1 h2 d1 d2 hd hk t2 t3 g0 l1 g1 l2;rw [eQP,hv,h1,h2];refine ⟨hd,hkd hk,?_⟩;refine mJ fun X => ⟨fun y hy => (by cases hy),?_⟩;have r0 : (h ++ [X])[0]? = some (.cells c1) := by rw [List.getElem?_append_left (List.getElem?_eq_some_iff.1 g0).1];exact g0
  have r1 : (h ++ [X])[1]? = some (.cells c2) := by rw [List.getElem?_append_left (List.getElem?_eq_some_iff.1 g1).1];exact g1
  unfold LVr;simp only [Tryz.results18,nts];simp only [wq.1,seval,hd,t2,t3,r0,r1];refine ⟨⟨by omega,by omega⟩,?_⟩;rw [List.take_of_length_le (by omega),List.take_of_length_le (by omega)];exact aC.tup (aB.cons (aC.dat d1) (aB.cons (aC.dat d2) aB.nil))
 have hretE : ∀ {e1 e2 e3 : Int} {f' : Fr} {h : H},iV s = .tup [ry,.agg [vi e1,vi e2,vi e3]] → f'.d = [] → (∀ j,f'.k j = true → 4 ≤ j) → f'.t 2 = .lp 0 0 → f'.t 3 = .lp 1 0 → h[0]? = some bM → h[1]? = some (.cells [vi e1,vi e2,vi e3]) → QP .ret f' h := by
  intro e1 e2 e3 f' h hv hd hk t2 t3 g0 g1;rw [eQP,hv];refine ⟨hd,hkd hk,?_⟩;refine mJ fun X => ⟨fun y hy => (by cases hy),?_⟩;have r0 : (h ++ [X])[0]? = some bM := by rw [List.getElem?_append_left (List.getElem?_eq_some_iff.1 g0).1];exact g0
  have r1 : (h ++ [X])[1]? = some (.cells [vi e1,vi e2,vi e3]) := by rw [List.getElem?_append_left (List.getElem?_eq_some_iff.1 g1).1];exact g1
  unfold LVr;simp only [Tryz.results18,nts];simp only [wq.1,seval,hd,t2,t3,r0,r1];exact aC.tup (aB.cons (aC.agg (aB.cons (aC.dat rfl) (aB.cons aC.nils (aB.cons aC.nils (aB.cons aC.nils (aB.cons aC.nils (aB.cons aC.nils (aB.cons aC.nils (aB.cons aC.nils aB.nil))))))))) (aB.cons (aC.dat rfl) aB.nil))
 refine ag (fB ?_);refine ay rfl rfl ?_;simp only [wq.1,seval,hP];refine ay rfl rfl ?_;simp only [wq.1,seval,hP];refine ay rfl rfl ?_;simp only [wq.1,Nat.reduceAdd];have hq : ti ee.P 101 = some ⟨.map 3 3,1,8,.nilm⟩ := by rw [hP];simp only [wq.1]
 have hqi : ti ee.P 3 = some ⟨.int .i64,1,8,.int .i64 0⟩ := by rw [hP];simp only [wq.1]
 refine bW rfl rfl ?_;refine MM (t := 101) rfl (id := 2) (by simp only [wq.1,↓reduceIte]) (by simp only [wq.1,↓reduceIte]) (by simp only [wq.1]) (by simp only [wq.1]) hq rfl hqi (by simp only [wq.1,K.keyOk]) (ks := []) (vs := []) rfl (by simp only [wq.1,NW,iQ];rfl) ?_;simp only [wq.1];refine ay rfl rfl ?_;simp only [wq.1,↓reduceIte,hP];refine ay rfl rfl ?_;simp only [wq.1,seval,hP];refine ay rfl rfl ?_;simp only [wq.1,seval];refine ay rfl rfl ?_;simp only [wq.1,↓reduceIte,hP];refine bT ?_;simp only [XE.seq];refine fU (fU (fU (fU (fU (fU ?_)))));refine vK (h' := hF bM bF s 0 (.start 0) [0] []) ?_ ?_
 ·refine HLe.set (i := 3) (o' := rdT s 0 (fiT (.start 0) 0)) rfl (OLe.cells (by simp) ?_);exact dW.cons (VLe.refl _) (dW.cons (VLe.refl _) (dW.cons (VLe.refl _) (dW.cons (VLe.refl _) (dW.cons dD (dW.cons dD (dW.cons dD (dW.cons dD (dW.cons dD (dW.cons dD dW.nil)))))))))
 refine ag (aN hmix _ _ _ _ ?_);simp only [wq.1,seval,hP];refine hT (uh (k := 3) (a0 := 0) (T := fiT (.start 0) 0) rfl hs (fun l b hh => ?_) (fun w e hh b X => ?_))
 ·obtain ⟨a0,a1,a2,a3,a4,a5,a6,rfl,c0,c1,c2,c3,c4,c5,c6,c7,c8,c9⟩ := uI hh;have hpA : jO s = (match wL s [a0,a1,a2,a3,a4,a5,a6,0,0] b with
   | .error e => .error e
   | .ok x => match wK s [a1,a2,a3,a5,a6] x.a with
    | .error e => .error e
    | .ok N => wO x N) := by unfold jO;rw [hh];rfl
  have w1 : IntKind.i64.wrap (2 * a0) = 2 * a0 := aZ (by omega) (by omega);have w2 : IntKind.i64.wrap (2 * a0 + 1) = 2 * a0 + 1 := aZ (by omega) (by omega);obtain ⟨hc,ehc⟩ : ∃ hc : O,hc = .cells [vi a0,vi a1,vi a2,vi a3,vi a4,vi a5,vi a6,vi 0,vi 0] := ⟨_,rfl⟩;rw [show hR 3 s b (fiT (Fi.start 0) 0) (hF bM bF s 0 (.start 0) [0] []) [O.cells ([a0,a1,a2,a3,a4,a5,a6,0,0].map vi)] = hF bM bF s 0 (.start b) [0] [hc] by rw [ehc];rfl];simp only [wq.1,seval,-Int.reduceNatCast,-Int.reduceNatCast',ak,Tryz.results18,bg,hP];rw [show (vi a0 :: vi a1 :: vi a2 :: vi a3 :: vi a4 :: vi a5 :: vi a6 :: vi 0 :: vi 0 :: [] : List V) = [vi a0,vi a1,vi a2,vi a3,vi a4,vi a5,vi a6,vi 0,vi 0] from rfl,← ehc];refine ag (aN hmix _ _ _ _ ?_);simp only [wq.1,seval,-Int.reduceNatCast,-Int.reduceNatCast',ak,Tryz.results18,hP,ehc,w1,w2];rw [← ehc];refine ⟨by decide,?_⟩;show awp _ _ _ _ _ _ (hF bM bF s (2 * a0 + 1) (.start b) [0] [hc,hc]);obtain ⟨mo,hmo⟩ : ∃ mo,mo = 2 * a0 + 1 := ⟨_,rfl⟩;rw [← hmo];obtain ⟨N1,hN1⟩ : ∃ N : Nat,a1 = N := ⟨a1.toNat,by omega⟩;obtain ⟨N2,hN2⟩ : ∃ N : Nat,a2 = N := ⟨a2.toNat,by omega⟩;obtain ⟨N3,hN3⟩ : ∃ N : Nat,a3 + a5 + a6 = N := ⟨(a3 + a5 + a6).toNat,by omega⟩;obtain ⟨N4,hN4⟩ : ∃ N : Nat,a4 = N := ⟨a4.toNat,by omega⟩;obtain ⟨st,hst⟩ : ∃ st : Nat → RE Fi,st = stR s mo b N1 N2 N3 N4 := ⟨_,rfl⟩;have hln : wL s [a0,a1,a2,a3,a4,a5,a6,0,0] b = st 4 := by rw [hst,TU,hmo];show stR s (2 * a0 + 1) b a1.toNat a2.toNat (a3 + a5 + a6).toNat a4.toNat 4 = _;rw [hN1,hN2,hN3,hN4];simp only [Int.toNat_natCast]
  have r0 : mZ 0 = false := by decide
  have r1 : mZ 1 = false := by decide
  have r3 : mZ 3 = false := by decide
  have r11 : mZ 11 = false := by decide
  have hYd : ∀ x W,dO (hF bM bF s mo x W [hc,hc]) := fun x W => by rw [ehc];exact Fv (z := [a0,a1,a2,a3,a4,a5,a6,0,0])
  have hYq : Qt bM bF [hc,hc] := by rw [ehc];exact ⟨fun j _ _ => rfl,fun j _ _ => rfl,fun j _ _ => rfl⟩
  have w3 : IntKind.i64.wrap (a3 + a5) = a3 + a5 := aZ (by omega) (by omega);have w4 : IntKind.i64.wrap (a3 + a5 + a6) = N3 := by rw [hN3];exact aZ (by omega) (by omega)
  have hco : ∀ W x,(hF bM bF s mo x W [hc,hc])[11]? = some (.cells [vi a0,vi a1,vi a2,vi a3,vi a4,vi a5,vi a6,vi 0,vi 0]) := fun W x => by rw [ehc];rfl
  refine ag (bG (Q := fun xe f h' => (xe = .normal ∧ ∃ x X,st 4 = .ok x ∧ FOk x ∧ FLn x N1 N2 N3 N4 ∧ f.t 0 = .str s ∧ f.t 2 = .lp 0 0 ∧ f.t 3 = .lp 1 0 ∧ f.t 4 = .lp 3 0 ∧ f.t 5 = .lp 11 0 ∧ f.d = [] ∧ (∀ j,f.k j = true → 4 ≤ j) ∧ h' = hF bM bF s mo x (aQ x) [hc,hc] ++ X) ∨ (xe ≠ .normal ∧ QP xe f h')) ?_ ?_)
  ·rintro xe f h' (⟨rfl,x,X,hx4,hfo,hfl,t0,t2,t3,t4,t5,hd,hk,rfl⟩ | ⟨hx,hq⟩)
   ·show awp _ _ _ _ _ _ _;refine NF (a0 := a0) (a4 := a4) (N1 := N1) (N2 := N2) (N3 := N3) (N4 := N4) hP hT hs ehc hfo hfl (by omega) (by omega) t0 t2 t3 t4 t5 hd hk ?_ hpan hret hretE;rw [hln,hx4] at hpA;exact hpA
   ·cases xe with
    | normal => exact absurd rfl hx
    | _ => exact hq
  ·refine ag (aN hmix _ _ _ _ ?_);simp only [wq.1,seval,hP];refine az ?_;refine aF (fun mm f h' => ∃ k x X,mm + k = 4 ∧ st k = .ok x ∧ FOk x ∧ FLn x (if 0 < k then N1 else 0) (if 1 < k then N2 else 0) (if 2 < k then N3 else 0) (if 3 < k then N4 else 0) ∧ f.t 0 = .str s ∧ f.t 2 = .lp 0 0 ∧ f.t 3 = .lp 1 0 ∧ f.t 4 = .lp 3 0 ∧ f.t 5 = .lp 11 0 ∧ f.t 40 = .agg [.fn (.func 54) [.lp 3 0] [],.fn (.func 55) [.lp 3 0] [],.fn (.func 56) [.lp 3 0] [],.fn (.func 57) [.lp 3 0] []] ∧ f.t 41 = vi k ∧ f.d = [] ∧ (∀ j,f.k j = true → 4 ≤ j) ∧ h' = hF bM bF s mo x (aQ x) [hc,hc] ++ X) 4 ⟨0,.start b,[],rfl,by rw [hst];rfl,(KI b).1,(KI b).2,by simp only [wq.1,seval],by simp only [wq.1,seval],by simp only [wq.1,seval],by simp only [wq.1,seval],by simp only [wq.1,seval],by simp only [wq.1,seval],rfl,rfl,fun j hj => (by cases hj),by rw [List.append_nil];rfl⟩ ?_;rintro mm f h' ⟨k,x,X,hm,hsk,hfo,hfl,t0,t2,t3,t4,t5,t40,t41,hd,hk,rfl⟩;refine eU (by rw [hd];simp) ?_;rw [(hYd _ _).from_];obtain ⟨f',hf'⟩ : ∃ f',f' = f.drop (Abs.bC (hF bM bF s mo x (aQ x) [hc,hc]).length) := ⟨_,rfl⟩;have u0 : f'.t 0 = .str s := by rw [hf'];show (f.t 0).drop _ = _;rw [t0];rfl
   have u2 : f'.t 2 = .lp 0 0 := by rw [hf'];show (f.t 2).drop _ = _;rw [t2];rfl
   have u3 : f'.t 3 = .lp 1 0 := by rw [hf'];show (f.t 3).drop _ = _;rw [t3];rfl
   have u4 : f'.t 4 = .lp 3 0 := by rw [hf'];show (f.t 4).drop _ = _;rw [t4];rfl
   have u5 : f'.t 5 = .lp 11 0 := by rw [hf'];show (f.t 5).drop _ = _;rw [t5];rfl
   have u40 : f'.t 40 = .agg [.fn (.func 54) [.lp 3 0] [],.fn (.func 55) [.lp 3 0] [],.fn (.func 56) [.lp 3 0] [],.fn (.func 57) [.lp 3 0] []] := by rw [hf'];show (f.t 40).drop _ = _;rw [t40];rfl
   have u41 : f'.t 41 = vi k := by rw [hf'];show (f.t 41).drop _ = _;rw [t41];rfl
   have ud : f'.d = [] := by rw [hf'];exact hd
   have uk : ∀ j,f'.k j = true → 4 ≤ j := fun j hj => by
    rw [hf'] at hj;have hj2 : (f.k j || Abs.bC 12 j) = true := hj;rcases Bool.or_eq_true_iff.1 hj2 with h | h
    ·exact hk j h
    ·have : 12 ≤ j := by simpa [Abs.bC] using h
     omega
   rw [← hf'];clear hf' hd hk t0 t2 t3 t4 t5 t40 t41 X;refine ag (aN hmix _ _ _ _ ?_);simp only [wq.1,seval,-Int.reduceNatCast,-Int.reduceNatCast',ak,Tryz.results18,hP,u0,u2,u3,u4,u5,u40,u41,ud];refine ag (aN hmix _ _ _ _ ?_);simp only [wq.1,seval,-Int.reduceNatCast,-Int.reduceNatCast',ak,Tryz.results18,hP,u0,u2,u3,u4,u5,u40,u41,ud];refine vcB.mk (fun hlt => ?_) (fun hlt => ?_)
   ·have hlt : k < 4 := by have := of_decide_eq_true hlt;omega
    refine ag (az ?_);rcases k with _|_|_|_|k
    ·show awp _ _ _ _ _ _ _;have hfl : FLn x 0 0 0 0 := hfl;refine ag (aN hmix _ _ _ _ ?_);simp only [wq.1,seval,-Int.reduceNatCast,-Int.reduceNatCast',ak,Tryz.results18,hP,u0,u2,u3,u4,u5,u40,u41,ud];refine ⟨by decide,?_⟩;refine ag (aN hmix _ _ _ _ ?_);simp only [wq.1,seval,-Int.reduceNatCast,-Int.reduceNatCast',ak,Tryz.results18,hP,u0,u2,u3,u4,u5,u40,u41,ud,ehc,w3,w4];rw [← ehc];refine ⟨by decide,by decide,by decide,by decide,by decide,by decide,by decide,?_⟩;refine az ?_;refine aF (fun mq f h' => ∃ i y X,mq + i = N1 ∧ kX (iI s mo) N1 x = kX (iI s mo) (N1 - i) y ∧ FOk y ∧ FLn y i 0 0 0 ∧ f.t 0 = .str s ∧ f.t 2 = .lp 0 0 ∧ f.t 3 = .lp 1 0 ∧ f.t 4 = .lp 3 0 ∧ f.t 5 = .lp 11 0 ∧ f.t 40 = .agg [.fn (.func 54) [.lp 3 0] [],.fn (.func 55) [.lp 3 0] [],.fn (.func 56) [.lp 3 0] [],.fn (.func 57) [.lp 3 0] []] ∧ f.t 41 = vi (0 : Nat) ∧ f.t 7 = .fn (.func 54) [.lp 3 0] [] ∧ f.t 61 = vi N1 ∧ f.t 62 = vi i ∧ f.d = [] ∧ (∀ j,f.k j = true → 4 ≤ j) ∧ h' = hF bM bF s mo y (aQ y) [hc,hc] ++ X) N1 ⟨0,x,[],by simp,by simp,hfo,hfl,by simp only [wq.1,seval,u0],by simp only [wq.1,seval,u2],by simp only [wq.1,seval,u3],by simp only [wq.1,seval,u4],by simp only [wq.1,seval,u5],by simp only [wq.1,seval,u40],by simp only [wq.1,seval,u41],by simp only [wq.1,seval],by simp only [wq.1,seval,hN1,hN2,hN4],rfl,by simp only [wq.1,ud],fun j hj => uk j hj,by rw [List.append_nil]⟩ ?_;clear u0 u2 u3 u4 u5 u40 u41 ud uk;rintro mq f h' ⟨i,y,X,hmq,hrp,hfoy,hfy,t0,t2,t3,t4,t5,t40,t41,t7,t61,t62,hd,hk,rfl⟩;refine eU (by rw [hd];simp) ?_;rw [(hYd _ _).from_];obtain ⟨f',hf'⟩ : ∃ f',f' = f.drop (Abs.bC (hF bM bF s mo y (aQ y) [hc,hc]).length) := ⟨_,rfl⟩;have u0 : f'.t 0 = .str s := by rw [hf'];show (f.t 0).drop _ = _;rw [t0];rfl
     have u2 : f'.t 2 = .lp 0 0 := by rw [hf'];show (f.t 2).drop _ = _;rw [t2];rfl
     have u3 : f'.t 3 = .lp 1 0 := by rw [hf'];show (f.t 3).drop _ = _;rw [t3];rfl
     have u4 : f'.t 4 = .lp 3 0 := by rw [hf'];show (f.t 4).drop _ = _;rw [t4];rfl
     have u5 : f'.t 5 = .lp 11 0 := by rw [hf'];show (f.t 5).drop _ = _;rw [t5];rfl
     have u40 : f'.t 40 = .agg [.fn (.func 54) [.lp 3 0] [],.fn (.func 55) [.lp 3 0] [],.fn (.func 56) [.lp 3 0] [],.fn (.func 57) [.lp 3 0] []] := by rw [hf'];show (f.t 40).drop _ = _;rw [t40];rfl
     have u41 : f'.t 41 = vi (0 : Nat) := by rw [hf'];show (f.t 41).drop _ = _;rw [t41];rfl
     have u7 : f'.t 7 = .fn (.func 54) [.lp 3 0] [] := by rw [hf'];show (f.t 7).drop _ = _;rw [t7];rfl
     have u61 : f'.t 61 = vi N1 := by rw [hf'];show (f.t 61).drop _ = _;rw [t61];rfl
     have u62 : f'.t 62 = vi i := by rw [hf'];show (f.t 62).drop _ = _;rw [t62];rfl
     have ud : f'.d = [] := by rw [hf'];exact hd
     have uk : ∀ j,f'.k j = true → 4 ≤ j := fun j hj => by
      rw [hf'] at hj;have hj2 : (f.k j || Abs.bC 12 j) = true := hj;rcases Bool.or_eq_true_iff.1 hj2 with h | h
      ·exact hk j h
      ·have : 12 ≤ j := by simpa [Abs.bC] using h
       omega
     rw [← hf'];clear hf' hd hk t0 t2 t3 t4 t5 t40 t41 t7 t61 t62 X;refine ag (aN hmix _ _ _ _ ?_);simp only [wq.1,Nat.reduceLT,hP,u61,u62];refine ag (aN hmix _ _ _ _ ?_);simp only [wq.1,↓reduceIte];refine vcB.mk (fun hlt => ?_) (fun hlt => ?_)
     ·have hlt : i < N1 := by have := of_decide_eq_true hlt;omega
      have hw := ax (show i < maxLen by omega);obtain ⟨j,hj⟩ : ∃ j,N1 - i = j + 1 := ⟨N1 - i - 1,by omega⟩;rw [hj,show kX (iI s mo) (j + 1) y = (match iI s mo y with
       | .error e => .error e
       | .ok z => kX (iI s mo) j z) from rfl] at hrp
      refine ag (az ?_);refine aN hmix _ _ _ _ ?_;simp only [wq.1,seval,hP,u7];have hnext : st 1 = kX (iI s mo) N1 x := by rw [hst] at hsk ⊢;exact zaB hsk
      refine hT (Hl hYq hs (by have := hfy.l1;omega) (fun z hz => ?_) (fun w e z hz => ?_))
      ·rw [hz] at hrp;dsimp only at hrp;obtain ⟨g1,g2⟩ := TD hz hfoy hfy;simp only [wq.1,bg,ud];refine aN hmix _ _ _ _ ?_;simp only [wq.1,seval,hP,u62,hw];refine .inl ⟨mq - 1,by omega,i + 1,z,[],by omega,by rw [hrp];congr 1;omega,g1,g2,by simp only [wq.1,seval,u0],by simp only [wq.1,seval,u2,r0],by simp only [wq.1,seval,u3,r1],by simp only [wq.1,seval,u4,r3],by simp only [wq.1,seval,u5,r11],by simp only [wq.1,seval,u40,r3],by simp only [wq.1,seval,u41],by simp only [wq.1,seval,u7,r3],by simp only [wq.1,seval,u61],rfl,by simp only [wq.1,ud],fun j hj => ?_,?_⟩
       ·have h2 : (f'.k j || mZ j) = true := hj;rcases Bool.or_eq_true_iff.1 h2 with h | h
        ·exact uk j h
        ·exact ui h
       ·rfl
      ·rw [hz] at hrp;dsimp only at hrp;rw [hrp] at hnext;have h4 : st 4 = .error (w,e) := by rw [hst] at hnext ⊢;exact zaF hnext
       rw [h4] at hln;rw [hln] at hpA;simp only [wq.1,aX,ud];simp only [XE.block,XE.seq];refine .inr ⟨fun h => (by cases h),hpan hpA (by simp only [wq.1,ud]) (fun j hj => ?_) (by simp only [wq.1,seval,u2,r0]) (by simp only [wq.1,seval,u3,r1]) rfl rfl⟩;have h2 : (f'.k j || mZ j) = true := hj;rcases Bool.or_eq_true_iff.1 h2 with h | h
       ·exact uk j h
       ·exact ui h
     ·have hiN : i = N1 := by have := of_decide_eq_false hlt;omega
      subst hiN;have hnext : st 1 = kX (iI s mo) i x := by rw [hst] at hsk ⊢;exact zaB hsk
      rw [Nat.sub_self] at hrp;rw [hrp] at hnext;have hw := ax (show 0 < maxLen by omega);simp only [wq.1];refine aN hmix _ _ _ _ ?_;simp only [wq.1,seval,hP,u41];exact .inl ⟨mm - 1,by omega,1,y,[],by omega,hnext,hfoy,hfy,by simp only [wq.1,seval,u0],by simp only [wq.1,seval,u2],by simp only [wq.1,seval,u3],by simp only [wq.1,seval,u4],by simp only [wq.1,seval,u5],by simp only [wq.1,seval,-Int.reduceNatCast,-Int.reduceNatCast',ak,Tryz.results18,u40],rfl,by simp only [wq.1,seval,-Int.reduceNatCast,-Int.reduceNatCast',ak,Tryz.results18,ud],fun j hj => uk j hj,rfl⟩
    ·show awp _ _ _ _ _ _ _;have hfl : FLn x N1 0 0 0 := hfl;refine ag (aN hmix _ _ _ _ ?_);simp only [wq.1,seval,-Int.reduceNatCast,-Int.reduceNatCast',ak,Tryz.results18,hP,u0,u2,u3,u4,u5,u40,u41,ud];refine ⟨by decide,?_⟩;refine ag (aN hmix _ _ _ _ ?_);simp only [wq.1,seval,-Int.reduceNatCast,-Int.reduceNatCast',ak,Tryz.results18,hP,u0,u2,u3,u4,u5,u40,u41,ud,ehc,w3,w4];rw [← ehc];refine ⟨by decide,by decide,by decide,by decide,by decide,by decide,by decide,?_⟩;refine az ?_;refine aF (fun mq f h' => ∃ i y X,mq + i = N2 ∧ kX (iJ s mo) N2 x = kX (iJ s mo) (N2 - i) y ∧ FOk y ∧ FLn y N1 i 0 0 ∧ f.t 0 = .str s ∧ f.t 2 = .lp 0 0 ∧ f.t 3 = .lp 1 0 ∧ f.t 4 = .lp 3 0 ∧ f.t 5 = .lp 11 0 ∧ f.t 40 = .agg [.fn (.func 54) [.lp 3 0] [],.fn (.func 55) [.lp 3 0] [],.fn (.func 56) [.lp 3 0] [],.fn (.func 57) [.lp 3 0] []] ∧ f.t 41 = vi (1 : Nat) ∧ f.t 7 = .fn (.func 55) [.lp 3 0] [] ∧ f.t 61 = vi N2 ∧ f.t 62 = vi i ∧ f.d = [] ∧ (∀ j,f.k j = true → 4 ≤ j) ∧ h' = hF bM bF s mo y (aQ y) [hc,hc] ++ X) N2 ⟨0,x,[],by simp,by simp,hfo,hfl,by simp only [wq.1,seval,u0],by simp only [wq.1,seval,u2],by simp only [wq.1,seval,u3],by simp only [wq.1,seval,u4],by simp only [wq.1,seval,u5],by simp only [wq.1,seval,u40],by simp only [wq.1,seval,u41],by simp only [wq.1,seval],by simp only [wq.1,seval,hN1,hN2,hN4],rfl,by simp only [wq.1,ud],fun j hj => uk j hj,by rw [List.append_nil]⟩ ?_;clear u0 u2 u3 u4 u5 u40 u41 ud uk;rintro mq f h' ⟨i,y,X,hmq,hrp,hfoy,hfy,t0,t2,t3,t4,t5,t40,t41,t7,t61,t62,hd,hk,rfl⟩;refine eU (by rw [hd];simp) ?_;rw [(hYd _ _).from_];obtain ⟨f',hf'⟩ : ∃ f',f' = f.drop (Abs.bC (hF bM bF s mo y (aQ y) [hc,hc]).length) := ⟨_,rfl⟩;have u0 : f'.t 0 = .str s := by rw [hf'];show (f.t 0).drop _ = _;rw [t0];rfl
     have u2 : f'.t 2 = .lp 0 0 := by rw [hf'];show (f.t 2).drop _ = _;rw [t2];rfl
     have u3 : f'.t 3 = .lp 1 0 := by rw [hf'];show (f.t 3).drop _ = _;rw [t3];rfl
     have u4 : f'.t 4 = .lp 3 0 := by rw [hf'];show (f.t 4).drop _ = _;rw [t4];rfl
     have u5 : f'.t 5 = .lp 11 0 := by rw [hf'];show (f.t 5).drop _ = _;rw [t5];rfl
     have u40 : f'.t 40 = .agg [.fn (.func 54) [.lp 3 0] [],.fn (.func 55) [.lp 3 0] [],.fn (.func 56) [.lp 3 0] [],.fn (.func 57) [.lp 3 0] []] := by rw [hf'];show (f.t 40).drop _ = _;rw [t40];rfl
     have u41 : f'.t 41 = vi (1 : Nat) := by rw [hf'];show (f.t 41).drop _ = _;rw [t41];rfl
     have u7 : f'.t 7 = .fn (.func 55) [.lp 3 0] [] := by rw [hf'];show (f.t 7).drop _ = _;rw [t7];rfl
     have u61 : f'.t 61 = vi N2 := by rw [hf'];show (f.t 61).drop _ = _;rw [t61];rfl
     have u62 : f'.t 62 = vi i := by rw [hf'];show (f.t 62).drop _ = _;rw [t62];rfl
     have ud : f'.d = [] := by rw [hf'];exact hd
     have uk : ∀ j,f'.k j = true → 4 ≤ j := fun j hj => by
      rw [hf'] at hj;have hj2 : (f.k j || Abs.bC 12 j) = true := hj;rcases Bool.or_eq_true_iff.1 hj2 with h | h
      ·exact hk j h
      ·have : 12 ≤ j := by simpa [Abs.bC] using h
       omega
     rw [← hf'];clear hf' hd hk t0 t2 t3 t4 t5 t40 t41 t7 t61 t62 X;refine ag (aN hmix _ _ _ _ ?_);simp only [wq.1,Nat.reduceLT,hP,u61,u62];refine ag (aN hmix _ _ _ _ ?_);simp only [wq.1,↓reduceIte];refine vcB.mk (fun hlt => ?_) (fun hlt => ?_)
     ·have hlt : i < N2 := by have := of_decide_eq_true hlt;omega
      have hw := ax (show i < maxLen by omega);obtain ⟨j,hj⟩ : ∃ j,N2 - i = j + 1 := ⟨N2 - i - 1,by omega⟩;rw [hj,show kX (iJ s mo) (j + 1) y = (match iJ s mo y with
       | .error e => .error e
       | .ok z => kX (iJ s mo) j z) from rfl] at hrp
      refine ag (az ?_);refine aN hmix _ _ _ _ ?_;simp only [wq.1,seval,hP,u7];have hnext : st 2 = kX (iJ s mo) N2 x := by rw [hst] at hsk ⊢;exact zaC hsk
      refine hT (Hm hYq hs (by have := hfy.l2;omega) (by have := hfy.l3;omega) (by have := hfy.l4;omega) (fun z hz X => ?_) (fun w e z hz W X => ?_))
      ·rw [hz] at hrp;dsimp only at hrp;obtain ⟨g1,g2⟩ := TG hz hfoy hfy;simp only [wq.1,bg,ud];refine aN hmix _ _ _ _ ?_;simp only [wq.1,seval,hP,u62,hw];refine .inl ⟨mq - 1,by omega,i + 1,z,X,by omega,by rw [hrp];congr 1;omega,g1,g2,by simp only [wq.1,seval,u0],by simp only [wq.1,seval,u2,r0],by simp only [wq.1,seval,u3,r1],by simp only [wq.1,seval,u4,r3],by simp only [wq.1,seval,u5,r11],by simp only [wq.1,seval,u40,r3],by simp only [wq.1,seval,u41],by simp only [wq.1,seval,u7,r3],by simp only [wq.1,seval,u61],rfl,by simp only [wq.1,ud],fun j hj => ?_,?_⟩
       ·have h2 : (f'.k j || mZ j) = true := hj;rcases Bool.or_eq_true_iff.1 h2 with h | h
        ·exact uk j h
        ·exact ui h
       ·rfl
      ·rw [hz] at hrp;dsimp only at hrp;rw [hrp] at hnext;have h4 : st 4 = .error (w,e) := by rw [hst] at hnext ⊢;exact XI hnext
       rw [h4] at hln;rw [hln] at hpA;simp only [wq.1,aX,ud];simp only [XE.block,XE.seq];refine .inr ⟨fun h => (by cases h),hpan hpA (by simp only [wq.1,ud]) (fun j hj => ?_) (by simp only [wq.1,seval,u2,r0]) (by simp only [wq.1,seval,u3,r1]) rfl rfl⟩;have h2 : (f'.k j || mZ j) = true := hj;rcases Bool.or_eq_true_iff.1 h2 with h | h
       ·exact uk j h
       ·exact ui h
     ·have hiN : i = N2 := by have := of_decide_eq_false hlt;omega
      subst hiN;have hnext : st 2 = kX (iJ s mo) i x := by rw [hst] at hsk ⊢;exact zaC hsk
      rw [Nat.sub_self] at hrp;rw [hrp] at hnext;have hw := ax (show 1 < maxLen by omega);simp only [wq.1];refine aN hmix _ _ _ _ ?_;simp only [wq.1,seval,hP,u41];exact .inl ⟨mm - 1,by omega,2,y,[],by omega,hnext,hfoy,hfy,by simp only [wq.1,seval,u0],by simp only [wq.1,seval,u2],by simp only [wq.1,seval,u3],by simp only [wq.1,seval,u4],by simp only [wq.1,seval,u5],by simp only [wq.1,seval,-Int.reduceNatCast,-Int.reduceNatCast',ak,Tryz.results18,u40],rfl,by simp only [wq.1,seval,-Int.reduceNatCast,-Int.reduceNatCast',ak,Tryz.results18,ud],fun j hj => uk j hj,rfl⟩
    ·show awp _ _ _ _ _ _ _;have hfl : FLn x N1 N2 0 0 := hfl;refine ag (aN hmix _ _ _ _ ?_);simp only [wq.1,seval,-Int.reduceNatCast,-Int.reduceNatCast',ak,Tryz.results18,hP,u0,u2,u3,u4,u5,u40,u41,ud];refine ⟨by decide,?_⟩;refine ag (aN hmix _ _ _ _ ?_);simp only [wq.1,seval,-Int.reduceNatCast,-Int.reduceNatCast',ak,Tryz.results18,hP,u0,u2,u3,u4,u5,u40,u41,ud,ehc,w3,w4];rw [← ehc];refine ⟨by decide,by decide,by decide,by decide,by decide,by decide,by decide,?_⟩;refine az ?_;refine aF (fun mq f h' => ∃ i y X,mq + i = N3 ∧ kX (eX s mo) N3 x = kX (eX s mo) (N3 - i) y ∧ FOk y ∧ FLn y N1 N2 i 0 ∧ f.t 0 = .str s ∧ f.t 2 = .lp 0 0 ∧ f.t 3 = .lp 1 0 ∧ f.t 4 = .lp 3 0 ∧ f.t 5 = .lp 11 0 ∧ f.t 40 = .agg [.fn (.func 54) [.lp 3 0] [],.fn (.func 55) [.lp 3 0] [],.fn (.func 56) [.lp 3 0] [],.fn (.func 57) [.lp 3 0] []] ∧ f.t 41 = vi (2 : Nat) ∧ f.t 7 = .fn (.func 56) [.lp 3 0] [] ∧ f.t 61 = vi N3 ∧ f.t 62 = vi i ∧ f.d = [] ∧ (∀ j,f.k j = true → 4 ≤ j) ∧ h' = hF bM bF s mo y (aQ y) [hc,hc] ++ X) N3 ⟨0,x,[],by simp,by simp,hfo,hfl,by simp only [wq.1,seval,u0],by simp only [wq.1,seval,u2],by simp only [wq.1,seval,u3],by simp only [wq.1,seval,u4],by simp only [wq.1,seval,u5],by simp only [wq.1,seval,u40],by simp only [wq.1,seval,u41],by simp only [wq.1,seval],by simp only [wq.1,seval,hN1,hN2,hN4],rfl,by simp only [wq.1,ud],fun j hj => uk j hj,by rw [List.append_nil]⟩ ?_;clear u0 u2 u3 u4 u5 u40 u41 ud uk;rintro mq f h' ⟨i,y,X,hmq,hrp,hfoy,hfy,t0,t2,t3,t4,t5,t40,t41,t7,t61,t62,hd,hk,rfl⟩;refine eU (by rw [hd];simp) ?_;rw [(hYd _ _).from_];obtain ⟨f',hf'⟩ : ∃ f',f' = f.drop (Abs.bC (hF bM bF s mo y (aQ y) [hc,hc]).length) := ⟨_,rfl⟩;have u0 : f'.t 0 = .str s := by rw [hf'];show (f.t 0).drop _ = _;rw [t0];rfl
     have u2 : f'.t 2 = .lp 0 0 := by rw [hf'];show (f.t 2).drop _ = _;rw [t2];rfl
     have u3 : f'.t 3 = .lp 1 0 := by rw [hf'];show (f.t 3).drop _ = _;rw [t3];rfl
     have u4 : f'.t 4 = .lp 3 0 := by rw [hf'];show (f.t 4).drop _ = _;rw [t4];rfl
     have u5 : f'.t 5 = .lp 11 0 := by rw [hf'];show (f.t 5).drop _ = _;rw [t5];rfl
     have u40 : f'.t 40 = .agg [.fn (.func 54) [.lp 3 0] [],.fn (.func 55) [.lp 3 0] [],.fn (.func 56) [.lp 3 0] [],.fn (.func 57) [.lp 3 0] []] := by rw [hf'];show (f.t 40).drop _ = _;rw [t40];rfl
     have u41 : f'.t 41 = vi (2 : Nat) := by rw [hf'];show (f.t 41).drop _ = _;rw [t41];rfl
     have u7 : f'.t 7 = .fn (.func 56) [.lp 3 0] [] := by rw [hf'];show (f.t 7).drop _ = _;rw [t7];rfl
     have u61 : f'.t 61 = vi N3 := by rw [hf'];show (f.t 61).drop _ = _;rw [t61];rfl
     have u62 : f'.t 62 = vi i := by rw [hf'];show (f.t 62).drop _ = _;rw [t62];rfl
     have ud : f'.d = [] := by rw [hf'];exact hd
     have uk : ∀ j,f'.k j = true → 4 ≤ j := fun j hj => by
      rw [hf'] at hj;have hj2 : (f.k j || Abs.bC 12 j) = true := hj;rcases Bool.or_eq_true_iff.1 hj2 with h | h
      ·exact hk j h
      ·have : 12 ≤ j := by simpa [Abs.bC] using h
       omega
     rw [← hf'];clear hf' hd hk t0 t2 t3 t4 t5 t40 t41 t7 t61 t62 X;refine ag (aN hmix _ _ _ _ ?_);simp only [wq.1,Nat.reduceLT,hP,u61,u62];refine ag (aN hmix _ _ _ _ ?_);simp only [wq.1,↓reduceIte];refine vcB.mk (fun hlt => ?_) (fun hlt => ?_)
     ·have hlt : i < N3 := by have := of_decide_eq_true hlt;omega
      have hw := ax (show i < maxLen by omega);obtain ⟨j,hj⟩ : ∃ j,N3 - i = j + 1 := ⟨N3 - i - 1,by omega⟩;rw [hj,show kX (eX s mo) (j + 1) y = (match eX s mo y with
       | .error e => .error e
       | .ok z => kX (eX s mo) j z) from rfl] at hrp
      refine ag (az ?_);refine aN hmix _ _ _ _ ?_;simp only [wq.1,seval,hP,u7];have hnext : st 3 = kX (eX s mo) N3 x := by rw [hst] at hsk ⊢;exact zaD hsk
      refine hT (Em (W := aQ y) hYq hs (by have := hfy.l5;omega) (fun z hz X => ?_) (fun w e z hz X => ?_))
      ·rw [hz] at hrp;dsimp only at hrp;obtain ⟨g1,g2⟩ := NC hz hfoy hfy;have hzD : aQ z = aQ y := by
        unfold eX at hz;cases hu : Cm s mo y with
        | error e => rw [hu] at hz;cases hz
        | ok v => obtain ⟨u,z'⟩ := v;rw [hu] at hz;dsimp only at hz;obtain ⟨⟨b',rfl⟩,_⟩ := mG hu;obtain rfl := kN hz;rfl
       rw [← hzD];simp only [wq.1,bg,ud];refine aN hmix _ _ _ _ ?_;simp only [wq.1,seval,hP,u62,hw];refine .inl ⟨mq - 1,by omega,i + 1,z,X,by omega,by rw [hrp];congr 1;omega,g1,g2,by simp only [wq.1,seval,u0],by simp only [wq.1,seval,u2,r0],by simp only [wq.1,seval,u3,r1],by simp only [wq.1,seval,u4,r3],by simp only [wq.1,seval,u5,r11],by simp only [wq.1,seval,u40,r3],by simp only [wq.1,seval,u41],by simp only [wq.1,seval,u7,r3],by simp only [wq.1,seval,u61],rfl,by simp only [wq.1,ud],fun j hj => ?_,?_⟩
       ·have h2 : (f'.k j || mZ j) = true := hj;rcases Bool.or_eq_true_iff.1 h2 with h | h
        ·exact uk j h
        ·exact ui h
       ·rfl
      ·rw [hz] at hrp;dsimp only at hrp;rw [hrp] at hnext;have h4 : st 4 = .error (w,e) := by rw [hst] at hnext ⊢;exact XH hnext
       rw [h4] at hln;rw [hln] at hpA;simp only [wq.1,aX,ud];simp only [XE.block,XE.seq];refine .inr ⟨fun h => (by cases h),hpan hpA (by simp only [wq.1,ud]) (fun j hj => ?_) (by simp only [wq.1,seval,u2,r0]) (by simp only [wq.1,seval,u3,r1]) rfl rfl⟩;have h2 : (f'.k j || mZ j) = true := hj;rcases Bool.or_eq_true_iff.1 h2 with h | h
       ·exact uk j h
       ·exact ui h
     ·have hiN : i = N3 := by have := of_decide_eq_false hlt;omega
      subst hiN;have hnext : st 3 = kX (eX s mo) i x := by rw [hst] at hsk ⊢;exact zaD hsk
      rw [Nat.sub_self] at hrp;rw [hrp] at hnext;have hw := ax (show 2 < maxLen by omega);simp only [wq.1];refine aN hmix _ _ _ _ ?_;simp only [wq.1,seval,hP,u41];exact .inl ⟨mm - 1,by omega,3,y,[],by omega,hnext,hfoy,hfy,by simp only [wq.1,seval,u0],by simp only [wq.1,seval,u2],by simp only [wq.1,seval,u3],by simp only [wq.1,seval,u4],by simp only [wq.1,seval,u5],by simp only [wq.1,seval,-Int.reduceNatCast,-Int.reduceNatCast',ak,Tryz.results18,u40],rfl,by simp only [wq.1,seval,-Int.reduceNatCast,-Int.reduceNatCast',ak,Tryz.results18,ud],fun j hj => uk j hj,rfl⟩
    ·show awp _ _ _ _ _ _ _;have hfl : FLn x N1 N2 N3 0 := hfl;refine ag (aN hmix _ _ _ _ ?_);simp only [wq.1,seval,-Int.reduceNatCast,-Int.reduceNatCast',ak,Tryz.results18,hP,u0,u2,u3,u4,u5,u40,u41,ud];refine ⟨by decide,?_⟩;refine ag (aN hmix _ _ _ _ ?_);simp only [wq.1,seval,-Int.reduceNatCast,-Int.reduceNatCast',ak,Tryz.results18,hP,u0,u2,u3,u4,u5,u40,u41,ud,ehc,w3,w4];rw [← ehc];refine ⟨by decide,by decide,by decide,by decide,by decide,by decide,by decide,?_⟩;refine az ?_;refine aF (fun mq f h' => ∃ i y X,mq + i = N4 ∧ kX (mY s mo) N4 x = kX (mY s mo) (N4 - i) y ∧ FOk y ∧ FLn y N1 N2 N3 i ∧ f.t 0 = .str s ∧ f.t 2 = .lp 0 0 ∧ f.t 3 = .lp 1 0 ∧ f.t 4 = .lp 3 0 ∧ f.t 5 = .lp 11 0 ∧ f.t 40 = .agg [.fn (.func 54) [.lp 3 0] [],.fn (.func 55) [.lp 3 0] [],.fn (.func 56) [.lp 3 0] [],.fn (.func 57) [.lp 3 0] []] ∧ f.t 41 = vi (3 : Nat) ∧ f.t 7 = .fn (.func 57) [.lp 3 0] [] ∧ f.t 61 = vi N4 ∧ f.t 62 = vi i ∧ f.d = [] ∧ (∀ j,f.k j = true → 4 ≤ j) ∧ h' = hF bM bF s mo y (aQ y) [hc,hc] ++ X) N4 ⟨0,x,[],by simp,by simp,hfo,hfl,by simp only [wq.1,seval,u0],by simp only [wq.1,seval,u2],by simp only [wq.1,seval,u3],by simp only [wq.1,seval,u4],by simp only [wq.1,seval,u5],by simp only [wq.1,seval,u40],by simp only [wq.1,seval,u41],by simp only [wq.1,seval],by simp only [wq.1,seval,hN1,hN2,hN4],rfl,by simp only [wq.1,ud],fun j hj => uk j hj,by rw [List.append_nil]⟩ ?_;clear u0 u2 u3 u4 u5 u40 u41 ud uk;rintro mq f h' ⟨i,y,X,hmq,hrp,hfoy,hfy,t0,t2,t3,t4,t5,t40,t41,t7,t61,t62,hd,hk,rfl⟩;refine eU (by rw [hd];simp) ?_;rw [(hYd _ _).from_];obtain ⟨f',hf'⟩ : ∃ f',f' = f.drop (Abs.bC (hF bM bF s mo y (aQ y) [hc,hc]).length) := ⟨_,rfl⟩;have u0 : f'.t 0 = .str s := by rw [hf'];show (f.t 0).drop _ = _;rw [t0];rfl
     have u2 : f'.t 2 = .lp 0 0 := by rw [hf'];show (f.t 2).drop _ = _;rw [t2];rfl
     have u3 : f'.t 3 = .lp 1 0 := by rw [hf'];show (f.t 3).drop _ = _;rw [t3];rfl
     have u4 : f'.t 4 = .lp 3 0 := by rw [hf'];show (f.t 4).drop _ = _;rw [t4];rfl
     have u5 : f'.t 5 = .lp 11 0 := by rw [hf'];show (f.t 5).drop _ = _;rw [t5];rfl
     have u40 : f'.t 40 = .agg [.fn (.func 54) [.lp 3 0] [],.fn (.func 55) [.lp 3 0] [],.fn (.func 56) [.lp 3 0] [],.fn (.func 57) [.lp 3 0] []] := by rw [hf'];show (f.t 40).drop _ = _;rw [t40];rfl
     have u41 : f'.t 41 = vi (3 : Nat) := by rw [hf'];show (f.t 41).drop _ = _;rw [t41];rfl
     have u7 : f'.t 7 = .fn (.func 57) [.lp 3 0] [] := by rw [hf'];show (f.t 7).drop _ = _;rw [t7];rfl
     have u61 : f'.t 61 = vi N4 := by rw [hf'];show (f.t 61).drop _ = _;rw [t61];rfl
     have u62 : f'.t 62 = vi i := by rw [hf'];show (f.t 62).drop _ = _;rw [t62];rfl
     have ud : f'.d = [] := by rw [hf'];exact hd
     have uk : ∀ j,f'.k j = true → 4 ≤ j := fun j hj => by
      rw [hf'] at hj;have hj2 : (f.k j || Abs.bC 12 j) = true := hj;rcases Bool.or_eq_true_iff.1 hj2 with h | h
      ·exact hk j h
      ·have : 12 ≤ j := by simpa [Abs.bC] using h
       omega
     rw [← hf'];clear hf' hd hk t0 t2 t3 t4 t5 t40 t41 t7 t61 t62 X;refine ag (aN hmix _ _ _ _ ?_);simp only [wq.1,Nat.reduceLT,hP,u61,u62];refine ag (aN hmix _ _ _ _ ?_);simp only [wq.1,↓reduceIte];refine vcB.mk (fun hlt => ?_) (fun hlt => ?_)
     ·have hlt : i < N4 := by have := of_decide_eq_true hlt;omega
      have hw := ax (show i < maxLen by omega);obtain ⟨j,hj⟩ : ∃ j,N4 - i = j + 1 := ⟨N4 - i - 1,by omega⟩;rw [hj,show kX (mY s mo) (j + 1) y = (match mY s mo y with
       | .error e => .error e
       | .ok z => kX (mY s mo) j z) from rfl] at hrp
      refine ag (az ?_);refine aN hmix _ _ _ _ ?_;simp only [wq.1,seval,hP,u7];have hnext : st 4 = kX (mY s mo) N4 x := by rw [hst] at hsk ⊢;exact zaE hsk
      refine hT (Nv hYq hs (by have := hfy.l6;omega) (fun z hz X => ?_) (fun w e z hz W X => ?_))
      ·rw [hz] at hrp;dsimp only at hrp;obtain ⟨g1,g2⟩ := Wn hz hfoy hfy;simp only [wq.1,bg,ud];refine aN hmix _ _ _ _ ?_;simp only [wq.1,seval,hP,u62,hw];refine .inl ⟨mq - 1,by omega,i + 1,z,X,by omega,by rw [hrp];congr 1;omega,g1,g2,by simp only [wq.1,seval,u0],by simp only [wq.1,seval,u2,r0],by simp only [wq.1,seval,u3,r1],by simp only [wq.1,seval,u4,r3],by simp only [wq.1,seval,u5,r11],by simp only [wq.1,seval,u40,r3],by simp only [wq.1,seval,u41],by simp only [wq.1,seval,u7,r3],by simp only [wq.1,seval,u61],rfl,by simp only [wq.1,ud],fun j hj => ?_,?_⟩
       ·have h2 : (f'.k j || mZ j) = true := hj;rcases Bool.or_eq_true_iff.1 h2 with h | h
        ·exact uk j h
        ·exact ui h
       ·rfl
      ·rw [hz] at hrp;dsimp only at hrp;rw [hrp] at hnext;have h4 : st 4 = .error (w,e) := by rw [hst] at hnext ⊢;exact hnext
       rw [h4] at hln;rw [hln] at hpA;simp only [wq.1,aX,ud];simp only [XE.block,XE.seq];refine .inr ⟨fun h => (by cases h),hpan hpA (by simp only [wq.1,ud]) (fun j hj => ?_) (by simp only [wq.1,seval,u2,r0]) (by simp only [wq.1,seval,u3,r1]) rfl rfl⟩;have h2 : (f'.k j || mZ j) = true := hj;rcases Bool.or_eq_true_iff.1 h2 with h | h
       ·exact uk j h
       ·exact ui h
     ·have hiN : i = N4 := by have := of_decide_eq_false hlt;omega
      subst hiN;have hnext : st 4 = kX (mY s mo) i x := by rw [hst] at hsk ⊢;exact zaE hsk
      rw [Nat.sub_self] at hrp;rw [hrp] at hnext;have hw := ax (show 3 < maxLen by omega);simp only [wq.1];refine aN hmix _ _ _ _ ?_;simp only [wq.1,seval,hP,u41];exact .inl ⟨mm - 1,by omega,4,y,[],by omega,hnext,hfoy,hfy,by simp only [wq.1,seval,u0],by simp only [wq.1,seval,u2],by simp only [wq.1,seval,u3],by simp only [wq.1,seval,u4],by simp only [wq.1,seval,u5],by simp only [wq.1,seval,u40],rfl,by simp only [wq.1,ud],fun j hj => uk j hj,rfl⟩
    ·omega
   ·have hk4 : k = 4 := by have := of_decide_eq_false hlt;omega
    subst hk4;simp only [wq.1,seval,u0,u2,u3,u4,u5,ud];exact .inl ⟨x,[],hsk,hfo,hfl,uk,rfl⟩
 ·simp only [wq.1,aX];simp only [XE.seq];have hpA : jO s = .error (w,e) := by unfold jO;rw [hh]
  exact hpan hpA rfl (fun j hj => (by cases hj)) rfl rfl rfl rfl
def Ht (s magic : S) : V := match qg s magic with
 | .error (w,e) => .tup [.agg [vi 0,vi 0,vi 0,vi 0,vi 0,vi 0,vi 0,vi 0,vi 0],vi 0,bD s w e]
 | .ok (l,b) => .tup [.agg (l.map vi),vi b,.agg [vi 0,vi 0,vi 0]]
abbrev b9 : O := .cells [vi 0,vi 0,vi 0,vi 0,vi 0,vi 0,vi 0,vi 0,vi 0]
def XJ : Plan := .take 1 <| .take 2 <| .take 3 <| .alt 0 (.alt 4 (.alt 5 (.one 6 <| .take 7 <| .one 8 <| .fin) (.one 6 (.take 7 <| .one 5 <| .one 8 <| .fin))) (.alt 5 (.alt 4 (.one 6 <| .take 7 <| .one 8 <| .fin) (.one 6 (.one 4 <| .take 7 <| .one 8 <| .fin))) (.one 6 (.alt 4 (.take 7 <| .one 5 <| .one 8 <| .fin) (.one 5 (.one 4 <| .take 7 <| .one 8 <| .fin)))))) (.alt 4 (.alt 0 (.alt 5 (.one 6 <| .take 7 <| .one 8 <| .fin) (.one 6 (.take 7 <| .one 5 <| .one 8 <| .fin))) (.one 5 (.one 0 <| .one 6 <| .take 7 <| .one 8 <| .fin))) (.one 5 (.alt 0 (.alt 4 (.one 6 <| .take 7 <| .one 8 <| .fin) (.one 6 (.one 4 <| .take 7 <| .one 8 <| .fin))) (.one 4 (.one 0 <| .one 6 <| .take 7 <| .one 8 <| .fin)))))
theorem TV (s magic : S) (hs : s.length ≤ 100000) : Ev TE 20 [.str s,.str magic] (Ht s magic) := by
 have hM : maxLen = 9223372036854775807 := rfl;refine gU ?_;refine gG rfl Tryz.func20 rfl (by simp [nts]) fun ok pl0 w0 => ?_;simp only [nts];refine oz (Q := fun _ _ _ => False) ?_ (fun _ _ _ h => by obtain ⟨_,_,_,_,_,_,h⟩ := h;exact h.elim);refine vm ?_;simp only [wq.1,Nat.reduceLT];obtain ⟨F0,hF0⟩ : ∃ F0 : Fr,F0 = (((Fr.init [V.str s,V.str magic]).put (some 4) (.lp 0 0)).put (some 5) (vi 0)).put (some 6) (.lp 1 0) := ⟨_,rfl⟩;have hsc : ∀ (x : Operand),x ∈ #[Operand.tmp 9,Operand.tmp 6] → (Fr.ev TE (((((Fr.init [V.str s,V.str magic]).put (some 4) (.lp 0 0)).put (some 5) (vi 0)).put (some 6) (.lp 1 0)).put (some 9) (.str s)) x).sc := fun x hx => by
  simp only [List.mem_toArray,List.mem_cons,List.not_mem_nil,or_false] at hx;rcases hx with rfl | rfl
  ·simp only [wq.1,↓reduceIte]
  ·simp only [wq.1,seval]
 refine qJ (fn := Tryz.f20) (q := 52) (avs := [.str s,.lp 1 0]) (F1 := ((((Fr.init [V.str s,V.str magic]).put (some 4) (.lp 0 0)).put (some 5) (vi 0)).put (some 6) (.lp 1 0)).put (some 9) (.str s)) rfl ⟨rfl,by simp only [wq.1,Nat.reduceLT],by simp only [wq.1,seval],rfl,rfl,rfl,⟨.func 52,#[.tmp 9,.tmp 6],_,[],rfl,by simp only [wq.1],by simp only [wq.1],hsc,by simp only [wq.1,seval]⟩,by simp only [wq.1]⟩ rfl rfl fun d => ?_;obtain ⟨ee,hee⟩ : ∃ ee : E,ee = { TE with tl := [d] } := ⟨_,rfl⟩;have hP : ee.P = P := by rw [hee];rfl
 have hmix : ee.P.follows .mixedOrders = true := by rw [hP];exact mixed
 have hT : ∀ {g : FuncId} {args : List V} {h : H} {R : AEnd → H → (Nat → Bool) → Prop},ah TE g args h R → ah ee g args h R := fun hc => by rw [hee];exact hc.tl _
 rw [← hee];obtain ⟨QP,eQP⟩ : ∃ QP : XE → Fr → H → Prop,QP = LV TE Tryz.f20 (fun ae h x => match ae with | AEnd.ret v => aC TE h v (Ht s magic) | AEnd.pan v => False) [(52,[V.str s,V.lp 1 0])] := ⟨_,rfl⟩;refine bG (Q := QP) (fun xe f' h' hq => by rw [eQP] at hq;exact hq) ?_;have hkd : ∀ {f' : Fr},(∀ j,f'.k j = true → 4 ≤ j) → ∀ x ∈ [((52 : FuncId),[V.str s,V.lp 1 0])],V.drops f'.k x.2 = x.2 := fun {f'} h x hx => by
  have z : f'.k 1 = false := by
   cases hj : f'.k 1 with
   | false => rfl
   | true => exact absurd (h 1 hj) (by decide)
  simp only [List.mem_singleton] at hx;subst hx;simp [V.drops,V.drop,z]
 have hpan : ∀ {w : Nat} {e : Int} {f' : Fr} {h : H},qg s magic = .error (w,e) → f'.d = [] → (∀ j,f'.k j = true → 4 ≤ j) → f'.t 4 = .lp 0 0 → f'.t 5 = vi 0 → f'.t 6 = .lp 1 0 → h[0]? = some b9 → h[1]? = some bF → QP (.pan (gV w e)) f' h := by
  intro w e f' h hp hd hk t4 t5 t6 g0 g1;have l0 : 0 < h.length := (List.getElem?_eq_some_iff.1 g0).1;have l1 : 1 < h.length := (List.getElem?_eq_some_iff.1 g1).1;have hv : Ht s magic = .tup [.agg [vi 0,vi 0,vi 0,vi 0,vi 0,vi 0,vi 0,vi 0,vi 0],vi 0,bD s w e] := by unfold Ht;rw [hp]
  have hf : ∃ x y z,bD s w e = .agg [vi x,vi y,vi z] := by unfold bD;split <;> exact ⟨_,_,_,rfl⟩
  obtain ⟨e1,e2,e3,hf⟩ := hf;rw [eQP,hv];refine ⟨hd,hkd hk,?_⟩;refine qj w e (by omega) g1 fun X => ⟨fun y hy => (by cases hy),?_⟩;have r0 : (h.set 1 (.cells (bD s w e).vc) ++ [X])[0]? = some b9 := by rw [List.getElem?_append_left (by rw [List.length_set];exact l0),List.getElem?_set_ne (by decide)];exact g0
  have r1 : (h.set 1 (.cells (bD s w e).vc) ++ [X])[1]? = some (.cells [vi e1,vi e2,vi e3]) := by rw [List.getElem?_append_left (by rw [List.length_set];exact l1),List.getElem?_set_self l1,hf];rfl
  obtain ⟨h3,eh3⟩ : ∃ h3,h3 = h.set 1 (.cells (bD s w e).vc) ++ [X] := ⟨_,rfl⟩;rw [← eh3] at r0 r1 ⊢;unfold LVr;simp only [Tryz.results20,nts];simp only [wq.1,seval,hd,t4,t5,t6,r0,r1];rw [hf];exact aC.dat rfl
 have hret : ∀ {l : Cl} {b : Nat} {f' : Fr} {h : H},qg s magic = .ok (l,b) → f'.d = [] → (∀ j,f'.k j = true → 4 ≤ j) → f'.t 4 = .lp 0 0 → f'.t 5 = vi b → f'.t 6 = .lp 1 0 → h[0]? = some (.cells (l.map vi)) → h[1]? = some bF → QP .ret f' h := by
  intro l b f' h hv hd hk t4 t5 t6 g0 g1;obtain ⟨a0,a1,a2,a3,a4,a5,a6,rfl,_⟩ := uI hv;rw [eQP,show Ht s magic = .tup [.agg [vi a0,vi a1,vi a2,vi a3,vi a4,vi a5,vi a6,vi 0,vi 0],vi b,.agg [vi 0,vi 0,vi 0]] by unfold Ht;rw [hv];rfl];refine ⟨hd,hkd hk,?_⟩;refine mJ fun X => ⟨fun y hy => (by cases hy),?_⟩;have r0 : (h ++ [X])[0]? = some (.cells [vi a0,vi a1,vi a2,vi a3,vi a4,vi a5,vi a6,vi 0,vi 0]) := by rw [List.getElem?_append_left (List.getElem?_eq_some_iff.1 g0).1];exact g0
  have r1 : (h ++ [X])[1]? = some bF := by rw [List.getElem?_append_left (List.getElem?_eq_some_iff.1 g1).1];exact g1
  unfold LVr;simp only [Tryz.results20,nts];simp only [wq.1,seval,hd,t4,t5,t6,r0,r1];exact aC.dat rfl
 refine ag (aN hmix _ _ _ _ ?_);simp only [wq.1,seval,hP];refine ag (aN hmix _ _ _ _ ?_);simp only [wq.1,seval,hP];refine hT (uh (k := 2) (a0 := 0) (T := []) rfl hs (fun l b hh => ?_) (fun w e hh b X => ?_))
 ·obtain ⟨a0,a1,a2,a3,a4,a5,a6,rfl,_⟩ := uI hh;rw [show hR 2 s b [] [b9,bF,.cells [.str s,vi 0]] [.cells ([a0,a1,a2,a3,a4,a5,a6,0,0].map vi)] = [b9,bF,.cells [.str s,vi b],.cells [vi a0,vi a1,vi a2,vi a3,vi a4,vi a5,vi a6,vi 0,vi 0]] from rfl];simp only [wq.1,seval,hP];refine ag ?_;refine bu hmix XJ (fun f h => f.d = [] ∧ (∀ j,f.k j = true → 4 ≤ j) ∧ f.t 4 = .lp 0 0 ∧ f.t 5 = vi b ∧ f.t 6 = .lp 1 0 ∧ h[0]? = some (.cells [vi a0,vi a1,vi a2,vi a3,vi a4,vi a5,vi a6,vi 0,vi 0]) ∧ h[1]? = some bF) (by rw [hP];decide +kernel) (by decide +kernel) ?_ ?_
  ·simp only [wq.1,seval,XJ,hP]
  ·rintro f h ⟨hd,hk,t4,t5,t6,g0,g1⟩;show awp _ _ _ _ _ _ _;refine aN hmix _ _ _ _ ?_;simp only [wq.1];exact hret hh hd hk t4 t5 t6 g0 g1
 ·simp only [wq.1,aX];simp only [XE.seq];exact hpan hh rfl (fun j hj => (by cases hj)) rfl rfl rfl rfl rfl
theorem lI : BT 59 := ⟨by kernel_rfl,fun k => by kernel_rfl⟩
abbrev wH (id bid : Nat) (out : S) (h : H) : H := (h.set bid (.typed 5 (out.map vb))).set id (.typed 59 [.lp id 0,.ls bid 1 0 out.length out.length])
structure WOk (id bid : Nat) (h : H) : Prop where
 ne : id ≠ bid
 l1 : id < h.length
 l2 : bid < h.length
 cl : ∀ j o,h[j]? = some o → j ≠ id → j ≠ bid → o.drop (· == bid) = o
theorem WOk.at1 {id bid : Nat} {h : H} (w : WOk id bid h) (out : S) : (wH id bid out h)[id]? = some (.typed 59 [.lp id 0,.ls bid 1 0 out.length out.length]) := by have := w.l1;rw [wH,List.getElem?_set_self (by simpa using this)]
theorem WOk.at2 {id bid : Nat} {h : H} (w : WOk id bid h) (out : S) : (wH id bid out h)[bid]? = some (.typed 5 (out.map vb)) := by have := w.l2;rw [wH,List.getElem?_set_ne w.ne,List.getElem?_set_self this]
theorem WOk.step {id bid : Nat} {h : H} (w : WOk id bid h) (out out2 : S) : (((wH id bid out h).map (O.drop (· == bid))).set bid (.typed 5 (out2.map vb))).set id (.typed 59 [.lp id 0,.ls bid 1 0 out2.length out2.length]) = wH id bid out2 h := by
 refine List.ext_getElem? fun j => ?_;have l1 := w.l1;have l2 := w.l2;by_cases h1 : j = id
 ·subst h1;rw [w.at1,List.getElem?_set_self (by simpa using l1)]
 ·by_cases h2 : j = bid
  ·subst h2;rw [w.at2,List.getElem?_set_ne w.ne,List.getElem?_set_self (by simpa using l2)]
  ·rw [wH,wH,List.getElem?_set_ne (Ne.symm h1),List.getElem?_set_ne (Ne.symm h2),List.getElem?_set_ne (Ne.symm h1),List.getElem?_set_ne (Ne.symm h2),List.getElem?_map,List.getElem?_set_ne (Ne.symm h1),List.getElem?_set_ne (Ne.symm h2)];cases ho : h[j]? with
   | none => rfl
   | some o => rw [Option.map_some,w.cl j o ho h1 h2]
def Zb (i : Nat) (n : Int) : S := (if i = 0 then [] else [32]) ++ Lib.itoa n
def lnP (l : Cl) (i : Nat) : S := (List.range i).flatMap fun j => Zb j (l.getD j 0)
theorem KX {l : Cl} {i : Nat} (h : i < l.length) : lnP l (i + 1) = lnP l i ++ Zb i l[i] := by unfold lnP;rw [List.range_succ,List.flatMap_append,List.flatMap_singleton,aG h]
theorem zaG : ∀ l : Cl,lnG l = ((List.range l.length).flatMap fun j => 32 :: Lib.itoa (l.getD j 0)) ++ [10]
 | [] => rfl
 | n :: l => by unfold lnG;rw [zaG l,List.length_cons,List.range_succ_eq_map,List.flatMap_cons,List.flatMap_map];simp
theorem zaH (l : Cl) : lnT l = lnP l l.length ++ [10] := by
 cases l with
 | nil => rfl
 | cons n l => show Lib.itoa n ++ lnG l = _;unfold lnP;rw [zaG l,List.length_cons,List.range_succ_eq_map,List.flatMap_cons,List.flatMap_map];simp [Zb]
theorem Hu {l : Cl} (hl : ∀ n ∈ l,0 ≤ n ∧ n ≤ 2147483647) : ∀ i,i ≤ l.length → (lnP l i).length ≤ 11 * i
 | 0,_ => by simp [lnP]
 | i + 1,h => by
  have h1 := Hu hl i (by omega);have h2 : i < l.length := by omega
  have h3 := hl _ (List.getElem_mem h2);have h4 := oJ l[i] h3.1 h3.2;rw [KX h2,List.length_append];have : (Zb i l[i]).length ≤ 11 := by unfold Zb;split <;> simp <;> omega
  omega
def XK : Plan := .take 0 <| .take 1 <| .take 2 <| .take 3 <| .one 4 <| .one 5 <| .fin
theorem NG {id bid : Nat} {out : S} {h : H} {l : Cl} {ex : Bool} {R : AEnd → H → (Nat → Bool) → Prop} (w : WOk id bid h) (hl : ∀ n ∈ l,0 ≤ n ∧ n ≤ 2147483647) (hlen : out.length + 11 * l.length + 1 ≤ 20000000000000)
 (hr : R (.ret (.tup [])) (wH id bid (out ++ lnT l) h) (· == bid)) : ah TE 28 [.lp id 0,.is ex 1 (l.map vi)] (wH id bid out h) R := by
 have hM : maxLen = 9223372036854775807 := rfl;have hidb : (id == bid) = false := by simpa using w.ne
 have hk' : ∀ {k : Nat → Bool},(∀ j,k j = true → (j == bid) = true) → ∀ j,(k j || j == bid) = true → (j == bid) = true := fun {k} hk j hj => by
  cases hkj : k j with
  | true => exact hk j hkj
  | false => rw [hkj] at hj;exact hj
 refine ah.kp (· == bid) ?_;refine au Tryz.func28 rfl (by simp [nts]) ?_;refine ag ?_;refine ag ?_;refine vm ?_;simp only [wq.1,seval,Tryz.results28];refine az ?_;refine aF (fun m f h' => ∃ i,m + i = l.length ∧ f.t 0 = .lp id 0 ∧ f.t 6 = .is ex 1 (l.map vi) ∧ f.t 7 = vi l.length ∧ f.t 8 = vi i ∧ f.d = [] ∧ (∀ j,f.k j = true → (j == bid) = true) ∧ h' = wH id bid (out ++ lnP l i) h) l.length ⟨0,by simp,by simp only [wq.1,seval],by simp only [wq.1,seval],rfl,rfl,rfl,fun j hj => (by cases hj),by simp [lnP]⟩ ?_;rintro m f h' ⟨i,hm,h0,h6,h7,h8,hd,hk,rfl⟩;have a1 := w.at1 (out ++ lnP l i);have a2 := w.at2 (out ++ lnP l i);have hil := Hu hl i (by omega);refine ag (vm ?_);simp only [wq.1,Nat.reduceLT,h7,h8];refine ag (vm ?_);simp only [wq.1,↓reduceIte];refine vcB.mk (fun hlt => ?_) (fun hlt => ?_)
 ·simp only [decide_eq_true_eq,Int.ofNat_lt] at hlt;have hgi : (l.map vi).getD i .any = vi l[i] := xU hlt _;have hb := hl _ (List.getElem_mem hlt);have hit := oJ l[i] hb.1 hb.2;have hw := ax (show i < maxLen by omega);refine ag (az ?_);refine ag (vm ?_);simp only [wq.1,seval,h6,h8,hgi];obtain ⟨cur,hcur⟩ : ∃ cur,cur = out ++ lnP l i ++ (if i = 0 then [] else [32]) := ⟨_,rfl⟩;have hcl : cur.length ≤ out.length + 11 * i + 1 := by rw [hcur];simp only [List.length_append];split <;> simp <;> omega
  have hnx : cur ++ Lib.itoa l[i] = out ++ lnP l (i + 1) := by rw [hcur,KX hlt,Zb];simp
  refine ⟨⟨by omega,by omega⟩,?_⟩;refine ag (bG (Q := fun xe f h' => xe = .normal ∧ f.t 0 = .lp id 0 ∧ f.t 5 = vi l[i] ∧ f.t 6 = .is ex 1 (l.map vi) ∧ f.t 7 = vi l.length ∧ f.t 8 = vi i ∧ f.d = [] ∧ (∀ j,f.k j = true → (j == bid) = true) ∧ h' = wH id bid cur h) ?_ ?_)
  ·rintro xe f h' ⟨rfl,h0,h5,h6,h7,h8,hd,hk,rfl⟩;have b1 := w.at1 cur;have b2 := w.at2 cur;show awp _ _ _ _ _ _ _;refine bu mixed XK (fun f' h' => f'.t 0 = .lp id 0 ∧ f'.t 6 = .is ex 1 (l.map vi) ∧ f'.t 7 = vi l.length ∧ f'.t 8 = vi i ∧ f'.d = [] ∧ (∀ j,f'.k j = true → (j == bid) = true) ∧ h' = wH id bid (out ++ lnP l (i + 1)) h) (by decide +kernel) (by decide +kernel) ?_ ?_
   ·simp only [wq.1,seval,XK,h0,h5];refine ah.ev (vX l[i] hb.1 hb.2) rfl ?_;simp only [wq.1,seval];refine uB lI cur (Lib.itoa l[i]) (.inr rfl) w.ne b1 b2 (by omega) ?_;rw [w.step,hnx];simp only [wq.1,seval,bg,h0,h6,h7,h8,hd,hidb];exact hk' hk
   ·rintro f h' ⟨h0,h6,h7,h8,hd,hk,rfl⟩;simp only [wq.1];refine vm ?_;simp only [wq.1,seval,h8,hw];exact .inl ⟨m - 1,by omega,i + 1,by omega,by simp only [wq.1,seval,h0],by simp only [wq.1,seval,h6],by simp only [wq.1,seval,h7],rfl,hd,hk,rfl⟩
  ·refine ag (vm ?_);simp only [wq.1,seval];by_cases hi : i = 0
   ·subst hi;rw [if_pos rfl,List.append_nil] at hcur;rw [hcur];refine vm ?_;simp only [wq.1,seval,h0,h6,h7,h8,hd,show decide ((0 : Int) < ((0 : Nat) : Int)) = false from rfl];exact hk
   ·have hp : decide ((0 : Int) < (i : Int)) = true := by simp;omega
    rw [if_neg hi] at hcur;refine vm ?_;simp only [wq.1,seval,h0,hp];refine IB lI (out ++ lnP l i) 32 (.inr rfl) w.ne a1 a2 (by rw [List.length_append];omega) ?_;rw [w.step,← hcur];simp only [wq.1,seval,bg,h0,h6,h7,h8,hd,hidb];exact hk' hk
 ·simp only [decide_eq_false_iff_not,Int.ofNat_lt] at hlt;have hi : i = l.length := by omega
  subst hi;refine vm ?_;simp only [wq.1,seval,h0];refine IB lI (out ++ lnP l l.length) 10 (.inr rfl) w.ne a1 a2 (by rw [List.length_append];omega) ?_;rw [w.step,List.append_assoc,← zaH];simp only [wq.1,bg,hd];exact ⟨hk' hk,hr⟩
end Go.Proofs.YtfcpapokknfeeaaGreatDoor
